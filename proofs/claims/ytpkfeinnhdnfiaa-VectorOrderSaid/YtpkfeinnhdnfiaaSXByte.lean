/- SX, part 15b: truths on one byte, by all its values. -/
import Derived.Test.YtpkfeinnhdnfiaaSXArgs
namespace Go.SX
open Go

mutual
/-- a number, where the byte a is n; none: something else is in it -/
def byT (a : T) (n : Int) : T → Option Int
  | .lit k => some k
  | .wrap k t => bif T.beq (.wrap k t) a then some n else (match byT a n t with | some i => some (k.wrap i) | none => none)
  | .bin o x y => (match byT a n x, byT a n y with | some i, some j => some (o.ev i j) | _, _ => none)
  | .ite c x y => (match byB a n c with | some true => byT a n x | some false => byT a n y | none => none)
  | _ => none
def byB (a : T) (n : Int) : B → Option Bool
  | .lit b => some b
  | .eqI x y => (match byT a n x, byT a n y with | some i, some j => some (ibeq i j) | _, _ => none)
  | .ltI x y => (match byT a n x, byT a n y with | some i, some j => some (ilt i j) | _, _ => none)
  | .eqB x y => (match byB a n x, byB a n y with | some i, some j => some (i == j) | _, _ => none)
  | .not x => (match byB a n x with | some i => some (!i) | none => none)
  | .and x y => (match byB a n x with | some false => some false | some true => byB a n y | none => none)
  | .ite c x y => (match byB a n c with | some true => byB a n x | some false => byB a n y | none => none)
  | _ => none
end
mutual
theorem byT_ok {ρ : Env} {a : T} {n : Int} (ha : a.ev ρ = n) : ∀ {t : T} {v : Int}, byT a n t = some v → t.ev ρ = v
  | .lit k, v, h => by cases h; rfl
  | .var _, v, h => by cases h
  | .cell _ _ _, v, h => by cases h
  | .wrap k t, v, h => by
    simp only [byT] at h
    cases hb : T.beq (.wrap k t) a
    · rw [hb] at h
      simp only [cond_false] at h
      split at h
      · rename_i i hi; cases h; simp only [T.ev]; rw [byT_ok ha hi]
      · cases h
    · rw [hb] at h; cases h
      rw [T.beq_eq hb]; exact ha
  | .bin o x y, v, h => by
    simp only [byT] at h
    split at h
    · rename_i i j hi hj; cases h; simp only [T.ev]; rw [byT_ok ha hi, byT_ok ha hj]
    · cases h
  | .ite c x y, v, h => by
    simp only [byT] at h
    split at h
    · rename_i hc; simp only [T.ev]; rw [byB_ok ha hc]; exact byT_ok ha h
    · rename_i hc; simp only [T.ev]; rw [byB_ok ha hc]; exact byT_ok ha h
    · cases h
theorem byB_ok {ρ : Env} {a : T} {n : Int} (ha : a.ev ρ = n) : ∀ {b : B} {v : Bool}, byB a n b = some v → b.ev ρ = v
  | .lit k, v, h => by cases h; rfl
  | .var _, v, h => by cases h
  | .cell _ _ _, v, h => by cases h
  | .all _ _ _, v, h => by cases h
  | .eqI x y, v, h => by
    simp only [byB] at h
    split at h
    · rename_i i j hi hj; cases h; simp only [B.ev]; rw [byT_ok ha hi, byT_ok ha hj, ibeq_iff]
    · cases h
  | .ltI x y, v, h => by
    simp only [byB] at h
    split at h
    · rename_i i j hi hj; cases h; simp only [B.ev]; rw [byT_ok ha hi, byT_ok ha hj, ilt_iff]
    · cases h
  | .eqB x y, v, h => by
    simp only [byB] at h
    split at h
    · rename_i i j hi hj; cases h; simp only [B.ev]; rw [byB_ok ha hi, byB_ok ha hj]
    · cases h
  | .not x, v, h => by
    simp only [byB] at h
    split at h
    · rename_i i hi; cases h; simp only [B.ev]; rw [byB_ok ha hi]
    · cases h
  | .and x y, v, h => by
    simp only [byB] at h
    split at h
    · rename_i hx; cases h; simp only [B.ev]; rw [byB_ok ha hx]; rfl
    · rename_i hx; simp only [B.ev]; rw [byB_ok ha hx, byB_ok ha h]; rfl
    · cases h
  | .ite c x y, v, h => by
    simp only [byB] at h
    split at h
    · rename_i hc; simp only [B.ev]; rw [byB_ok ha hc]; exact byB_ok ha h
    · rename_i hc; simp only [B.ev]; rw [byB_ok ha hc]; exact byB_ok ha h
    · cases h
end
/-- a byte that is not known -/
def isByte : IntKind → T → Bool
  | .u8, .cell _ _ _ => true
  | .u8, .var _ => true
  | _, _ => false
def orA (a b : Option T) : Option T := match a with | some x => some x | none => b
mutual
def findT : T → Option T
  | .wrap k t => bif isByte k t then some (.wrap k t) else findT t
  | .bin _ x y => orA (findT x) (findT y)
  | .ite c x y => orA (findB c) (orA (findT x) (findT y))
  | _ => none
def findB : B → Option T
  | .eqI x y => orA (findT x) (findT y)
  | .ltI x y => orA (findT x) (findT y)
  | .eqB x y => orA (findB x) (findB y)
  | .not x => findB x
  | .and x y => orA (findB x) (findB y)
  | .ite c x y => orA (findB c) (orA (findB x) (findB y))
  | _ => none
end
def findPc : PC → Option T
  | [] => none
  | (b, _) :: r => orA (findB b) (findPc r)
def byFalse (a : T) (n : Int) : PC → Bool
  | [] => false
  | (b, v) :: r => (match byB a n b with | some u => !(u == v) | none => false) || byFalse a n r
theorem byFalse_ok {ρ : Env} {a : T} {n : Int} (ha : a.ev ρ = n) : ∀ {pc : PC}, byFalse a n pc = true → PcH ρ pc → False
  | [], h, _ => by cases h
  | (b, v) :: r, h, hp => by
    simp only [byFalse, Bool.or_eq_true] at h
    rcases h with h | h
    · split at h
      · rename_i u hu
        have h1 := byB_ok ha hu
        have h2 : b.ev ρ = v := hp (b, v) (.head _)
        rw [h1] at h2
        subst h2
        simp at h
      · cases h
    · exact byFalse_ok ha h fun x hx => hp x (.tail _ hx)
def byAll (a : T) (pc : PC) (b : B) : Nat → Bool
  | 0 => true
  | n + 1 => (byFalse a (.ofNat n) pc || (match byB a (.ofNat n) b with | some v => v | none => false)) && byAll a pc b n
theorem byAll_ok {ρ : Env} {a : T} {pc : PC} {b : B} (hp : PcH ρ pc) : ∀ {n : Nat}, byAll a pc b n = true → ∀ k, k < n → a.ev ρ = (k : Int) → b.ev ρ = true
  | 0, _, k, hk, _ => by omega
  | n + 1, h, k, hk, ha => by
    simp only [byAll, Bool.and_eq_true] at h
    rcases Nat.lt_succ_iff_lt_or_eq.1 hk with hk | rfl
    · exact byAll_ok hp h.2 k hk ha
    · have h := h.1
      rw [Bool.or_eq_true] at h
      rcases h with h | h
      · exact (byFalse_ok ha h hp).elim
      · split at h
        · rename_i v hv; rw [byB_ok ha hv]; exact h
        · cases h
/-- does a fact on this byte alone stand there? -/
def onByte (a : T) : PC → PC
  | [] => []
  | (b, v) :: r => (match byB a 0 b with | some _ => (b, v) :: onByte a r | none => onByte a r)
theorem onByte_ok {ρ : Env} {a : T} : ∀ {pc : PC}, PcH ρ pc → PcH ρ (onByte a pc)
  | [], h => h
  | (b, v) :: r, h => by
    have h2 := onByte_ok (a := a) (pc := r) fun x hx => h x (.tail _ hx)
    simp only [onByte]
    split
    · intro x hx
      cases hx with
      | head => exact h _ (.head _)
      | tail _ hx => exact h2 x hx
    · exact h2
def byteGood (pc : PC) (b : B) : Bool := match orA (findB b) (findPc pc) with
  | some (.wrap .u8 t) => (match byB (.wrap .u8 t) 0 b with
    | some _ => byAll (.wrap .u8 t) (onByte (.wrap .u8 t) pc) b 256
    | none => false)
  | _ => false
theorem byteGood_ok {ρ : Env} {pc : PC} {b : B} (h : byteGood pc b = true) (hp : PcH ρ pc) : b.ev ρ = true := by
  unfold byteGood at h
  split at h
  · rename_i t _
    split at h
    · have hw := wrap_inK .u8 (t.ev ρ)
      rw [inK_iff] at hw
      simp only [kLo, kHi] at hw
      have h1 : (T.wrap .u8 t).ev ρ = IntKind.u8.wrap (t.ev ρ) := rfl
      obtain ⟨k, hk⟩ : ∃ k : Nat, IntKind.u8.wrap (t.ev ρ) = k := ⟨(IntKind.u8.wrap (t.ev ρ)).toNat, by omega⟩
      exact byAll_ok (onByte_ok hp) h k (by omega) (by rw [h1, hk])
    · cases h
  · cases h
/-- by cases; what is left by all values of a byte -/
def provedY : Nat → PC → B → Bool
  | 0, pc, b => byteGood pc b
  | n + 1, pc, b => (match simpB pc b with
    | .lit true => true
    | .lit false => byteGood pc (.lit false)
    | b' => byteGood pc b' || (provedY n (addPc (atomB b') true pc) b' && provedY n (addPc (atomB b') false pc) b'))
theorem provedY_ok {ρ : Env} : ∀ {n : Nat} {pc : PC} {b : B}, provedY n pc b = true → PcH ρ pc → b.ev ρ = true
  | 0, _, _, h, hp => byteGood_ok h hp
  | n + 1, pc, b, h, hp => by
    simp only [provedY] at h
    rw [← simpB_ev hp b]
    split at h
    · rename_i hs; rw [hs]; rfl
    · rename_i hs; rw [hs]; exact byteGood_ok h hp
    · rename_i h1 h2
      generalize simpB pc b = b' at h
      rw [Bool.or_eq_true, Bool.and_eq_true] at h
      rcases h with h | h
      · exact byteGood_ok h hp
      · cases ha : (atomB b').ev ρ
        · exact provedY_ok h.2 (addPc_ok _ false ha hp)
        · exact provedY_ok h.1 (addPc_ok _ true ha hp)
end Go.SX
