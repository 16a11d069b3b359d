/- SX, part 5: comparisons, conversions, parts of aggregates. -/
import Derived.Test.YtpkfeinnhdnfiaaSXPure
import Derived.Laws.StructEq
import Derived.Laws.Pointers
import Derived.Laws.Small
namespace Go.SX
open Go

def eqOf (op : BinOp) (b : B) : PR := match op with
  | .eql => .ok (.bool b)
  | .neq => .ok (.bool (mkNot b))
  | _ => .stuck 3
/-- the whole of a comparison: the guard and the operation -/
abbrev cmp (op : BinOp) (t : TypeId) (x y : Operand) (a b : Value) : Sem Value := do eqGuard op t x y a b; binOp op t a b
theorem eqOf_ok {P : Program} {ρ : Env} {op : BinOp} {b : B} {s : SV} (h : eqOf op b = .ok s) {t : TypeId} {x y : Operand} {u v : Value} {w : World} {r : Bool} (hr : b.ev ρ = r)
    (hg : ∀ op, (eqGuard op t x y u v).run P w = .ok () w)
    (hq : (Op.equalIn 10000 t u v).run P w = .ok r w)
    (he : binOp .eql t u v = (do pure (.bool (← Op.equal t u v)))) (hn : binOp .neq t u v = (do pure (.bool (!(← Op.equal t u v))))) :
    (cmp op t x y u v).run P w = .ok (svI ρ s) w ∧ ∀ β, s.rel ρ β (svI ρ s) := by
  cases op <;> simp only [eqOf] at h <;> first
    | (cases h; done)
    | (cases h
       refine ⟨?_, fun β => ?_⟩
       · simp only [Sem.run_bind, hg, Result.andThen_ok]
         first | rw [he] | rw [hn]
         simp [Op.equal, Op.maxDepth, hq, svI, hr, mkNot_ev]
       · simp [SV.rel, svI, mkNot_ev])
theorem guard_plain {P : Program} (op : BinOp) (t : TypeId) (x y : Operand) (a b : Value) (w : World) (h1 : ¬ (a = .nilIface ∧ b = .nilIface)) (h2 : ∀ xs ys, ¬ (a = .agg xs ∧ b = .agg ys)) :
    (eqGuard op t x y a b).run P w = .ok () w := by
  unfold eqGuard
  cases a <;> cases b <;> first
    | (exfalso; exact h1 ⟨rfl, rfl⟩)
    | (exfalso; exact h2 _ _ ⟨rfl, rfl⟩)
    | (cases op <;> simp)

/-- cell by cell -/
def aggEq : List CK → List SV → List SV → Option B
  | [], [], [] => some (.lit true)
  | .b :: ks, .bool a :: xs, .bool b :: ys => (match aggEq ks xs ys with | some r => some (andR (mkEqB a b) r) | none => none)
  | .i k :: ks, .int k1 a :: xs, .int k2 b :: ys => bif Nat.beq (kindNo k1) (kindNo k) && Nat.beq (kindNo k2) (kindNo k) then (match aggEq ks xs ys with | some r => some (andR (mkEqI (tag k a) (tag k b)) r) | none => none) else none
  | _, _, _ => none
theorem aggEq_ok {ρ : Env} {β : Bet} : ∀ {ks : List CK} {xs ys : List SV} {b : B} {l m : List Value}, aggEq ks xs ys = some b → relL ρ β xs l → relL ρ β ys m →
    kOfL ks l ∧ kOfL ks m ∧ vEqL l m = b.ev ρ
  | [], [], [], b, l, m, h, hl, hm => by
    cases h
    rw [show l = [] from hl, show m = [] from hm]
    exact ⟨rfl, rfl, rfl⟩
  | .b :: ks, .bool a :: xs, .bool c :: ys, b, l, m, h, hl, hm => by
    simp only [aggEq] at h
    split at h
    · rename_i r hr
      cases h
      obtain ⟨v, vs, rfl, h1, h2⟩ := hl
      obtain ⟨u, us, rfl, g1, g2⟩ := hm
      rw [show v = .bool (a.ev ρ) from h1, show u = .bool (c.ev ρ) from g1]
      obtain ⟨i1, i2, i3⟩ := aggEq_ok hr h2 g2
      exact ⟨⟨_, _, rfl, ⟨_, rfl⟩, i1⟩, ⟨_, _, rfl, ⟨_, rfl⟩, i2⟩, by simp [vEqL, vEq, andR_ev, mkEqB_ev, i3]⟩
    · cases h
  | .i k :: ks, .int k1 a :: xs, .int k2 c :: ys, b, l, m, h, hl, hm => by
    simp only [aggEq] at h
    cases hk : Nat.beq (kindNo k1) (kindNo k) && Nat.beq (kindNo k2) (kindNo k)
    · rw [hk] at h; cases h
    · rw [hk] at h
      simp only [cond_true] at h
      rw [Bool.and_eq_true] at hk
      have e1 := kindNo_inj hk.1
      have e2 := kindNo_inj hk.2
      subst e1; subst e2
      split at h
      · rename_i r hr
        cases h
        obtain ⟨v, vs, rfl, h1, h2⟩ := hl
        obtain ⟨u, us, rfl, g1, g2⟩ := hm
        rw [show v = .int _ (a.ev ρ) from h1.1, show u = .int _ (c.ev ρ) from g1.1]
        obtain ⟨i1, i2, i3⟩ := aggEq_ok hr h2 g2
        exact ⟨⟨_, _, rfl, ⟨_, rfl⟩, i1⟩, ⟨_, _, rfl, ⟨_, rfl⟩, i2⟩, by simp [vEqL, vEq, andR_ev, mkEqI_ev, tag_ev h1.2, tag_ev g1.2, i3]⟩
      · cases h

/-! pointers -/
def Mem.wr (m : Mem) (id : Nat) : Bool := match m.tr.get id with
  | some (.cells wr _) => wr
  | some (.arr A) => A.wr
  | some (.buf _ _ _) => true
  | none => false
def isZero : T → Bool | .lit (.ofNat 0) => true | _ => false
theorem isZero_ok {t : T} (h : isZero t = true) (ρ : Env) : t.ev ρ = 0 := by
  unfold isZero at h; split at h
  · rfl
  · cases h
def xPtrEq (m : Mem) : SV → SV → Option B
  | .nilp, .nilp => some (.lit true)
  | .nilp, .ptr _ _ _ => some (.lit false)
  | .ptr _ _ _, .nilp => some (.lit false)
  | .ptr i a o, .ptr j b p =>
    bif Nat.beq i j then
      (bif Nat.beq o p then (match m.tr.get i with
        | some (.arr _) => some (mkEqI a b)
        | some (.cells _ _) => bif isZero a && isZero b then some (.lit true) else none
        | _ => none) else none)
    else bif m.wr i && m.wr j then some (.lit false) else none
  | _, _ => none
theorem wr_ok {ρ : Env} {β : Bet} {m : Mem} {w : World} (hm : MemO ρ β m w) {id : Nat} (h : m.wr id = true) {e : Blk} (he : β[id]? = some e) :
    e.ro = false ∧ ∃ arr el, w.heap[e.blk]? = some (.cells arr el (0, 0)) := by
  unfold Mem.wr at h
  cases ho : m.tr.get id with
  | none => simp [ho] at h
  | some o =>
    obtain ⟨e', he', hr⟩ := hm.obj id o ho
    rw [he] at he'; cases he'
    cases o with
    | cells wr cs =>
      simp only [ho] at h; subst h
      obtain ⟨h0, _, _, arr, el, fr, h3, h4, _⟩ := hr
      exact ⟨h0 rfl, arr, el, by rw [h3, h4 (h0 rfl)]⟩
    | arr A =>
      simp only [ho] at h
      obtain ⟨h0, _, _, _, _, _, arr, el, fr, h3, h4, _⟩ := hr
      exact ⟨h0 h, arr, el, by rw [h3, h4 (h0 h)]⟩
    | buf el sz cs =>
      obtain ⟨h0, _, _, arr, h3, _⟩ := hr
      exact ⟨h0, arr, el, h3⟩
theorem run_sameAddr_apart {P : Program} {w : World} {a b : Nat} {i j : Nat} {xs ys : Array Value} {s t : TypeId} (hne : a ≠ b) (ha : w.heap[a]? = some (.cells xs s (0, 0))) (hb : w.heap[b]? = some (.cells ys t (0, 0))) :
    (sameAddr ⟨a, i, none⟩ ⟨b, j, none⟩).run P w = .ok false w := by
  have hf : ∀ k, w.frozen? ⟨a, k, none⟩ = false := fun k => by simp [World.frozen?, ha]
  have hg : ∀ k, w.frozen? ⟨b, k, none⟩ = false := fun k => by simp [World.frozen?, hb]
  have hs : w.shape? a = some (s, xs.size) := by simp [World.shape?, ha]
  have ht : w.shape? b = some (t, ys.size) := by simp [World.shape?, hb]
  simp [sameAddr, hne, hf, hg, noView, viewAt, hs, ht, mayBeOne, stringish]
theorem xPtrEq_ok {P : Program} {ρ : Env} {β : Bet} {m : Mem} {w : World} (hm : MemO ρ β m w) {x y : SV} {b : B} {u v : Value} (h : xPtrEq m x y = some b) (hx : x.rel ρ β u) (hy : y.rel ρ β v)
    {t : TypeId} {el : TypeId} (ht : P.underlying t = some (.pointer el)) {j : TypeInfo} (hi : P.info? el = some j) (hz : j.size ≠ 0) (d : Nat) :
    (Op.equalIn (d + 1) t u v).run P w = .ok (b.ev ρ) w ∧ (∃ p, u = .pointer p) ∧ ∃ q, v = .pointer q := by
  have hsz : (sizeOf el).run P w = .ok j.size w := by simp [sizeOf, typeInfo, hi]
  unfold xPtrEq at h
  split at h
  · cases h
    rw [show u = .pointer none from hx, show v = .pointer none from hy]
    exact ⟨by simp [Op.equalIn, run_underlying ht, B.ev], ⟨_, rfl⟩, _, rfl⟩
  · cases h
    obtain ⟨e, _, _, _, rfl⟩ := hy
    rw [show u = .pointer none from hx]
    exact ⟨by simp [Op.equalIn, run_underlying ht, B.ev], ⟨_, rfl⟩, _, rfl⟩
  · cases h
    obtain ⟨e, _, _, _, rfl⟩ := hx
    rw [show v = .pointer none from hy]
    exact ⟨by simp [Op.equalIn, run_underlying ht, B.ev], ⟨_, rfl⟩, _, rfl⟩
  · rename_i i a o k c p
    obtain ⟨e, he, ha0, hal, rfl⟩ := hx
    obtain ⟨e', he', hc0, hcl, rfl⟩ := hy
    refine ⟨?_, ⟨_, rfl⟩, _, rfl⟩
    simp only [Op.equalIn, Sem.run_bind, run_underlying ht, Result.andThen_ok, hsz]
    rw [Sem.run_ite, if_pos hz]
    cases hik : Nat.beq i k
    · rw [hik] at h
      simp only [cond_false] at h
      have hne : i ≠ k := fun e => by rw [e] at hik; simp at hik
      cases hw : m.wr i && m.wr k
      · rw [hw] at h; cases h
      · rw [hw] at h; cases h
        rw [Bool.and_eq_true] at hw
        obtain ⟨r1, xs, s, h1⟩ := wr_ok hm hw.1 he
        obtain ⟨r2, ys, s', h2⟩ := wr_ok hm hw.2 he'
        rw [run_sameAddr_apart (fun hb => by have := (hm.apart i k e e' he he' hne hb).1; rw [r1] at this; cases this) h1 h2]
        rfl
    · rw [hik] at h
      simp only [cond_true] at h
      have hik := Nat.eq_of_beq_eq_true hik
      subst hik
      rw [he] at he'; cases he'
      cases hop : Nat.beq o p
      · rw [hop] at h; cases h
      · rw [hop] at h
        simp only [cond_true] at h
        have hop := Nat.eq_of_beq_eq_true hop
        subst hop
        cases ho : m.tr.get i with
        | none => simp [ho] at h
        | some ob =>
          obtain ⟨e', he', hr⟩ := hm.obj i ob ho
          rw [he] at he'; cases he'
          simp only [sameAddr, beq_self_eq_true, if_true, Sem.run_pure]
          cases ob with
          | buf el sz cs => simp [ho] at h
          | cells wr cs =>
            simp only [ho] at h
            cases hz2 : isZero a && isZero c
            · rw [hz2] at h; cases h
            · rw [hz2] at h; cases h
              rw [Bool.and_eq_true] at hz2
              rw [isZero_ok hz2.1 ρ, isZero_ok hz2.2 ρ]
              simp [B.ev]
          | arr A =>
            simp only [ho, Option.some.injEq] at h
            subst h
            obtain ⟨_, hst, hpos, _⟩ := hr
            rw [mkEqI_ev]
            congr 1
            rw [Bool.eq_iff_iff]
            simp only [beq_iff_eq, Addr.mk.injEq, true_and, and_true]
            constructor
            · intro hh
              have : (T.ev ρ a).toNat * e.stride = (T.ev ρ c).toNat * e.stride := by omega
              have := Nat.eq_of_mul_eq_mul_right (by omega) this
              omega
            · intro hh; rw [hh]
  · cases h

/-! conversions, parts -/
def subK (a b : IntKind) : Bool := !(ilt (kLo a) (kLo b)) && !(ilt (kHi b) (kHi a))
def mkConv (src dst : IntKind) (t : T) : T := bif Nat.beq (kindNo src) (kindNo dst) then t else bif subK src dst then tag src t else mkWrap dst (tag src t)
theorem mkConv_ok {ρ : Env} {a b : IntKind} {t : T} (h : inK a (t.ev ρ) = true) : (mkConv a b t).ev ρ = b.wrap (t.ev ρ) ∧ inK b ((mkConv a b t).ev ρ) = true := by
  unfold mkConv
  cases hq : Nat.beq (kindNo a) (kindNo b)
  · simp only [cond_false]
    cases hs : subK a b
    · simp only [cond_false, mkWrap_ev, wrap_inK, tag_ev h, and_self]
    · simp only [cond_true, tag_ev h]
      have : inK b (t.ev ρ) = true := by
        simp only [subK, ilt_iff, Bool.and_eq_true, Bool.not_eq_true', decide_eq_false_iff_not] at hs
        rw [inK_iff] at *
        omega
      exact ⟨(wrap_of_inK this).symm, this⟩
  · have := kindNo_inj hq
    subst this
    simp only [cond_true]
    exact ⟨(wrap_of_inK h).symm, h⟩
def isAggD : TypeDesc → Bool
  | .struct _ => true
  | .array _ _ => true
  | _ => false
theorem run_isAgg' {P : Program} {t : TypeId} {d : TypeDesc} (h : P.underlying t = some d) (w : World) : (isAgg t).run P w = .ok (isAggD d) w := by
  cases d <;> simp [isAgg, run_underlying h, isAggD]
theorem run_sizeOf' {P : Program} {t : TypeId} {i : TypeInfo} (h : P.info? t = some i) (w : World) : (sizeOf t).run P w = .ok i.size w := by
  simp [sizeOf, typeInfo, h]
/-- a part of an aggregate -/
def xPart (agg : Bool) (size : Nat) (cs : List SV) (off : Nat) : PR :=
  bif agg then (bif Nat.ble (off + size) cs.length then .ok (.agg ((cs.drop off).take size)) else .stuck 4) else
  (match cs[off]? with | some s => .ok s | none => .stuck 4)
theorem xPart_ok {P : Program} {ρ : Env} {β : Bet} {t : TypeId} {d : TypeDesc} {j : TypeInfo} (hd : P.underlying t = some d) (hj : P.info? t = some j) {cs : List SV} {l : List Value} (hr : relL ρ β cs l) {off : Nat} {s : SV}
    (h : xPart (isAggD d) j.size cs off = .ok s) : ∃ v, s.rel ρ β v ∧ ∀ w : World, (part t l.toArray off).run P w = .ok v w := by
  unfold xPart at h
  cases ha : isAggD d
  · rw [ha] at h
    simp only [cond_false] at h
    split at h
    · rename_i s' hs
      cases h
      obtain ⟨v, hv, r⟩ := relL_get hr hs
      exact ⟨v, r, fun w => by simp [part, run_isAgg' hd, ha, hv]⟩
    · cases h
  · rw [ha] at h
    simp only [cond_true] at h
    cases hb : Nat.ble (off + j.size) cs.length
    · rw [hb] at h; cases h
    · rw [hb] at h
      cases h
      refine ⟨.agg ((l.drop off).take j.size).toArray, ⟨_, relL_take _ (relL_drop _ hr), rfl⟩, fun w => ?_⟩
      simp [part, run_isAgg' hd, ha, run_sizeOf' hj]
      try (rw [List.extract_eq_take_drop]; congr 1; omega)
end Go.SX
