/- SX, part 4: the operations that change no memory. -/
import Derived.Test.YtpkfeinnhdnfiaaSXCells
namespace Go.SX
open Go

structure TI where
  und : TypeDesc
  size : Nat
  zero : Option Value
/-- the end of a call, as it is known: what it was told, what memory is then, and what came of it -/
inductive CEnd where
  | ret (v : SV)
  | panic (v : SV)
  | stuck (why : Nat)
structure COut where
  pc : PC
  mem : Mem
  ex : CEnd
structure Cfg where
  P : Program
  ti : Nat → Option TI
  fn : Nat → Option Func
  eqk : Nat → Option (List CK)
  byt : Nat → Option Nat := fun _ => none
  hook : Nat → List SV → Mem → PC → List Nat → Option (List COut)
  mrg : Nat → Bool := fun _ => false
  jn : Nat → Bool := fun _ => false
  jc : Nat → Bool := fun _ => false
  lp : Nat → Bool := fun _ => false

def vEq : Value → Value → Bool
  | .bool a, .bool b => a == b
  | .int _ a, .int _ b => a == b
  | _, _ => false
def vEqL : List Value → List Value → Bool
  | [], [] => true
  | a :: l, b :: m => vEq a b && vEqL l m
  | _, _ => false
def kOf : CK → Value → Prop
  | .b, v => ∃ b, v = .bool b
  | .i k, v => ∃ n, v = .int k n
def kOfL : List CK → List Value → Prop
  | [], l => l = []
  | k :: ks, l => ∃ v vs, l = v :: vs ∧ kOf k v ∧ kOfL ks vs
def EqOk (P : Program) (t : TypeId) (ks : List CK) : Prop :=
  P.eqGuardType P.depth t = false ∧ ∀ (w : World) (xs ys : Array Value), kOfL ks xs.toList → kOfL ks ys.toList →
    (Op.equalIn 10000 t (.agg xs) (.agg ys)).run P w = .ok (vEqL xs.toList ys.toList) w
structure Cfg.Types (C : Cfg) : Prop where
  ti : ∀ t i, C.ti t = some i → ∃ j, C.P.info? t = some j ∧ j.size = i.size ∧ j.zero = i.zero ∧ C.P.underlying t = some i.und
  fn : ∀ f x, C.fn f = some x → C.P.funcs[f]? = some x ∧ (x.name == "runtime.NumGoroutine") = false
  eqk : ∀ t ks, C.eqk t = some ks → EqOk C.P t ks
  byt : ∀ t n, C.byt t = some n → ∃ j, C.P.info? t = some j ∧ j.bytes = n
  mixed : C.P.follows .mixedOrders = true

/-! constants -/
def liftC : Value → Option SV
  | .bool b => some (.bool (.lit b))
  | .int k n => bif inK k n then some (.int k (.lit n)) else none
  | .pointer none => some .nilp
  | .slice none 0 0 => some .nils
  | .agg _ => none
  | .tuple _ => none
  | v => some (.raw v)
def liftCL : List Value → Option (List SV)
  | [] => some []
  | v :: vs => (match liftC v, liftCL vs with | some s, some ss => some (s :: ss) | _, _ => none)
def liftV : Value → Option SV
  | .agg cs => (match liftCL cs.toList with | some ss => some (.agg ss) | none => none)
  | v => liftC v
theorem liftC_ok {ρ : Env} {β : Bet} {v : Value} {s : SV} (h : liftC v = some s) : s.rel ρ β v := by
  unfold liftC at h
  split at h
  · cases h; rfl
  · rename_i k n
    cases hk : inK k n
    · rw [hk] at h; cases h
    · rw [hk] at h; cases h; exact ⟨rfl, hk⟩
  · cases h; rfl
  · cases h; rfl
  · cases h
  · cases h
  · rename_i h1 h2 h3 h4 h5 h6
    cases h
    refine ⟨rfl, ?_⟩
    cases v <;> first | rfl | exact absurd rfl (h5 _) | exact absurd rfl (h6 _)
theorem liftCL_ok {ρ : Env} {β : Bet} : ∀ {l : List Value} {ss : List SV}, liftCL l = some ss → relL ρ β ss l
  | [], ss, h => by cases h; rfl
  | v :: vs, ss, h => by
    simp only [liftCL] at h
    split at h
    · rename_i s ss' h1 h2; cases h; exact ⟨v, vs, rfl, liftC_ok h1, liftCL_ok h2⟩
    · cases h
theorem liftV_ok {ρ : Env} {β : Bet} {v : Value} {s : SV} (h : liftV v = some s) : s.rel ρ β v := by
  unfold liftV at h
  split at h
  · rename_i cs
    split at h
    · rename_i ss hs; cases h; exact ⟨cs.toList, liftCL_ok hs, by simp⟩
    · cases h
  · exact liftC_ok h

/-- what comes of an operation that changes no memory -/
inductive PR where
  | ok (v : SV)
  | split (b : B)
  | stuck (why : Nat)
def dec (pc : PC) (b : B) (t f : PR) : PR := match simpB pc b with
  | .lit true => t
  | .lit false => f
  | b' => .split b'
theorem dec_ok {ρ : Env} {pc : PC} (hp : PcH ρ pc) {b : B} {t f : PR} {v : SV} (h : dec pc b t f = .ok v) : (b.ev ρ = true ∧ t = .ok v) ∨ (b.ev ρ = false ∧ f = .ok v) := by
  unfold dec at h
  have := simpB_ev hp b
  split at h
  · rename_i hs; rw [hs] at this; exact .inl ⟨this.symm, h⟩
  · rename_i hs; rw [hs] at this; exact .inr ⟨this.symm, h⟩
  · cases h

/-! numbers -/
def xInt (pc : PC) (op : BinOp) (k : IntKind) (a b : T) : PR := match op with
  | .add => .ok (.int k (mkWrap k (mkBin .add a b)))
  | .sub => .ok (.int k (mkWrap k (mkBin .sub a b)))
  | .mul => .ok (.int k (mkWrap k (mkBin .mul a b)))
  | .quo => dec pc (mkEqI b (.lit 0)) (.stuck 1) (.ok (.int k (mkWrap k (mkBin .quo a b))))
  | .rem => dec pc (mkEqI b (.lit 0)) (.stuck 1) (.ok (.int k (mkBin .rem a b)))
  | .and => .ok (.int k (mkBin (.band k) a b))
  | .or => .ok (.int k (mkBin (.bor k) a b))
  | .xor => .ok (.int k (mkBin (.bxor k) a b))
  | .andNot => .ok (.int k (mkBin (.bandn k) a b))
  | .eql => .ok (.bool (mkEqI a b))
  | .neq => .ok (.bool (mkNot (mkEqI a b)))
  | .lss => .ok (.bool (mkLtI a b))
  | .leq => .ok (.bool (mkNot (mkLtI b a)))
  | .gtr => .ok (.bool (mkLtI b a))
  | .geq => .ok (.bool (mkNot (mkLtI a b)))
  | .shl => dec pc (mkLtI b (.lit 0)) (.stuck 2) (.ok (.int k (mkWrap k (mkBin (.shl k.bits) a b))))
  | .shr => dec pc (mkLtI b (.lit 0)) (.stuck 2) (.ok (.int k (mkBin (.shr k.bits) a b)))
theorem emod_le {x : Int} (y : Int) (hx : 0 ≤ x) : x % y ≤ x := by
  obtain ⟨n, rfl⟩ := Int.eq_ofNat_of_zero_le hx
  have h1 : ∀ m : Nat, (n : Int) % (m : Int) ≤ n := fun m => by
    rw [← Int.natCast_emod]; exact Int.ofNat_le.2 (Nat.mod_le n m)
  rcases Int.natAbs_eq y with h | h
  · rw [h]; exact h1 _
  · rw [h, Int.emod_neg]; exact h1 _
theorem tmod_inK {k : IntKind} {x y : Int} (h : inK k x = true) : inK k (x.tmod y) = true := by
  rw [inK_iff] at *
  rcases Int.lt_or_le x 0 with hx | hx
  · have h1 : x.tmod y = -((-x).tmod y) := by rw [Int.neg_tmod, Int.neg_neg]
    have h2 := Int.tmod_nonneg y (a := -x) (by omega)
    have h3 : (-x).tmod y ≤ -x := by
      rw [Int.tmod_eq_emod_of_nonneg (by omega)]
      exact emod_le y (by omega)
    cases k <;> simp only [kLo, kHi] at h ⊢ <;> omega
  · have h2 := Int.tmod_nonneg y hx
    have h3 : x.tmod y ≤ x := by
      rw [Int.tmod_eq_emod_of_nonneg hx]
      exact emod_le y hx
    cases k <;> simp only [kLo, kHi] at h ⊢ <;> omega
theorem fdiv_inK {k : IntKind} {x : Int} {n : Nat} (h : inK k x = true) : inK k (x.fdiv (2 ^ n)) = true := by
  have hp : (0 : Int) < 2 ^ n := Int.pow_pos (by decide)
  rw [Int.fdiv_eq_ediv_of_nonneg _ (Int.le_of_lt hp)]
  rw [inK_iff] at *
  have h1 : x / 2 ^ n ≤ max x 0 := by
    rcases Int.lt_or_le x 0 with hx | hx
    · have := Int.ediv_neg_of_neg_of_pos hx hp; omega
    · have := Int.ediv_le_self (2 ^ n) hx; omega
  have h2 : min x 0 ≤ x / 2 ^ n := by
    rcases Int.lt_or_le x 0 with hx | hx
    · have : x ≤ x / 2 ^ n := by
        rw [Int.le_ediv_iff_mul_le hp]
        have : (1 : Int) ≤ 2 ^ n := hp
        have h3 : x * 2 ^ n ≤ x * 1 := Int.mul_le_mul_of_nonpos_left (Int.le_of_lt hx) this
        omega
      omega
    · have := Int.ediv_nonneg hx (Int.le_of_lt hp); omega
  cases k <;> simp only [kLo, kHi] at h ⊢ <;> omega
/-- the value of a number or a truth -/
def svI (ρ : Env) : SV → Value
  | .bool b => .bool (b.ev ρ)
  | .int k t => .int k (t.ev ρ)
  | _ => undef
theorem xInt_ok {P : Program} {ρ : Env} {pc : PC} (hp : PcH ρ pc) {op : BinOp} {k : IntKind} {a b : T} {s : SV} (w : World)
    (ha : inK k (a.ev ρ) = true) (h : xInt pc op k a b = .ok s) (xt : TypeId) (kb : IntKind) (hkb : op ≠ .shl → op ≠ .shr → kb = k) :
    (binOp op xt (.int k (a.ev ρ)) (.int kb (b.ev ρ))).run P w = .ok (svI ρ s) w ∧ ∀ β, s.rel ρ β (svI ρ s) := by
  have hev : ∀ n, T.ev ρ (.lit n) = n := fun _ => rfl
  cases op
  case quo =>
    cases hkb (by simp) (by simp)
    rcases dec_ok hp h with ⟨_, h⟩ | ⟨hb, h⟩
    · cases h
    · cases h
      rw [mkEqI_ev] at hb
      have hb : ¬ b.ev ρ = 0 := by simpa [hev] using hb
      refine ⟨?_, fun β => ?_⟩
      · simp [binOp, Op.intDiv, hb, svI, mkWrap_ev, mkBin_ev, TOp.ev]
      · simp [SV.rel, svI, mkWrap_ev, mkBin_ev, TOp.ev, wrap_inK]
  case rem =>
    cases hkb (by simp) (by simp)
    rcases dec_ok hp h with ⟨_, h⟩ | ⟨hb, h⟩
    · cases h
    · cases h
      rw [mkEqI_ev] at hb
      have hb : ¬ b.ev ρ = 0 := by simpa [hev] using hb
      refine ⟨?_, fun β => ?_⟩
      · simp [binOp, Op.intDiv, hb, svI, mkBin_ev, TOp.ev]
      · simp [SV.rel, svI, mkBin_ev, TOp.ev, tmod_inK ha]
  case shl =>
    rcases dec_ok hp h with ⟨_, h⟩ | ⟨hb, h⟩
    · cases h
    · cases h
      rw [mkLtI_ev] at hb
      have hb : ¬ b.ev ρ < 0 := by simpa [hev] using hb
      refine ⟨?_, fun β => ?_⟩
      · simp [binOp, Op.shift, hb, svI, mkWrap_ev, mkBin_ev, TOp.ev]
      · simp [SV.rel, svI, mkWrap_ev, mkBin_ev, TOp.ev, wrap_inK]
  case shr =>
    rcases dec_ok hp h with ⟨_, h⟩ | ⟨hb, h⟩
    · cases h
    · cases h
      rw [mkLtI_ev] at hb
      have hb : ¬ b.ev ρ < 0 := by simpa [hev] using hb
      refine ⟨?_, fun β => ?_⟩
      · simp [binOp, Op.shift, hb, svI, mkBin_ev, TOp.ev]
      · simp only [SV.rel, svI, mkBin_ev, TOp.ev, true_and]; exact fdiv_inK ha
  all_goals
    cases hkb (by simp) (by simp)
    cases h
    refine ⟨?_, fun β => ?_⟩
    · first
        | (simp [binOp, Op.intArith, Op.intBits, Op.intCmp, svI, mkWrap_ev, mkBin_ev, mkEqI_ev, mkLtI_ev, mkNot_ev, TOp.ev, bne]; done)
        | (simp [binOp, Op.intCmp, svI, mkLtI_ev, mkNot_ev]; apply Bool.eq_iff_iff.2; simp)
    · simp [SV.rel, svI, mkWrap_ev, mkBin_ev, mkEqI_ev, mkLtI_ev, mkNot_ev, TOp.ev, wrap_inK]
end Go.SX
