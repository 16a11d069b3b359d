/- SX, part 1: integer and bool terms, what they are worth, and a simplifier under known facts. -/
import GoSem.Core.View
import Derived.Laws.Bits64
import Derived.Laws.BitsLemmas
import Derived.Laws.BitsAllLaws
namespace Go.SX

/-- operators on integers, unbounded -/
inductive TOp where
  | add | sub | mul | quo | rem | shl (bits : Nat) | shr (bits : Nat) | mx | mn
  | band (k : IntKind) | bor (k : IntKind) | bxor (k : IntKind) | bandn (k : IntKind)

def TOp.ev : TOp → Int → Int → Int
  | .add, x, y => x + y
  | .sub, x, y => x - y
  | .mul, x, y => x * y
  | .quo, x, y => x.tdiv y
  | .rem, x, y => x.tmod y
  | .shl b, x, y => x * 2 ^ (min y.toNat b)
  | .shr b, x, y => x.fdiv (2 ^ (min y.toNat b))
  | .mx, x, y => if y > x then y else x
  | .mn, x, y => if y < x then y else x
  | .band k, x, y => k.wrap ((BitVec.ofInt k.bits x &&& BitVec.ofInt k.bits y).toNat)
  | .bor k, x, y => k.wrap ((BitVec.ofInt k.bits x ||| BitVec.ofInt k.bits y).toNat)
  | .bxor k, x, y => k.wrap ((BitVec.ofInt k.bits x ^^^ BitVec.ofInt k.bits y).toNat)
  | .bandn k, x, y => k.wrap ((BitVec.ofInt k.bits x &&& ~~~BitVec.ofInt k.bits y).toNat)

mutual
inductive T where
  | lit (n : Int)
  | var (n : Nat)
  | cell (r : Nat) (i : T) (f : Nat)
  | wrap (k : IntKind) (t : T)
  | bin (o : TOp) (a b : T)
  | ite (c : B) (a b : T)
inductive B where
  | lit (b : Bool)
  | var (n : Nat)
  | cell (r : Nat) (i : T) (f : Nat)
  | eqI (a b : T)
  | ltI (a b : T)
  | eqB (a b : B)
  | not (a : B)
  | and (a b : B)
  | all (k : Nat) (len : T) (b : B)
end

/-- what the variables and the unknown rows' cells are worth -/
structure Env where
  v : Nat → Int
  c : Nat → Int → Nat → Int
  bv : Nat → Bool
  bc : Nat → Int → Nat → Bool
/-- one variable other -/
def Env.at (ρ : Env) (k : Nat) (j : Int) : Env := { ρ with v := fun m => if m = k then j else ρ.v m }

mutual
def T.ev : Env → T → Int
  | _, .lit n => n
  | ρ, .var n => ρ.v n
  | ρ, .cell r i f => ρ.c r (T.ev ρ i) f
  | ρ, .wrap k t => k.wrap (T.ev ρ t)
  | ρ, .bin o a b => o.ev (T.ev ρ a) (T.ev ρ b)
  | ρ, .ite c a b => bif B.ev ρ c then T.ev ρ a else T.ev ρ b
def B.ev : Env → B → Bool
  | _, .lit b => b
  | ρ, .var n => ρ.bv n
  | ρ, .cell r i f => ρ.bc r (T.ev ρ i) f
  | ρ, .eqI a b => T.ev ρ a == T.ev ρ b
  | ρ, .ltI a b => decide (T.ev ρ a < T.ev ρ b)
  | ρ, .eqB a b => B.ev ρ a == B.ev ρ b
  | ρ, .not a => !(B.ev ρ a)
  | ρ, .and a b => B.ev ρ a && B.ev ρ b
  | ρ, .all k len b => (List.range (T.ev ρ len).toNat).all fun j => B.ev (ρ.at k j) b
end

/-! equality by structure -/
def kindNo : IntKind → Nat
  | .i8 => 0 | .i16 => 1 | .i32 => 2 | .i64 => 3 | .u8 => 4 | .u16 => 5 | .u32 => 6 | .u64 => 7
theorem kindNo_inj {a b : IntKind} (h : Nat.beq (kindNo a) (kindNo b) = true) : a = b := by
  cases a <;> cases b <;> first | rfl | (simp [kindNo] at h)
def ibeq : Int → Int → Bool
  | .ofNat a, .ofNat b => Nat.beq a b
  | .negSucc a, .negSucc b => Nat.beq a b
  | _, _ => false
theorem ibeq_iff (a b : Int) : ibeq a b = (a == b) := by
  rw [Bool.eq_iff_iff]
  cases a with
  | ofNat a => cases b with
    | ofNat b => simp only [ibeq, Nat.beq_eq, beq_iff_eq, Int.ofNat.injEq]
    | negSucc b => simp [ibeq]
  | negSucc a => cases b with
    | ofNat b => simp [ibeq]
    | negSucc b => simp only [ibeq, Nat.beq_eq, beq_iff_eq, Int.negSucc.injEq]
theorem ibeq_eq {a b : Int} (h : ibeq a b = true) : a = b := by
  rw [ibeq_iff] at h; exact beq_iff_eq.1 h
def ilt (a b : Int) : Bool := match a, b with
  | .ofNat a, .ofNat b => Nat.blt a b
  | .negSucc _, .ofNat _ => true
  | .ofNat _, .negSucc _ => false
  | .negSucc a, .negSucc b => Nat.blt b a
theorem ilt_iff (a b : Int) : ilt a b = decide (a < b) := by
  cases a <;> cases b <;> unfold ilt Nat.blt <;> apply Bool.eq_iff_iff.2 <;> simp only [Nat.ble_eq, decide_eq_true_eq, Bool.false_eq_true, true_iff, false_iff, Int.ofNat_eq_natCast] <;> omega
def TOp.beq : TOp → TOp → Bool
  | .add, .add | .sub, .sub | .mul, .mul | .quo, .quo | .rem, .rem | .mx, .mx | .mn, .mn => true
  | .shl a, .shl b | .shr a, .shr b => Nat.beq a b
  | .band a, .band b | .bor a, .bor b | .bxor a, .bxor b | .bandn a, .bandn b => Nat.beq (kindNo a) (kindNo b)
  | _, _ => false
theorem TOp.beq_eq {a b : TOp} (h : TOp.beq a b = true) : a = b := by
  cases a <;> cases b <;> first | rfl | (simp [TOp.beq] at h; done) | exact congrArg _ (Nat.eq_of_beq_eq_true h) | exact congrArg _ (kindNo_inj h)
mutual
def T.beq : T → T → Bool
  | .lit a, .lit b => ibeq a b
  | .var a, .var b => Nat.beq a b
  | .cell r i f, .cell s j g => Nat.beq f g && Nat.beq r s && T.beq i j
  | .wrap k a, .wrap l b => Nat.beq (kindNo k) (kindNo l) && T.beq a b
  | .bin o a b, .bin p c d => TOp.beq o p && T.beq a c && T.beq b d
  | .ite c a b, .ite d x y => B.beq c d && T.beq a x && T.beq b y
  | _, _ => false
def B.beq : B → B → Bool
  | .lit a, .lit b => a == b
  | .var a, .var b => Nat.beq a b
  | .cell r i f, .cell s j g => Nat.beq f g && Nat.beq r s && T.beq i j
  | .eqI a b, .eqI c d => T.beq a c && T.beq b d
  | .ltI a b, .ltI c d => T.beq a c && T.beq b d
  | .eqB a b, .eqB c d => B.beq a c && B.beq b d
  | .not a, .not b => B.beq a b
  | .and a b, .and c d => B.beq a c && B.beq b d
  | .all k l a, .all m n b => Nat.beq k m && T.beq l n && B.beq a b
  | _, _ => false
end
mutual
theorem T.beq_eq : ∀ {a b : T}, T.beq a b = true → a = b
  | .lit n, b, h => by cases b <;> simp only [T.beq, Bool.false_eq_true] at h; exact congrArg T.lit (ibeq_eq h)
  | .var n, b, h => by cases b <;> simp [T.beq] at h; rw [h]
  | .cell r i f, b, h => by cases b <;> simp [T.beq] at h; rw [h.1.1, h.1.2, T.beq_eq h.2]
  | .wrap k t, b, h => by cases b <;> simp only [T.beq, Bool.false_eq_true, Bool.and_eq_true] at h; rw [kindNo_inj h.1, T.beq_eq h.2]
  | .bin o x y, b, h => by cases b <;> simp [T.beq] at h; rw [TOp.beq_eq h.1.1, T.beq_eq h.1.2, T.beq_eq h.2]
  | .ite c x y, b, h => by cases b <;> simp [T.beq] at h; rw [B.beq_eq h.1.1, T.beq_eq h.1.2, T.beq_eq h.2]
theorem B.beq_eq : ∀ {a b : B}, B.beq a b = true → a = b
  | .lit n, b, h => by cases b <;> simp [B.beq] at h; rw [h]
  | .var n, b, h => by cases b <;> simp [B.beq] at h; rw [h]
  | .cell r i f, b, h => by cases b <;> simp [B.beq] at h; rw [h.1.1, h.1.2, T.beq_eq h.2]
  | .eqI x y, b, h => by cases b <;> simp [B.beq] at h; rw [T.beq_eq h.1, T.beq_eq h.2]
  | .ltI x y, b, h => by cases b <;> simp [B.beq] at h; rw [T.beq_eq h.1, T.beq_eq h.2]
  | .eqB x y, b, h => by cases b <;> simp [B.beq] at h; rw [B.beq_eq h.1, B.beq_eq h.2]
  | .not x, b, h => by cases b <;> simp [B.beq] at h; rw [B.beq_eq h]
  | .and x y, b, h => by cases b <;> simp [B.beq] at h; rw [B.beq_eq h.1, B.beq_eq h.2]
  | .all k l x, b, h => by cases b <;> simp [B.beq] at h; rw [h.1.1, T.beq_eq h.1.2, B.beq_eq h.2]
end

/-! what is known on a path: terms and what they are -/
abbrev PC := List (B × Bool)
def PcH (ρ : Env) (pc : PC) : Prop := ∀ p ∈ pc, p.1.ev ρ = p.2
theorem PcH.nil (ρ : Env) : PcH ρ [] := fun _ h => by cases h
theorem PcH.cons {ρ : Env} {pc : PC} {b : B} {v : Bool} (hb : b.ev ρ = v) (h : PcH ρ pc) : PcH ρ ((b, v) :: pc) := fun p hp => by
  cases hp with
  | head => exact hb
  | tail _ h' => exact h p h'
theorem PcH.tail {ρ : Env} {pc : PC} {p : B × Bool} (h : PcH ρ (p :: pc)) : PcH ρ pc := fun q hq => h q (.tail _ hq)
theorem PcH.head {ρ : Env} {pc : PC} {b : B} {v : Bool} (h : PcH ρ ((b, v) :: pc)) : b.ev ρ = v := h _ (.head _)

/-- the number that a term is known to be -/
def lookT (t : T) : PC → Option Int
  | [] => none
  | (.eqI a (.lit n), true) :: r => bif T.beq a t then some n else lookT t r
  | _ :: r => lookT t r
theorem lookT_ok {ρ : Env} {t : T} {n : Int} : ∀ {pc : PC}, PcH ρ pc → lookT t pc = some n → t.ev ρ = n := by
  intro pc
  induction pc with
  | nil => intro _ h; cases h
  | cons p r ih =>
    intro hp h
    unfold lookT at h
    split at h
    · cases h
    · rename_i a m r' he
      cases he
      cases hb : T.beq a t
      · rw [hb] at h; exact ih hp.tail h
      · rw [hb] at h
        cases h
        have := hp.head
        rw [T.beq_eq hb] at this
        simpa [B.ev, T.ev] using this
    · rename_i he
      cases he
      exact ih hp.tail h
/-- the truth that a term is known to be -/
def lookB (b : B) : PC → Option Bool
  | [] => none
  | (a, v) :: r => bif B.beq a b then some v else lookB b r
theorem lookB_ok {ρ : Env} {b : B} {v : Bool} : ∀ {pc : PC}, PcH ρ pc → lookB b pc = some v → b.ev ρ = v := by
  intro pc
  induction pc with
  | nil => intro _ h; cases h
  | cons p r ih =>
    intro hp h
    obtain ⟨a, u⟩ := p
    simp only [lookB] at h
    cases hb : B.beq a b
    · rw [hb] at h; exact ih hp.tail h
    · rw [hb] at h; cases h; rw [← B.beq_eq hb]; exact hp.head

def mkWrap (k : IntKind) : T → T
  | .lit n => .lit (k.wrap n)
  | t => .wrap k t
theorem mkWrap_ev (ρ : Env) (k : IntKind) (t : T) : (mkWrap k t).ev ρ = k.wrap (t.ev ρ) := by cases t <;> rfl
def mkBin (o : TOp) (a b : T) : T := match a, b with
  | .lit x, .lit y => .lit (o.ev x y)
  | a, b => .bin o a b
theorem mkBin_ev (ρ : Env) (o : TOp) (a b : T) : (mkBin o a b).ev ρ = o.ev (a.ev ρ) (b.ev ρ) := by
  unfold mkBin; split <;> rfl
def T.isLit : T → Bool | .lit _ => true | _ => false
def mkEqI (a b : T) : B := match a, b with
  | .lit x, .lit y => .lit (ibeq x y)
  | .lit x, b => .eqI b (.lit x)
  | a, b => bif T.beq a b then .lit true else .eqI a b
theorem mkEqI_ev (ρ : Env) (a b : T) : (mkEqI a b).ev ρ = (a.ev ρ == b.ev ρ) := by
  unfold mkEqI; split
  · simp [B.ev, T.ev, ibeq_iff]
  · simp only [B.ev, T.ev]; exact Bool.beq_comm
  · cases h : T.beq a b
    · rfl
    · rw [T.beq_eq h]; simp [B.ev]
def mkLtI (a b : T) : B := match a, b with
  | .lit x, .lit y => .lit (ilt x y)
  | a, b => bif T.beq a b then .lit false else .ltI a b
theorem mkLtI_ev (ρ : Env) (a b : T) : (mkLtI a b).ev ρ = decide (a.ev ρ < b.ev ρ) := by
  unfold mkLtI; split
  · simp only [B.ev, T.ev, ilt_iff]; congr
  · cases h : T.beq a b
    · rfl
    · rw [T.beq_eq h]; simp [B.ev]
def mkNot : B → B
  | .lit b => .lit (!b)
  | .not a => a
  | a => .not a
theorem mkNot_ev (ρ : Env) (a : B) : (mkNot a).ev ρ = !(a.ev ρ) := by cases a <;> simp [mkNot, B.ev]
def mkAnd (a b : B) : B := match a, b with
  | .lit true, b => b
  | .lit false, _ => .lit false
  | a, .lit true => a
  | _, .lit false => .lit false
  | a, b => .and a b
theorem mkAnd_ev (ρ : Env) (a b : B) : (mkAnd a b).ev ρ = (a.ev ρ && b.ev ρ) := by
  unfold mkAnd; split <;> simp [B.ev]
def mkEqB (a b : B) : B := match a, b with
  | .lit true, b => b
  | .lit false, b => mkNot b
  | a, .lit true => a
  | a, .lit false => mkNot a
  | a, b => bif B.beq a b then .lit true else .eqB a b
theorem mkEqB_ev (ρ : Env) (a b : B) : (mkEqB a b).ev ρ = (a.ev ρ == b.ev ρ) := by
  unfold mkEqB; split
  · simp [B.ev]
  · simp [B.ev, mkNot_ev]
  · simp [B.ev]
  · simp [B.ev, mkNot_ev]
  · cases h : B.beq a b
    · rfl
    · rw [B.beq_eq h]; simp [B.ev]

/-! the ranges of the kinds -/
def kLo : IntKind → Int
  | .i8 => -128 | .i16 => -32768 | .i32 => -2147483648 | .i64 => -9223372036854775808 | _ => 0
def kHi : IntKind → Int
  | .i8 => 127 | .i16 => 32767 | .i32 => 2147483647 | .i64 => 9223372036854775807
  | .u8 => 255 | .u16 => 65535 | .u32 => 4294967295 | .u64 => 18446744073709551615
def inK (k : IntKind) (n : Int) : Bool := !(ilt n (kLo k)) && !(ilt (kHi k) n)
theorem inK_iff (k : IntKind) (n : Int) : inK k n = true ↔ kLo k ≤ n ∧ n ≤ kHi k := by
  simp only [inK, ilt_iff, Bool.and_eq_true, Bool.not_eq_true', decide_eq_false_iff_not]; omega
theorem wrap_eq (k : IntKind) (n : Int) : k.wrap n = (n - kLo k) % (kHi k - kLo k + 1) + kLo k := by
  cases k <;> simp [IntKind.wrap, IntKind.bits, IntKind.signed, kLo, kHi] <;> omega
theorem wrap_inK (k : IntKind) (n : Int) : inK k (k.wrap n) = true := by
  rw [inK_iff, wrap_eq]
  cases k <;> simp only [kLo, kHi, Int.reduceSub, Int.reduceAdd] <;> omega
theorem wrap_of_inK {k : IntKind} {n : Int} (h : inK k n = true) : k.wrap n = n := by
  rw [inK_iff] at h
  rw [wrap_eq]
  cases k <;> simp only [kLo, kHi, Int.reduceSub, Int.reduceAdd] at h ⊢ <;> omega

/-! what numbers a term may be -/
def oadd : Option Int → Option Int → Option Int
  | some a, some b => some (a + b)
  | _, _ => none
def osub : Option Int → Option Int → Option Int
  | some a, some b => some (a - b)
  | _, _ => none
/-- the greater lower bound -/
def omx : Option Int → Option Int → Option Int
  | some a, some b => some (bif ilt a b then b else a)
  | some a, none => some a
  | none, b => b
def omn : Option Int → Option Int → Option Int
  | some a, some b => some (bif ilt a b then a else b)
  | some a, none => some a
  | none, b => b
/-- of two of which both must be known -/
def omxB : Option Int → Option Int → Option Int
  | some a, some b => some (bif ilt a b then b else a)
  | _, _ => none
def omnB : Option Int → Option Int → Option Int
  | some a, some b => some (bif ilt a b then a else b)
  | _, _ => none
abbrev Bd := Option Int × Option Int
def Bd.ok (b : Bd) (n : Int) : Prop := (∀ x, b.1 = some x → x ≤ n) ∧ (∀ x, b.2 = some x → n ≤ x)
def notEq (n : Int) (b : Bd) : Bd :=
  ((match b.1 with | some x => (bif ibeq x n then some (n + 1) else some x) | none => none), (match b.2 with | some x => (bif ibeq x n then some (n - 1) else some x) | none => none))
def tight (t : T) : PC → Bd → Bd
  | [], b => b
  | (.ltI a (.lit n), v) :: r, b => bif T.beq a t then (bif v then tight t r (b.1, omn b.2 (some (n - 1))) else tight t r (omx b.1 (some n), b.2)) else tight t r b
  | (.ltI (.lit n) a, v) :: r, b => bif T.beq a t then (bif v then tight t r (omx b.1 (some (n + 1)), b.2) else tight t r (b.1, omn b.2 (some n))) else tight t r b
  | (.eqI a (.lit n), false) :: r, b => bif T.beq a t then tight t r (notEq n b) else tight t r b
  | _ :: r, b => tight t r b
def rngW (k : IntKind) (b : Bd) : Bd := match b with
  | (some x, some y) => bif inK k x && inK k y then (some x, some y) else (some (kLo k), some (kHi k))
  | _ => (some (kLo k), some (kHi k))
def rngRem (m : Int) (b : Bd) : Bd := bif ilt 0 m then (match b.1 with
    | some x => bif ilt x 0 then (some (1 - m), some (m - 1)) else (some 0, some (m - 1))
    | none => (some (1 - m), some (m - 1))) else (none, none)
def rngB (o : TOp) (a b : Bd) (r : T) : Bd := match o with
  | .add => (oadd a.1 b.1, oadd a.2 b.2)
  | .sub => (osub a.1 b.2, osub a.2 b.1)
  | .mx => (omxB a.1 b.1, omxB a.2 b.2)
  | .mn => (omnB a.1 b.1, omnB a.2 b.2)
  | .rem => (match r with | .lit m => rngRem m a | _ => (none, none))
  | .band k => (some (kLo k), some (kHi k))
  | .bor k => (some (kLo k), some (kHi k))
  | .bxor k => (some (kLo k), some (kHi k))
  | .bandn k => (some (kLo k), some (kHi k))
  | _ => (none, none)
def rng (pc : PC) : T → Bd
  | .lit n => (some n, some n)
  | .var n => tight (.var n) pc (none, none)
  | .cell r i f => tight (.cell r i f) pc (none, none)
  | .wrap k t => tight (.wrap k t) pc (rngW k (rng pc t))
  | .bin o a b => tight (.bin o a b) pc (rngB o (rng pc a) (rng pc b) b)
  | .ite _ a b => (match rng pc a, rng pc b with | (l1, h1), (l2, h2) => (omnB l1 l2, omxB h1 h2))
theorem Bd.none_ok (n : Int) : Bd.ok (none, none) n := ⟨fun _ h => (by cases h), fun _ h => (by cases h)⟩
theorem omx_ok {a b : Option Int} {n : Int} (ha : ∀ x, a = some x → x ≤ n) (hb : ∀ x, b = some x → x ≤ n) : ∀ x, omx a b = some x → x ≤ n := by
  intro x h
  cases a <;> cases b <;> simp only [omx, Option.some.injEq, reduceCtorEq] at h
  · exact hb x (by rw [h])
  · exact ha x (by rw [h])
  · rename_i a b
    have := ha a rfl
    have := hb b rfl
    cases hl : ilt a b <;> rw [hl] at h <;> simp at h <;> omega
theorem omn_ok {a b : Option Int} {n : Int} (ha : ∀ x, a = some x → n ≤ x) (hb : ∀ x, b = some x → n ≤ x) : ∀ x, omn a b = some x → n ≤ x := by
  intro x h
  cases a <;> cases b <;> simp only [omn, Option.some.injEq, reduceCtorEq] at h
  · exact hb x (by rw [h])
  · exact ha x (by rw [h])
  · rename_i a b
    have := ha a rfl
    have := hb b rfl
    cases hl : ilt a b <;> rw [hl] at h <;> simp at h <;> omega
theorem notEq_ok {b : Bd} {n m : Int} (hb : b.ok n) (hne : n ≠ m) : (notEq m b).ok n := by
  obtain ⟨l, u⟩ := b
  obtain ⟨h1, h2⟩ := hb
  constructor
  · intro x hx
    simp only [notEq] at hx
    split at hx
    · rename_i y
      have := h1 y rfl
      rw [ibeq_iff] at hx
      cases hy : (y == m) <;> rw [hy] at hx <;> simp at hx hy <;> omega
    · cases hx
  · intro x hx
    simp only [notEq] at hx
    split at hx
    · rename_i y
      have := h2 y rfl
      rw [ibeq_iff] at hx
      cases hy : (y == m) <;> rw [hy] at hx <;> simp at hx hy <;> omega
    · cases hx
theorem tight_ok {ρ : Env} {t : T} : ∀ {pc : PC} {b : Bd}, PcH ρ pc → b.ok (t.ev ρ) → (tight t pc b).ok (t.ev ρ) := by
  intro pc
  induction pc with
  | nil => intro b _ hb; exact hb
  | cons p r ih =>
    intro b hp hb
    unfold tight
    split
    · rename_i he; cases he
    · rename_i b' a n v r' he
      cases he
      have h0 := hp.head
      cases ht : T.beq a t
      · exact ih hp.tail hb
      · rw [T.beq_eq ht] at h0
        simp only [B.ev, T.ev] at h0
        cases v
        · have h0 := of_decide_eq_false h0
          refine ih hp.tail ⟨omx_ok hb.1 (fun x hx => ?_), hb.2⟩
          cases hx; omega
        · have h0 := of_decide_eq_true h0
          refine ih hp.tail ⟨hb.1, omn_ok hb.2 (fun x hx => ?_)⟩
          cases hx; omega
    · rename_i b' n a v r' hne he
      cases he
      have h0 := hp.head
      cases ht : T.beq a t
      · exact ih hp.tail hb
      · rw [T.beq_eq ht] at h0
        simp only [B.ev, T.ev] at h0
        cases v
        · have h0 := of_decide_eq_false h0
          refine ih hp.tail ⟨hb.1, omn_ok hb.2 (fun x hx => ?_)⟩
          cases hx; omega
        · have h0 := of_decide_eq_true h0
          refine ih hp.tail ⟨omx_ok hb.1 (fun x hx => ?_), hb.2⟩
          cases hx; omega
    · rename_i b' a n r' he
      cases he
      have h0 := hp.head
      cases ht : T.beq a t
      · exact ih hp.tail hb
      · rw [T.beq_eq ht] at h0
        simp only [B.ev, T.ev] at h0
        exact ih hp.tail (notEq_ok hb (by simpa using h0))
    · rename_i he
      cases he
      exact ih hp.tail hb
theorem rngW_ok {k : IntKind} {b : Bd} {n : Int} (hb : b.ok n) : (rngW k b).ok (k.wrap n) := by
  have hk : Bd.ok (some (kLo k), some (kHi k)) (k.wrap n) := by
    have := (inK_iff k _).1 (wrap_inK k n)
    exact ⟨fun x hx => (by cases hx; exact this.1), fun x hx => (by cases hx; exact this.2)⟩
  unfold rngW
  split
  · rename_i x y
    cases hc : inK k x && inK k y
    · exact hk
    · rw [Bool.and_eq_true] at hc
      have h1 := (inK_iff k x).1 hc.1
      have h2 := (inK_iff k y).1 hc.2
      have h3 := hb.1 x rfl
      have h4 := hb.2 y rfl
      have h5 : k.wrap n = n := wrap_of_inK ((inK_iff k n).2 ⟨by omega, by omega⟩)
      rw [h5]
      exact hb
  · exact hk
theorem rngRem_ok {m : Int} {b : Bd} {n : Int} (hb : b.ok n) : (rngRem m b).ok (n.tmod m) := by
  unfold rngRem
  rw [ilt_iff]
  cases hm : decide (0 < m)
  · exact Bd.none_ok _
  · have hm := of_decide_eq_true hm
    have hlt := Int.tmod_lt_of_pos n hm
    have hgt : -m < n.tmod m := Int.lt_tmod_of_pos n hm
    have wide : Bd.ok (some (1 - m), some (m - 1)) (n.tmod m) := ⟨fun x hx => (by cases hx; omega), fun x hx => (by cases hx; omega)⟩
    simp only [cond_true]
    split
    · rename_i x hx
      rw [ilt_iff]
      cases hn : decide (x < 0)
      · have hn := of_decide_eq_false hn
        have h0 := hb.1 x hx
        have := Int.tmod_nonneg m (a := n) (by omega)
        exact ⟨fun y hy => (by cases hy; exact this), fun y hy => (by cases hy; omega)⟩
      · exact wide
    · exact wide
theorem band_ok (k : IntKind) (n : Int) : Bd.ok (some (kLo k), some (kHi k)) (k.wrap n) := by
  have := (inK_iff k _).1 (wrap_inK k n)
  exact ⟨fun x hx => (by cases hx; exact this.1), fun x hx => (by cases hx; exact this.2)⟩
theorem rngB_ok {o : TOp} {a b : Bd} {x y : Int} {r : T} {ρ : Env} (ha : a.ok x) (hb : b.ok y) (hr : r.ev ρ = y) : (rngB o a b r).ok (o.ev x y) := by
  obtain ⟨a1, a2⟩ := a
  obtain ⟨b1, b2⟩ := b
  obtain ⟨ha1, ha2⟩ := ha
  obtain ⟨hb1, hb2⟩ := hb
  simp only at ha1 ha2 hb1 hb2
  cases o <;> simp only [rngB] <;> first | exact Bd.none_ok _ | exact band_ok _ _ | skip
  case add =>
    constructor
    · intro z hz
      cases a1 <;> cases b1 <;> simp [oadd] at hz
      rename_i p q; have := ha1 p rfl; have := hb1 q rfl; simp only [TOp.ev]; omega
    · intro z hz
      cases a2 <;> cases b2 <;> simp [oadd] at hz
      rename_i p q; have := ha2 p rfl; have := hb2 q rfl; simp only [TOp.ev]; omega
  case sub =>
    constructor
    · intro z hz
      cases a1 <;> cases b2 <;> simp [osub] at hz
      rename_i p q; have := ha1 p rfl; have := hb2 q rfl; simp only [TOp.ev]; omega
    · intro z hz
      cases a2 <;> cases b1 <;> simp [osub] at hz
      rename_i p q; have := ha2 p rfl; have := hb1 q rfl; simp only [TOp.ev]; omega
  case mx =>
    constructor
    · intro z hz
      cases a1 <;> cases b1 <;> simp only [omxB, Option.some.injEq, reduceCtorEq] at hz
      rename_i p q; have := ha1 p rfl; have := hb1 q rfl
      simp only [TOp.ev]
      cases hl : ilt p q <;> rw [hl] at hz <;> simp at hz <;> split <;> omega
    · intro z hz
      cases a2 <;> cases b2 <;> simp only [omxB, Option.some.injEq, reduceCtorEq] at hz
      rename_i p q; have := ha2 p rfl; have := hb2 q rfl
      simp only [TOp.ev]
      rw [ilt_iff] at hz
      cases hl : decide (p < q) <;> rw [hl] at hz <;> simp at hz hl <;> split <;> omega
  case mn =>
    constructor
    · intro z hz
      cases a1 <;> cases b1 <;> simp only [omnB, Option.some.injEq, reduceCtorEq] at hz
      rename_i p q; have := ha1 p rfl; have := hb1 q rfl
      simp only [TOp.ev]
      rw [ilt_iff] at hz
      cases hl : decide (p < q) <;> rw [hl] at hz <;> simp at hz hl <;> split <;> omega
    · intro z hz
      cases a2 <;> cases b2 <;> simp only [omnB, Option.some.injEq, reduceCtorEq] at hz
      rename_i p q; have := ha2 p rfl; have := hb2 q rfl
      simp only [TOp.ev]
      rw [ilt_iff] at hz
      cases hl : decide (p < q) <;> rw [hl] at hz <;> simp at hz hl <;> split <;> omega
  case rem =>
    split
    · rename_i m
      simp only [T.ev] at hr
      subst hr
      exact rngRem_ok ⟨ha1, ha2⟩
    · exact Bd.none_ok _
theorem Bd.ite_ok {a b : Bd} {x y : Int} (c : Bool) (ha : a.ok x) (hb : b.ok y) : Bd.ok (omnB a.1 b.1, omxB a.2 b.2) (bif c then x else y) := by
  obtain ⟨a1, a2⟩ := a
  obtain ⟨b1, b2⟩ := b
  obtain ⟨ha1, ha2⟩ := ha
  obtain ⟨hb1, hb2⟩ := hb
  simp only at ha1 ha2 hb1 hb2
  constructor
  · intro z hz
    cases a1 <;> cases b1 <;> simp only [omnB, Option.some.injEq, reduceCtorEq] at hz
    rename_i p q; have := ha1 p rfl; have := hb1 q rfl
    rw [ilt_iff] at hz
    cases hl : decide (p < q) <;> rw [hl] at hz <;> simp at hz hl <;> cases c <;> simp only [cond_true, cond_false] <;> omega
  · intro z hz
    cases a2 <;> cases b2 <;> simp only [omxB, Option.some.injEq, reduceCtorEq] at hz
    rename_i p q; have := ha2 p rfl; have := hb2 q rfl
    rw [ilt_iff] at hz
    cases hl : decide (p < q) <;> rw [hl] at hz <;> simp at hz hl <;> cases c <;> simp only [cond_true, cond_false] <;> omega
theorem rng_ok {ρ : Env} {pc : PC} (h : PcH ρ pc) : ∀ t : T, (rng pc t).ok (t.ev ρ)
  | .lit n => ⟨fun x hx => (by cases hx; exact Int.le_refl _), fun x hx => (by cases hx; exact Int.le_refl _)⟩
  | .var n => tight_ok h (Bd.none_ok _)
  | .cell r i f => tight_ok h (Bd.none_ok _)
  | .wrap k t => tight_ok h (rngW_ok (rng_ok h t))
  | .bin o a b => tight_ok h (rngB_ok (rng_ok h a) (rng_ok h b) rfl)
  | .ite c a b => Bd.ite_ok (B.ev ρ c) (rng_ok h a) (rng_ok h b)
def oltB : Option Int → Option Int → Bool
  | some a, some b => ilt a b
  | _, _ => false
def oleB : Option Int → Option Int → Bool
  | some a, some b => !(ilt b a)
  | _, _ => false
def knownR (pc : PC) (b : B) : B := match b with
  | .ltI x y => (match rng pc x, rng pc y with
    | (l1, h1), (l2, h2) => bif oltB h1 l2 then .lit true else bif oleB h2 l1 then .lit false else .ltI x y)
  | .eqI x y => (match rng pc x, rng pc y with
    | (l1, h1), (l2, h2) => bif oltB h1 l2 || oltB h2 l1 then .lit false else bif oleB h1 l2 && oleB h2 l1 && oleB h1 l1 && oleB h2 l2 then .lit true else .eqI x y)
  | b => b
theorem oltB_ok {a b : Option Int} (h : oltB a b = true) : ∃ x y, a = some x ∧ b = some y ∧ x < y := by
  cases a <;> cases b <;> simp only [oltB, Bool.false_eq_true] at h
  rw [ilt_iff] at h
  exact ⟨_, _, rfl, rfl, of_decide_eq_true h⟩
theorem oleB_ok {a b : Option Int} (h : oleB a b = true) : ∃ x y, a = some x ∧ b = some y ∧ x ≤ y := by
  cases a <;> cases b <;> simp only [oleB, Bool.false_eq_true] at h
  rw [ilt_iff] at h
  refine ⟨_, _, rfl, rfl, ?_⟩
  simp at h; omega
theorem knownR_ev {ρ : Env} {pc : PC} (h : PcH ρ pc) (b : B) : (knownR pc b).ev ρ = b.ev ρ := by
  unfold knownR
  split
  · rename_i x y
    have hx := rng_ok h x
    have hy := rng_ok h y
    generalize rng pc x = bx at hx
    generalize rng pc y = byy at hy
    obtain ⟨l1, h1⟩ := bx
    obtain ⟨l2, h2⟩ := byy
    dsimp only
    cases ha : oltB h1 l2
    · cases hb : oleB h2 l1
      · rfl
      · obtain ⟨p, q, rfl, rfl, hpq⟩ := oleB_ok hb
        have := hy.2 p rfl
        have := hx.1 q rfl
        simp only [cond_false, cond_true, B.ev]
        exact (decide_eq_false (by omega)).symm
    · obtain ⟨p, q, rfl, rfl, hpq⟩ := oltB_ok ha
      have := hx.2 p rfl
      have := hy.1 q rfl
      simp only [cond_true, B.ev]
      exact (decide_eq_true (by omega)).symm
  · rename_i x y
    have hx := rng_ok h x
    have hy := rng_ok h y
    generalize rng pc x = bx at hx
    generalize rng pc y = byy at hy
    obtain ⟨l1, h1⟩ := bx
    obtain ⟨l2, h2⟩ := byy
    dsimp only
    cases ha : oltB h1 l2 || oltB h2 l1
    · cases hb : oleB h1 l2 && oleB h2 l1 && oleB h1 l1 && oleB h2 l2
      · rfl
      · simp only [Bool.and_eq_true] at hb
        obtain ⟨⟨⟨b1, b2⟩, b3⟩, b4⟩ := hb
        obtain ⟨p, q, rfl, rfl, hpq⟩ := oleB_ok b1
        obtain ⟨r, s, rfl, rfl, hrs⟩ := oleB_ok b2
        obtain ⟨_, _, hu, hv, h3⟩ := oleB_ok b3
        obtain ⟨_, _, hu', hv', h4⟩ := oleB_ok b4
        cases hu; cases hv; cases hu'; cases hv'
        have := hx.1 _ rfl
        have := hx.2 _ rfl
        have := hy.1 _ rfl
        have := hy.2 _ rfl
        simp only [cond_false, cond_true, B.ev]
        have : x.ev ρ = y.ev ρ := by omega
        rw [this]; simp
    · have hne : x.ev ρ ≠ y.ev ρ := by
        rw [Bool.or_eq_true] at ha
        rcases ha with ha | ha
        · obtain ⟨p, q, rfl, rfl, hpq⟩ := oltB_ok ha
          have := hx.2 p rfl
          have := hy.1 q rfl
          omega
        · obtain ⟨p, q, rfl, rfl, hpq⟩ := oltB_ok ha
          have := hy.2 p rfl
          have := hx.1 q rfl
          omega
      simp only [cond_true, B.ev]
      exact (beq_eq_false_iff_ne.2 hne).symm
  · rfl

def mkIte (c : B) (a b : T) : T := match c with
  | .lit true => a
  | .lit false => b
  | c => bif T.beq a b then a else .ite c a b
theorem mkIte_ev (ρ : Env) (c : B) (a b : T) : (mkIte c a b).ev ρ = bif c.ev ρ then a.ev ρ else b.ev ρ := by
  unfold mkIte; split
  · simp [B.ev]
  · simp [B.ev]
  · cases h : T.beq a b
    · rfl
    · rw [T.beq_eq h]; simp
def mkOr (a b : B) : B := mkNot (mkAnd (mkNot a) (mkNot b))
theorem mkOr_ev (ρ : Env) (a b : B) : (mkOr a b).ev ρ = (a.ev ρ || b.ev ρ) := by
  simp only [mkOr, mkNot_ev, mkAnd_ev]; cases a.ev ρ <;> cases b.ev ρ <;> rfl
def mkIteB (c a b : B) : B := match c, a, b with
  | .lit true, a, _ => a
  | .lit false, _, b => b
  | c, .lit true, b => mkOr c b
  | c, .lit false, b => mkAnd (mkNot c) b
  | c, a, .lit true => mkOr (mkNot c) a
  | c, a, .lit false => mkAnd c a
  | c, a, b => bif B.beq a b then a else mkOr (mkAnd c a) (mkAnd (mkNot c) b)
theorem mkIteB_ev (ρ : Env) (c a b : B) : (mkIteB c a b).ev ρ = bif c.ev ρ then a.ev ρ else b.ev ρ := by
  unfold mkIteB; split
  · simp [B.ev]
  · simp [B.ev]
  · simp only [mkOr_ev, B.ev]; cases c.ev ρ <;> simp
  · simp only [mkAnd_ev, mkNot_ev, B.ev]; cases c.ev ρ <;> simp
  · simp only [mkOr_ev, mkNot_ev, B.ev]; cases c.ev ρ <;> simp
  · simp only [mkAnd_ev, B.ev]; cases c.ev ρ <;> simp
  · cases h : B.beq a b
    · simp only [cond_false, mkOr_ev, mkAnd_ev, mkNot_ev]; cases c.ev ρ <;> simp
    · rw [B.beq_eq h]; simp
def mkAll (k : Nat) (len : T) (b : B) : B := match b with
  | .lit true => .lit true
  | b => .all k len b
theorem mkAll_ev (ρ : Env) (k : Nat) (len : T) (b : B) : (mkAll k len b).ev ρ = (B.all k len b).ev ρ := by
  unfold mkAll; split
  · simp [B.ev]
  · rfl

/-- an atom under what is known -/
def known (pc : PC) (b : B) : B := match b with
  | .lit v => .lit v
  | .not a => (match lookB a pc with | some v => .lit (!v) | none => .not a)
  | b => (match lookB b pc with | some v => .lit v | none => b)
theorem known_ev {ρ : Env} {pc : PC} (h : PcH ρ pc) (b : B) : (known pc b).ev ρ = b.ev ρ := by
  unfold known
  split
  · rfl
  · rename_i a
    split
    · rename_i v hv; simp [B.ev, lookB_ok h hv]
    · rfl
  · split
    · rename_i v hv; exact (lookB_ok h hv).symm
    · rfl
mutual
/-- a term under what is known -/
def simpT (pc : PC) : T → T
  | .lit n => .lit n
  | .wrap k t => mkWrap k (simpT pc t)
  | .bin o a b => mkBin o (simpT pc a) (simpT pc b)
  | .var n => match lookT (.var n) pc with | some x => .lit x | none => .var n
  | .cell r i f => match lookT (.cell r i f) pc with | some x => .lit x | none => .cell r i f
  | .ite c a b => mkIte (simpB pc c) (simpT pc a) (simpT pc b)
def simpB (pc : PC) : B → B
  | .lit b => .lit b
  | .var n => known pc (.var n)
  | .cell r i f => known pc (.cell r i f)
  | .eqI a b => knownR pc (known pc (mkEqI (simpT pc a) (simpT pc b)))
  | .ltI a b => knownR pc (known pc (mkLtI (simpT pc a) (simpT pc b)))
  | .eqB a b => known pc (mkEqB (simpB pc a) (simpB pc b))
  | .not a => mkNot (simpB pc a)
  | .and a b => known pc (mkAnd (simpB pc a) (simpB pc b))
  | .all k len b => known pc (mkAll k len b)
end
mutual
theorem simpT_ev {ρ : Env} {pc : PC} (h : PcH ρ pc) : ∀ t : T, (simpT pc t).ev ρ = t.ev ρ
  | .lit n => rfl
  | .var n => by
    simp only [simpT]
    cases hl : lookT (.var n) pc with
    | none => rfl
    | some x => exact (lookT_ok h hl).symm
  | .cell r i f => by
    simp only [simpT]
    cases hl : lookT (.cell r i f) pc with
    | none => rfl
    | some x => exact (lookT_ok h hl).symm
  | .wrap k t => by simp only [simpT, mkWrap_ev, simpT_ev h t, T.ev]
  | .bin o a b => by simp only [simpT, mkBin_ev, simpT_ev h a, simpT_ev h b, T.ev]
  | .ite c a b => by simp only [simpT, mkIte_ev, simpB_ev h c, simpT_ev h a, simpT_ev h b, T.ev]
theorem simpB_ev {ρ : Env} {pc : PC} (h : PcH ρ pc) : ∀ b : B, (simpB pc b).ev ρ = b.ev ρ
  | .lit b => rfl
  | .var n => known_ev h _
  | .cell r i f => known_ev h _
  | .eqI a b => by simp only [simpB, knownR_ev h, known_ev h, mkEqI_ev, simpT_ev h a, simpT_ev h b, B.ev]
  | .ltI a b => by simp only [simpB, knownR_ev h, known_ev h, mkLtI_ev, simpT_ev h a, simpT_ev h b, B.ev]
  | .eqB a b => by simp only [simpB, known_ev h, mkEqB_ev, simpB_ev h a, simpB_ev h b, B.ev]
  | .not a => by simp only [simpB, mkNot_ev, simpB_ev h a, B.ev]
  | .and a b => by simp only [simpB, known_ev h, mkAnd_ev, simpB_ev h a, simpB_ev h b, B.ev]
  | .all k len b => by simp only [simpB, known_ev h, mkAll_ev]
end

/-! what to ask first -/
mutual
def atomT : T → Option B
  | .ite c _ _ => some (atomB c)
  | .wrap _ t => atomT t
  | .bin _ a b => (match atomT a with | some c => some c | none => atomT b)
  | _ => none
def atomB : B → B
  | .not a => atomB a
  | .and a _ => atomB a
  | .eqB a _ => atomB a
  | .eqI a b => (match atomT a with | some c => c | none => (match atomT b with | some c => c | none => .eqI a b))
  | .ltI a b => (match atomT a with | some c => c | none => (match atomT b with | some c => c | none => .ltI a b))
  | b => b
end
/-- one more thing that is known -/
def addPc : B → Bool → PC → PC
  | .not a, v, pc => addPc a (!v) pc
  | .and a b, true, pc => addPc a true (addPc b true pc)
  | b, v, pc => (b, v) :: pc
theorem addPc_ok {ρ : Env} : ∀ (b : B) (v : Bool) {pc : PC}, b.ev ρ = v → PcH ρ pc → PcH ρ (addPc b v pc)
  | .not a, v, pc, hb, hp => by
    unfold addPc
    exact addPc_ok a (!v) (by simp [B.ev] at hb; simp [← hb]) hp
  | .and a b, true, pc, hb, hp => by
    unfold addPc
    simp [B.ev] at hb
    exact addPc_ok a true hb.1 (addPc_ok b true hb.2 hp)
  | .and a b, false, pc, hb, hp => by unfold addPc; exact hp.cons hb
  | .lit _, v, pc, hb, hp => by unfold addPc; exact hp.cons hb
  | .var _, v, pc, hb, hp => by unfold addPc; exact hp.cons hb
  | .cell _ _ _, v, pc, hb, hp => by unfold addPc; exact hp.cons hb
  | .eqI _ _, v, pc, hb, hp => by unfold addPc; exact hp.cons hb
  | .ltI _ _, v, pc, hb, hp => by unfold addPc; exact hp.cons hb
  | .eqB _ _, v, pc, hb, hp => by unfold addPc; exact hp.cons hb
  | .all _ _ _, v, pc, hb, hp => by unfold addPc; exact hp.cons hb
/-- two that are one but at the variable k, and at the rows and truths of the number q -/
structure Agree (k q : Nat) (ρ σ : Env) : Prop where
  v : ∀ n, n ≠ k → ρ.v n = σ.v n
  c : ∀ r, r ≠ q → ρ.c r = σ.c r
  bv : ∀ n, n ≠ q → ρ.bv n = σ.bv n
  bc : ∀ r, r ≠ q → ρ.bc r = σ.bc r
theorem Agree.refl (k q : Nat) (ρ : Env) : Agree k q ρ ρ := ⟨fun _ _ => rfl, fun _ _ => rfl, fun _ _ => rfl, fun _ _ => rfl⟩
theorem Agree.symm {k q : Nat} {ρ σ : Env} (h : Agree k q ρ σ) : Agree k q σ ρ := ⟨fun n hn => (h.v n hn).symm, fun n hn => (h.c n hn).symm, fun n hn => (h.bv n hn).symm, fun n hn => (h.bc n hn).symm⟩
theorem Agree.trans {k q : Nat} {ρ σ τ : Env} (h : Agree k q ρ σ) (g : Agree k q σ τ) : Agree k q ρ τ :=
  ⟨fun n hn => (h.v n hn).trans (g.v n hn), fun n hn => (h.c n hn).trans (g.c n hn), fun n hn => (h.bv n hn).trans (g.bv n hn), fun n hn => (h.bc n hn).trans (g.bc n hn)⟩
theorem Agree.at {k q : Nat} {ρ σ : Env} (h : Agree k q ρ σ) (m : Nat) (j : Int) : Agree k q (ρ.at m j) (σ.at m j) :=
  ⟨fun n hn => (by
    simp only [Env.at]
    split
    · rfl
    · exact h.v n hn), h.c, h.bv, h.bc⟩
theorem Agree.at_self {k q : Nat} {ρ σ : Env} (h : Agree k q ρ σ) (k' : Nat) (j : Int) : Agree k' q (ρ.at k j) (σ.at k j) :=
  ⟨fun n _ => (by
    simp only [Env.at]
    split
    · rfl
    · rename_i hn; exact h.v n hn), h.c, h.bv, h.bc⟩
/-- the variable's own value, and all of the number's -/
def Env.snap (ρ : Env) (k q : Nat) (j : Int) (C : Int → Nat → Int) (BC : Int → Nat → Bool) (b : Bool) : Env where
  v n := if n = k then j else ρ.v n
  c r i f := if r = q then C i f else ρ.c r i f
  bv n := if n = q then b else ρ.bv n
  bc r i f := if r = q then BC i f else ρ.bc r i f
theorem Env.snap_agree (ρ : Env) (k q : Nat) (j : Int) (C : Int → Nat → Int) (BC : Int → Nat → Bool) (b : Bool) : Agree k q ρ (ρ.snap k q j C BC b) :=
  ⟨fun n hn => by simp [Env.snap, hn], fun n hn => by funext i f; simp [Env.snap, hn], fun n hn => by simp [Env.snap, hn], fun n hn => by funext i f; simp [Env.snap, hn]⟩
def neB (a b : Nat) : Bool := !(Nat.beq a b)
theorem neB_ok {a b : Nat} (h : neB a b = true) : a ≠ b := fun e => by
  subst e; simp [neB] at h
def noN : Nat := 1000000007
mutual
def frT (k q : Nat) : T → Bool
  | .lit _ => true
  | .var n => neB n k
  | .cell r i _ => neB r q && frT k q i
  | .wrap _ t => frT k q t
  | .bin _ a b => frT k q a && frT k q b
  | .ite c a b => frB k q c && frT k q a && frT k q b
def frB (k q : Nat) : B → Bool
  | .lit _ => true
  | .var n => neB n q
  | .cell r i _ => neB r q && frT k q i
  | .eqI a b => frT k q a && frT k q b
  | .ltI a b => frT k q a && frT k q b
  | .eqB a b => frB k q a && frB k q b
  | .not a => frB k q a
  | .and a b => frB k q a && frB k q b
  | .all m l b => frT k q l && (bif Nat.beq m k then frB noN q b else frB k q b)
end
mutual
theorem frT_ev {q : Nat} : ∀ {k : Nat} {t : T} {ρ σ : Env}, frT k q t = true → Agree k q ρ σ → t.ev ρ = t.ev σ
  | _, .lit _, _, _, _, _ => rfl
  | _, .var n, _, _, h, g => g.v n (neB_ok h)
  | _, .cell r i f, ρ, σ, h, g => by
    simp only [frT, Bool.and_eq_true] at h
    simp only [T.ev]
    rw [frT_ev h.2 g, g.c r (neB_ok h.1)]
  | _, .wrap k' t, ρ, σ, h, g => by simp only [T.ev]; rw [frT_ev (t := t) (by simpa [frT] using h) g]
  | _, .bin o a b, ρ, σ, h, g => by
    simp only [frT, Bool.and_eq_true] at h
    simp only [T.ev]; rw [frT_ev h.1 g, frT_ev h.2 g]
  | _, .ite c a b, ρ, σ, h, g => by
    simp only [frT, Bool.and_eq_true] at h
    simp only [T.ev]; rw [frB_ev h.1.1 g, frT_ev h.1.2 g, frT_ev h.2 g]
theorem frB_ev {q : Nat} : ∀ {k : Nat} {b : B} {ρ σ : Env}, frB k q b = true → Agree k q ρ σ → b.ev ρ = b.ev σ
  | _, .lit _, _, _, _, _ => rfl
  | _, .var n, _, _, h, g => g.bv n (neB_ok h)
  | _, .cell r i f, ρ, σ, h, g => by
    simp only [frB, Bool.and_eq_true] at h
    simp only [B.ev]
    rw [frT_ev h.2 g, g.bc r (neB_ok h.1)]
  | _, .eqI a b, ρ, σ, h, g => by
    simp only [frB, Bool.and_eq_true] at h
    simp only [B.ev]; rw [frT_ev h.1 g, frT_ev h.2 g]
  | _, .ltI a b, ρ, σ, h, g => by
    simp only [frB, Bool.and_eq_true] at h
    simp only [B.ev]; rw [frT_ev h.1 g, frT_ev h.2 g]
  | _, .eqB a b, ρ, σ, h, g => by
    simp only [frB, Bool.and_eq_true] at h
    simp only [B.ev]; rw [frB_ev h.1 g, frB_ev h.2 g]
  | _, .not a, ρ, σ, h, g => by simp only [B.ev]; rw [frB_ev (b := a) (by simpa [frB] using h) g]
  | _, .and a b, ρ, σ, h, g => by
    simp only [frB, Bool.and_eq_true] at h
    simp only [B.ev]; rw [frB_ev h.1 g, frB_ev h.2 g]
  | k, .all m l b, ρ, σ, h, g => by
    simp only [frB, Bool.and_eq_true] at h
    simp only [B.ev]
    rw [frT_ev h.1 g]
    congr 1
    funext j
    have h2 := h.2
    cases hm : Nat.beq m k
    · rw [hm] at h2; exact frB_ev h2 (g.at m j)
    · rw [hm] at h2
      have := Nat.eq_of_beq_eq_true hm
      subst this
      exact frB_ev h2 (g.at_self noN j)
end

/-! a term put in a variable's place, in every row's stead -/
mutual
def instT (k : Nat) (i : T) : T → T
  | .lit n => .lit n
  | .var n => bif Nat.beq n k then i else .var n
  | .cell r x f => .cell r (instT k i x) f
  | .wrap q t => mkWrap q (instT k i t)
  | .bin o a b => mkBin o (instT k i a) (instT k i b)
  | .ite c a b => mkIte (instB k i c) (instT k i a) (instT k i b)
def instB (k : Nat) (i : T) : B → B
  | .lit b => .lit b
  | .var n => .var n
  | .cell r x f => .cell r (instT k i x) f
  | .eqI a b => mkEqI (instT k i a) (instT k i b)
  | .ltI a b => mkLtI (instT k i a) (instT k i b)
  | .eqB a b => mkEqB (instB k i a) (instB k i b)
  | .not a => mkNot (instB k i a)
  | .and a b => mkAnd (instB k i a) (instB k i b)
  | .all m l b => .all m l b
end
mutual
/-- under a binder the variable does not stand -/
def okT (k : Nat) : T → Bool
  | .lit _ => true
  | .var _ => true
  | .cell _ x _ => okT k x
  | .wrap _ t => okT k t
  | .bin _ a b => okT k a && okT k b
  | .ite c a b => okB k c && okT k a && okT k b
def okB (k : Nat) : B → Bool
  | .lit _ => true
  | .var _ => true
  | .cell _ x _ => okT k x
  | .eqI a b => okT k a && okT k b
  | .ltI a b => okT k a && okT k b
  | .eqB a b => okB k a && okB k b
  | .not a => okB k a
  | .and a b => okB k a && okB k b
  | .all m l b => frB k noN (.all m l b)
end
theorem Env.at_agree (ρ : Env) (k q : Nat) (j : Int) : Agree k q ρ (ρ.at k j) :=
  ⟨fun n hn => by simp [Env.at, hn], fun _ _ => rfl, fun _ _ => rfl, fun _ _ => rfl⟩
mutual
theorem instT_ev {k : Nat} {i : T} {ρ : Env} : ∀ {t : T}, okT k t = true → (instT k i t).ev ρ = t.ev (ρ.at k (i.ev ρ))
  | .lit _, _ => rfl
  | .var n, _ => by
    simp only [instT, T.ev, Env.at]
    cases hb : Nat.beq n k
    · rw [if_neg (fun e => by rw [e] at hb; simp at hb)]; rfl
    · rw [if_pos (Nat.eq_of_beq_eq_true hb)]; rfl
  | .cell r x f, h => by simp only [instT, T.ev]; rw [instT_ev (t := x) (by simpa [okT] using h)]; rfl
  | .wrap q t, h => by simp only [instT, mkWrap_ev, T.ev]; rw [instT_ev (t := t) (by simpa [okT] using h)]
  | .bin o a b, h => by
    simp only [okT, Bool.and_eq_true] at h
    simp only [instT, mkBin_ev, T.ev]; rw [instT_ev h.1, instT_ev h.2]
  | .ite c a b, h => by
    simp only [okT, Bool.and_eq_true] at h
    simp only [instT, mkIte_ev, T.ev]; rw [instB_ev h.1.1, instT_ev h.1.2, instT_ev h.2]
theorem instB_ev {k : Nat} {i : T} {ρ : Env} : ∀ {b : B}, okB k b = true → (instB k i b).ev ρ = b.ev (ρ.at k (i.ev ρ))
  | .lit _, _ => rfl
  | .var n, _ => rfl
  | .cell r x f, h => by simp only [instB, B.ev]; rw [instT_ev (t := x) (by simpa [okB] using h)]; rfl
  | .eqI a b, h => by
    simp only [okB, Bool.and_eq_true] at h
    simp only [instB, mkEqI_ev, B.ev]; rw [instT_ev h.1, instT_ev h.2]
  | .ltI a b, h => by
    simp only [okB, Bool.and_eq_true] at h
    simp only [instB, mkLtI_ev, B.ev]; rw [instT_ev h.1, instT_ev h.2]
  | .eqB a b, h => by
    simp only [okB, Bool.and_eq_true] at h
    simp only [instB, mkEqB_ev, B.ev]; rw [instB_ev h.1, instB_ev h.2]
  | .not a, h => by simp only [instB, mkNot_ev, B.ev]; rw [instB_ev (b := a) (by simpa [okB] using h)]
  | .and a b, h => by
    simp only [okB, Bool.and_eq_true] at h
    simp only [instB, mkAnd_ev, B.ev]; rw [instB_ev h.1, instB_ev h.2]
  | .all m l b, h => frB_ev (b := .all m l b) (by simpa only [okB] using h) (Env.at_agree ρ k noN _)
end
end Go.SX
