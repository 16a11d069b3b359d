/- SX, part 1: integer and bool terms, what they are worth, and a simplifier under known facts. -/
import GoSem.Core.View
import Derived.Laws.Bits64
import Derived.Laws.BitsLemmas
import Derived.Laws.BitsAllLaws
namespace Go.SX

/-- operators on integers, unbounded -/
inductive TOp where
  | add | sub | mul | quo | rem | shl (bits : Nat) | shr (bits : Nat) | mx | mn
  | band (k : IntKind) | bor (k : IntKind) | bxor (k : IntKind) | bandn (k : IntKind)

def TOp.ev : TOp → Int → Int → Int
  | .add, x, y => x + y
  | .sub, x, y => x - y
  | .mul, x, y => x * y
  | .quo, x, y => x.tdiv y
  | .rem, x, y => x.tmod y
  | .shl b, x, y => x * 2 ^ (min y.toNat b)
  | .shr b, x, y => x.fdiv (2 ^ (min y.toNat b))
  | .mx, x, y => if y > x then y else x
  | .mn, x, y => if y < x then y else x
  | .band k, x, y => k.wrap ((BitVec.ofInt k.bits x &&& BitVec.ofInt k.bits y).toNat)
  | .bor k, x, y => k.wrap ((BitVec.ofInt k.bits x ||| BitVec.ofInt k.bits y).toNat)
  | .bxor k, x, y => k.wrap ((BitVec.ofInt k.bits x ^^^ BitVec.ofInt k.bits y).toNat)
  | .bandn k, x, y => k.wrap ((BitVec.ofInt k.bits x &&& ~~~BitVec.ofInt k.bits y).toNat)

inductive T where
  | lit (n : Int)
  | var (n : Nat)
  | cell (r : Nat) (i : T) (f : Nat)
  | wrap (k : IntKind) (t : T)
  | bin (o : TOp) (a b : T)

inductive B where
  | lit (b : Bool)
  | var (n : Nat)
  | cell (r : Nat) (i : T) (f : Nat)
  | eqI (a b : T)
  | ltI (a b : T)
  | eqB (a b : B)
  | not (a : B)
  | and (a b : B)

/-- what the variables and the unknown rows' cells are worth -/
structure Env where
  v : Nat → Int
  c : Nat → Int → Nat → Int
  bv : Nat → Bool
  bc : Nat → Int → Nat → Bool

def T.ev (ρ : Env) : T → Int
  | .lit n => n
  | .var n => ρ.v n
  | .cell r i f => ρ.c r (i.ev ρ) f
  | .wrap k t => k.wrap (t.ev ρ)
  | .bin o a b => o.ev (a.ev ρ) (b.ev ρ)

def B.ev (ρ : Env) : B → Bool
  | .lit b => b
  | .var n => ρ.bv n
  | .cell r i f => ρ.bc r (i.ev ρ) f
  | .eqI a b => a.ev ρ == b.ev ρ
  | .ltI a b => decide (a.ev ρ < b.ev ρ)
  | .eqB a b => a.ev ρ == b.ev ρ
  | .not a => !(a.ev ρ)
  | .and a b => a.ev ρ && b.ev ρ

/-! equality by structure -/
def kindNo : IntKind → Nat
  | .i8 => 0 | .i16 => 1 | .i32 => 2 | .i64 => 3 | .u8 => 4 | .u16 => 5 | .u32 => 6 | .u64 => 7
theorem kindNo_inj {a b : IntKind} (h : Nat.beq (kindNo a) (kindNo b) = true) : a = b := by
  cases a <;> cases b <;> first | rfl | (simp [kindNo] at h)
def ibeq : Int → Int → Bool
  | .ofNat a, .ofNat b => Nat.beq a b
  | .negSucc a, .negSucc b => Nat.beq a b
  | _, _ => false
theorem ibeq_iff (a b : Int) : ibeq a b = (a == b) := by
  rw [Bool.eq_iff_iff]
  cases a with
  | ofNat a => cases b with
    | ofNat b => simp only [ibeq, Nat.beq_eq, beq_iff_eq, Int.ofNat.injEq]
    | negSucc b => simp [ibeq]
  | negSucc a => cases b with
    | ofNat b => simp [ibeq]
    | negSucc b => simp only [ibeq, Nat.beq_eq, beq_iff_eq, Int.negSucc.injEq]
theorem ibeq_eq {a b : Int} (h : ibeq a b = true) : a = b := by
  rw [ibeq_iff] at h; exact beq_iff_eq.1 h
def ilt (a b : Int) : Bool := match a, b with
  | .ofNat a, .ofNat b => Nat.blt a b
  | .negSucc _, .ofNat _ => true
  | .ofNat _, .negSucc _ => false
  | .negSucc a, .negSucc b => Nat.blt b a
theorem ilt_iff (a b : Int) : ilt a b = decide (a < b) := by
  cases a <;> cases b <;> unfold ilt Nat.blt <;> apply Bool.eq_iff_iff.2 <;> simp only [Nat.ble_eq, decide_eq_true_eq, Bool.false_eq_true, true_iff, false_iff, Int.ofNat_eq_natCast] <;> omega
def TOp.beq : TOp → TOp → Bool
  | .add, .add | .sub, .sub | .mul, .mul | .quo, .quo | .rem, .rem | .mx, .mx | .mn, .mn => true
  | .shl a, .shl b | .shr a, .shr b => Nat.beq a b
  | .band a, .band b | .bor a, .bor b | .bxor a, .bxor b | .bandn a, .bandn b => Nat.beq (kindNo a) (kindNo b)
  | _, _ => false
theorem TOp.beq_eq {a b : TOp} (h : TOp.beq a b = true) : a = b := by
  cases a <;> cases b <;> first | rfl | (simp [TOp.beq] at h; done) | exact congrArg _ (Nat.eq_of_beq_eq_true h) | exact congrArg _ (kindNo_inj h)
def T.beq : T → T → Bool
  | .lit a, .lit b => ibeq a b
  | .var a, .var b => Nat.beq a b
  | .cell r i f, .cell s j g => Nat.beq f g && Nat.beq r s && T.beq i j
  | .wrap k a, .wrap l b => Nat.beq (kindNo k) (kindNo l) && T.beq a b
  | .bin o a b, .bin p c d => TOp.beq o p && T.beq a c && T.beq b d
  | _, _ => false
theorem T.beq_eq : ∀ {a b : T}, T.beq a b = true → a = b := by
  intro a
  induction a with
  | lit n => intro b h; cases b <;> simp only [T.beq, Bool.false_eq_true] at h; exact congrArg T.lit (ibeq_eq h)
  | var n => intro b h; cases b <;> simp [T.beq] at h; rw [h]
  | cell r i f ih => intro b h; cases b <;> simp [T.beq] at h; rw [h.1.1, h.1.2, ih h.2]
  | wrap k t ih => intro b h; cases b <;> simp only [T.beq, Bool.false_eq_true, Bool.and_eq_true] at h; rw [kindNo_inj h.1, ih h.2]
  | bin o x y ih1 ih2 => intro b h; cases b <;> simp [T.beq] at h; rw [TOp.beq_eq h.1.1, ih1 h.1.2, ih2 h.2]
def B.beq : B → B → Bool
  | .lit a, .lit b => a == b
  | .var a, .var b => Nat.beq a b
  | .cell r i f, .cell s j g => Nat.beq f g && Nat.beq r s && T.beq i j
  | .eqI a b, .eqI c d => T.beq a c && T.beq b d
  | .ltI a b, .ltI c d => T.beq a c && T.beq b d
  | .eqB a b, .eqB c d => B.beq a c && B.beq b d
  | .not a, .not b => B.beq a b
  | .and a b, .and c d => B.beq a c && B.beq b d
  | _, _ => false
theorem B.beq_eq : ∀ {a b : B}, B.beq a b = true → a = b := by
  intro a
  induction a with
  | lit n => intro b h; cases b <;> simp [B.beq] at h; rw [h]
  | var n => intro b h; cases b <;> simp [B.beq] at h; rw [h]
  | cell r i f => intro b h; cases b <;> simp [B.beq] at h; rw [h.1.1, h.1.2, T.beq_eq h.2]
  | eqI x y => intro b h; cases b <;> simp [B.beq] at h; rw [T.beq_eq h.1, T.beq_eq h.2]
  | ltI x y => intro b h; cases b <;> simp [B.beq] at h; rw [T.beq_eq h.1, T.beq_eq h.2]
  | eqB x y ih1 ih2 => intro b h; cases b <;> simp [B.beq] at h; rw [ih1 h.1, ih2 h.2]
  | not x ih => intro b h; cases b <;> simp [B.beq] at h; rw [ih h]
  | and x y ih1 ih2 => intro b h; cases b <;> simp [B.beq] at h; rw [ih1 h.1, ih2 h.2]

/-! what is known on a path: terms and what they are -/
abbrev PC := List (B × Bool)
def PcH (ρ : Env) (pc : PC) : Prop := ∀ p ∈ pc, p.1.ev ρ = p.2
theorem PcH.nil (ρ : Env) : PcH ρ [] := fun _ h => by cases h
theorem PcH.cons {ρ : Env} {pc : PC} {b : B} {v : Bool} (hb : b.ev ρ = v) (h : PcH ρ pc) : PcH ρ ((b, v) :: pc) := fun p hp => by
  cases hp with
  | head => exact hb
  | tail _ h' => exact h p h'
theorem PcH.tail {ρ : Env} {pc : PC} {p : B × Bool} (h : PcH ρ (p :: pc)) : PcH ρ pc := fun q hq => h q (.tail _ hq)
theorem PcH.head {ρ : Env} {pc : PC} {b : B} {v : Bool} (h : PcH ρ ((b, v) :: pc)) : b.ev ρ = v := h _ (.head _)

/-- the number that a term is known to be -/
def lookT (t : T) : PC → Option Int
  | [] => none
  | (.eqI a (.lit n), true) :: r => bif T.beq a t then some n else lookT t r
  | _ :: r => lookT t r
theorem lookT_ok {ρ : Env} {t : T} {n : Int} : ∀ {pc : PC}, PcH ρ pc → lookT t pc = some n → t.ev ρ = n := by
  intro pc
  induction pc with
  | nil => intro _ h; cases h
  | cons p r ih =>
    intro hp h
    unfold lookT at h
    split at h
    · cases h
    · rename_i a m r' he
      cases he
      cases hb : T.beq a t
      · rw [hb] at h; exact ih hp.tail h
      · rw [hb] at h
        cases h
        have := hp.head
        rw [T.beq_eq hb] at this
        simpa [B.ev, T.ev] using this
    · rename_i he
      cases he
      exact ih hp.tail h
/-- the truth that a term is known to be -/
def lookB (b : B) : PC → Option Bool
  | [] => none
  | (a, v) :: r => bif B.beq a b then some v else lookB b r
theorem lookB_ok {ρ : Env} {b : B} {v : Bool} : ∀ {pc : PC}, PcH ρ pc → lookB b pc = some v → b.ev ρ = v := by
  intro pc
  induction pc with
  | nil => intro _ h; cases h
  | cons p r ih =>
    intro hp h
    obtain ⟨a, u⟩ := p
    simp only [lookB] at h
    cases hb : B.beq a b
    · rw [hb] at h; exact ih hp.tail h
    · rw [hb] at h; cases h; rw [← B.beq_eq hb]; exact hp.head

def mkWrap (k : IntKind) : T → T
  | .lit n => .lit (k.wrap n)
  | t => .wrap k t
theorem mkWrap_ev (ρ : Env) (k : IntKind) (t : T) : (mkWrap k t).ev ρ = k.wrap (t.ev ρ) := by cases t <;> rfl
def mkBin (o : TOp) (a b : T) : T := match a, b with
  | .lit x, .lit y => .lit (o.ev x y)
  | a, b => .bin o a b
theorem mkBin_ev (ρ : Env) (o : TOp) (a b : T) : (mkBin o a b).ev ρ = o.ev (a.ev ρ) (b.ev ρ) := by
  unfold mkBin; split <;> rfl
def T.isLit : T → Bool | .lit _ => true | _ => false
def mkEqI (a b : T) : B := match a, b with
  | .lit x, .lit y => .lit (ibeq x y)
  | .lit x, b => .eqI b (.lit x)
  | a, b => bif T.beq a b then .lit true else .eqI a b
theorem mkEqI_ev (ρ : Env) (a b : T) : (mkEqI a b).ev ρ = (a.ev ρ == b.ev ρ) := by
  unfold mkEqI; split
  · simp [B.ev, T.ev, ibeq_iff]
  · simp only [B.ev, T.ev]; exact Bool.beq_comm
  · cases h : T.beq a b
    · rfl
    · rw [T.beq_eq h]; simp [B.ev]
def mkLtI (a b : T) : B := match a, b with
  | .lit x, .lit y => .lit (ilt x y)
  | a, b => bif T.beq a b then .lit false else .ltI a b
theorem mkLtI_ev (ρ : Env) (a b : T) : (mkLtI a b).ev ρ = decide (a.ev ρ < b.ev ρ) := by
  unfold mkLtI; split
  · simp only [B.ev, T.ev, ilt_iff]; congr
  · cases h : T.beq a b
    · rfl
    · rw [T.beq_eq h]; simp [B.ev]
def mkNot : B → B
  | .lit b => .lit (!b)
  | .not a => a
  | a => .not a
theorem mkNot_ev (ρ : Env) (a : B) : (mkNot a).ev ρ = !(a.ev ρ) := by cases a <;> simp [mkNot, B.ev]
def mkAnd (a b : B) : B := match a, b with
  | .lit true, b => b
  | .lit false, _ => .lit false
  | a, .lit true => a
  | _, .lit false => .lit false
  | a, b => .and a b
theorem mkAnd_ev (ρ : Env) (a b : B) : (mkAnd a b).ev ρ = (a.ev ρ && b.ev ρ) := by
  unfold mkAnd; split <;> simp [B.ev]
def mkEqB (a b : B) : B := match a, b with
  | .lit true, b => b
  | .lit false, b => mkNot b
  | a, .lit true => a
  | a, .lit false => mkNot a
  | a, b => bif B.beq a b then .lit true else .eqB a b
theorem mkEqB_ev (ρ : Env) (a b : B) : (mkEqB a b).ev ρ = (a.ev ρ == b.ev ρ) := by
  unfold mkEqB; split
  · simp [B.ev]
  · simp [B.ev, mkNot_ev]
  · simp [B.ev]
  · simp [B.ev, mkNot_ev]
  · cases h : B.beq a b
    · rfl
    · rw [B.beq_eq h]; simp [B.ev]

/-! the ranges of the kinds -/
def kLo : IntKind → Int
  | .i8 => -128 | .i16 => -32768 | .i32 => -2147483648 | .i64 => -9223372036854775808 | _ => 0
def kHi : IntKind → Int
  | .i8 => 127 | .i16 => 32767 | .i32 => 2147483647 | .i64 => 9223372036854775807
  | .u8 => 255 | .u16 => 65535 | .u32 => 4294967295 | .u64 => 18446744073709551615
def inK (k : IntKind) (n : Int) : Bool := !(ilt n (kLo k)) && !(ilt (kHi k) n)
theorem inK_iff (k : IntKind) (n : Int) : inK k n = true ↔ kLo k ≤ n ∧ n ≤ kHi k := by
  simp only [inK, ilt_iff, Bool.and_eq_true, Bool.not_eq_true', decide_eq_false_iff_not]; omega
theorem wrap_eq (k : IntKind) (n : Int) : k.wrap n = (n - kLo k) % (kHi k - kLo k + 1) + kLo k := by
  cases k <;> simp [IntKind.wrap, IntKind.bits, IntKind.signed, kLo, kHi] <;> omega
theorem wrap_inK (k : IntKind) (n : Int) : inK k (k.wrap n) = true := by
  rw [inK_iff, wrap_eq]
  cases k <;> simp only [kLo, kHi, Int.reduceSub, Int.reduceAdd] <;> omega
theorem wrap_of_inK {k : IntKind} {n : Int} (h : inK k n = true) : k.wrap n = n := by
  rw [inK_iff] at h
  rw [wrap_eq]
  cases k <;> simp only [kLo, kHi, Int.reduceSub, Int.reduceAdd] at h ⊢ <;> omega

/-! what numbers a term may be -/
def oadd : Option Int → Option Int → Option Int
  | some a, some b => some (a + b)
  | _, _ => none
def osub : Option Int → Option Int → Option Int
  | some a, some b => some (a - b)
  | _, _ => none
/-- the greater lower bound -/
def omx : Option Int → Option Int → Option Int
  | some a, some b => some (bif ilt a b then b else a)
  | some a, none => some a
  | none, b => b
def omn : Option Int → Option Int → Option Int
  | some a, some b => some (bif ilt a b then a else b)
  | some a, none => some a
  | none, b => b
/-- of two of which both must be known -/
def omxB : Option Int → Option Int → Option Int
  | some a, some b => some (bif ilt a b then b else a)
  | _, _ => none
def omnB : Option Int → Option Int → Option Int
  | some a, some b => some (bif ilt a b then a else b)
  | _, _ => none
abbrev Bd := Option Int × Option Int
def Bd.ok (b : Bd) (n : Int) : Prop := (∀ x, b.1 = some x → x ≤ n) ∧ (∀ x, b.2 = some x → n ≤ x)
def notEq (n : Int) (b : Bd) : Bd :=
  ((match b.1 with | some x => (bif ibeq x n then some (n + 1) else some x) | none => none), (match b.2 with | some x => (bif ibeq x n then some (n - 1) else some x) | none => none))
def tight (t : T) : PC → Bd → Bd
  | [], b => b
  | (.ltI a (.lit n), v) :: r, b => bif T.beq a t then (bif v then tight t r (b.1, omn b.2 (some (n - 1))) else tight t r (omx b.1 (some n), b.2)) else tight t r b
  | (.ltI (.lit n) a, v) :: r, b => bif T.beq a t then (bif v then tight t r (omx b.1 (some (n + 1)), b.2) else tight t r (b.1, omn b.2 (some n))) else tight t r b
  | (.eqI a (.lit n), false) :: r, b => bif T.beq a t then tight t r (notEq n b) else tight t r b
  | _ :: r, b => tight t r b
def rngW (k : IntKind) (b : Bd) : Bd := match b with
  | (some x, some y) => bif inK k x && inK k y then (some x, some y) else (some (kLo k), some (kHi k))
  | _ => (some (kLo k), some (kHi k))
def rngRem (m : Int) (b : Bd) : Bd := bif ilt 0 m then (match b.1 with
    | some x => bif ilt x 0 then (some (1 - m), some (m - 1)) else (some 0, some (m - 1))
    | none => (some (1 - m), some (m - 1))) else (none, none)
def rngB (o : TOp) (a b : Bd) (r : T) : Bd := match o with
  | .add => (oadd a.1 b.1, oadd a.2 b.2)
  | .sub => (osub a.1 b.2, osub a.2 b.1)
  | .mx => (omxB a.1 b.1, omxB a.2 b.2)
  | .mn => (omnB a.1 b.1, omnB a.2 b.2)
  | .rem => (match r with | .lit m => rngRem m a | _ => (none, none))
  | .band k => (some (kLo k), some (kHi k))
  | .bor k => (some (kLo k), some (kHi k))
  | .bxor k => (some (kLo k), some (kHi k))
  | .bandn k => (some (kLo k), some (kHi k))
  | _ => (none, none)
def rng (pc : PC) : T → Bd
  | .lit n => (some n, some n)
  | .var n => tight (.var n) pc (none, none)
  | .cell r i f => tight (.cell r i f) pc (none, none)
  | .wrap k t => tight (.wrap k t) pc (rngW k (rng pc t))
  | .bin o a b => tight (.bin o a b) pc (rngB o (rng pc a) (rng pc b) b)
theorem Bd.none_ok (n : Int) : Bd.ok (none, none) n := ⟨fun _ h => (by cases h), fun _ h => (by cases h)⟩
theorem omx_ok {a b : Option Int} {n : Int} (ha : ∀ x, a = some x → x ≤ n) (hb : ∀ x, b = some x → x ≤ n) : ∀ x, omx a b = some x → x ≤ n := by
  intro x h
  cases a <;> cases b <;> simp only [omx, Option.some.injEq, reduceCtorEq] at h
  · exact hb x (by rw [h])
  · exact ha x (by rw [h])
  · rename_i a b
    have := ha a rfl
    have := hb b rfl
    cases hl : ilt a b <;> rw [hl] at h <;> simp at h <;> omega
theorem omn_ok {a b : Option Int} {n : Int} (ha : ∀ x, a = some x → n ≤ x) (hb : ∀ x, b = some x → n ≤ x) : ∀ x, omn a b = some x → n ≤ x := by
  intro x h
  cases a <;> cases b <;> simp only [omn, Option.some.injEq, reduceCtorEq] at h
  · exact hb x (by rw [h])
  · exact ha x (by rw [h])
  · rename_i a b
    have := ha a rfl
    have := hb b rfl
    cases hl : ilt a b <;> rw [hl] at h <;> simp at h <;> omega
theorem notEq_ok {b : Bd} {n m : Int} (hb : b.ok n) (hne : n ≠ m) : (notEq m b).ok n := by
  obtain ⟨l, u⟩ := b
  obtain ⟨h1, h2⟩ := hb
  constructor
  · intro x hx
    simp only [notEq] at hx
    split at hx
    · rename_i y
      have := h1 y rfl
      rw [ibeq_iff] at hx
      cases hy : (y == m) <;> rw [hy] at hx <;> simp at hx hy <;> omega
    · cases hx
  · intro x hx
    simp only [notEq] at hx
    split at hx
    · rename_i y
      have := h2 y rfl
      rw [ibeq_iff] at hx
      cases hy : (y == m) <;> rw [hy] at hx <;> simp at hx hy <;> omega
    · cases hx
theorem tight_ok {ρ : Env} {t : T} : ∀ {pc : PC} {b : Bd}, PcH ρ pc → b.ok (t.ev ρ) → (tight t pc b).ok (t.ev ρ) := by
  intro pc
  induction pc with
  | nil => intro b _ hb; exact hb
  | cons p r ih =>
    intro b hp hb
    unfold tight
    split
    · rename_i he; cases he
    · rename_i b' a n v r' he
      cases he
      have h0 := hp.head
      cases ht : T.beq a t
      · exact ih hp.tail hb
      · rw [T.beq_eq ht] at h0
        simp only [B.ev, T.ev] at h0
        cases v
        · have h0 := of_decide_eq_false h0
          refine ih hp.tail ⟨omx_ok hb.1 (fun x hx => ?_), hb.2⟩
          cases hx; omega
        · have h0 := of_decide_eq_true h0
          refine ih hp.tail ⟨hb.1, omn_ok hb.2 (fun x hx => ?_)⟩
          cases hx; omega
    · rename_i b' n a v r' hne he
      cases he
      have h0 := hp.head
      cases ht : T.beq a t
      · exact ih hp.tail hb
      · rw [T.beq_eq ht] at h0
        simp only [B.ev, T.ev] at h0
        cases v
        · have h0 := of_decide_eq_false h0
          refine ih hp.tail ⟨hb.1, omn_ok hb.2 (fun x hx => ?_)⟩
          cases hx; omega
        · have h0 := of_decide_eq_true h0
          refine ih hp.tail ⟨omx_ok hb.1 (fun x hx => ?_), hb.2⟩
          cases hx; omega
    · rename_i b' a n r' he
      cases he
      have h0 := hp.head
      cases ht : T.beq a t
      · exact ih hp.tail hb
      · rw [T.beq_eq ht] at h0
        simp only [B.ev, T.ev] at h0
        exact ih hp.tail (notEq_ok hb (by simpa using h0))
    · rename_i he
      cases he
      exact ih hp.tail hb
theorem rngW_ok {k : IntKind} {b : Bd} {n : Int} (hb : b.ok n) : (rngW k b).ok (k.wrap n) := by
  have hk : Bd.ok (some (kLo k), some (kHi k)) (k.wrap n) := by
    have := (inK_iff k _).1 (wrap_inK k n)
    exact ⟨fun x hx => (by cases hx; exact this.1), fun x hx => (by cases hx; exact this.2)⟩
  unfold rngW
  split
  · rename_i x y
    cases hc : inK k x && inK k y
    · exact hk
    · rw [Bool.and_eq_true] at hc
      have h1 := (inK_iff k x).1 hc.1
      have h2 := (inK_iff k y).1 hc.2
      have h3 := hb.1 x rfl
      have h4 := hb.2 y rfl
      have h5 : k.wrap n = n := wrap_of_inK ((inK_iff k n).2 ⟨by omega, by omega⟩)
      rw [h5]
      exact hb
  · exact hk
theorem rngRem_ok {m : Int} {b : Bd} {n : Int} (hb : b.ok n) : (rngRem m b).ok (n.tmod m) := by
  unfold rngRem
  rw [ilt_iff]
  cases hm : decide (0 < m)
  · exact Bd.none_ok _
  · have hm := of_decide_eq_true hm
    have hlt := Int.tmod_lt_of_pos n hm
    have hgt : -m < n.tmod m := Int.lt_tmod_of_pos n hm
    have wide : Bd.ok (some (1 - m), some (m - 1)) (n.tmod m) := ⟨fun x hx => (by cases hx; omega), fun x hx => (by cases hx; omega)⟩
    simp only [cond_true]
    split
    · rename_i x hx
      rw [ilt_iff]
      cases hn : decide (x < 0)
      · have hn := of_decide_eq_false hn
        have h0 := hb.1 x hx
        have := Int.tmod_nonneg m (a := n) (by omega)
        exact ⟨fun y hy => (by cases hy; exact this), fun y hy => (by cases hy; omega)⟩
      · exact wide
    · exact wide
theorem band_ok (k : IntKind) (n : Int) : Bd.ok (some (kLo k), some (kHi k)) (k.wrap n) := by
  have := (inK_iff k _).1 (wrap_inK k n)
  exact ⟨fun x hx => (by cases hx; exact this.1), fun x hx => (by cases hx; exact this.2)⟩
theorem rngB_ok {o : TOp} {a b : Bd} {x y : Int} {r : T} {ρ : Env} (ha : a.ok x) (hb : b.ok y) (hr : r.ev ρ = y) : (rngB o a b r).ok (o.ev x y) := by
  obtain ⟨a1, a2⟩ := a
  obtain ⟨b1, b2⟩ := b
  obtain ⟨ha1, ha2⟩ := ha
  obtain ⟨hb1, hb2⟩ := hb
  simp only at ha1 ha2 hb1 hb2
  cases o <;> simp only [rngB] <;> first | exact Bd.none_ok _ | exact band_ok _ _ | skip
  case add =>
    constructor
    · intro z hz
      cases a1 <;> cases b1 <;> simp [oadd] at hz
      rename_i p q; have := ha1 p rfl; have := hb1 q rfl; simp only [TOp.ev]; omega
    · intro z hz
      cases a2 <;> cases b2 <;> simp [oadd] at hz
      rename_i p q; have := ha2 p rfl; have := hb2 q rfl; simp only [TOp.ev]; omega
  case sub =>
    constructor
    · intro z hz
      cases a1 <;> cases b2 <;> simp [osub] at hz
      rename_i p q; have := ha1 p rfl; have := hb2 q rfl; simp only [TOp.ev]; omega
    · intro z hz
      cases a2 <;> cases b1 <;> simp [osub] at hz
      rename_i p q; have := ha2 p rfl; have := hb1 q rfl; simp only [TOp.ev]; omega
  case mx =>
    constructor
    · intro z hz
      cases a1 <;> cases b1 <;> simp only [omxB, Option.some.injEq, reduceCtorEq] at hz
      rename_i p q; have := ha1 p rfl; have := hb1 q rfl
      simp only [TOp.ev]
      cases hl : ilt p q <;> rw [hl] at hz <;> simp at hz <;> split <;> omega
    · intro z hz
      cases a2 <;> cases b2 <;> simp only [omxB, Option.some.injEq, reduceCtorEq] at hz
      rename_i p q; have := ha2 p rfl; have := hb2 q rfl
      simp only [TOp.ev]
      rw [ilt_iff] at hz
      cases hl : decide (p < q) <;> rw [hl] at hz <;> simp at hz hl <;> split <;> omega
  case mn =>
    constructor
    · intro z hz
      cases a1 <;> cases b1 <;> simp only [omnB, Option.some.injEq, reduceCtorEq] at hz
      rename_i p q; have := ha1 p rfl; have := hb1 q rfl
      simp only [TOp.ev]
      rw [ilt_iff] at hz
      cases hl : decide (p < q) <;> rw [hl] at hz <;> simp at hz hl <;> split <;> omega
    · intro z hz
      cases a2 <;> cases b2 <;> simp only [omnB, Option.some.injEq, reduceCtorEq] at hz
      rename_i p q; have := ha2 p rfl; have := hb2 q rfl
      simp only [TOp.ev]
      rw [ilt_iff] at hz
      cases hl : decide (p < q) <;> rw [hl] at hz <;> simp at hz hl <;> split <;> omega
  case rem =>
    split
    · rename_i m
      simp only [T.ev] at hr
      subst hr
      exact rngRem_ok ⟨ha1, ha2⟩
    · exact Bd.none_ok _
theorem rng_ok {ρ : Env} {pc : PC} (h : PcH ρ pc) : ∀ t : T, (rng pc t).ok (t.ev ρ) := by
  intro t
  induction t with
  | lit n => exact ⟨fun x hx => (by cases hx; exact Int.le_refl _), fun x hx => (by cases hx; exact Int.le_refl _)⟩
  | var n => exact tight_ok h (Bd.none_ok _)
  | cell r i f => exact tight_ok h (Bd.none_ok _)
  | wrap k t ih => exact tight_ok h (rngW_ok ih)
  | bin o a b iha ihb => exact tight_ok h (rngB_ok iha ihb rfl)
def oltB : Option Int → Option Int → Bool
  | some a, some b => ilt a b
  | _, _ => false
def oleB : Option Int → Option Int → Bool
  | some a, some b => !(ilt b a)
  | _, _ => false
def knownR (pc : PC) (b : B) : B := match b with
  | .ltI x y => (match rng pc x, rng pc y with
    | (l1, h1), (l2, h2) => bif oltB h1 l2 then .lit true else bif oleB h2 l1 then .lit false else .ltI x y)
  | .eqI x y => (match rng pc x, rng pc y with
    | (l1, h1), (l2, h2) => bif oltB h1 l2 || oltB h2 l1 then .lit false else bif oleB h1 l2 && oleB h2 l1 && oleB h1 l1 && oleB h2 l2 then .lit true else .eqI x y)
  | b => b
theorem oltB_ok {a b : Option Int} (h : oltB a b = true) : ∃ x y, a = some x ∧ b = some y ∧ x < y := by
  cases a <;> cases b <;> simp only [oltB, Bool.false_eq_true] at h
  rw [ilt_iff] at h
  exact ⟨_, _, rfl, rfl, of_decide_eq_true h⟩
theorem oleB_ok {a b : Option Int} (h : oleB a b = true) : ∃ x y, a = some x ∧ b = some y ∧ x ≤ y := by
  cases a <;> cases b <;> simp only [oleB, Bool.false_eq_true] at h
  rw [ilt_iff] at h
  refine ⟨_, _, rfl, rfl, ?_⟩
  simp at h; omega
theorem knownR_ev {ρ : Env} {pc : PC} (h : PcH ρ pc) (b : B) : (knownR pc b).ev ρ = b.ev ρ := by
  unfold knownR
  split
  · rename_i x y
    have hx := rng_ok h x
    have hy := rng_ok h y
    generalize rng pc x = bx at hx
    generalize rng pc y = byy at hy
    obtain ⟨l1, h1⟩ := bx
    obtain ⟨l2, h2⟩ := byy
    dsimp only
    cases ha : oltB h1 l2
    · cases hb : oleB h2 l1
      · rfl
      · obtain ⟨p, q, rfl, rfl, hpq⟩ := oleB_ok hb
        have := hy.2 p rfl
        have := hx.1 q rfl
        simp only [cond_false, cond_true, B.ev]
        exact (decide_eq_false (by omega)).symm
    · obtain ⟨p, q, rfl, rfl, hpq⟩ := oltB_ok ha
      have := hx.2 p rfl
      have := hy.1 q rfl
      simp only [cond_true, B.ev]
      exact (decide_eq_true (by omega)).symm
  · rename_i x y
    have hx := rng_ok h x
    have hy := rng_ok h y
    generalize rng pc x = bx at hx
    generalize rng pc y = byy at hy
    obtain ⟨l1, h1⟩ := bx
    obtain ⟨l2, h2⟩ := byy
    dsimp only
    cases ha : oltB h1 l2 || oltB h2 l1
    · cases hb : oleB h1 l2 && oleB h2 l1 && oleB h1 l1 && oleB h2 l2
      · rfl
      · simp only [Bool.and_eq_true] at hb
        obtain ⟨⟨⟨b1, b2⟩, b3⟩, b4⟩ := hb
        obtain ⟨p, q, rfl, rfl, hpq⟩ := oleB_ok b1
        obtain ⟨r, s, rfl, rfl, hrs⟩ := oleB_ok b2
        obtain ⟨_, _, hu, hv, h3⟩ := oleB_ok b3
        obtain ⟨_, _, hu', hv', h4⟩ := oleB_ok b4
        cases hu; cases hv; cases hu'; cases hv'
        have := hx.1 _ rfl
        have := hx.2 _ rfl
        have := hy.1 _ rfl
        have := hy.2 _ rfl
        simp only [cond_false, cond_true, B.ev]
        have : x.ev ρ = y.ev ρ := by omega
        rw [this]; simp
    · have hne : x.ev ρ ≠ y.ev ρ := by
        rw [Bool.or_eq_true] at ha
        rcases ha with ha | ha
        · obtain ⟨p, q, rfl, rfl, hpq⟩ := oltB_ok ha
          have := hx.2 p rfl
          have := hy.1 q rfl
          omega
        · obtain ⟨p, q, rfl, rfl, hpq⟩ := oltB_ok ha
          have := hy.2 p rfl
          have := hx.1 q rfl
          omega
      simp only [cond_true, B.ev]
      exact (beq_eq_false_iff_ne.2 hne).symm
  · rfl

/-- a term under what is known -/
def simpT (pc : PC) : T → T
  | .lit n => .lit n
  | .wrap k t => mkWrap k (simpT pc t)
  | .bin o a b => mkBin o (simpT pc a) (simpT pc b)
  | .var n => match lookT (.var n) pc with | some x => .lit x | none => .var n
  | .cell r i f => match lookT (.cell r i f) pc with | some x => .lit x | none => .cell r i f
theorem simpT_ev {ρ : Env} {pc : PC} (h : PcH ρ pc) : ∀ t : T, (simpT pc t).ev ρ = t.ev ρ := by
  intro t
  induction t with
  | lit n => rfl
  | var n =>
    simp only [simpT]
    cases hl : lookT (.var n) pc with
    | none => rfl
    | some x => exact (lookT_ok h hl).symm
  | cell r i f =>
    simp only [simpT]
    cases hl : lookT (.cell r i f) pc with
    | none => rfl
    | some x => exact (lookT_ok h hl).symm
  | wrap k t ih => simp only [simpT, mkWrap_ev, ih, T.ev]
  | bin o a b iha ihb => simp only [simpT, mkBin_ev, iha, ihb, T.ev]
/-- an atom under what is known -/
def known (pc : PC) (b : B) : B := match b with
  | .lit v => .lit v
  | .not a => (match lookB a pc with | some v => .lit (!v) | none => .not a)
  | b => (match lookB b pc with | some v => .lit v | none => b)
theorem known_ev {ρ : Env} {pc : PC} (h : PcH ρ pc) (b : B) : (known pc b).ev ρ = b.ev ρ := by
  unfold known
  split
  · rfl
  · rename_i a
    split
    · rename_i v hv; simp [B.ev, lookB_ok h hv]
    · rfl
  · split
    · rename_i v hv; exact (lookB_ok h hv).symm
    · rfl
def simpB (pc : PC) : B → B
  | .lit b => .lit b
  | .var n => known pc (.var n)
  | .cell r i f => known pc (.cell r i f)
  | .eqI a b => knownR pc (known pc (mkEqI (simpT pc a) (simpT pc b)))
  | .ltI a b => knownR pc (known pc (mkLtI (simpT pc a) (simpT pc b)))
  | .eqB a b => known pc (mkEqB (simpB pc a) (simpB pc b))
  | .not a => mkNot (simpB pc a)
  | .and a b => known pc (mkAnd (simpB pc a) (simpB pc b))
theorem simpB_ev {ρ : Env} {pc : PC} (h : PcH ρ pc) : ∀ b : B, (simpB pc b).ev ρ = b.ev ρ := by
  intro b
  induction b with
  | lit b => rfl
  | var n => exact known_ev h _
  | cell r i f => exact known_ev h _
  | eqI a b => simp only [simpB, knownR_ev h, known_ev h, mkEqI_ev, simpT_ev h, B.ev]
  | ltI a b => simp only [simpB, knownR_ev h, known_ev h, mkLtI_ev, simpT_ev h, B.ev]
  | eqB a b iha ihb => simp only [simpB, known_ev h, mkEqB_ev, iha, ihb, B.ev]
  | not a ih => simp only [simpB, mkNot_ev, ih, B.ev]
  | and a b iha ihb => simp only [simpB, known_ev h, mkAnd_ev, iha, ihb, B.ev]

/-- one more thing that is known -/
def addPc : B → Bool → PC → PC
  | .not a, v, pc => addPc a (!v) pc
  | .and a b, true, pc => addPc a true (addPc b true pc)
  | b, v, pc => (b, v) :: pc
theorem addPc_ok {ρ : Env} : ∀ (b : B) (v : Bool) {pc : PC}, b.ev ρ = v → PcH ρ pc → PcH ρ (addPc b v pc) := by
  intro b
  induction b with
  | not a ih => intro v pc hb hp; exact ih (!v) (by simp [B.ev] at hb; simp [← hb]) hp
  | and a b iha ihb =>
    intro v pc hb hp
    cases v
    · exact hp.cons hb
    · simp [B.ev] at hb; exact iha true hb.1 (ihb true hb.2 hp)
  | _ => intro v pc hb hp; exact hp.cons hb
theorem addPc_tail {ρ : Env} : ∀ (b : B) (v : Bool) {pc : PC}, PcH ρ (addPc b v pc) → PcH ρ pc := by
  intro b
  induction b with
  | not a ih => intro v pc hp; exact ih _ hp
  | and a b iha ihb =>
    intro v pc hp
    cases v
    · exact hp.tail
    · exact ihb _ (iha _ hp)
  | _ => intro v pc hp; exact hp.tail

end Go.SX
