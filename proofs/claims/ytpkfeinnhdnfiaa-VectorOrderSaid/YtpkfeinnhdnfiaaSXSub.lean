/- SX, part 9c: terms that mention nothing of a number; what stands for it put in its place. -/
import Derived.Test.YtpkfeinnhdnfiaaSXEq
namespace Go.SX
open Go

/-- what is put in a number's place -/
structure Sub where
  k : Nat
  q : Nat
  t : T
  ti : Nat → Option T
  bi : Nat → Option B
  bv : B
def o1 {α β : Type} (f : α → β) : Option α → Option β
  | some a => some (f a)
  | none => none
def o2 {α β γ : Type} (f : α → β → γ) : Option α → Option β → Option γ
  | some a, some b => some (f a b)
  | _, _ => none
def o3 {α β γ δ : Type} (f : α → β → γ → δ) : Option α → Option β → Option γ → Option δ
  | some a, some b, some c => some (f a b c)
  | _, _, _ => none
theorem o1_some {α β : Type} {f : α → β} {x : Option α} {z : β} (h : o1 f x = some z) : ∃ a, x = some a ∧ z = f a := by
  cases x <;> simp [o1] at h; exact ⟨_, rfl, h.symm⟩
theorem o2_some {α β γ : Type} {f : α → β → γ} {x : Option α} {y : Option β} {z : γ} (h : o2 f x y = some z) : ∃ a b, x = some a ∧ y = some b ∧ z = f a b := by
  cases x <;> cases y <;> simp [o2] at h; exact ⟨_, _, rfl, rfl, h.symm⟩
theorem o3_some {α β γ δ : Type} {f : α → β → γ → δ} {x : Option α} {y : Option β} {w : Option γ} {z : δ} (h : o3 f x y w = some z) : ∃ a b c, x = some a ∧ y = some b ∧ w = some c ∧ z = f a b c := by
  cases x <;> cases y <;> cases w <;> simp [o3] at h; exact ⟨_, _, _, rfl, rfl, rfl, h.symm⟩
mutual
def subT (s : Sub) : T → Option T
  | .lit n => some (.lit n)
  | .var n => bif Nat.beq n s.k then some s.t else some (.var n)
  | .cell r i f => bif Nat.beq r s.q then (bif T.beq i (.var s.k) then s.ti f else none) else o1 (fun j => T.cell r j f) (subT s i)
  | .wrap k t => o1 (mkWrap k) (subT s t)
  | .bin o a b => o2 (mkBin o) (subT s a) (subT s b)
  | .ite c a b => o3 mkIte (subB s c) (subT s a) (subT s b)
def subB (s : Sub) : B → Option B
  | .lit b => some (.lit b)
  | .var n => bif Nat.beq n s.q then some s.bv else some (.var n)
  | .cell r i f => bif Nat.beq r s.q then (bif T.beq i (.var s.k) then s.bi f else none) else o1 (fun j => B.cell r j f) (subT s i)
  | .eqI a b => o2 mkEqI (subT s a) (subT s b)
  | .ltI a b => o2 mkLtI (subT s a) (subT s b)
  | .eqB a b => o2 mkEqB (subB s a) (subB s b)
  | .not a => o1 mkNot (subB s a)
  | .and a b => o2 andR (subB s a) (subB s b)
  | .ite c a b => o3 mkIteB (subB s c) (subB s a) (subB s b)
  | .all m l b => bif frB s.k s.q (.all m l b) then some (.all m l b) else none
end
/-- the world behind it: 'σ' is what the term was told of -/
structure SubR (s : Sub) (ρ σ : Env) : Prop where
  off : Agree s.k s.q ρ σ
  t : σ.v s.k = s.t.ev ρ
  ti : ∀ f x, s.ti f = some x → x.ev ρ = σ.c s.q (σ.v s.k) f
  bi : ∀ f x, s.bi f = some x → x.ev ρ = σ.bc s.q (σ.v s.k) f
  bv : σ.bv s.q = s.bv.ev ρ
mutual
theorem subT_ev {s : Sub} {ρ σ : Env} (h : SubR s ρ σ) : ∀ {t t' : T}, subT s t = some t' → t'.ev ρ = t.ev σ
  | .lit n, t', e => by simp only [subT, Option.some.injEq] at e; rw [← e]; rfl
  | .var n, t', e => by
    simp only [subT] at e
    cases hb : Nat.beq n s.k
    · rw [hb] at e; simp only [cond_false, Option.some.injEq] at e; rw [← e]
      exact h.off.v n (fun hn => by rw [hn] at hb; simp at hb)
    · rw [hb] at e; simp only [cond_true, Option.some.injEq] at e; rw [← e, Nat.eq_of_beq_eq_true hb]
      exact h.t.symm
  | .cell r i f, t', e => by
    simp only [subT] at e
    cases hb : Nat.beq r s.q
    · rw [hb] at e
      obtain ⟨j, hj, rfl⟩ := o1_some e
      simp only [T.ev]
      rw [subT_ev h hj, h.off.c r (fun hn => by rw [hn] at hb; simp at hb)]
    · rw [hb] at e
      simp only [cond_true] at e
      cases hi : T.beq i (.var s.k)
      · rw [hi] at e; cases e
      · rw [hi] at e
        rw [T.beq_eq hi, Nat.eq_of_beq_eq_true hb]
        exact h.ti f t' e
  | .wrap k t, t', e => by
    simp only [subT] at e
    obtain ⟨x, hx, rfl⟩ := o1_some e
    simp only [mkWrap_ev, T.ev]; rw [subT_ev h hx]
  | .bin o a b, t', e => by
    simp only [subT] at e
    obtain ⟨x, y, hx, hy, rfl⟩ := o2_some e
    simp only [mkBin_ev, T.ev]; rw [subT_ev h hx, subT_ev h hy]
  | .ite c a b, t', e => by
    simp only [subT] at e
    obtain ⟨z, x, y, hz, hx, hy, rfl⟩ := o3_some e
    simp only [mkIte_ev, T.ev]; rw [subB_ev h hz, subT_ev h hx, subT_ev h hy]
theorem subB_ev {s : Sub} {ρ σ : Env} (h : SubR s ρ σ) : ∀ {b b' : B}, subB s b = some b' → b'.ev ρ = b.ev σ
  | .lit n, t', e => by simp only [subB, Option.some.injEq] at e; rw [← e]; rfl
  | .var n, t', e => by
    simp only [subB] at e
    cases hb : Nat.beq n s.q
    · rw [hb] at e; simp only [cond_false, Option.some.injEq] at e; rw [← e]
      exact h.off.bv n (fun hn => by rw [hn] at hb; simp at hb)
    · rw [hb] at e; simp only [cond_true, Option.some.injEq] at e; rw [← e, Nat.eq_of_beq_eq_true hb]
      exact h.bv.symm
  | .cell r i f, t', e => by
    simp only [subB] at e
    cases hb : Nat.beq r s.q
    · rw [hb] at e
      obtain ⟨j, hj, rfl⟩ := o1_some e
      simp only [B.ev]
      rw [subT_ev h hj, h.off.bc r (fun hn => by rw [hn] at hb; simp at hb)]
    · rw [hb] at e
      simp only [cond_true] at e
      cases hi : T.beq i (.var s.k)
      · rw [hi] at e; cases e
      · rw [hi] at e
        rw [T.beq_eq hi, Nat.eq_of_beq_eq_true hb]
        exact h.bi f t' e
  | .eqI a b, t', e => by
    simp only [subB] at e
    obtain ⟨x, y, hx, hy, rfl⟩ := o2_some e
    simp only [mkEqI_ev, B.ev]; rw [subT_ev h hx, subT_ev h hy]
  | .ltI a b, t', e => by
    simp only [subB] at e
    obtain ⟨x, y, hx, hy, rfl⟩ := o2_some e
    simp only [mkLtI_ev, B.ev]; rw [subT_ev h hx, subT_ev h hy]
  | .eqB a b, t', e => by
    simp only [subB] at e
    obtain ⟨x, y, hx, hy, rfl⟩ := o2_some e
    simp only [mkEqB_ev, B.ev]; rw [subB_ev h hx, subB_ev h hy]
  | .not a, t', e => by
    simp only [subB] at e
    obtain ⟨x, hx, rfl⟩ := o1_some e
    simp only [mkNot_ev, B.ev]; rw [subB_ev h hx]
  | .and a b, t', e => by
    simp only [subB] at e
    obtain ⟨x, y, hx, hy, rfl⟩ := o2_some e
    simp only [andR_ev, B.ev]; rw [subB_ev h hx, subB_ev h hy]
  | .ite c a b, t', e => by
    simp only [subB] at e
    obtain ⟨z, x, y, hz, hx, hy, rfl⟩ := o3_some e
    simp only [mkIteB_ev, B.ev]; rw [subB_ev h hz, subB_ev h hx, subB_ev h hy]
  | .all m l b, t', e => by
    simp only [subB] at e
    cases hf : frB s.k s.q (.all m l b)
    · rw [hf] at e; cases e
    · rw [hf] at e
      simp only [cond_true, Option.some.injEq] at e
      rw [← e]
      exact frB_ev hf h.off
end

/-! the same of values and memories -/
mutual
def frSV (k q : Nat) : SV → Bool
  | .bool b => frB k q b
  | .int _ t => frT k q t
  | .nilp => true
  | .ptr _ i _ => frT k q i
  | .nils => true
  | .slice _ i _ l c => frT k q i && frT k q l && (match c with | some t => frT k q t | none => true)
  | .fn _ cs => frL k q cs
  | .agg cs => frL k q cs
  | .tup cs => frL k q cs
  | .raw _ => true
def frL (k q : Nat) : List SV → Bool
  | [] => true
  | s :: ss => frSV k q s && frL k q ss
end
mutual
theorem frSV_rel {k q : Nat} {ρ σ : Env} (g : Agree k q ρ σ) {β : Bet} : ∀ (s : SV) (v : Value), frSV k q s = true → s.rel ρ β v → s.rel σ β v
  | .bool b, v, h, r => by rw [show v = .bool (b.ev ρ) from r, frB_ev (by simpa [frSV] using h) g]; rfl
  | .int k' t, v, h, r => by
    have e := frT_ev (t := t) (by simpa [frSV] using h) g
    exact ⟨by rw [r.1, e], by rw [← e]; exact r.2⟩
  | .nilp, _, _, r => r
  | .nils, _, _, r => r
  | .raw _, _, _, r => r
  | .ptr id i o, v, h, r => by
    have e := frT_ev (t := i) (by simpa [frSV] using h) g
    obtain ⟨x, hx, h0, h1, h2⟩ := r
    exact ⟨x, hx, by rw [← e]; exact h0, by rw [← e]; exact h1, by rw [← e]; exact h2⟩
  | .slice id i o l c, v, h, r => by
    simp only [frSV, Bool.and_eq_true] at h
    have e := frT_ev h.1.1 g
    have e2 := frT_ev h.1.2 g
    obtain ⟨x, a, b, hx, h0, h1, h2, h3, h4, h5⟩ := r
    refine ⟨x, a, b, hx, by rw [← e]; exact h0, by rw [← e2]; exact h1, h2, h3, fun t ht => ?_, by rw [← e]; exact h5⟩
    subst ht
    rw [← frT_ev (by simpa using h.2) g]
    exact h4 t rfl
  | .fn f cs, v, h, r => by obtain ⟨l, hl, r⟩ := r; exact ⟨l, frL_rel g cs l (by simpa [frSV] using h) hl, r⟩
  | .agg cs, v, h, r => by obtain ⟨l, hl, r⟩ := r; exact ⟨l, frL_rel g cs l (by simpa [frSV] using h) hl, r⟩
  | .tup cs, v, h, r => by obtain ⟨l, hl, r⟩ := r; exact ⟨l, frL_rel g cs l (by simpa [frSV] using h) hl, r⟩
theorem frL_rel {k q : Nat} {ρ σ : Env} (g : Agree k q ρ σ) {β : Bet} : ∀ (ss : List SV) (l : List Value), frL k q ss = true → relL ρ β ss l → relL σ β ss l
  | [], _, _, r => r
  | s :: ss, _, h, r => by
    simp only [frL, Bool.and_eq_true] at h
    obtain ⟨v, vs, rfl, r1, r2⟩ := r
    exact ⟨v, vs, rfl, frSV_rel g s v h.1 r1, frL_rel g ss vs h.2 r2⟩
end
def subSV (s : Sub) : SV → Option SV
  | .bool b => o1 SV.bool (subB s b)
  | .int k t => o1 (SV.int k) (subT s t)
  | x => bif frSV s.k s.q x then some x else none
theorem subSV_rel {s : Sub} {ρ σ : Env} (h : SubR s ρ σ) {β : Bet} {x y : SV} (e : subSV s x = some y) {v : Value} (r : x.rel σ β v) : y.rel ρ β v := by
  unfold subSV at e
  split at e
  · obtain ⟨b, hb, rfl⟩ := o1_some e
    rw [show v = .bool (B.ev σ _) from r, ← subB_ev h hb]; rfl
  · obtain ⟨t, ht, rfl⟩ := o1_some e
    exact ⟨by rw [r.1, subT_ev h ht], by rw [subT_ev h ht]; exact r.2⟩
  · cases hf : frSV s.k s.q x
    · rw [hf] at e; cases e
    · rw [hf] at e
      simp only [cond_true, Option.some.injEq] at e
      rw [← e]
      exact frSV_rel h.off.symm x v hf r
def subL (s : Sub) : List SV → Option (List SV)
  | [] => some []
  | x :: xs => o2 List.cons (subSV s x) (subL s xs)
theorem subL_get {s : Sub} : ∀ {xs ys : List SV}, subL s xs = some ys → ys.length = xs.length ∧ ∀ (f : Nat) (y : SV), ys[f]? = some y → ∃ x, xs[f]? = some x ∧ subSV s x = some y
  | [], ys, h => by simp only [subL, Option.some.injEq] at h; subst h; exact ⟨rfl, fun f y hy => by simp at hy⟩
  | x :: xs, ys, h => by
    simp only [subL] at h
    obtain ⟨a, b, ha, hb, rfl⟩ := o2_some h
    obtain ⟨i1, i2⟩ := subL_get hb
    refine ⟨by simp [i1], fun f y hy => ?_⟩
    cases f with
    | zero => simp at hy; subst hy; exact ⟨x, rfl, ha⟩
    | succ f => simp at hy; simpa using i2 f y hy
def frGen (k q : Nat) : List (Nat × SV) → Bool
  | [] => true
  | (_, s) :: r => frSV k q s && frGen k q r
def frObj (k q : Nat) : SObj → Bool
  | .cells _ cs => frL k q cs
  | .buf _ _ cs => frL k q cs
  | .arr A => neB A.r q && frT k q A.len && (match A.row with | some (t, cs) => frT k q t && frL k q cs | none => true) && (bif Nat.beq A.gk k then frGen noN q A.gen else frGen k q A.gen)
/-- the kind of a cell -/
def kindOf : CK → SV → Bool
  | .b, .bool _ => true
  | .i k, .int l _ => Nat.beq (kindNo k) (kindNo l)
  | _, _ => false
def kindL : List CK → List SV → Bool
  | [], [] => true
  | k :: ks, s :: ss => kindOf k s && kindL ks ss
  | _, _ => false
def kindG (ks : List CK) : List (Nat × SV) → Bool
  | [] => true
  | (f, s) :: r => (match ks[f]? with | some k => kindOf k s | none => true) && kindG ks r
def kindA (A : SArr) : Bool := kindG A.ks A.gen && (match A.row with | some (_, cs) => kindL A.ks cs | none => true)
def iOf : Value → Int | .int _ n => n | _ => 0
def bOf : Value → Bool | .bool b => b | _ => false
end Go.SX
