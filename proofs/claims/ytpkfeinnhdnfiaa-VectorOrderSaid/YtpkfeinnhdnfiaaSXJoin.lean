/- SX, part 9d: two ways made one, value by value. -/
import Derived.Test.YtpkfeinnhdnfiaaSXSub
namespace Go.SX
open Go

mutual
def iteSV (c : B) : SV → SV → Option SV
  | .bool a, .bool b => some (.bool (mkIteB c a b))
  | .int k a, .int l b => bif Nat.beq (kindNo k) (kindNo l) then some (.int k (mkIte c a b)) else none
  | .agg a, .agg b => o1 SV.agg (iteL c a b)
  | .tup a, .tup b => o1 SV.tup (iteL c a b)
  | .nilp, .nilp => some .nilp
  | .nils, .nils => some .nils
  | .ptr i a o, .ptr j b p => bif SV.beq (.ptr i a o) (.ptr j b p) then some (.ptr i a o) else none
  | .slice i a o l x, .slice j b p m y => bif SV.beq (.slice i a o l x) (.slice j b p m y) then some (.slice i a o l x) else none
  | .fn f a, .fn g b => bif SV.beq (.fn f a) (.fn g b) then some (.fn f a) else none
  | .raw a, .raw b => bif veq a b then some (.raw a) else none
  | _, _ => none
def iteL (c : B) : List SV → List SV → Option (List SV)
  | [], [] => some []
  | a :: l, b :: m => o2 List.cons (iteSV c a b) (iteL c l m)
  | _, _ => none
end
theorem bif_some {α : Type} {b : Bool} {x : Option α} {z : α} (h : (bif b then x else none) = some z) : b = true ∧ x = some z := by
  cases b
  · cases h
  · exact ⟨rfl, h⟩
mutual
theorem iteSV_rel {ρ : Env} {β : Bet} {c : B} {v : Value} : ∀ {a b s : SV}, iteSV c a b = some s → (bif c.ev ρ then a.rel ρ β v else b.rel ρ β v) → s.rel ρ β v
  | .bool a, .bool b, s, h, r => by
    simp only [iteSV, Option.some.injEq] at h
    subst h
    simp only [SV.rel, mkIteB_ev] at r ⊢
    cases hc : c.ev ρ <;> rw [hc] at r <;> exact r
  | .int k a, .int l b, s, h, r => by
    simp only [iteSV] at h
    obtain ⟨h1, h2⟩ := bif_some h
    cases h2
    have := kindNo_inj h1
    subst this
    simp only [SV.rel, mkIte_ev] at r ⊢
    cases hc : c.ev ρ <;> rw [hc] at r <;> exact r
  | .agg a, .agg b, s, h, r => by
    simp only [iteSV] at h
    obtain ⟨l, hl, rfl⟩ := o1_some h
    cases hc : c.ev ρ
    · rw [hc] at r
      obtain ⟨vs, hv, rfl⟩ := r
      exact ⟨vs, iteL_rel hl (by rw [hc]; exact hv), rfl⟩
    · rw [hc] at r
      obtain ⟨vs, hv, rfl⟩ := r
      exact ⟨vs, iteL_rel hl (by rw [hc]; exact hv), rfl⟩
  | .tup a, .tup b, s, h, r => by
    simp only [iteSV] at h
    obtain ⟨l, hl, rfl⟩ := o1_some h
    cases hc : c.ev ρ
    · rw [hc] at r
      obtain ⟨vs, hv, rfl⟩ := r
      exact ⟨vs, iteL_rel hl (by rw [hc]; exact hv), rfl⟩
    · rw [hc] at r
      obtain ⟨vs, hv, rfl⟩ := r
      exact ⟨vs, iteL_rel hl (by rw [hc]; exact hv), rfl⟩
  | .nilp, .nilp, s, h, r => by
    simp only [iteSV, Option.some.injEq] at h; subst h; cases hc : c.ev ρ <;> rw [hc] at r <;> exact r
  | .nils, .nils, s, h, r => by
    simp only [iteSV, Option.some.injEq] at h; subst h; cases hc : c.ev ρ <;> rw [hc] at r <;> exact r
  | .ptr i a o, .ptr j b p, s, h, r => by
    simp only [iteSV] at h
    obtain ⟨h1, h2⟩ := bif_some h
    cases h2
    rw [← SV.beq_eq h1] at r
    cases hc : c.ev ρ <;> rw [hc] at r <;> exact r
  | .slice i a o l x, .slice j b p m y, s, h, r => by
    simp only [iteSV] at h
    obtain ⟨h1, h2⟩ := bif_some h
    cases h2
    rw [← SV.beq_eq h1] at r
    cases hc : c.ev ρ <;> rw [hc] at r <;> exact r
  | .fn f a, .fn g b, s, h, r => by
    simp only [iteSV] at h
    obtain ⟨h1, h2⟩ := bif_some h
    cases h2
    rw [← SV.beq_eq h1] at r
    cases hc : c.ev ρ <;> rw [hc] at r <;> exact r
  | .raw a, .raw b, s, h, r => by
    simp only [iteSV] at h
    obtain ⟨h1, h2⟩ := bif_some h
    cases h2
    rw [← veq_eq h1] at r
    cases hc : c.ev ρ <;> rw [hc] at r <;> exact r
theorem iteL_rel {ρ : Env} {β : Bet} {c : B} {vs : List Value} : ∀ {a b s : List SV}, iteL c a b = some s → (bif c.ev ρ then relL ρ β a vs else relL ρ β b vs) → relL ρ β s vs
  | [], [], s, h, r => by
    simp only [iteL, Option.some.injEq] at h; subst h; cases hc : c.ev ρ <;> rw [hc] at r <;> exact r
  | a :: l, b :: m, s, h, r => by
    simp only [iteL] at h
    obtain ⟨x, y, hx, hy, rfl⟩ := o2_some h
    cases hc : c.ev ρ
    · rw [hc] at r
      obtain ⟨u, us, rfl, r1, r2⟩ := r
      exact ⟨u, us, rfl, iteSV_rel hx (by rw [hc]; exact r1), iteL_rel hy (by rw [hc]; exact r2)⟩
    · rw [hc] at r
      obtain ⟨u, us, rfl, r1, r2⟩ := r
      exact ⟨u, us, rfl, iteSV_rel hx (by rw [hc]; exact r1), iteL_rel hy (by rw [hc]; exact r2)⟩
  | [], _ :: _, _, h, _ => by simp [iteL] at h
  | _ :: _, [], _, h, _ => by simp [iteL] at h
end
theorem iteL_get {c : B} : ∀ {a b s : List SV}, iteL c a b = some s → s.length = a.length ∧ s.length = b.length ∧ ∀ (f : Nat) (z : SV), s[f]? = some z → ∃ x y, a[f]? = some x ∧ b[f]? = some y ∧ iteSV c x y = some z
  | [], [], s, h => by simp only [iteL, Option.some.injEq] at h; subst h; exact ⟨rfl, rfl, fun f z hz => by simp at hz⟩
  | a :: l, b :: m, s, h => by
    simp only [iteL] at h
    obtain ⟨x, y, hx, hy, rfl⟩ := o2_some h
    obtain ⟨i1, i2, i3⟩ := iteL_get hy
    refine ⟨by simp [i1], by simp [i2], fun f z hz => ?_⟩
    cases f with
    | zero => simp at hz; subst hz; exact ⟨a, b, rfl, rfl, hx⟩
    | succ f => simp at hz; simpa using i3 f z hz
  | [], _ :: _, _, h => by simp [iteL] at h
  | _ :: _, [], _, h => by simp [iteL] at h

/-! only blocks below a number are named -/
mutual
def under (n : Nat) : SV → Bool
  | .ptr i _ _ => Nat.blt i n
  | .slice i _ _ _ _ => Nat.blt i n
  | .fn _ cs => underL n cs
  | .agg cs => underL n cs
  | .tup cs => underL n cs
  | _ => true
def underL (n : Nat) : List SV → Bool
  | [] => true
  | s :: ss => under n s && underL n ss
end
mutual
theorem under_rel {ρ : Env} {β γ : Bet} : ∀ (s : SV) (v : Value), under β.length s = true → s.rel ρ (β ++ γ) v → s.rel ρ β v
  | .bool _, _, _, h | .int _ _, _, _, h | .nilp, _, _, h | .nils, _, _, h | .raw _, _, _, h => h
  | .ptr id _ _, _, hu, h => by
    obtain ⟨e, he, r⟩ := h
    rw [List.getElem?_append_left (Nat.le_of_ble_eq_true (by simpa [under, Nat.blt] using hu))] at he
    exact ⟨e, he, r⟩
  | .slice id _ _ _ _, _, hu, h => by
    obtain ⟨e, l, c, he, r⟩ := h
    rw [List.getElem?_append_left (Nat.le_of_ble_eq_true (by simpa [under, Nat.blt] using hu))] at he
    exact ⟨e, l, c, he, r⟩
  | .fn _ cs, _, hu, h => by obtain ⟨l, hl, r⟩ := h; exact ⟨l, underL_rel cs l (by simpa [under] using hu) hl, r⟩
  | .agg cs, _, hu, h => by obtain ⟨l, hl, r⟩ := h; exact ⟨l, underL_rel cs l (by simpa [under] using hu) hl, r⟩
  | .tup cs, _, hu, h => by obtain ⟨l, hl, r⟩ := h; exact ⟨l, underL_rel cs l (by simpa [under] using hu) hl, r⟩
theorem underL_rel {ρ : Env} {β γ : Bet} : ∀ (ss : List SV) (l : List Value), underL β.length ss = true → relL ρ (β ++ γ) ss l → relL ρ β ss l
  | [], _, _, h => h
  | s :: ss, _, hu, h => by
    simp only [underL, Bool.and_eq_true] at hu
    obtain ⟨v, vs, rfl, h1, h2⟩ := h
    exact ⟨v, vs, rfl, under_rel s v hu.1 h1, underL_rel ss vs hu.2 h2⟩
end
def underO (n : Nat) : SObj → Bool
  | .cells _ cs => underL n cs
  | .arr A => (match A.row with | some (_, cs) => underL n cs | none => true)
  | .buf _ _ cs => underL n cs
theorem underL_get {n : Nat} : ∀ {ss : List SV}, underL n ss = true → ∀ (f : Nat) (s : SV), ss[f]? = some s → under n s = true
  | x :: ss, h, f, s, hs => by
    simp only [underL, Bool.and_eq_true] at h
    cases f with
    | zero => simp at hs; subst hs; exact h.1
    | succ f => simp at hs; exact underL_get h.2 f s hs
theorem under_base {n : Nat} (A : SArr) (hg : genOk A.gk A.gen = true) (i : T) (f : Nat) (s : SV) (hs : (A.base i)[f]? = some s) : under n s = true := by
  have h0 : ∀ (ks : List CK) (m f : Nat) (s : SV), (baseRow A.r i ks m)[f]? = some s → under n s = true := by
    intro ks
    induction ks with
    | nil => intro m f s h; simp [baseRow] at h
    | cons k ks ih =>
      intro m f s h
      cases f with
      | zero => simp [baseRow] at h; subst h; cases k <;> rfl
      | succ f => simp [baseRow] at h; exact ih _ f s h
  have h1 : ∀ (g : List (Nat × SV)), genOk A.gk g = true → ∀ (l : List SV), (∀ (f : Nat) (s : SV), l[f]? = some s → under n s = true) → ∀ (f : Nat) (s : SV), (setAll (instG A.gk i g) l)[f]? = some s → under n s = true := by
    intro g
    induction g with
    | nil => intro _ l hl f s h; exact hl f s h
    | cons p g ih =>
      obtain ⟨k, x⟩ := p
      intro hg l hl f s h
      simp only [genOk, Bool.and_eq_true] at hg
      simp only [instG, setAll, List.getElem?_set] at h
      split at h
      · split at h
        · simp only [Option.some.injEq] at h
          subst h
          cases x <;> simp only [okSV, Bool.false_eq_true] at hg <;> first | rfl | exact hg.1.elim
        · cases h
      · exact ih hg.2 l hl f s h
  exact h1 A.gen hg _ (h0 A.ks 0) f s hs
theorem underO_rel {ρ : Env} {β γ : Bet} {e : Blk} {w : World} {o : SObj} (h : underO β.length o = true) (r : objRel ρ (β ++ γ) e w o) : objRel ρ β e w o := by
  cases o with
  | cells wr cs =>
    obtain ⟨h0, h1, h2, arr, el, fr, h3, h4, h5⟩ := r
    exact ⟨h0, h1, h2, arr, el, fr, h3, h4, underL_rel _ _ h h5⟩
  | buf el sz cs =>
    obtain ⟨h0, h1, h2, arr, h3, h4, vs, rest, h5, h6⟩ := r
    exact ⟨h0, h1, h2, arr, h3, h4, vs, rest, h5, underL_rel _ _ h h6⟩
  | arr A =>
    obtain ⟨h0, h1, h2, h2', h2a, h2b, arr, el, fr, h3, h4, h5⟩ := r
    refine ⟨h0, h1, h2, h2', h2a, h2b, arr, el, fr, h3, h4, fun j hj f sv hs => ?_⟩
    obtain ⟨v, hv, q⟩ := h5 j hj f sv hs
    refine ⟨v, hv, under_rel sv v ?_ q⟩
    simp only [SArr.at] at hs
    cases hA : A.row with
    | none => rw [hA] at hs; exact under_base A h2b.1 _ f sv hs
    | some p =>
      obtain ⟨t, cs⟩ := p
      rw [hA] at hs
      simp only at hs
      split at hs
      · simp only [underO, hA] at h; exact underL_get h f sv hs
      · exact under_base A h2b.1 _ f sv hs

/-! blocks -/
def sameArr (A D : SArr) : Bool := (A.wr == D.wr) && Nat.beq A.r D.r && Nat.beq A.stride D.stride && T.beq A.len D.len && leq genBeq A.gen D.gen && leq ckBeq A.ks D.ks && Nat.beq A.gk D.gk
theorem sameArr_ok {A D : SArr} (h : sameArr A D = true) : D = { A with row := D.row } := by
  obtain ⟨a1, a2, a3, a4, a5, a6, a8, a7⟩ := A
  obtain ⟨b1, b2, b3, b4, b5, b6, b8, b7⟩ := D
  simp only [sameArr, Bool.and_eq_true, beq_iff_eq] at h
  obtain ⟨⟨⟨⟨⟨⟨h1, h2⟩, h3⟩, h4⟩, h6⟩, h7⟩, h8⟩ := h
  rw [h1, Nat.eq_of_beq_eq_true h2, Nat.eq_of_beq_eq_true h3, T.beq_eq h4, leq_eq genBeq_eq h6, leq_eq (fun _ _ => ckBeq_eq) h7, Nat.eq_of_beq_eq_true h8]
def SArr.withRow (A : SArr) (t : T) (cs : List SV) : SObj := .arr { A with row := some (t, cs) }
def iteObj (c : B) : SObj → SObj → Option SObj
  | .cells w a, .cells x b => bif w == x then o1 (SObj.cells w) (iteL c a b) else none
  | .buf e z a, .buf e' z' b => bif Nat.beq e e' && Nat.beq z z' then o1 (SObj.buf e z) (iteL c a b) else none
  | .arr A, .arr D => bif sameArr A D then (match A.row, D.row with
      | none, none => some (.arr A)
      | some (t, cs), some (u, ds) => bif T.beq t u then o1 (A.withRow t) (iteL c cs ds) else none
      | some (t, cs), none => o1 (A.withRow t) (iteL c cs (A.base t))
      | none, some (t, ds) => o1 (A.withRow t) (iteL c (A.base t) ds)) else none
  | _, _ => none
/-- a row that is as it was -/
theorem objRel_pad {ρ : Env} {β : Bet} {e : Blk} {w : World} {A : SArr} (hA : A.row = none) (t : T) (h : objRel ρ β e w (.arr A)) : objRel ρ β e w (A.withRow t (A.base t)) := by
  obtain ⟨h0, h1, h2, h2', h2a, h2b, arr, el, fr, h3, h4, h5⟩ := h
  refine ⟨h0, h1, h2, h2', h2a, ⟨h2b.1, fun u cs hu => ?_⟩, arr, el, fr, h3, h4, fun j hj f sv hs => ?_⟩
  · simp only [Option.some.injEq, Prod.mk.injEq] at hu
    rw [← hu.2, SArr.base_length, h2']
  · simp only [SArr.at] at hs
    split at hs
    · rename_i he
      obtain ⟨s', hs', himp⟩ := A.base_rel h2b.1 (ρ := ρ) (β := β) (i := .lit j) (j := t) (by simp only [T.ev]; exact he.symm) hs
      obtain ⟨v, hv, r⟩ := h5 j hj f s' (by simp only [SArr.at, hA]; exact hs')
      exact ⟨v, hv, himp v r⟩
    · exact h5 j hj f sv (by simp only [SArr.at, hA]; exact hs)
theorem withRow_ite {ρ : Env} {β : Bet} {e : Blk} {w : World} {c : B} {A : SArr} {t : T} {cs ds l : List SV} (hl : iteL c cs ds = some l) (r : bif c.ev ρ then objRel ρ β e w (A.withRow t cs) else objRel ρ β e w (A.withRow t ds)) :
    objRel ρ β e w (A.withRow t l) := by
  obtain ⟨l1, l2, l3⟩ := iteL_get hl
  cases hc : c.ev ρ
  · rw [hc] at r
    obtain ⟨h0, h1, h2, h2', h2a, h2b, arr, el, fr, h3, h4, h5⟩ := r
    refine ⟨h0, h1, h2, h2', h2a, ⟨h2b.1, fun u cs' hu => ?_⟩, arr, el, fr, h3, h4, fun j hj f sv hs => ?_⟩
    · simp only [Option.some.injEq, Prod.mk.injEq] at hu
      rw [← hu.2, l2]; exact h2b.2 t ds rfl
    · simp only [SArr.at] at hs h5
      split at hs
      · rename_i he
        obtain ⟨x, y, _, hy, hz⟩ := l3 f sv hs
        obtain ⟨v, hv, r⟩ := h5 j hj f y (by rw [if_pos he]; exact hy)
        exact ⟨v, hv, iteSV_rel hz (by rw [hc]; exact r)⟩
      · rename_i he
        exact h5 j hj f sv (by rw [if_neg he]; exact hs)
  · rw [hc] at r
    obtain ⟨h0, h1, h2, h2', h2a, h2b, arr, el, fr, h3, h4, h5⟩ := r
    refine ⟨h0, h1, h2, h2', h2a, ⟨h2b.1, fun u cs' hu => ?_⟩, arr, el, fr, h3, h4, fun j hj f sv hs => ?_⟩
    · simp only [Option.some.injEq, Prod.mk.injEq] at hu
      rw [← hu.2, l1]; exact h2b.2 t cs rfl
    · simp only [SArr.at] at hs h5
      split at hs
      · rename_i he
        obtain ⟨x, y, hx, _, hz⟩ := l3 f sv hs
        obtain ⟨v, hv, r⟩ := h5 j hj f x (by rw [if_pos he]; exact hx)
        exact ⟨v, hv, iteSV_rel hz (by rw [hc]; exact r)⟩
      · rename_i he
        exact h5 j hj f sv (by rw [if_neg he]; exact hs)
theorem iteObj_rel {ρ : Env} {β : Bet} {e : Blk} {w : World} {c : B} {a b o : SObj} (h : iteObj c a b = some o) (r : bif c.ev ρ then objRel ρ β e w a else objRel ρ β e w b) : objRel ρ β e w o := by
  cases a with
  | buf el sz cs =>
    cases b with
    | arr D => simp [iteObj] at h
    | cells x ds => simp [iteObj] at h
    | buf el' sz' ds =>
      simp only [iteObj] at h
      obtain ⟨h1, h2⟩ := bif_some h
      obtain ⟨l, hl, rfl⟩ := o1_some h2
      rw [Bool.and_eq_true] at h1
      have e1 := Nat.eq_of_beq_eq_true h1.1
      have e2 := Nat.eq_of_beq_eq_true h1.2
      subst e1; subst e2
      cases hc : c.ev ρ
      · rw [hc] at r
        obtain ⟨h0, h1, h2, arr, h3, h4, vs, rest, h5, h6⟩ := r
        exact ⟨h0, h1, h2, arr, h3, h4, vs, rest, h5, iteL_rel hl (by rw [hc]; exact h6)⟩
      · rw [hc] at r
        obtain ⟨h0, h1, h2, arr, h3, h4, vs, rest, h5, h6⟩ := r
        exact ⟨h0, h1, h2, arr, h3, h4, vs, rest, h5, iteL_rel hl (by rw [hc]; exact h6)⟩
  | cells wr cs =>
    cases b with
    | arr D => simp [iteObj] at h
    | buf _ _ _ => simp [iteObj] at h
    | cells x ds =>
      simp only [iteObj] at h
      obtain ⟨h1, h2⟩ := bif_some h
      obtain ⟨l, hl, rfl⟩ := o1_some h2
      have : wr = x := by simpa using h1
      subst this
      cases hc : c.ev ρ
      · rw [hc] at r
        obtain ⟨h0, h1, h2, arr, el, fr, h3, h4, h5⟩ := r
        exact ⟨h0, h1, h2, arr, el, fr, h3, h4, iteL_rel hl (by rw [hc]; exact h5)⟩
      · rw [hc] at r
        obtain ⟨h0, h1, h2, arr, el, fr, h3, h4, h5⟩ := r
        exact ⟨h0, h1, h2, arr, el, fr, h3, h4, iteL_rel hl (by rw [hc]; exact h5)⟩
  | arr A =>
    cases b with
    | buf _ _ _ => simp [iteObj] at h
    | cells x ds => simp [iteObj] at h
    | arr D =>
      simp only [iteObj] at h
      obtain ⟨h1, h2⟩ := bif_some h
      have hD := sameArr_ok h1
      rw [hD] at r
      split at h2
      · rename_i hA hd
        cases h2
        have hAA : ({ A with row := D.row } : SArr) = A := by rw [hd, ← hA]
        rw [hAA] at r
        cases hc : c.ev ρ <;> rw [hc] at r <;> exact r
      · rename_i t cs u ds hA hd
        obtain ⟨h3, h4⟩ := bif_some h2
        obtain ⟨l, hl, rfl⟩ := o1_some h4
        refine withRow_ite hl ?_
        have hAA : A = { A with row := some (t, cs) } := by rw [← hA]
        rw [hd, ← T.beq_eq h3] at r
        cases hc : c.ev ρ
        · rw [hc] at r; exact r
        · rw [hc] at r; rw [hAA] at r; exact r
      · rename_i t cs hA hd
        obtain ⟨l, hl, rfl⟩ := o1_some h2
        refine withRow_ite hl ?_
        have hAA : A = { A with row := some (t, cs) } := by rw [← hA]
        cases hc : c.ev ρ
        · rw [hc] at r
          have := objRel_pad (A := { A with row := D.row }) hd t r
          exact this
        · rw [hc] at r; rw [hAA] at r; exact r
      · rename_i t ds hA hd
        obtain ⟨l, hl, rfl⟩ := o1_some h2
        refine withRow_ite hl ?_
        cases hc : c.ev ρ
        · rw [hc] at r; rw [hd] at r; exact r
        · rw [hc] at r; exact objRel_pad hA t r
/-- the blocks below a number, of two ways -/
def iteTr (c : B) (N : Nat) (m : Mem) (t2 : Tr SObj) : Nat → Option (Tr SObj)
  | 0 => some .nil
  | n + 1 => (match iteTr c N m t2 n with
    | none => none
    | some t => (match m.tr.get n, t2.get n with
      | some a, some b => bif underO N a then (match iteObj c a b with | some o => some (t.put n o) | none => none) else none
      | none, none => some t
      | _, _ => none))
def keepTr (N : Nat) (m : Mem) : Nat → Option (Tr SObj)
  | 0 => some .nil
  | n + 1 => (match keepTr N m n with
    | none => none
    | some t => (match m.tr.get n with
      | some a => bif underO N a then some (t.put n a) else none
      | none => some t))
theorem keepTr_get {N : Nat} {m : Mem} : ∀ {n : Nat} {t : Tr SObj}, keepTr N m n = some t → ∀ id o, t.get id = some o → id < n ∧ m.tr.get id = some o ∧ underO N o = true
  | 0, t, h, id, o, ho => by simp only [keepTr, Option.some.injEq] at h; subst h; simp [Tr.get] at ho
  | n + 1, t, h, id, o, ho => by
    simp only [keepTr] at h
    split at h
    · cases h
    · rename_i t0 ht0
      split at h
      · rename_i a ha
        obtain ⟨h1, h2⟩ := bif_some h
        cases h2
        rw [Tr.get_put] at ho
        split at ho
        · rename_i e; subst e; cases ho; exact ⟨by omega, ha, h1⟩
        · have := keepTr_get ht0 id o ho; exact ⟨by omega, this.2⟩
      · cases h
        have := keepTr_get ht0 id o ho; exact ⟨by omega, this.2⟩
theorem iteTr_get {c : B} {N : Nat} {m : Mem} {t2 : Tr SObj} : ∀ {n : Nat} {t : Tr SObj}, iteTr c N m t2 n = some t → ∀ id o, t.get id = some o → id < n ∧ ∃ a b, m.tr.get id = some a ∧ t2.get id = some b ∧ underO N a = true ∧ iteObj c a b = some o
  | 0, t, h, id, o, ho => by simp only [iteTr, Option.some.injEq] at h; subst h; simp [Tr.get] at ho
  | n + 1, t, h, id, o, ho => by
    simp only [iteTr] at h
    split at h
    · cases h
    · rename_i t0 ht0
      split at h
      · rename_i a b ha hb
        obtain ⟨h1, h2⟩ := bif_some h
        split at h2
        · rename_i x hx
          cases h2
          rw [Tr.get_put] at ho
          split at ho
          · rename_i e; subst e; cases ho; exact ⟨by omega, a, b, ha, hb, h1, hx⟩
          · have := iteTr_get ht0 id o ho; exact ⟨by omega, this.2⟩
        · cases h2
      · cases h
        have := iteTr_get ht0 id o ho; exact ⟨by omega, this.2⟩
      · cases h

/-! what a way was told -/
def factsOf (pc0 pc : PC) : PC := pc.take (pc.length - pc0.length)
def conj : PC → B
  | [] => .lit true
  | (b, v) :: r => mkAnd (bif v then b else mkNot b) (conj r)
theorem conj_ev {ρ : Env} : ∀ {l : PC}, PcH ρ l → (conj l).ev ρ = true
  | [], _ => rfl
  | (b, v) :: r, h => by
    simp only [conj, mkAnd_ev, conj_ev h.tail, Bool.and_true]
    have := h.head
    cases v
    · simp [mkNot_ev, this]
    · simpa using this
theorem conj_pc {ρ : Env} : ∀ {l : PC}, (conj l).ev ρ = true → PcH ρ l
  | [], _ => PcH.nil ρ
  | (b, v) :: r, h => by
    simp only [conj, mkAnd_ev, Bool.and_eq_true] at h
    refine PcH.cons ?_ (conj_pc h.2)
    cases v
    · simpa [mkNot_ev] using h.1
    · simpa using h.1
theorem factsOf_ok {ρ : Env} {pc0 pc : PC} (h : PcH ρ pc) : PcH ρ (factsOf pc0 pc) := fun p hp => h p (List.mem_of_mem_take hp)
def against (f g : PC) : Bool := f.any fun p => match simpB g p.1 with | .lit v => !(v == p.2) | _ => false
/-- two ways of which but one can be -/
def excl (f g : PC) : Bool := against f g || against g f
theorem against_ok {ρ : Env} {f g : PC} (h : against f g = true) (hf : PcH ρ f) (hg : PcH ρ g) : False := by
  obtain ⟨p, hp, hb⟩ := List.any_eq_true.1 h
  have h1 := hf p hp
  have h2 := simpB_ev hg p.1
  split at hb
  · rename_i v hv
    rw [hv, h1] at h2
    simp only [B.ev] at h2
    rw [h2] at hb
    simp at hb
  · cases hb
theorem excl_ok {ρ : Env} {f g : PC} (h : excl f g = true) (hf : PcH ρ f) (hg : PcH ρ g) : False := by
  rcases Bool.or_eq_true _ _ ▸ h with h | h
  · exact against_ok h hf hg
  · exact against_ok h hg hf
/-- the ends of a call, as one -/
def joinC (N : Nat) (pc0 : PC) : List COut → Option (SV × Tr SObj × List PC)
  | [] => none
  | [o] => (match o.ex, keepTr N o.mem N with
    | .ret v, some t => bif under N v then some (v, t, [factsOf pc0 o.pc]) else none
    | _, _ => none)
  | o :: o' :: os => (match o.ex, joinC N pc0 (o' :: os) with
    | .ret v, some (v', t', fs) =>
      bif fs.all (excl (factsOf pc0 o.pc)) && under N v then
        (match iteSV (conj (factsOf pc0 o.pc)) v v', iteTr (conj (factsOf pc0 o.pc)) N o.mem t' N with
        | some u, some t => some (u, t, factsOf pc0 o.pc :: fs)
        | _, _ => none) else none
    | _, _ => none)
def joinAll (m0 : Mem) (pc0 : PC) (l : List COut) : List COut := match joinC m0.nx pc0 l with
  | some (v, t, _) => [⟨pc0, ⟨t, m0.nx⟩, .ret v⟩]
  | none => l
/-- of what is the truth of a world told -/
def TrR (ρ : Env) (β : Bet) (w : World) (t : Tr SObj) : Prop := ∀ id o, t.get id = some o → ∃ e, β[id]? = some e ∧ objRel ρ β e w o
theorem joinC_ok {ρ : Env} {β γ : Bet} {w : World} {pc0 : PC} : ∀ {l : List COut} {v : SV} {t : Tr SObj} {fs : List PC}, joinC β.length pc0 l = some (v, t, fs) →
    (∀ o ∈ l, ∃ u, o.ex = .ret u) ∧ (∀ o ∈ l, factsOf pc0 o.pc ∈ fs) ∧ (∀ id o, t.get id = some o → id < β.length) ∧
    ∀ o ∈ l, PcH ρ o.pc → ∀ u x, o.ex = .ret u → u.rel ρ (β ++ γ) x → TrR ρ (β ++ γ) w o.mem.tr → v.rel ρ β x ∧ TrR ρ β w t
  | [], _, _, _, h => by simp [joinC] at h
  | [o], v, t, fs, h => by
    simp only [joinC] at h
    split at h
    · rename_i v' t' hex hk
      obtain ⟨h1, h2⟩ := bif_some h
      simp only [Option.some.injEq, Prod.mk.injEq] at h2
      obtain ⟨rfl, rfl, rfl⟩ := h2
      refine ⟨fun x hx => ?_, fun x hx => ?_, fun id ob hob => (keepTr_get hk id ob hob).1, fun x hx hp u y hu hr hm => ?_⟩
      · simp at hx; subst hx; exact ⟨_, hex⟩
      · simp at hx; subst hx; simp
      · simp at hx; subst hx
        rw [hex] at hu; cases hu
        refine ⟨under_rel _ _ h1 hr, fun id ob hob => ?_⟩
        obtain ⟨hlt, hg, hu⟩ := keepTr_get hk id ob hob
        obtain ⟨e, he, r⟩ := hm id ob hg
        rw [List.getElem?_append_left hlt] at he
        exact ⟨e, he, underO_rel hu r⟩
    · cases h
  | o :: o' :: os, v, t, fs, h => by
    simp only [joinC] at h
    split at h
    · rename_i v1 v' t' fs' hex hj
      obtain ⟨h1, h2⟩ := bif_some h
      rw [Bool.and_eq_true] at h1
      obtain ⟨i1, i2, i3, i4⟩ := joinC_ok (ρ := ρ) (γ := γ) (w := w) hj
      split at h2
      · rename_i u' t'' hu' ht''
        simp only [Option.some.injEq, Prod.mk.injEq] at h2
        obtain ⟨rfl, rfl, rfl⟩ := h2
        refine ⟨fun x hx => ?_, fun x hx => ?_, fun id ob hob => (iteTr_get ht'' id ob hob).1, fun x hx hp u y hu hr hm => ?_⟩
        · cases hx with
          | head => exact ⟨_, hex⟩
          | tail _ hx => exact i1 x hx
        · cases hx with
          | head => exact .head _
          | tail _ hx => exact .tail _ (i2 x hx)
        · cases hx with
          | head =>
            rw [hex] at hu; cases hu
            have hc := conj_ev (factsOf_ok (pc0 := pc0) hp)
            refine ⟨iteSV_rel hu' (by rw [hc]; exact under_rel _ _ h1.2 hr), fun id ob hob => ?_⟩
            obtain ⟨hlt, a, b, ha, hb, hua, hite⟩ := iteTr_get ht'' id ob hob
            obtain ⟨e, he, r⟩ := hm id a ha
            rw [List.getElem?_append_left hlt] at he
            exact ⟨e, he, iteObj_rel hite (by rw [hc]; exact underO_rel hua r)⟩
          | tail _ hx =>
            obtain ⟨k1, k2⟩ := i4 x hx hp u y hu hr hm
            have hc : (conj (factsOf pc0 o.pc)).ev ρ = false := by
              cases hc : (conj (factsOf pc0 o.pc)).ev ρ
              · rfl
              · exact (excl_ok (List.all_eq_true.1 h1.1 _ (i2 x hx)) (conj_pc hc) (factsOf_ok hp)).elim
            refine ⟨iteSV_rel hu' (by rw [hc]; exact k1), fun id ob hob => ?_⟩
            obtain ⟨hlt, a, b, ha, hb, hua, hite⟩ := iteTr_get ht'' id ob hob
            obtain ⟨e, he, r⟩ := k2 id b hb
            exact ⟨e, he, iteObj_rel hite (by rw [hc]; exact r)⟩
      · cases h2
    · cases h
end Go.SX
