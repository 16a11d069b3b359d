/- SX, part 9g: new blocks by new names; ends of one form made one. -/
import Derived.Test.YtlmchholjalfgaaSXE
import Derived.Test.YtlmchholjalfgaaSXB
import Derived.LoopN
namespace Go.SX
open Go

def posOf (id : Nat) : List Nat → Nat → Option Nat
  | [], _ => none
  | x :: l, k => bif Nat.beq x id then some k else posOf id l (k + 1)
theorem posOf_ok {id j : Nat} : ∀ {l : List Nat} {k : Nat}, posOf id l k = some j → k ≤ j ∧ l[j - k]? = some id
  | [], _, h => by cases h
  | x :: l, k, h => by
    simp only [posOf] at h
    cases hb : Nat.beq x id
    · rw [hb] at h
      obtain ⟨h1, h2⟩ := posOf_ok h
      refine ⟨by omega, ?_⟩
      rw [show j - k = (j - (k + 1)) + 1 by omega]
      simpa using h2
    · rw [hb] at h
      cases h
      have := Nat.eq_of_beq_eq_true hb
      subst this
      simp
def ren (n0 : Nat) (L : List Nat) (id : Nat) : Option Nat := bif Nat.blt id n0 then some id else posOf id L n0
mutual
def renV (n0 : Nat) (L : List Nat) : SV → Option SV
  | .ptr i a o => (match ren n0 L i with | some j => some (.ptr j a o) | none => none)
  | .slice i a o l c => (match ren n0 L i with | some j => some (.slice j a o l c) | none => none)
  | .mref i => (match ren n0 L i with | some j => some (.mref j) | none => none)
  | .fn f cs => o1 (SV.fn f) (renVL n0 L cs)
  | .agg cs => o1 SV.agg (renVL n0 L cs)
  | .tup cs => o1 SV.tup (renVL n0 L cs)
  | .ifc t s => o1 (SV.ifc t) (renV n0 L s)
  | s => some s
def renVL (n0 : Nat) (L : List Nat) : List SV → Option (List SV)
  | [] => some []
  | s :: ss => o2 List.cons (renV n0 L s) (renVL n0 L ss)
end
def RenOk (n0 : Nat) (L : List Nat) (β β' : Bet) : Prop := ∀ i j e, ren n0 L i = some j → β[i]? = some e → β'[j]? = some e
mutual
theorem renV_rel {ρ : Env} {β β' : Bet} {n0 : Nat} {L : List Nat} (hR : RenOk n0 L β β') : ∀ {s s' : SV} {v : Value}, renV n0 L s = some s' → s.rel ρ β v → s'.rel ρ β' v
  | .bool _, _, _, h, r => by cases h; exact r
  | .int _ _, _, _, h, r => by cases h; exact r
  | .nilp, _, _, h, r => by cases h; exact r
  | .nils, _, _, h, r => by cases h; exact r
  | .raw _, _, _, h, r => by cases h; exact r
  | .str _ _, _, _, h, r => by cases h; exact r
  | .bst _, _, _, h, r => by cases h; exact r
  | .rst _ _ _ _, _, _, h, r => by cases h; exact r
  | .ifc t s, s', v, h, r => by
    simp only [renV] at h
    obtain ⟨z, hz, rfl⟩ := o1_some h
    obtain ⟨u, hu, rfl⟩ := r
    exact ⟨u, renV_rel hR hz hu, rfl⟩
  | .ptr i a o, s', v, h, r => by
    simp only [renV] at h
    split at h
    · rename_i j hj
      cases h
      obtain ⟨e, he, r⟩ := r
      exact ⟨e, hR i j e hj he, r⟩
    · cases h
  | .mref i, s', v, h, r => by
    simp only [renV] at h
    split at h
    · rename_i j hj
      cases h
      obtain ⟨e, he, r⟩ := r
      exact ⟨e, hR i j e hj he, r⟩
    · cases h
  | .slice i a o l c, s', v, h, r => by
    simp only [renV] at h
    split at h
    · rename_i j hj
      cases h
      obtain ⟨e, l', c', he, r⟩ := r
      exact ⟨e, l', c', hR i j e hj he, r⟩
    · cases h
  | .fn f cs, s', v, h, r => by
    simp only [renV] at h
    obtain ⟨cs', h1, rfl⟩ := o1_some h
    obtain ⟨l, hl, rfl⟩ := r
    exact ⟨l, renVL_rel hR h1 hl, rfl⟩
  | .agg cs, s', v, h, r => by
    simp only [renV] at h
    obtain ⟨cs', h1, rfl⟩ := o1_some h
    obtain ⟨l, hl, rfl⟩ := r
    exact ⟨l, renVL_rel hR h1 hl, rfl⟩
  | .tup cs, s', v, h, r => by
    simp only [renV] at h
    obtain ⟨cs', h1, rfl⟩ := o1_some h
    obtain ⟨l, hl, rfl⟩ := r
    exact ⟨l, renVL_rel hR h1 hl, rfl⟩
theorem renVL_rel {ρ : Env} {β β' : Bet} {n0 : Nat} {L : List Nat} (hR : RenOk n0 L β β') : ∀ {s s' : List SV} {v : List Value}, renVL n0 L s = some s' → relL ρ β s v → relL ρ β' s' v
  | [], s', v, h, r => by cases h; exact r
  | s :: ss, s', v, h, r => by
    simp only [renVL] at h
    obtain ⟨a, b, h1, h2, rfl⟩ := o2_some h
    obtain ⟨u, us, rfl, r1, r2⟩ := r
    exact ⟨u, us, rfl, renV_rel hR h1 r1, renVL_rel hR h2 r2⟩
end
theorem renVL_length {n0 : Nat} {L : List Nat} : ∀ {s s' : List SV}, renVL n0 L s = some s' → s'.length = s.length
  | [], s', h => by cases h; rfl
  | s :: ss, s', h => by
    simp only [renVL] at h
    obtain ⟨a, b, h1, h2, rfl⟩ := o2_some h
    simp [renVL_length h2]
theorem renVL_get {n0 : Nat} {L : List Nat} : ∀ {s s' : List SV}, renVL n0 L s = some s' → ∀ (f : Nat) (z : SV), s'[f]? = some z → ∃ x, s[f]? = some x ∧ renV n0 L x = some z
  | [], s', h, f, z, hz => by cases h; simp at hz
  | s :: ss, s', h, f, z, hz => by
    simp only [renVL] at h
    obtain ⟨a, b, h1, h2, rfl⟩ := o2_some h
    cases f with
    | zero => simp at hz; subst hz; exact ⟨s, rfl, h1⟩
    | succ f => simp at hz; simpa using renVL_get h2 f z hz
def renE (n0 : Nat) (L : List Nat) : List (Int × SV) → Option (List (Int × SV))
  | [] => some []
  | (n, s) :: r => (match renV n0 L s, renE n0 L r with | some s', some r' => some ((n, s') :: r') | _, _ => none)
theorem renE_length {n0 : Nat} {L : List Nat} : ∀ {es l : List (Int × SV)}, renE n0 L es = some l → l.length = es.length
  | [], l, h => by cases h; rfl
  | (n, s) :: r, l, h => by
    simp only [renE] at h
    split at h
    · rename_i s' r' h1 h2; cases h; simp [renE_length h2]
    · cases h
theorem renE_ent {ρ : Env} {β β' : Bet} {n0 : Nat} {L : List Nat} (hR : RenOk n0 L β β') {k : IntKind} : ∀ {es l : List (Int × SV)} {xs : List MapEntry}, renE n0 L es = some l → entRel ρ β k es xs → entRel ρ β' k l xs
  | [], l, _, h, r => by cases h; exact r
  | (n, s) :: q, l, xs, h, r => by
    simp only [renE] at h
    split at h
    · rename_i s' r' h1 h2
      cases h
      obtain ⟨x, ys, rfl, a1, a2, a4⟩ := r
      exact ⟨x, ys, rfl, a1, renV_rel hR h1 a2, renE_ent hR h2 a4⟩
    · cases h
theorem renE_rel {ρ : Env} {β β' : Bet} {n0 : Nat} {L : List Nat} (hR : RenOk n0 L β β') {k : IntKind} {es l : List (Int × SV)} {xs : List MapEntry} (h : renE n0 L es = some l) (r : mpRel ρ β k es xs) : mpRel ρ β' k l xs :=
  let ⟨⟨l', h1, h2⟩, h3, h4⟩ := r; ⟨⟨l', h1, renE_ent hR h h2⟩, h3, fun x hx => by rw [renE_length h]; exact h4 x hx⟩
def renO (n0 : Nat) (L : List Nat) : SObj → Option SObj
  | .cells w cs => o1 (SObj.cells w) (renVL n0 L cs)
  | .arr A => (match A.row with
    | none => some (.arr A)
    | some (t, cs) => o1 (fun l => SObj.arr { A with row := some (t, l) }) (renVL n0 L cs))
  | .buf e z cs => o1 (SObj.buf e z) (renVL n0 L cs)
  | .mp k es => o1 (SObj.mp k) (renE n0 L es)
  | .mq ks vs => o1 (SObj.mq ks) (renVL n0 L vs)
  | .glob g cs => some (.glob g cs)
  | .pre cs => o1 SObj.pre (renVL n0 L cs)
  | .rop e cs r o l => o1 (fun c => SObj.rop e c r o l) (renVL n0 L cs)
  | .it mid n s l => (match ren n0 L mid with | some j => some (.it j n s l) | none => none)
/-- a value that names no block -/
theorem rel_any {ρ : Env} {β β' : Bet} {s : SV} {v : Value} (h : under 0 s = true) (r : s.rel ρ β v) : s.rel ρ β' v := by
  have h1 : s.rel ρ [] v := under_rel (β := []) (γ := β) s v h r
  exact SV.rel_mono (β := []) β' s v h1
theorem renO_rel {ρ : Env} {β β' : Bet} {n0 : Nat} {L : List Nat} (hR : RenOk n0 L β β') {o o' : SObj} {e : Blk} {w : World} (h : renO n0 L o = some o') (r : objRel ρ β e w o) : objRel ρ β' e w o' := by
  cases o with
  | cells wr cs =>
    simp only [renO] at h
    obtain ⟨l, hl, rfl⟩ := o1_some h
    obtain ⟨h0, h1, h2, arr, el, fr, h3, h4, h5⟩ := r
    exact ⟨h0, h1, h2, arr, el, fr, h3, h4, renVL_rel hR hl h5⟩
  | buf el sz cs =>
    simp only [renO] at h
    obtain ⟨l, hl, rfl⟩ := o1_some h
    obtain ⟨h0, h1, h2, arr, h3, h4, vs, rest, h5, h6⟩ := r
    exact ⟨h0, h1, h2, arr, h3, h4, vs, rest, h5, renVL_rel hR hl h6⟩
  | mp k es =>
    simp only [renO] at h
    obtain ⟨l, hl, rfl⟩ := o1_some h
    obtain ⟨h0, h1, h2, arr, h3, h4⟩ := r
    exact ⟨h0, h1, h2, arr, by rw [renE_length hl]; exact h3, renE_rel hR hl h4⟩
  | mq ks vs =>
    simp only [renO] at h
    obtain ⟨l, hl, rfl⟩ := o1_some h
    obtain ⟨h0, h1, h2, arr, h3, h4, h5, h6⟩ := r
    exact ⟨h0, h1, h2, arr, by rw [renVL_length hl]; exact h3, h4, by rw [renVL_length hl]; exact h5, renVL_rel hR hl h6⟩
  | glob g cs =>
    simp only [renO, Option.some.injEq] at h
    subst h
    exact r
  | rop el cs r2 o len =>
    simp only [renO] at h
    obtain ⟨l, hl, rfl⟩ := o1_some h
    obtain ⟨h0, h1, h2, arr, h3, h4, vs, bs, rest, h5, h6, h7⟩ := r
    exact ⟨h0, h1, h2, arr, h3, h4, vs, bs, rest, h5, renVL_rel hR hl h6, h7⟩
  | pre cs =>
    simp only [renO] at h
    obtain ⟨l, hl, rfl⟩ := o1_some h
    obtain ⟨h0, h1, h2, arr, el, fr, h3, vs, rest, h5, h6⟩ := r
    exact ⟨h0, h1, h2, arr, el, fr, h3, vs, rest, h5, renVL_rel hR hl h6⟩
  | it mid n seen last =>
    simp only [renO] at h
    split at h
    · rename_i j hj
      cases h
      obtain ⟨h0, h1, h2, em, sa, h3, h4, h5, h6⟩ := r
      exact ⟨h0, h1, h2, em, sa, hR mid j em hj h3, h4, h5, h6⟩
    · cases h
  | arr A =>
    simp only [renO] at h
    obtain ⟨h0, h1, h2, h2', h2a, h2b, arr, el, fr, h3, h4, h5⟩ := r
    split at h
    · rename_i hA
      cases h
      refine ⟨h0, h1, h2, h2', h2a, h2b, arr, el, fr, h3, h4, fun j hj f sv hs => ?_⟩
      obtain ⟨v, hv, q⟩ := h5 j hj f sv hs
      refine ⟨v, hv, rel_any ?_ q⟩
      simp only [SArr.at, hA] at hs
      exact under_base A h2b.1 _ f sv hs
    · rename_i t cs hA
      obtain ⟨l, hl, rfl⟩ := o1_some h
      refine ⟨h0, h1, h2, h2', h2a, ⟨h2b.1, fun u ds hu => ?_⟩, arr, el, fr, h3, h4, fun j hj f sv hs => ?_⟩
      · simp only [Option.some.injEq, Prod.mk.injEq] at hu
        rw [← hu.2, renVL_length hl]; exact h2b.2 t cs hA
      · simp only [SArr.at] at hs
        split at hs
        · rename_i he
          obtain ⟨x, hx, hxz⟩ := renVL_get hl f sv hs
          obtain ⟨v, hv, q⟩ := h5 j hj f x (by simp only [SArr.at, hA, he, if_true]; exact hx)
          exact ⟨v, hv, renV_rel hR hxz q⟩
        · rename_i he
          obtain ⟨v, hv, q⟩ := h5 j hj f sv (by simp only [SArr.at, hA]; rw [if_neg he]; exact hs)
          exact ⟨v, hv, rel_any (under_base A h2b.1 _ f sv hs) q⟩
/-- the old blocks, by the new names; those that are locked as they were -/
def renTr (n0 : Nat) (L : List Nat) (lk : List Nat) (m0 m : Mem) : Nat → Tr SObj
  | 0 => .nil
  | n + 1 => bif memB n lk then (match m0.tr.get n with | some o => (renTr n0 L lk m0 m n).put n o | none => renTr n0 L lk m0 m n)
    else (match m.tr.get n with
      | some o => (match renO n0 L o with | some o' => (renTr n0 L lk m0 m n).put n o' | none => renTr n0 L lk m0 m n)
      | none => renTr n0 L lk m0 m n)
def renNew (n0 : Nat) (L : List Nat) (m : Mem) : List Nat → Nat → Tr SObj → Tr SObj
  | [], _, t => t
  | id :: l, k, t => (match m.tr.get id with
    | some o => (match renO n0 L o with | some o' => renNew n0 L m l (k + 1) (t.put k o') | none => renNew n0 L m l (k + 1) t)
    | none => renNew n0 L m l (k + 1) t)
theorem memB_of {n : Nat} : ∀ {l : List Nat}, memB n l = true → n ∈ l
  | [], h => by cases h
  | x :: l, h => by
    simp only [memB] at h
    cases hb : Nat.beq x n
    · rw [hb] at h; exact .tail _ (memB_of h)
    · have := Nat.eq_of_beq_eq_true hb; subst this; exact .head _
theorem renTr_get {n0 : Nat} {L lk : List Nat} {m0 m : Mem} : ∀ {n id : Nat} {o : SObj}, (renTr n0 L lk m0 m n).get id = some o → id < n ∧ ((id ∈ lk ∧ m0.tr.get id = some o) ∨ (∃ x, m.tr.get id = some x ∧ renO n0 L x = some o))
  | 0, id, o, h => by simp [renTr, Tr.get] at h
  | n + 1, id, o, h => by
    simp only [renTr] at h
    cases hb : memB n lk
    · rw [hb] at h
      simp only [cond_false] at h
      split at h
      · rename_i x hx
        split at h
        · rename_i o' ho'
          rw [Tr.get_put] at h
          split at h
          · rename_i e; subst e; cases h; exact ⟨by omega, .inr ⟨x, hx, ho'⟩⟩
          · obtain ⟨h1, h2⟩ := renTr_get h; exact ⟨by omega, h2⟩
        · obtain ⟨h1, h2⟩ := renTr_get h; exact ⟨by omega, h2⟩
      · obtain ⟨h1, h2⟩ := renTr_get h; exact ⟨by omega, h2⟩
    · rw [hb] at h
      simp only [cond_true] at h
      split at h
      · rename_i x hx
        rw [Tr.get_put] at h
        split at h
        · rename_i e; subst e; cases h; exact ⟨by omega, .inl ⟨memB_of hb, hx⟩⟩
        · obtain ⟨h1, h2⟩ := renTr_get h; exact ⟨by omega, h2⟩
      · obtain ⟨h1, h2⟩ := renTr_get h; exact ⟨by omega, h2⟩
theorem renNew_get {n0 : Nat} {L : List Nat} {m : Mem} : ∀ {l : List Nat} {k : Nat} {t : Tr SObj} {id : Nat} {o : SObj}, (renNew n0 L m l k t).get id = some o →
    (t.get id = some o) ∨ (∃ i x y, l[i]? = some x ∧ id = k + i ∧ m.tr.get x = some y ∧ renO n0 L y = some o)
  | [], k, t, id, o, h => .inl h
  | x :: l, k, t, id, o, h => by
    simp only [renNew] at h
    have go : ∀ {t' : Tr SObj}, (renNew n0 L m l (k + 1) t').get id = some o → (t'.get id = some o) ∨ (∃ i x' y, (x :: l)[i]? = some x' ∧ id = k + i ∧ m.tr.get x' = some y ∧ renO n0 L y = some o) := by
      intro t' h
      rcases renNew_get h with h | ⟨i, x', y, h1, h2, h3⟩
      · exact .inl h
      · exact .inr ⟨i + 1, x', y, by simpa using h1, by omega, h3⟩
    split at h
    · rename_i y hy
      split at h
      · rename_i o' ho'
        rcases go h with h | h
        · rw [Tr.get_put] at h
          split at h
          · rename_i e; cases h; exact .inr ⟨0, x, y, rfl, by omega, hy, ho'⟩
          · exact .inl h
        · exact .inr h
      · exact go h
    · exact go h
def nodupB : List Nat → Bool
  | [] => true
  | x :: l => !(memB x l) && nodupB l
theorem nodupB_ok : ∀ {l : List Nat}, nodupB l = true → ∀ {i j x : Nat}, l[i]? = some x → l[j]? = some x → i = j
  | [], _, i, j, x, h, _ => by simp at h
  | y :: l, h, i, j, x, hi, hj => by
    simp only [nodupB, Bool.and_eq_true, Bool.not_eq_true'] at h
    cases i with
    | zero =>
      cases j with
      | zero => rfl
      | succ j =>
        simp at hi hj; subst hi
        exact absurd (List.mem_of_getElem? hj) (memB_ok h.1)
    | succ i =>
      cases j with
      | zero =>
        simp at hi hj; subst hj
        exact absurd (List.mem_of_getElem? hi) (memB_ok h.1)
      | succ j =>
        simp at hi hj
        rw [nodupB_ok h.2 hi hj]
def okNew (n0 nx : Nat) (L : List Nat) : Bool := nodupB L && L.all (fun i => Nat.ble n0 i && Nat.blt i nx)
def renM (n0 : Nat) (L lk : List Nat) (m0 m : Mem) : Mem := ⟨renNew n0 L m L n0 (renTr n0 L lk m0 m n0), n0 + L.length⟩
/-- the extension that the new names stand for -/
theorem ren_ext {ρ : Env} {β γ : Bet} {L lk : List Nat} {m0 m : Mem} {w w' : World} (hL : okNew β.length m.nx L = true) (hm0 : MemRel ρ β m0 w) (hm : MemRel ρ (β ++ γ) m w') (hs : Stp β lk w (β ++ γ) w') :
    ∃ δ, RenOk β.length L (β ++ γ) (β ++ δ) ∧ Stp β lk w (β ++ δ) w' ∧ MemRel ρ (β ++ δ) (renM β.length L lk m0 m) w' := by
  simp only [okNew, Bool.and_eq_true] at hL
  obtain ⟨hnd, hall⟩ := hL
  have hin : ∀ {k x : Nat}, L[k]? = some x → β.length ≤ x ∧ x < (β ++ γ).length := fun {k x} hk => by
    have := List.all_eq_true.1 hall x (List.mem_of_getElem? hk)
    rw [Bool.and_eq_true] at this
    rw [← hm.nx]
    exact ⟨Nat.le_of_ble_eq_true this.1, Nat.le_of_ble_eq_true this.2⟩
  let δ : Bet := L.map fun x => (β ++ γ).getD x ⟨0, 0, 0, 0, false⟩
  have hδ : ∀ {k x : Nat}, L[k]? = some x → ∃ e, (β ++ γ)[x]? = some e ∧ δ[k]? = some e := fun {k x} hk => by
    obtain ⟨_, h2⟩ := hin hk
    refine ⟨(β ++ γ)[x], List.getElem?_eq_getElem h2, ?_⟩
    simp only [δ, List.getElem?_map, hk, Option.map_some]
    rw [List.getD_eq_getElem?_getD, List.getElem?_eq_getElem h2]; rfl
  have hR : RenOk β.length L (β ++ γ) (β ++ δ) := fun i j e hij he => by
    unfold ren at hij
    cases hb : Nat.blt i β.length
    · rw [hb] at hij
      obtain ⟨h1, h2⟩ := posOf_ok hij
      obtain ⟨e', he', hd⟩ := hδ h2
      rw [he] at he'; cases he'
      rw [List.getElem?_append_right h1]; exact hd
    · rw [hb] at hij
      cases hij
      have hlt : i < β.length := Nat.le_of_ble_eq_true hb
      rw [List.getElem?_append_left hlt] at he ⊢; exact he
  have hmem : ∀ e ∈ δ, ∃ x, β.length ≤ x ∧ (β ++ γ)[x]? = some e := fun e he => by
    obtain ⟨k, hk⟩ := List.getElem?_of_mem he
    have hlt : k < L.length := by have := (List.getElem?_eq_some_iff.1 hk).1; simpa [δ] using this
    obtain ⟨e', he', hd⟩ := hδ (List.getElem?_eq_getElem hlt)
    rw [hk] at hd; cases hd
    exact ⟨_, (hin (List.getElem?_eq_getElem hlt)).1, he'⟩
  obtain ⟨γ', hγ', hnew⟩ := hs.ext
  have : γ' = γ := by simpa using hγ'.symm
  subst this
  refine ⟨δ, hR, ⟨⟨δ, rfl, fun e he => ?_⟩, hs.os, hs.tape, hs.output, hs.size, hs.keep, hs.lock⟩, ⟨by simp [renM, δ], fun id o ho => ?_, fun e he => ?_, fun i j e e' hi hj hne hb => ?_, fun id hid => ?_⟩⟩
  · obtain ⟨x, hx, he'⟩ := hmem e he
    rw [List.getElem?_append_right hx] at he'
    exact hnew e (List.mem_of_getElem? he')
  · simp only [renM] at ho
    rcases renNew_get ho with h | ⟨i, x, y, h1, h2, h3, h4⟩
    · obtain ⟨hlt, h⟩ := renTr_get h
      rcases h with ⟨hl, h⟩ | ⟨x, hx, h⟩
      · obtain ⟨e, he, r⟩ := hm0.obj id o h
        exact ⟨e, by rw [List.getElem?_append_left hlt]; exact he, objRel_mono _ (objRel_heap r (hs.lock id hl e he))⟩
      · obtain ⟨e, he, r⟩ := hm.obj id x hx
        refine ⟨e, hR id id e ?_ he, renO_rel hR h r⟩
        unfold ren
        rw [show Nat.blt id β.length = true from Nat.ble_eq_true_of_le hlt]; rfl
    · obtain ⟨e, he, r⟩ := hm.obj x y h3
      obtain ⟨e', he', hd⟩ := hδ h1
      rw [he] at he'; cases he'
      exact ⟨e, by rw [h2, List.getElem?_append_right (by omega)]; simpa using hd, renO_rel hR h4 r⟩
  · rcases List.mem_append.1 he with h | h
    · exact hm.lt e (List.mem_append_left _ h)
    · obtain ⟨x, _, he'⟩ := hmem e h
      exact hm.lt e (List.mem_of_getElem? he')
  · -- each stands for one
    have back : ∀ {k : Nat} {e : Blk}, (β ++ δ)[k]? = some e → ∃ x, (β ++ γ')[x]? = some e ∧ ((k < β.length ∧ x = k) ∨ (β.length ≤ k ∧ L[k - β.length]? = some x)) := fun {k e} hk => by
      by_cases hlt : k < β.length
      · rw [List.getElem?_append_left hlt] at hk
        exact ⟨k, by rw [List.getElem?_append_left hlt]; exact hk, .inl ⟨hlt, rfl⟩⟩
      · have hge : β.length ≤ k := by omega
        rw [List.getElem?_append_right hge] at hk
        have hlt' : k - β.length < L.length := by have := (List.getElem?_eq_some_iff.1 hk).1; simpa [δ] using this
        obtain ⟨e', he', hd⟩ := hδ (List.getElem?_eq_getElem hlt')
        rw [hk] at hd; cases hd
        exact ⟨_, he', .inr ⟨hge, List.getElem?_eq_getElem hlt'⟩⟩
    obtain ⟨x, hx, cx⟩ := back hi
    obtain ⟨y, hy, cy⟩ := back hj
    refine hm.apart x y e e' hx hy (fun hxy => ?_) hb
    subst hxy
    rcases cx with ⟨c1, c2⟩ | ⟨c1, c2⟩
    · rcases cy with ⟨d1, d2⟩ | ⟨d1, d2⟩
      · omega
      · have := (hin d2).1; omega
    · rcases cy with ⟨d1, d2⟩ | ⟨d1, d2⟩
      · have := (hin c2).1; omega
      · have := nodupB_ok hnd c2 d2; omega
  · simp only [renM] at hid ⊢
    cases hg : (renNew β.length L m L β.length (renTr β.length L lk m0 m β.length)).get id with
    | none => rfl
    | some o =>
      rcases renNew_get hg with h | ⟨i, x, y, h1, h2, _⟩
      · have := (renTr_get h).1; omega
      · have := (List.getElem?_eq_some_iff.1 h1).1; omega

/-! which new blocks there are, one behind the other -/
mutual
def newsV (n0 : Nat) : SV → List Nat → List Nat
  | .ptr i _ _, acc => bif Nat.blt i n0 || memB i acc then acc else acc ++ [i]
  | .slice i _ _ _ _, acc => bif Nat.blt i n0 || memB i acc then acc else acc ++ [i]
  | .mref i, acc => bif Nat.blt i n0 || memB i acc then acc else acc ++ [i]
  | .fn _ cs, acc => newsL n0 cs acc
  | .agg cs, acc => newsL n0 cs acc
  | .tup cs, acc => newsL n0 cs acc
  | .ifc _ s, acc => newsV n0 s acc
  | _, acc => acc
def newsL (n0 : Nat) : List SV → List Nat → List Nat
  | [], acc => acc
  | s :: ss, acc => newsL n0 ss (newsV n0 s acc)
end
def newsO (n0 : Nat) (o : SObj) (acc : List Nat) : List Nat := match o with
  | .cells _ cs => newsL n0 cs acc
  | .arr A => (match A.row with | some (_, cs) => newsL n0 cs acc | none => acc)
  | .buf _ _ cs => newsL n0 cs acc
  | .mp _ es => es.foldl (fun acc p => newsV n0 p.2 acc) acc
  | .mq _ vs => newsL n0 vs acc
  | .glob _ _ => acc
  | .pre cs => newsL n0 cs acc
  | .rop _ cs _ _ _ => newsL n0 cs acc
  | .it mid _ _ _ => bif Nat.blt mid n0 || memB mid acc then acc else acc ++ [mid]
def newsM (n0 : Nat) (lk : List Nat) (m : Mem) : Nat → List Nat → List Nat
  | 0, acc => acc
  | n + 1, acc => bif memB n lk then newsM n0 lk m n acc else newsM n0 lk m n (match m.tr.get n with | some o => newsO n0 o acc | none => acc)
def newsC (n0 : Nat) (m : Mem) : Nat → Nat → List Nat → List Nat
  | 0, _, acc => acc
  | n + 1, k, acc => (match acc[k]? with
    | some id => newsC n0 m n (k + 1) (match m.tr.get id with | some o => newsO n0 o acc | none => acc)
    | none => acc)
def newsT (n0 : Nat) : Tr SV → List Nat → List Nat
  | .nil, acc => acc
  | .node a l r, acc => newsT n0 r (newsT n0 l (match a with | some s => newsV n0 s acc | none => acc))
/-- the new blocks that are named -/
def newsAll (n0 : Nat) (lk : List Nat) (tm : Tr SV) (m : Mem) : List Nat := newsC n0 m (m.nx + 1) 0 (newsM n0 lk m n0 (newsT n0 tm []))
def Tr.mapO {α : Type} (f : α → Option α) : Tr α → Tr α
  | .nil => .nil
  | .node a l r => .node (match a with | some x => f x | none => none) (Tr.mapO f l) (Tr.mapO f r)
theorem Tr.get_mapO {α : Type} {f : α → Option α} : ∀ {t : Tr α} {n : Nat} {z : α}, (Tr.mapO f t).get n = some z → ∃ x, t.get n = some x ∧ f x = some z
  | .nil, n, z, h => by simp [Tr.mapO, Tr.get] at h
  | .node a l r, n, z, h => by
    simp only [Tr.mapO] at h
    cases n with
    | zero =>
      simp only [Tr.get] at h ⊢
      split at h
      · exact ⟨_, rfl, h⟩
      · cases h
    | succ n =>
      simp only [Tr.get] at h ⊢
      cases hb : Nat.beq (n % 2) 0
      · rw [hb] at h; exact Tr.get_mapO h
      · rw [hb] at h; exact Tr.get_mapO h

/-! ends -/
/-- what an end is good for: values by number, in one world -/
def EndG (ρ : Env) (β : Bet) (lk : List Nat) (w w' : World) (vals : Nat → Option Value) (tm : Tr SV) (mem : Mem) (pc : PC) : Prop :=
  PcH ρ pc ∧ ∃ β', Stp β lk w β' w' ∧ (∀ t s, tm.get t = some s → ∃ v, vals t = some v ∧ s.rel ρ β' v) ∧ MemRel ρ β' mem w'
/-- slots that are new, and name new blocks, forgotten -/
def Tr.mask (n0 : Nat) : Tr SV → Tr SV → Tr SV
  | _, .nil => .nil
  | base, .node a l r => .node (match a with
      | some s => (match base with | .node (some _) _ _ => some s | _ => bif under n0 s then some s else none)
      | none => none) (Tr.mask n0 (match base with | .node _ l _ => l | .nil => .nil) l) (Tr.mask n0 (match base with | .node _ _ r => r | .nil => .nil) r)
theorem Tr.get_mask {n0 : Nat} : ∀ {t base : Tr SV} {n : Nat} {z : SV}, (Tr.mask n0 base t).get n = some z → t.get n = some z
  | .nil, base, n, z, h => by simp [Tr.mask, Tr.get] at h
  | .node a l r, base, n, z, h => by
    simp only [Tr.mask] at h
    cases n with
    | zero =>
      simp only [Tr.get] at h ⊢
      split at h
      · split at h
        · exact h
        · cases hu : under n0 _ <;> rw [hu] at h
          · cases h
          · exact h
      · cases h
    | succ n =>
      simp only [Tr.get] at h ⊢
      cases hb : Nat.beq (n % 2) 0
      · rw [hb] at h; exact Tr.get_mask h
      · rw [hb] at h; exact Tr.get_mask h
def maskO (on : Bool) (n0 : Nat) (base : Tr SV) (o : Out) : Out := bif on then ⟨o.ex, { o.st with tm := Tr.mask n0 base o.st.tm }⟩ else o
/-- an end by new names -/
def canonO (lk : List Nat) (m0 : Mem) (o : Out) : Out :=
  bif Nat.beq o.st.mem.nx m0.nx then o else
  let L := newsAll m0.nx lk o.st.tm o.st.mem
  bif okNew m0.nx o.st.mem.nx L then ⟨o.ex, ⟨Tr.mapO (renV m0.nx L) o.st.tm, renM m0.nx L lk m0 o.st.mem, o.st.pc, o.st.fid⟩⟩ else o
theorem maskO_ok {ρ : Env} {β : Bet} {lk : List Nat} {w w' : World} {vals : Nat → Option Value} {on : Bool} {n0 : Nat} {base : Tr SV} {o : Out} (h : EndG ρ β lk w w' vals o.st.tm o.st.mem o.st.pc) :
    EndG ρ β lk w w' vals (maskO on n0 base o).st.tm (maskO on n0 base o).st.mem (maskO on n0 base o).st.pc := by
  cases on
  · exact h
  · obtain ⟨hp, β', hs, ht, hm⟩ := h
    exact ⟨hp, β', hs, fun t s hts => ht t s (Tr.get_mask hts), hm⟩
theorem maskO_ex (on : Bool) (n0 : Nat) (base : Tr SV) (o : Out) : (maskO on n0 base o).ex = o.ex := by cases on <;> rfl
theorem maskO_pc (on : Bool) (n0 : Nat) (base : Tr SV) (o : Out) : (maskO on n0 base o).st.pc = o.st.pc := by cases on <;> rfl
theorem canonO_ok {ρ : Env} {β : Bet} {lk : List Nat} {w w' : World} {vals : Nat → Option Value} {m0 : Mem} (hm0 : MemRel ρ β m0 w) {o : Out} (h : EndG ρ β lk w w' vals o.st.tm o.st.mem o.st.pc) :
    EndG ρ β lk w w' vals (canonO lk m0 o).st.tm (canonO lk m0 o).st.mem (canonO lk m0 o).st.pc := by
  unfold canonO
  cases Nat.beq o.st.mem.nx m0.nx
  · simp only [cond_false]
    generalize newsAll m0.nx lk o.st.tm o.st.mem = L
    cases hL : okNew m0.nx o.st.mem.nx L
    · exact h
    · simp only [cond_true]
      obtain ⟨hp, β', hs, ht, hm⟩ := h
      obtain ⟨γ, rfl, _⟩ := hs.ext
      rw [hm0.nx] at hL ⊢
      obtain ⟨δ, hR, hs', hm'⟩ := ren_ext hL hm0 hm hs
      refine ⟨hp, β ++ δ, hs', fun t s hts => ?_, hm'⟩
      obtain ⟨x, hx, hr⟩ := Tr.get_mapO hts
      obtain ⟨v, hv, r⟩ := ht t x hx
      exact ⟨v, hv, renV_rel hR hr r⟩
  · exact h
theorem canonO_ex (lk : List Nat) (m0 : Mem) (o : Out) : (canonO lk m0 o).ex = o.ex := by
  unfold canonO
  cases Nat.beq o.st.mem.nx m0.nx
  · simp only [cond_false]
    cases okNew m0.nx o.st.mem.nx (newsAll m0.nx lk o.st.tm o.st.mem) <;> rfl
  · rfl

/-! two ends as one -/
/-- what parts two ends: true at the first, false at the second -/
def discA (f : PC) : PC → Option B
  | [] => none
  | p :: g => (match discA f g with
    | some c => some c
    | none => (match simpB f p.1 with | .lit v => bif v == p.2 then none else some (bif p.2 then mkNot p.1 else p.1) | _ => none))
theorem discA_ok {ρ : Env} {f : PC} {c : B} : ∀ {g : PC}, discA f g = some c → (PcH ρ f → c.ev ρ = true) ∧ (PcH ρ g → c.ev ρ = false)
  | [], h => by cases h
  | p :: g, h => by
    simp only [discA] at h
    split at h
    · rename_i c' hc'
      cases h
      obtain ⟨h1, h2⟩ := discA_ok hc'
      exact ⟨h1, fun hg => h2 hg.tail⟩
    · split at h
      · rename_i v hv
        cases hb : v == p.2
        · rw [hb] at h
          cases h
          have hne : v = !p.2 := by cases v <;> cases hp2 : p.2 <;> rw [hp2] at hb <;> simp at hb ⊢
          refine ⟨fun hf => ?_, fun hg => ?_⟩
          · have := simpB_ev hf p.1
            rw [hv] at this
            simp only [B.ev] at this
            cases hp2 : p.2 <;> rw [hp2] at hne <;> simp only [cond_true, cond_false, mkNot_ev] <;> rw [← this, hne] <;> rfl
          · have := hg _ (.head _)
            cases hp2 : p.2 <;> rw [hp2] at this <;> simp only [cond_true, cond_false, mkNot_ev] <;> rw [this] <;> rfl
        · rw [hb] at h; cases h
      · cases h
def disc (f g : PC) : Option B := match discA f g with
  | some c => some c
  | none => (match discA g f with
    | some c => some (mkNot c)
    | none => (match mkAnd (conj f) (conj g) with | .lit false => some (conj f) | _ => none))
theorem disc_ok {ρ : Env} {f g : PC} {c : B} (h : disc f g = some c) : (PcH ρ f → c.ev ρ = true) ∧ (PcH ρ g → c.ev ρ = false) := by
  unfold disc at h
  split at h
  · rename_i c' hc'; cases h; exact discA_ok hc'
  · split at h
    · rename_i c' hc'
      cases h
      obtain ⟨h1, h2⟩ := discA_ok (ρ := ρ) hc'
      exact ⟨fun hf => by rw [mkNot_ev, h2 hf]; rfl, fun hg => by rw [mkNot_ev, h1 hg]; rfl⟩
    · split at h
      · rename_i hc
        cases h
        refine ⟨conj_ev, fun hg => ?_⟩
        have := mkAnd_ev ρ (conj f) (conj g)
        rw [hc, conj_ev hg, Bool.and_true] at this
        exact this.symm
      · cases h
/-- the blocks of two ends -/
def iteTr2 (c : B) (lk : List Nat) (m0 m1 m2 : Mem) : Nat → Option (Tr SObj)
  | 0 => some .nil
  | n + 1 => (match iteTr2 c lk m0 m1 m2 n with
    | none => none
    | some t => bif memB n lk && Nat.blt n m0.nx then (match m0.tr.get n with | some o => some (t.put n o) | none => some t)
      else (match m1.tr.get n, m2.tr.get n with
        | some a, some b => (match iteObj c a b with | some o => some (t.put n o) | none => none)
        | _, _ => some t))
theorem iteTr2_get {c : B} {lk : List Nat} {m0 m1 m2 : Mem} : ∀ {n : Nat} {t : Tr SObj}, iteTr2 c lk m0 m1 m2 n = some t → ∀ id o, t.get id = some o →
    id < n ∧ ((id ∈ lk ∧ m0.tr.get id = some o) ∨ ∃ a b, m1.tr.get id = some a ∧ m2.tr.get id = some b ∧ iteObj c a b = some o)
  | 0, t, h, id, o, ho => by simp only [iteTr2, Option.some.injEq] at h; subst h; simp [Tr.get] at ho
  | n + 1, t, h, id, o, ho => by
    simp only [iteTr2] at h
    split at h
    · cases h
    · rename_i t0 ht0
      cases hb : memB n lk && Nat.blt n m0.nx
      · rw [hb] at h
        simp only [cond_false] at h
        split at h
        · rename_i a b ha hb
          split at h
          · rename_i x hx
            cases h
            rw [Tr.get_put] at ho
            split at ho
            · rename_i e; subst e; cases ho; exact ⟨by omega, .inr ⟨a, b, ha, hb, hx⟩⟩
            · have := iteTr2_get ht0 id o ho; exact ⟨by omega, this.2⟩
          · cases h
        · cases h
          have := iteTr2_get ht0 id o ho; exact ⟨by omega, this.2⟩
      · rw [hb] at h
        simp only [cond_true] at h
        rw [Bool.and_eq_true] at hb
        split at h
        · rename_i x hx
          cases h
          rw [Tr.get_put] at ho
          split at ho
          · rename_i e; subst e; cases ho; exact ⟨by omega, .inl ⟨memB_of hb.1, hx⟩⟩
          · have := iteTr2_get ht0 id o ho; exact ⟨by omega, this.2⟩
        · cases h
          have := iteTr2_get ht0 id o ho; exact ⟨by omega, this.2⟩
def undefB : SV → Bool
  | .tup [] => true
  | _ => false
/-- must be one at both, where it was -/
def keepsT (need : Bool) (c : B) : Tr SV → Tr SV → Tr SV → Bool
  | base, .node a l r, .node b m s =>
    (match a, b with
      | some x, some y => (match iteSV c x y with
        | some _ => true
        | none => undefB x || undefB y || (match base with | .node (some _) _ _ => false | _ => !need))
      | _, _ => true) &&
    keepsT need c (match base with | .node _ l _ => l | .nil => .nil) l m && keepsT need c (match base with | .node _ _ r => r | .nil => .nil) r s
  | _, _, _ => true
def notStuckX : XE → Bool
  | .stuck _ => false
  | _ => true
/-- facts of both; facts of one alone -/
def commonPc (f g : PC) : PC := f.filter fun x => g.any (pcItem x)
def restPc (f g : PC) : PC := f.filter fun x => !(g.any (pcItem x))
def guardB (c : B) (f g : PC) : B := mkIteB c (simpB (addPc c true []) (conj (restPc f g))) (simpB (addPc c false []) (conj (restPc g f)))
def pcJoin (c : B) (pc0 f g : PC) : PC := match guardB c f g with
  | .lit true => commonPc f g ++ pc0
  | b => addPc b true (commonPc f g ++ pc0)
theorem commonPc_ok {ρ : Env} {f g : PC} (h : PcH ρ f ∨ PcH ρ g) : PcH ρ (commonPc f g) := fun x hx => by
  obtain ⟨h1, h2⟩ := List.mem_filter.1 hx
  rcases h with h | h
  · exact h x h1
  · obtain ⟨y, hy, he⟩ := List.any_eq_true.1 h2
    rw [pcItem_eq _ _ he]; exact h y hy
theorem pcJoin_ok {ρ : Env} {c : B} {pc0 f g : PC} (h0 : PcH ρ pc0) (h : (c.ev ρ = true ∧ PcH ρ f) ∨ (c.ev ρ = false ∧ PcH ρ g)) : PcH ρ (pcJoin c pc0 f g) := by
  have hc : PcH ρ (commonPc f g ++ pc0) := fun x hx => by
    rcases List.mem_append.1 hx with hx | hx
    · exact commonPc_ok (h.elim (fun h => .inl h.2) (fun h => .inr h.2)) x hx
    · exact h0 x hx
  have hg : (guardB c f g).ev ρ = true := by
    unfold guardB
    rw [mkIteB_ev]
    rcases h with ⟨h1, h2⟩ | ⟨h1, h2⟩
    · rw [h1, cond_true, simpB_ev (addPc_ok c true h1 (PcH.nil ρ))]
      exact conj_ev fun x hx => h2 x (List.mem_filter.1 hx).1
    · rw [h1, cond_false, simpB_ev (addPc_ok c false h1 (PcH.nil ρ))]
      exact conj_ev fun x hx => h2 x (List.mem_filter.1 hx).1
  unfold pcJoin
  split
  · exact hc
  · exact addPc_ok _ true hg hc
def isRetX : XE → Bool
  | .ret => true
  | _ => false
def needX (mk : Bool) (_ : XE) : Bool := !mk
def join2 (mk : Bool) (lk : List Nat) (tm0 : Tr SV) (m0 : Mem) (pc0 : PC) (a b : Out) : Option Out :=
  bif xeBeq a.ex b.ex && notStuckX a.ex && Nat.beq a.st.mem.nx b.st.mem.nx && !(mk && isRetX a.ex) then
    (match disc (factsOf pc0 a.st.pc) (factsOf pc0 b.st.pc) with
    | none => none
    | some c => bif keepsT (needX mk a.ex) c tm0 a.st.tm b.st.tm then
        (match iteTr2 c lk m0 a.st.mem b.st.mem a.st.mem.nx with
        | none => none
        | some t => some ⟨a.ex, ⟨Tr.zip (iteSV c) a.st.tm b.st.tm, ⟨t, a.st.mem.nx⟩, pcJoin c pc0 (factsOf pc0 a.st.pc) (factsOf pc0 b.st.pc), a.st.fid⟩⟩) else none)
  else none
theorem join2_ok {mk : Bool} {ρ : Env} {β : Bet} {lk : List Nat} {w w' : World} {vals : Nat → Option Value} {tm0 : Tr SV} {m0 : Mem} {pc0 : PC} (hp0 : PcH ρ pc0) (hm0 : MemRel ρ β m0 w) {a b o : Out} (h : join2 mk lk tm0 m0 pc0 a b = some o) :
    (EndG ρ β lk w w' vals a.st.tm a.st.mem a.st.pc → EndG ρ β lk w w' vals o.st.tm o.st.mem o.st.pc) ∧ (EndG ρ β lk w w' vals b.st.tm b.st.mem b.st.pc → EndG ρ β lk w w' vals o.st.tm o.st.mem o.st.pc) ∧ o.ex = a.ex ∧ b.ex = a.ex ∧ notStuckX a.ex = true := by
  unfold join2 at h
  obtain ⟨h1, h⟩ := bif_some h
  simp only [Bool.and_eq_true] at h1
  obtain ⟨⟨⟨h1, h2⟩, h3⟩, _⟩ := h1
  have h1 := xeBeq_eq h1
  have h3 := Nat.eq_of_beq_eq_true h3
  split at h
  · cases h
  · rename_i c hc
    obtain ⟨d1, d2⟩ := disc_ok (ρ := ρ) hc
    obtain ⟨_, h⟩ := bif_some h
    split at h
    · cases h
    · rename_i t ht
      cases h
      -- either one
      have fin : ∀ (q : Out) (u : Bool), (u = true → q = a) → (u = false → q = b) → EndG ρ β lk w w' vals q.st.tm q.st.mem q.st.pc →
          EndG ρ β lk w w' vals (Tr.zip (iteSV c) a.st.tm b.st.tm) ⟨t, a.st.mem.nx⟩ (pcJoin c pc0 (factsOf pc0 a.st.pc) (factsOf pc0 b.st.pc)) := by
        intro q u hqa hqb hG
        obtain ⟨hp, β', hs, ht', hm⟩ := hG
        have hcu : c.ev ρ = u := by
          cases u
          · rw [hqb rfl] at hp; exact d2 (factsOf_ok hp)
          · rw [hqa rfl] at hp; exact d1 (factsOf_ok hp)
        have hnx : q.st.mem.nx = a.st.mem.nx := by
          cases u
          · rw [hqb rfl]; exact h3.symm
          · rw [hqa rfl]
        refine ⟨pcJoin_ok hp0 ?_, β', hs, fun t' s hts => ?_, ⟨by rw [← hm.nx, hnx], fun id ob hob => ?_, hm.lt, hm.apart, fun id hid => ?_⟩⟩
        · cases u
          · rw [hqb rfl] at hp; exact .inr ⟨hcu, factsOf_ok hp⟩
          · rw [hqa rfl] at hp; exact .inl ⟨hcu, factsOf_ok hp⟩
        · obtain ⟨x, y, hx, hy, hi⟩ := Tr.get_zip hts
          cases u
          · rw [hqb rfl] at ht'
            obtain ⟨v, hv, r⟩ := ht' t' y hy
            exact ⟨v, hv, iteSV_rel hi (by rw [hcu]; exact r)⟩
          · rw [hqa rfl] at ht'
            obtain ⟨v, hv, r⟩ := ht' t' x hx
            exact ⟨v, hv, iteSV_rel hi (by rw [hcu]; exact r)⟩
        · obtain ⟨hlt, hob'⟩ := iteTr2_get ht id ob hob
          rcases hob' with ⟨hl, h0⟩ | ⟨x, y, hx, hy, hi⟩
          · obtain ⟨e, he, r⟩ := hm0.obj id ob h0
            obtain ⟨γ, rfl, _⟩ := hs.ext
            exact ⟨e, by rw [List.getElem?_append_left (List.getElem?_eq_some_iff.1 he).1]; exact he, objRel_mono _ (objRel_heap r (hs.lock id hl e he))⟩
          · cases u
            · rw [hqb rfl] at hm
              obtain ⟨e, he, r⟩ := hm.obj id y hy
              exact ⟨e, he, iteObj_rel hi (by rw [hcu]; exact r)⟩
            · rw [hqa rfl] at hm
              obtain ⟨e, he, r⟩ := hm.obj id x hx
              exact ⟨e, he, iteObj_rel hi (by rw [hcu]; exact r)⟩
        · cases hg : t.get id with
          | none => rfl
          | some ob => have := (iteTr2_get ht id ob hg).1; simp only at hid; omega
      exact ⟨fin a true (fun _ => rfl) (fun h => by cases h), fin b false (fun h => by cases h) (fun _ => rfl), rfl, h1.symm, h2⟩
def insJ (mk : Bool) (lk : List Nat) (tm0 : Tr SV) (m0 : Mem) (pc0 : PC) (o : Out) : List Out → List Out
  | [] => [o]
  | x :: l => (match join2 mk lk tm0 m0 pc0 o x with
    | some y => y :: l
    | none => x :: insJ mk lk tm0 m0 pc0 o l)
def joinR (mk : Bool) (lk : List Nat) (tm0 : Tr SV) (m0 : Mem) (pc0 : PC) : List Out → List Out
  | [] => []
  | o :: l => insJ mk lk tm0 m0 pc0 o (joinR mk lk tm0 m0 pc0 l)
/-- all of it: dead ways dropped, new names, what is twice once, ends of one form one -/
def prepO (mk : Bool) (lk : List Nat) (tm0 : Tr SV) (m0 : Mem) (o : Out) : Out := canonO lk m0 (maskO (mk && (match o.ex with | .ret => false | _ => true)) m0.nx tm0 o)
def joinL (mk : Bool) (lk : List Nat) (tm0 : Tr SV) (m0 : Mem) (pc0 : PC) (l : List Out) : List Out := match l with
  | [] => []
  | [o] => [o]
  | l => joinR mk lk tm0 m0 pc0 (dedup ((l.filter fun o => !(deadPc o.st.pc)).map (prepO mk lk tm0 m0)))
/-- dead ways dropped, new names, what is twice once -/
def fewL (lk : List Nat) (tm0 : Tr SV) (m0 : Mem) (l : List Out) : List Out := match l with
  | [] => []
  | [o] => [o]
  | l => dedup ((l.filter fun o => !(deadPc o.st.pc)).map (prepO false lk tm0 m0))
/-- the same, behind a round of a loop -/
def fewM (lk : List Nat) (tm0 : Tr SV) (m0 : Mem) (l : List Out) : List Out := match l with
  | [] => []
  | [o] => [o]
  | l => dedup ((l.filter fun o => !(deadPc o.st.pc)).map (prepO true lk tm0 m0))
/-- an end among some -/
def SomeG (ρ : Env) (β : Bet) (lk : List Nat) (w w' : World) (vals : Nat → Option Value) (X : XE → Prop) (l : List Out) : Prop := ∃ o ∈ l, X o.ex ∧ EndG ρ β lk w w' vals o.st.tm o.st.mem o.st.pc
theorem insJ_ok {mk : Bool} {ρ : Env} {β : Bet} {lk : List Nat} {w w' : World} {vals : Nat → Option Value} {tm0 : Tr SV} {m0 : Mem} {pc0 : PC} {X : XE → Prop} (hp0 : PcH ρ pc0) (hm0 : MemRel ρ β m0 w) {o : Out} : ∀ {l : List Out},
    SomeG ρ β lk w w' vals X (o :: l) → SomeG ρ β lk w w' vals X (insJ mk lk tm0 m0 pc0 o l)
  | [], h => h
  | x :: l, h => by
    simp only [insJ]
    obtain ⟨q, hq, hx, hG⟩ := h
    split
    · rename_i y hy
      obtain ⟨j1, j2, j3, j4, _⟩ := join2_ok (w' := w') (vals := vals) hp0 hm0 hy
      cases hq with
      | head => exact ⟨y, .head _, by rw [j3]; exact hx, j1 hG⟩
      | tail _ hq =>
        cases hq with
        | head => exact ⟨y, .head _, by rw [j3, ← j4]; exact hx, j2 hG⟩
        | tail _ hq => exact ⟨q, .tail _ hq, hx, hG⟩
    · cases hq with
      | head =>
        obtain ⟨r, hr, h⟩ := insJ_ok (l := l) (tm0 := tm0) (pc0 := pc0) hp0 hm0 ⟨o, .head _, hx, hG⟩
        exact ⟨r, .tail _ hr, h⟩
      | tail _ hq =>
        cases hq with
        | head => exact ⟨x, .head _, hx, hG⟩
        | tail _ hq =>
          obtain ⟨r, hr, h⟩ := insJ_ok (l := l) (tm0 := tm0) (pc0 := pc0) hp0 hm0 ⟨q, .tail _ hq, hx, hG⟩
          exact ⟨r, .tail _ hr, h⟩
theorem joinR_ok {mk : Bool} {ρ : Env} {β : Bet} {lk : List Nat} {w w' : World} {vals : Nat → Option Value} {tm0 : Tr SV} {m0 : Mem} {pc0 : PC} {X : XE → Prop} (hp0 : PcH ρ pc0) (hm0 : MemRel ρ β m0 w) : ∀ {l : List Out},
    SomeG ρ β lk w w' vals X l → SomeG ρ β lk w w' vals X (joinR mk lk tm0 m0 pc0 l)
  | [], h => h
  | o :: l, ⟨q, hq, hx, hG⟩ => by
    refine insJ_ok hp0 hm0 ?_
    cases hq with
    | head => exact ⟨_, .head _, hx, hG⟩
    | tail _ hq =>
      obtain ⟨r, hr, h⟩ := joinR_ok (tm0 := tm0) (pc0 := pc0) hp0 hm0 (l := l) ⟨q, hq, hx, hG⟩
      exact ⟨r, .tail _ hr, h⟩
theorem joinL_ok {ρ : Env} {β : Bet} {lk : List Nat} {w w' : World} {vals : Nat → Option Value} {tm0 : Tr SV} {m0 : Mem} {pc0 : PC} {X : XE → Prop} (hp0 : PcH ρ pc0) (hm0 : MemRel ρ β m0 w) {l : List Out}
    {mk : Bool} (h : SomeG ρ β lk w w' vals X l) : SomeG ρ β lk w w' vals X (joinL mk lk tm0 m0 pc0 l) := by
  unfold joinL
  split
  · exact h
  · exact h
  · refine joinR_ok hp0 hm0 ?_
    obtain ⟨q, hq, hx, hG⟩ := h
    refine ⟨prepO mk lk tm0 m0 q, dedup_mem (List.mem_map_of_mem (List.mem_filter.2 ⟨hq, ?_⟩)), by unfold prepO; rw [canonO_ex, maskO_ex]; exact hx, canonO_ok hm0 (maskO_ok hG)⟩
    cases hd : deadPc q.st.pc
    · rfl
    · exact (deadPc_ok hd hG.1).elim
theorem fewL_ok {ρ : Env} {β : Bet} {lk : List Nat} {w w' : World} {vals : Nat → Option Value} {tm0 : Tr SV} {m0 : Mem} {X : XE → Prop} (hm0 : MemRel ρ β m0 w) {l : List Out}
    (h : SomeG ρ β lk w w' vals X l) : SomeG ρ β lk w w' vals X (fewL lk tm0 m0 l) := by
  unfold fewL
  split
  · exact h
  · exact h
  · obtain ⟨q, hq, hx, hG⟩ := h
    refine ⟨prepO false lk tm0 m0 q, dedup_mem (List.mem_map_of_mem (List.mem_filter.2 ⟨hq, ?_⟩)), by unfold prepO; rw [canonO_ex, maskO_ex]; exact hx, canonO_ok hm0 (maskO_ok hG)⟩
    cases hd : deadPc q.st.pc
    · rfl
    · exact (deadPc_ok hd hG.1).elim
theorem fewM_ok {ρ : Env} {β : Bet} {lk : List Nat} {w w' : World} {vals : Nat → Option Value} {tm0 : Tr SV} {m0 : Mem} {X : XE → Prop} (hm0 : MemRel ρ β m0 w) {l : List Out}
    (h : SomeG ρ β lk w w' vals X l) : SomeG ρ β lk w w' vals X (fewM lk tm0 m0 l) := by
  unfold fewM
  split
  · exact h
  · exact h
  · obtain ⟨q, hq, hx, hG⟩ := h
    refine ⟨prepO true lk tm0 m0 q, dedup_mem (List.mem_map_of_mem (List.mem_filter.2 ⟨hq, ?_⟩)), by unfold prepO; rw [canonO_ex, maskO_ex]; exact hx, canonO_ok hm0 (maskO_ok hG)⟩
    cases hd : deadPc q.st.pc
    · rfl
    · exact (deadPc_ok hd hG.1).elim
/-- what is stuck stays -/
theorem insJ_stuck {mk : Bool} {lk : List Nat} {tm0 : Tr SV} {m0 : Mem} {pc0 : PC} {o q : Out} {k : Nat} (hk : q.ex = .stuck k) : ∀ {l : List Out}, q ∈ o :: l → q ∈ insJ mk lk tm0 m0 pc0 o l
  | [], h => h
  | x :: l, h => by
    simp only [insJ]
    split
    · rename_i y hy
      have hns : notStuckX o.ex = true ∧ x.ex = o.ex := by
        unfold join2 at hy
        obtain ⟨h1, _⟩ := bif_some hy
        simp only [Bool.and_eq_true] at h1
        exact ⟨h1.1.1.2, (xeBeq_eq h1.1.1.1).symm⟩
      cases h with
      | head => rw [hk] at hns; cases hns.1
      | tail _ h =>
        cases h with
        | head => rw [hns.2] at hk; rw [hk] at hns; cases hns.1
        | tail _ h => exact .tail _ h
    · cases h with
      | head => exact .tail _ (insJ_stuck hk (.head _))
      | tail _ h =>
        cases h with
        | head => exact .head _
        | tail _ h => exact .tail _ (insJ_stuck hk (.tail _ h))
theorem joinR_stuck {mk : Bool} {lk : List Nat} {tm0 : Tr SV} {m0 : Mem} {pc0 : PC} {q : Out} {k : Nat} (hk : q.ex = .stuck k) : ∀ {l : List Out}, q ∈ l → q ∈ joinR mk lk tm0 m0 pc0 l
  | o :: l, h => by
    refine insJ_stuck hk ?_
    cases h with
    | head => exact .head _
    | tail _ h => exact .tail _ (joinR_stuck hk h)
theorem canonO_pc (lk : List Nat) (m0 : Mem) (o : Out) : (canonO lk m0 o).st.pc = o.st.pc := by
  unfold canonO
  cases Nat.beq o.st.mem.nx m0.nx
  · simp only [cond_false]
    cases okNew m0.nx o.st.mem.nx (newsAll m0.nx lk o.st.tm o.st.mem) <;> rfl
  · rfl
theorem joinL_stuck {ρ : Env} {mk : Bool} {lk : List Nat} {tm0 : Tr SV} {m0 : Mem} {pc0 : PC} {l : List Out} (h : NoStuck ρ (joinL mk lk tm0 m0 pc0 l)) : NoStuck ρ l := fun o ho k hk hp => by
  unfold joinL at h
  split at h
  · cases ho
  · exact h o ho k hk hp
  · have hm : prepO mk lk tm0 m0 o ∈ dedup (List.map (prepO mk lk tm0 m0) (List.filter (fun o => !(deadPc o.st.pc)) _)) := dedup_mem (List.mem_map_of_mem (List.mem_filter.2 ⟨ho, by
      cases hd : deadPc o.st.pc
      · rfl
      · exact (deadPc_ok hd hp).elim⟩))
    have he : (prepO mk lk tm0 m0 o).ex = .stuck k := by unfold prepO; rw [canonO_ex, maskO_ex]; exact hk
    exact h _ (joinR_stuck (k := k) he hm) k he (by unfold prepO; rw [canonO_pc, maskO_pc]; exact hp)
theorem fewL_stuck {ρ : Env} {lk : List Nat} {tm0 : Tr SV} {m0 : Mem} {l : List Out} (h : NoStuck ρ (fewL lk tm0 m0 l)) : NoStuck ρ l := fun o ho k hk hp => by
  unfold fewL at h
  split at h
  · cases ho
  · exact h o ho k hk hp
  · have hm : prepO false lk tm0 m0 o ∈ dedup (List.map (prepO false lk tm0 m0) (List.filter (fun o => !(deadPc o.st.pc)) _)) := dedup_mem (List.mem_map_of_mem (List.mem_filter.2 ⟨ho, by
      cases hd : deadPc o.st.pc
      · rfl
      · exact (deadPc_ok hd hp).elim⟩))
    have he : (prepO false lk tm0 m0 o).ex = .stuck k := by unfold prepO; rw [canonO_ex, maskO_ex]; exact hk
    exact h _ hm k he (by unfold prepO; rw [canonO_pc, maskO_pc]; exact hp)
theorem fewM_stuck {ρ : Env} {lk : List Nat} {tm0 : Tr SV} {m0 : Mem} {l : List Out} (h : NoStuck ρ (fewM lk tm0 m0 l)) : NoStuck ρ l := fun o ho k hk hp => by
  unfold fewM at h
  split at h
  · cases ho
  · exact h o ho k hk hp
  · have hm : prepO true lk tm0 m0 o ∈ dedup (List.map (prepO true lk tm0 m0) (List.filter (fun o => !(deadPc o.st.pc)) _)) := dedup_mem (List.mem_map_of_mem (List.mem_filter.2 ⟨ho, by
      cases hd : deadPc o.st.pc
      · rfl
      · exact (deadPc_ok hd hp).elim⟩))
    have he : (prepO true lk tm0 m0 o).ex = .stuck k := by unfold prepO; rw [canonO_ex, maskO_ex]; exact hk
    exact h _ hm k he (by unfold prepO; rw [canonO_pc, maskO_pc]; exact hp)
/-! ends of calls -/
def outOf (o : COut) : Out := match o.ex with
  | .ret v => ⟨.ret, ⟨Tr.put .nil 0 v, o.mem, o.pc, 0⟩⟩
  | .panic v => ⟨.exit 0, ⟨Tr.put .nil 0 v, o.mem, o.pc, 0⟩⟩
  | .stuck k => ⟨.stuck k, ⟨.nil, o.mem, o.pc, 0⟩⟩
def cOf (o : Out) : COut := match o.ex with
  | .ret => (match o.st.tm.get 0 with | some v => ⟨o.st.pc, o.st.mem, .ret v⟩ | none => ⟨o.st.pc, o.st.mem, .stuck 50⟩)
  | .exit _ => (match o.st.tm.get 0 with | some v => ⟨o.st.pc, o.st.mem, .panic v⟩ | none => ⟨o.st.pc, o.st.mem, .stuck 50⟩)
  | .stuck k => ⟨o.st.pc, o.st.mem, .stuck k⟩
  | _ => ⟨o.st.pc, o.st.mem, .stuck 51⟩
def joinRets (lk : List Nat) (m0 : Mem) (pc0 : PC) (l : List COut) : List COut := match l with
  | [] => []
  | [o] => (joinR false lk .nil m0 pc0 [canonO lk m0 (outOf o)]).map cOf
  | l => (joinL false lk .nil m0 pc0 (l.map outOf)).map cOf
def NoStuckC (ρ : Env) (outs : List COut) : Prop := ∀ o ∈ outs, ∀ k, o.ex = .stuck k → ¬ PcH ρ o.pc
/-- a panic that nobody has recovered, ahead of older ones -/
def Chain (v : Value) (chain : List PanicEntry) : Prop := ∃ older, chain = { v, recovered := false } :: older ∧ ∀ x ∈ older, x.goexit = false
def EndR (ρ : Env) (β : Bet) : CEnd → Ending → Prop
  | .ret s, .returned v => s.rel ρ β v
  | .panic s, .panicked chain => ∃ v, s.rel ρ β v ∧ Chain v chain
  | _, _ => False
def CPost (ρ : Env) (β : Bet) (lk : List Nat) (w : World) (outs : List COut) (e : Ending) (w' : World) : Prop :=
  ∃ o ∈ outs, PcH ρ o.pc ∧ ∃ β', Stp β lk w β' w' ∧ MemRel ρ β' o.mem w' ∧ EndR ρ β' o.ex e
theorem CPost.unlock {ρ : Env} {β : Bet} {lk lk' : List Nat} {w w' : World} {outs : List COut} {e : Ending} (h : CPost ρ β lk w outs e w') (hs : ∀ i ∈ lk', i ∈ lk) : CPost ρ β lk' w outs e w' :=
  let ⟨o, ho, hp, β', h1, h2⟩ := h; ⟨o, ho, hp, β', h1.unlock hs, h2⟩
def valsE : Ending → Nat → Option Value
  | .returned v, 0 => some v
  | .panicked (c :: _), 0 => some c.v
  | _, _ => none
def kindE : Ending → XE → Prop
  | .returned _, .ret => True
  | .panicked chain, .exit _ => ∃ v, Chain v chain
  | _, _ => False
theorem put0_get {s : SV} {t : Nat} {z : SV} (h : (Tr.put .nil 0 s : Tr SV).get t = some z) : t = 0 ∧ z = s := by
  rw [Tr.get_put] at h
  split at h
  · cases h; exact ⟨by assumption, rfl⟩
  · simp [Tr.get] at h
theorem outOf_ok {ρ : Env} {β : Bet} {lk : List Nat} {w w' : World} {e : Ending} {o : COut} (hp : PcH ρ o.pc) {β' : Bet} (hs : Stp β lk w β' w') (hm : MemRel ρ β' o.mem w') (he : EndR ρ β' o.ex e) :
    kindE e (outOf o).ex ∧ EndG ρ β lk w w' (valsE e) (outOf o).st.tm (outOf o).st.mem (outOf o).st.pc := by
  obtain ⟨pc, mem, ex⟩ := o
  cases ex with
  | ret v =>
    cases e <;> simp only [EndR] at he
    refine ⟨trivial, hp, β', hs, fun t s hts => ?_, hm⟩
    obtain ⟨rfl, rfl⟩ := put0_get hts
    exact ⟨_, rfl, he⟩
  | panic v =>
    cases e <;> simp only [EndR] at he
    obtain ⟨u, hu, hch⟩ := he
    refine ⟨⟨u, hch⟩, hp, β', hs, fun t s hts => ?_, hm⟩
    obtain ⟨older, rfl, _⟩ := hch
    obtain ⟨rfl, rfl⟩ := put0_get hts
    exact ⟨_, rfl, hu⟩
  | stuck k => cases e <;> simp only [EndR] at he
theorem cOf_ok {ρ : Env} {β : Bet} {lk : List Nat} {w w' : World} {e : Ending} {o : Out} (hx : kindE e o.ex) (h : EndG ρ β lk w w' (valsE e) o.st.tm o.st.mem o.st.pc) (hn : ∀ k, (cOf o).ex = .stuck k → ¬ PcH ρ (cOf o).pc) :
    PcH ρ (cOf o).pc ∧ ∃ β', Stp β lk w β' w' ∧ MemRel ρ β' (cOf o).mem w' ∧ EndR ρ β' (cOf o).ex e := by
  obtain ⟨ex, tm, mem, pc, fid⟩ := o
  obtain ⟨hp, β', hs, ht, hm⟩ := h
  simp only at hp hs ht hm
  cases e with
  | outgrown => cases ex <;> simp only [kindE] at hx
  | returned v =>
    cases ex <;> simp only [kindE] at hx
    simp only [cOf] at hn ⊢
    cases hg : tm.get 0 with
    | none => simp only [hg] at hn; exact (hn 50 rfl hp).elim
    | some s =>
      simp only
      obtain ⟨u, hu, r⟩ := ht 0 s hg
      simp only [valsE, Option.some.injEq] at hu
      subst hu
      exact ⟨hp, β', hs, hm, r⟩
  | panicked c =>
    cases ex <;> simp only [kindE] at hx
    obtain ⟨v, hch⟩ := hx
    simp only [cOf] at hn ⊢
    cases hg : tm.get 0 with
    | none => simp only [hg] at hn; exact (hn 50 rfl hp).elim
    | some s =>
      simp only
      obtain ⟨u, hu, r⟩ := ht 0 s hg
      obtain ⟨older, hol, hgo⟩ := hch
      rw [hol] at hu
      simp only [valsE, Option.some.injEq] at hu
      subst hu
      exact ⟨hp, β', hs, hm, _, r, older, hol, hgo⟩
theorem joinRets_post {ρ : Env} {β : Bet} {lk : List Nat} {m0 : Mem} {pc0 : PC} {w w' : World} {l : List COut} {e : Ending} (hn : NoStuckC ρ (joinRets lk m0 pc0 l)) (hp : PcH ρ pc0) (hm0 : MemRel ρ β m0 w) (h : CPost ρ β lk w l e w') : CPost ρ β lk w (joinRets lk m0 pc0 l) e w' := by
  obtain ⟨o, ho, hpc, β', hs, hm, he⟩ := h
  obtain ⟨k1, k2⟩ := outOf_ok hpc hs hm he
  have fin : ∀ l' : List Out, SomeG ρ β lk w w' (valsE e) (kindE e) l' → NoStuckC ρ (l'.map cOf) → CPost ρ β lk w (l'.map cOf) e w' := by
    intro l' ⟨q, hq, hx, hG⟩ hn'
    obtain ⟨h1, h2⟩ := cOf_ok hx hG (hn' _ (List.mem_map_of_mem hq))
    exact ⟨cOf q, List.mem_map_of_mem hq, h1, h2⟩
  unfold joinRets at hn ⊢
  split
  · cases ho
  · simp only [List.mem_singleton] at ho
    subst ho
    refine fin _ (joinR_ok hp hm0 ⟨_, .head _, by rw [canonO_ex]; exact k1, canonO_ok hm0 k2⟩) ?_
    simpa using hn
  · rename_i h1 h2
    refine fin _ (joinL_ok hp hm0 ⟨_, List.mem_map_of_mem ho, k1, k2⟩) ?_
    split at hn
    · exact absurd rfl h1
    · exact absurd rfl (h2 _)
    · exact hn
theorem cOf_stuck {o : Out} {k : Nat} (h : o.ex = .stuck k) : (cOf o).ex = .stuck k ∧ (cOf o).pc = o.st.pc := by
  unfold cOf; rw [h]; exact ⟨rfl, rfl⟩
theorem outOf_stuck {o : COut} {k : Nat} (h : o.ex = .stuck k) : (outOf o).ex = .stuck k ∧ (outOf o).st.pc = o.pc := by
  unfold outOf; rw [h]; exact ⟨rfl, rfl⟩
theorem joinRets_stuck {ρ : Env} {lk : List Nat} {m0 : Mem} {pc0 : PC} {l : List COut} (h : NoStuckC ρ (joinRets lk m0 pc0 l)) : NoStuckC ρ l := by
  have fin : ∀ l' : List Out, NoStuckC ρ (l'.map cOf) → NoStuck ρ l' := fun l' hn o ho k hk hp => by
    obtain ⟨h1, h2⟩ := cOf_stuck hk
    exact hn _ (List.mem_map_of_mem ho) k h1 (by rw [h2]; exact hp)
  intro o ho k hk hp
  obtain ⟨h1, h2⟩ := outOf_stuck hk
  unfold joinRets at h
  split at h
  · cases ho
  · simp only [List.mem_singleton] at ho
    subst ho
    exact fin _ h _ (joinR_stuck (k := k) (by rw [canonO_ex]; exact h1) (.head _)) k (by rw [canonO_ex]; exact h1) (by rw [canonO_pc, h2]; exact hp)
  · exact joinL_stuck (fin _ h) _ (List.mem_map_of_mem ho) k h1 (by rw [h2]; exact hp)
end Go.SX

namespace Go.SX
open Go

/-- ends of a call, made fewer -/
def joined0 (C : Cfg) (id : Nat) (lk : List Nat) (m0 : Mem) (pc0 : PC) (l : List COut) : List COut := bif C.jn id then joinRets lk m0 pc0 l else bif C.mrg id then mergeC m0 pc0 l else l
/-- the way to an end forgotten -/
def forgetO (pc0 : PC) (o : COut) : COut := match o.ex with
  | .ret v => ⟨pc0, o.mem, .ret v⟩
  | _ => o
/-- an end's value and way, told by tables -/
def canonC (o : COut) : COut := ⟨compPc (canonPc o.pc), o.mem, match o.ex with | .ret v => .ret (canonV o.pc v) | e => e⟩
/-- ends that may be, by all values of a byte -/
def aliveC (on : Bool) (l : List COut) : List COut := bif on then l.filter (fun o => !(deadY o.pc)) else l
theorem aliveC_mem {ρ : Env} {on : Bool} {l : List COut} {o : COut} (h : o ∈ l) (hp : PcH ρ o.pc) : o ∈ aliveC on l := by
  unfold aliveC
  cases on
  · exact h
  · refine List.mem_filter.2 ⟨h, ?_⟩
    cases hb : deadY o.pc
    · rfl
    · exact (deadY_ok hb hp).elim
def joined1 (C : Cfg) (id : Nat) (lk : List Nat) (m0 : Mem) (pc0 : PC) (l : List COut) : List COut := bif C.mrg (id + 200000) then (joined0 C id lk m0 pc0 l).map (forgetO pc0) else joined0 C id lk m0 pc0 l
def joined (C : Cfg) (id : Nat) (lk : List Nat) (m0 : Mem) (pc0 : PC) (l : List COut) : List COut := bif C.mrg 900000 then (joined1 C id lk m0 pc0 l).map canonC else joined1 C id lk m0 pc0 l
/-- two ways that a condition parts, as few as can be -/
def joinN (on : Bool) (lk : List Nat) (st : St) (x y : Option (List Out)) : Option (List Out) := match app x y with
  | some l => some (bif on then joinL true lk st.tm st.mem st.pc l else l)
  | none => none

/-- what is asked, of a truth that is not known -/
def sp (C : Cfg) (st : St) (b : B) : B := bif C.jc (st.fid % 65536) then b else atomB b
/-- the blocks that a call may not write: all that are there, if it is known to write none -/
def lockC (C : Cfg) (id : Nat) (m : Mem) (lk : List Nat) : List Nat := bif C.mrg (id + 500000) then List.range m.nx ++ lk else lk
theorem lockC_sub (C : Cfg) (id : Nat) (m : Mem) (lk : List Nat) : ∀ i ∈ lk, i ∈ lockC C id m lk := fun i hi => by
  unfold lockC
  cases C.mrg (id + 500000)
  · exact hi
  · exact List.mem_append_right _ hi
def eachV (f : SV × Mem → Option (List Out)) : List (SV × Mem) → Option (List Out)
  | [] => some []
  | x :: l => app (f x) (eachV f l)
def eachK (f : Option SV × Mem → Option (List Out)) : List (Option SV × Mem) → Option (List Out)
  | [] => some []
  | x :: l => app (f x) (eachK f l)
/-! functions that defer one closure: `makeFunc g caps; defer` behind the first region; the closure recovers first of all -/
def defOf : Code → Option (Code × Tmp × Nat × List Operand × Code)
  | .seq A (.seq (.region _ ops false) R) => (match ops.toList with
    | [mf, df] => (match mf.op, mf.dst, mf.guard, df.op, df.dst, df.guard with
      | .makeFunc (.func g) first caps, some t, none, .defer c, none, none => (match c.callee, c.args.toList, first.toList with
        | .value (.tmp t'), [], [] => bif Nat.beq t t' then some (A, t, g, caps.toList, R) else none
        | _, _, _ => none)
      | _, _, _, _, _, _ => none)
    | _ => none)
  | _ => none
/-- the closure, that is handed what its recover yields -/
def closeX (C : Cfg) (run : List Nat → Nat → Task → St → Option (List Out)) (lk : List Nat) (fid g : Nat) (caps : List SV) (rv : SV) (mem : Mem) (pc : PC) : Option (List Out) := match C.fn g with
  | some gf => (match gf.body, gf.results.toList with
    | some (.seq (.region _ ops false) R), [] => (match ops.toList with
      | rc :: rest => (match rc.op, rc.dst, rc.guard with
        | .call c, some d, none => (match c.callee, c.args.toList with
          | .builtin .recover, [] =>
            bindN (run lk (caps.length + (gf.ntmps - caps.length)) (.ops (rc :: rest) rest) (St.put (caps.length + (gf.ntmps - caps.length)) ⟨initTm caps 0 .nil, mem, pc, enterF fid g⟩ (some d) rv))
              (fun st' => run lk (caps.length + (gf.ntmps - caps.length)) (.code R) st')
          | _, _ => none)
        | _, _, _ => none)
      | [] => none)
    | _, _ => none)
  | none => none
/-- what a call comes to, behind the closure -/
def endD (C : Cfg) (fn : Func) (tm : Tr SV) (o : Out) : COut := match o.ex with
  | .norm => (match resX C ⟨tm, o.st.mem, o.st.pc, 0⟩ fn.results.toList with | some l => ⟨o.st.pc, o.st.mem, .ret (oneX l)⟩ | none => ⟨o.st.pc, o.st.mem, .stuck 71⟩)
  | .ret => (match resX C ⟨tm, o.st.mem, o.st.pc, 0⟩ fn.results.toList with | some l => ⟨o.st.pc, o.st.mem, .ret (oneX l)⟩ | none => ⟨o.st.pc, o.st.mem, .stuck 71⟩)
  | .panic s => ⟨o.st.pc, o.st.mem, .panic s⟩
  | .exit _ => ⟨o.st.pc, o.st.mem, .stuck 72⟩
  | .stuck k => ⟨o.st.pc, o.st.mem, .stuck k⟩
def closeE (C : Cfg) (fn : Func) (run : List Nat → Nat → Task → St → Option (List Out)) (lk : List Nat) (fid g : Nat) (caps : List SV) (rv : SV) (o : Out) : Option (List COut) := match closeX C run lk fid g caps rv o.st.mem o.st.pc with
  | some outs => some (outs.map (endD C fn o.st.tm))
  | none => none
/-- behind the body -/
def afterR (C : Cfg) (fn : Func) (run : List Nat → Nat → Task → St → Option (List Out)) (lk : List Nat) (fid g : Nat) (caps : List SV) (o : Out) : Option (List COut) := match o.ex with
  | .norm => closeE C fn run lk fid g caps (.raw .nilIface) o
  | .ret => closeE C fn run lk fid g caps (.raw .nilIface) o
  | .panic s => closeE C fn run lk fid g caps s o
  | .exit _ => some [⟨o.st.pc, o.st.mem, .stuck 73⟩]
  | .stuck k => some [⟨o.st.pc, o.st.mem, .stuck k⟩]
def bindD (f : Out → Option (List COut)) : List Out → Option (List COut)
  | [] => some []
  | o :: os => (match f o, bindD f os with
    | some a, some b => some (a ++ b)
    | _, _ => none)
/-- behind the first region -/
def afterA (C : Cfg) (fn : Func) (run : List Nat → Nat → Task → St → Option (List Out)) (lk : List Nat) (nt fid : Nat) (t : Tmp) (g : Nat) (caps : List Operand) (R : Code) (o : Out) : Option (List COut) := match o.ex with
  | .norm => (match evXL o.st.tm caps with
    | some cs => bif Nat.blt t nt then (match run lk nt (.code R) (o.st.put nt (some t) (.fn g cs)) with
      | some outs => bindD (afterR C fn run lk fid g cs) outs
      | none => none) else some [⟨o.st.pc, o.st.mem, .stuck 77⟩]
    | none => some [⟨o.st.pc, o.st.mem, .stuck 74⟩])
  | .stuck k => some [⟨o.st.pc, o.st.mem, .stuck k⟩]
  | _ => some [⟨o.st.pc, o.st.mem, .stuck 75⟩]
/-- a call's body -/
def callB (C : Cfg) (run : List Nat → Nat → Task → St → Option (List Out)) (lk : List Nat) (fn : Func) (body : Code) (args : List SV) (mem : Mem) (pc : PC) (fid : Nat) : Option (List COut) := match defOf body with
  | none => (match run lk (args.length + (fn.ntmps - args.length)) (.code body) ⟨initTm args 0 .nil, mem, pc, fid⟩ with
    | some outs => some (outs.map (toC C fn))
    | none => none)
  | some (A, t, g, caps, R) => (match run lk (args.length + (fn.ntmps - args.length)) (.code A) ⟨initTm args 0 .nil, mem, pc, fid⟩ with
    | some outs => bindD (afterA C fn run lk (args.length + (fn.ntmps - args.length)) fid t g caps R) outs
    | none => none)
/-- one operation, and what follows; 'again': the same with more known -/
def stepOp (C : Cfg) (run : List Nat → Nat → Task → St → Option (List Out)) (lk : List Nat) (nt : Nat) (all : List Oper) (o : Oper) (st : St) (next again : St → Option (List Out)) : Option (List Out) :=
  match wantX all st o with
  | .lost => some [⟨.stuck 35, st⟩]
  | .split b => app (again (st.know (sp C st b) true)) (again (st.know (sp C st b) false))
  | .no => next (st.put nt o.dst undefX)
  | .yes => (match calleeX st.tm o.op with
    | some (id, args) => (match C.fn id with
      | some fn => (match fn.body with
        | some body => (match C.hook id args st.mem st.pc lk with
          | some couts => bindC (afterC nt st o.dst next) (aliveC (C.mrg 900000) couts)
          | none => (match callB C run (lockC C id st.mem lk) fn body args st.mem st.pc (enterF st.fid id) with
            | some couts => bindC (afterC nt st o.dst next) (joined C id (lockC C id st.mem lk) st.mem st.pc couts)
            | none => none))
        | none => (match extX C id st.pc args with
          | some s => next (St.put nt st o.dst s)
          | none => some [⟨.stuck 36, st⟩]))
      | none => some [⟨.stuck 36, st⟩])
    | none => (match o.op with
     | .panic x => (match evX st.tm x with
       | some (.ifc t s) => bif under 0 s then some [⟨.panic (.ifc t s), st⟩] else some [⟨.stuck 76, st⟩]
       | _ => some [⟨.stuck 76, st⟩])
     | _ => (match opM C lk st.mem st.tm o.op with
      | .val s m => next (St.put nt { st with mem := m } o.dst s)
      | .skip m => next (St.put nt { st with mem := m } o.dst undefX)
      | .no => (match opN C lk st.pc st.mem st.tm o.op with
        | some l => eachV (fun x => next (St.put nt { st with mem := x.2 } o.dst x.1)) l
        | none => (match opK C lk st.mem st.tm o.op with
        | some l => eachK (fun x => next (St.put nt { st with mem := x.2 } o.dst (x.1.getD undefX))) l
        | none => (match opA C st.pc st.mem st.tm o.op with
        | .val s m => next (St.put nt { st with mem := m } o.dst s)
        | .split b => app (again (st.know (sp C st b) true)) (again (st.know (sp C st b) false))
        | .no => (match opP C st.pc st.mem st.tm o.op with
          | .ok s => next (st.put nt o.dst s)
          | .split b => app (again (st.know (sp C st b) true)) (again (st.know (sp C st b) false))
          | .stuck k => some [⟨.stuck k, st⟩])))))))

/-! regions that draw their order -/
def bindsA (e : Edge) : Bool := match e.ground with
  | .textOnly _ => false
  | .gcOnly _ => false
  | _ => true
def edgesIn (listed : List Bool) : List Edge → Bool
  | [] => true
  | e :: es => (bif bindsA e then listed.getD e.on false else true) && edgesIn listed es
def readyGo (listed : List Bool) : List Oper → Nat → List Nat
  | [], _ => []
  | o :: os, i => bif !(listed.getD i true) && edgesIn listed o.after.toList then i :: readyGo listed os (i + 1) else readyGo listed os (i + 1)
def readyL (all : List Oper) (listed : List Bool) : List Nat := readyGo listed all 0
def notSel : Op → Bool
  | .select _ _ => false
  | _ => true
def noSelL : List Oper → Bool
  | [] => true
  | o :: os => notSel o.op && noSelL os
def freeGo (all : List Oper) (listed : List Bool) (i : Nat) (oi : Oper) : List Oper → Nat → Bool
  | [], _ => true
  | o :: os, j => (Nat.beq j i || listed.getD j true || o.after.toList.any (fun e => bindsA e && Nat.beq e.on i) || oi.apart all.toArray o) && freeGo all listed i oi os (j + 1)
def setT : List Bool → Nat → List Bool
  | [], _ => []
  | _ :: l, 0 => true :: l
  | b :: l, n + 1 => b :: setT l n
def restrictTo (m : Mem) : List Nat → Tr SObj → Tr SObj
  | [], t => t
  | id :: K, t => (match m.tr.get id with | some o => restrictTo m K (t.put id o) | none => restrictTo m K t)
def Mem.only (m : Mem) (K : List Nat) : Mem := ⟨restrictTo m K .nil, m.nx⟩
/-- may an operation be taken first, and what does it yield? -/
def takeX (C : Cfg) (all : List Oper) (listed : List Bool) (st : St) (K : List Nat) (i : Nat) : Option SV :=
  match all[i]? with
  | none => none
  | some o => (match wantX all st o with
    | .no => bif noSelL all && freeGo all listed i o all 0 then some undefX else none
    | .yes => (match calleeX st.tm o.op, opM C [] st.mem st.tm o.op with
      | none, .no => (match opP C st.pc (st.mem.only K) st.tm o.op with
        | .ok s => bif noSelL all && freeGo all listed i o all 0 then some s else none
        | _ => none)
      | _, _ => none)
    | _ => none)
def firstTake (C : Cfg) (all : List Oper) (listed : List Bool) (st : St) (K : List Nat) : List Nat → Option (Nat × SV)
  | [] => none
  | i :: is => (match takeX C all listed st K i with | some s => some (i, s) | none => firstTake C all listed st K is)
/-- a guard that is to be known first -/
def splitOf (all : List Oper) (st : St) : List Nat → Option B
  | [] => none
  | i :: is => (match all[i]? with
    | some o => (match wantX all st o with | .split b => some b | _ => splitOf all st is)
    | none => splitOf all st is)
def eachR (f : Nat → Option (List Out)) : List Nat → Option (List Out)
  | [] => some []
  | i :: is => app (f i) (eachR f is)
/-- the blocks that are loaded from in what may be taken at once -/
def preK (C : Cfg) (all : List Oper) (nt : Nat) : Nat → List Bool → St → List Nat → List Nat
  | 0, _, _, K => K
  | k + 1, listed, st, K =>
    (match firstTake C all listed st (List.range st.mem.nx) (readyL all listed) with
    | none => K
    | some (i, s) => (match all[i]? with
      | some o => (match o.op with
        | .load _ p => (match evX st.tm p with
          | some (.ptr id _ _) => preK C all nt k (setT listed i) (st.put nt o.dst s) (bif memB id K then K else id :: K)
          | _ => preK C all nt k (setT listed i) (st.put nt o.dst s) K)
        | _ => preK C all nt k (setT listed i) (st.put nt o.dst s) K)
      | none => K))
mutual
/-- the blocks a value points into -/
def blksV : SV → List Nat
  | .ptr id _ _ => [id]
  | .slice id _ _ _ _ => [id]
  | .mref id => [id]
  | .fn _ cs => blksVL cs
  | .agg cs => blksVL cs
  | .tup cs => blksVL cs
  | .ifc _ s => blksV s
  | _ => []
def blksVL : List SV → List Nat
  | [] => []
  | s :: ss => blksV s ++ blksVL ss
end
/-- in the text's order, guards let be: the blocks that are loaded from, and those that may be written -/
def seenK (C : Cfg) (nt : Nat) : List Oper → St → List Nat → List Nat → List Nat × List Nat
  | [], _, K, X => (K, X)
  | o :: os, st, K, X =>
    (match o.op with
    | .call c => (match evX st.tm (match c.callee with | .value f => f | _ => .tmp 0), evXL st.tm c.args.toList with
      | some f, some args => seenK C nt os st K (blksV f ++ blksVL args ++ X)
      | _, some args => seenK C nt os st K (blksVL args ++ X)
      | _, _ => seenK C nt os st K X)
    | .store _ p _ => (match evX st.tm p with
      | some s => seenK C nt os st K (blksV s ++ X)
      | none => seenK C nt os st K X)
    | .load _ p => (match evX st.tm p, opP C st.pc st.mem st.tm o.op with
      | some (.ptr id _ _), .ok s => seenK C nt os (st.put nt o.dst s) (id :: K) X
      | some (.ptr id _ _), _ => seenK C nt os st (id :: K) X
      | _, _ => seenK C nt os st K X)
    | _ => (match opP C st.pc st.mem st.tm o.op with
      | .ok s => seenK C nt os (st.put nt o.dst s) K X
      | _ => seenK C nt os st K X))
def addK : List Nat → List Nat → List Nat → List Nat
  | [], _, K => K
  | i :: l, X, K => bif memB i X || memB i K then addK l X K else addK l X (i :: K)
/-- the blocks that a region itself stores into -/
def storedK (C : Cfg) (nt : Nat) : List Oper → St → List Nat
  | [], _ => []
  | o :: os, st => (match o.op with
    | .store _ p _ => (match evX st.tm p with | some s => blksV s ++ storedK C nt os st | none => storedK C nt os st)
    | .call _ => storedK C nt os st
    | _ => (match opP C st.pc st.mem st.tm o.op with
      | .ok s => storedK C nt os (st.put nt o.dst s)
      | _ => storedK C nt os st))
def dropK : List Nat → List Nat → List Nat
  | [], _ => []
  | i :: l, X => bif memB i X then dropK l X else i :: dropK l X
def lockK (C : Cfg) (all : List Oper) (nt : Nat) (st : St) : List Nat := bif C.mrg (st.fid % 65536 + 800000) then [] else
  let K := preK C all nt all.length (List.replicate all.length false) st []
  bif C.mrg (st.fid % 65536 + 100000) then K else (match seenK C nt all st [] [] with | (L, X) => addK L (bif C.mrg (st.fid % 65536 + 300000) then storedK C nt all st else X) (dropK K (storedK C nt all st)))
def dstOf (all : List Oper) (i : Nat) : Option Tmp := match all[i]? with | some o => o.dst | none => none

/-! a loop of unknown length: one round, at an index -/
def deeper (fid : Nat) : Nat := fid + 65536
def kNum (fid : Nat) : Nat := 700000 + fid / 65536
/-- the rows' and truths' number, beside a variable's -/
def qNum (k : Nat) : Nat := k + 100000
def firstReg : Code → Option (List Oper)
  | .seq a b => (match firstReg a with | some r => some r | none => firstReg b)
  | .region _ ops _ => some ops.toList
  | .block _ c => firstReg c
  | _ => none
def lessOp : List Oper → Option Tmp
  | [] => none
  | o :: os => (match o.op with
    | .binOp .lss _ (.tmp a) _ _ => some a
    | _ => lessOp os)
def movedFrom (a : Tmp) : List Oper → Tmp
  | [] => a
  | o :: os => (match o.dst, o.op with
    | some d, .move (.tmp b) => bif Nat.beq d a then b else movedFrom a os
    | _, _ => movedFrom a os)
def loopVar (c : Code) : Option Tmp := match firstReg c with
  | some ops => (match lessOp ops with | some a => some (movedFrom a ops) | none => none)
  | none => none
/-- what a round changes: nothing; a row of a block; a truth -/
inductive Mod where
  | none
  | map (id : Nat)
  | acc (id k : Nat)
  | bad
def diffs : List SV → List SV → Nat → List Nat
  | a :: l, b :: m, i => bif SV.beq a b then diffs l m (i + 1) else i :: diffs l m (i + 1)
  | [], [], _ => []
  | _, _, i => [i, i]
def modObj (id : Nat) : SObj → SObj → Mod
  | .arr _, .arr _ => .map id
  | .cells _ x, .cells _ y => (match diffs x y 0 with | [k] => .acc id k | _ => .bad)
  | _, _ => .bad
def modU : Mod → Mod → Mod
  | .none, b => b
  | a, .none => a
  | .map i, .map j => bif Nat.beq i j then .map i else .bad
  | .acc i k, .acc j l => bif Nat.beq i j && Nat.beq k l then .acc i k else .bad
  | _, _ => .bad
def modOf (m0 m : Mem) : Nat → Mod
  | 0 => .none
  | n + 1 => (match m0.tr.get n, m.tr.get n with
    | none, none => modOf m0 m n
    | some a, some b => bif SObj.beq a b then modOf m0 m n else modU (modObj n a b) (modOf m0 m n)
    | _, _ => .bad)
def isNorm (o : Out) : Bool := match o.ex with | .norm => true | _ => false
def modAll (m0 : Mem) : List Out → Mod
  | [] => .none
  | o :: os => bif isNorm o then modU (modOf m0 o.st.mem m0.nx) (modAll m0 os) else modAll m0 os
def SArr.fresh (A : SArr) (k : Nat) : SArr := { A with r := qNum k, row := none, gk := 0, gen := [] }
def memAt (k : Nat) (md : Mod) (m0 : Mem) : Option Mem := match md with
  | .none => some m0
  | .map id => (match m0.tr.get id with | some (.arr A) => some (m0.set id (.arr (A.fresh k))) | _ => none)
  | .acc id j => (match m0.tr.get id with | some (.cells w cs) => some (m0.set id (.cells w (cs.set j (.bool (.var (qNum k)))))) | _ => none)
  | .bad => none
def Tr.sub {α : Type} (f : α → α → Bool) : Tr α → Tr α → Bool
  | .nil, _ => true
  | .node a l r, .nil => (match a with | some _ => false | none => true) && Tr.sub f l .nil && Tr.sub f r .nil
  | .node a l r, .node b m s => (match a with | some x => (match b with | some y => f x y | none => false) | none => true) && Tr.sub f l m && Tr.sub f r s
/-- facts on lengths and arguments alone -/
def numT : T → Bool
  | .lit _ => true
  | .var _ => true
  | .cell _ (.lit _) _ => true
  | .wrap _ t => numT t
  | .bin _ a b => numT a && numT b
  | _ => false
def numB : B → Bool
  | .eqI a b => numT a && numT b
  | .ltI a b => numT a && numT b
  | _ => false
def numPc (pc : PC) : PC := pc.filter fun x => numB x.1
theorem numPc_ok {ρ : Env} {pc : PC} (h : PcH ρ pc) : PcH ρ (numPc pc) := fun x hx => h x (List.mem_filter.1 hx).1
def stAt (k : Nat) (τ : Tmp) (st : St) (tm : Tr SV) (mem : Mem) : St := ⟨tm.put τ (.int .i64 (.var k)), mem, (.ltI (.var k) (.lit 0), false) :: numPc st.pc, deeper st.fid⟩
def lenIn (k : Nat) : PC → Option T
  | [] => none
  | (.ltI (.var n) l, false) :: r => bif Nat.beq n k then (match l with | .lit (.ofNat 0) => lenIn k r | l => some l) else lenIn k r
  | _ :: r => lenIn k r
def lenOuts (k : Nat) : List Out → Option T
  | [] => none
  | o :: os => (match o.ex with | .exit _ => (match lenIn k o.st.pc with | some l => some l | none => lenOuts k os) | _ => lenOuts k os)
def hasFact (pc : PC) (b : B) (v : Bool) : Bool := pc.any fun p => pcItem p (b, v)
/-- what a round leaves of the one that it changes -/
def payload (k : Nat) (md : Mod) (memK : Mem) (o : Out) : Option (List SV) := match md with
  | .none => some []
  | .map id => (match memK.tr.get id, o.st.mem.tr.get id with
    | some (.arr A), some (.arr D) => bif sameArr A D then (match D.row with
        | none => some (A.base (.var k))
        | some (t, cs) => bif T.beq t (.var k) && underL memK.nx cs then some cs else none) else none
    | _, _ => none)
  | .acc id j => (match memK.tr.get id, o.st.mem.tr.get id with
    | some (.cells w cs), some (.cells x ds) => bif (w == x) && beqL (ds.set j (.bool (.var (qNum k)))) cs then (match ds[j]? with | some (.bool b) => some [.bool b] | _ => none) else none
    | _, _ => none)
  | .bad => none
def joinP (k : Nat) (md : Mod) (memK : Mem) (pc0 : PC) : List Out → Option (List SV × List PC)
  | [] => none
  | [o] => (match payload k md memK o with | some l => some (l, [factsOf pc0 o.st.pc]) | none => none)
  | o :: o' :: os => (match payload k md memK o, joinP k md memK pc0 (o' :: os) with
    | some l, some (l', fs) => bif fs.all (excl (factsOf pc0 o.st.pc)) then (match iteL (conj (factsOf pc0 o.st.pc)) l l' with | some u => some (u, factsOf pc0 o.st.pc :: fs) | none => none) else none
    | _, _ => none)
def tiL (l : List SV) (f : Nat) : Option T := match l[f]? with | some (.int _ t) => some t | _ => none
def biL (l : List SV) (f : Nat) : Option B := match l[f]? with | some (.bool b) => some b | _ => none
/-- the cells that are other than the base -/
def genFrom (r : Nat) (k : Nat) : List SV → List CK → Nat → List (Nat × SV)
  | s :: ss, q :: ks, f => bif SV.beq s (mkCell r (.var k) f q) then genFrom r k ss ks (f + 1) else (f, s) :: genFrom r k ss ks (f + 1)
  | _, _, _ => []
/-- rows changed, all of them -/
def mapped (k : Nat) (A : SArr) (l : List SV) : Option SArr :=
  match subL ⟨k, qNum k, .var k, tiL (A.base (.var k)), biL (A.base (.var k)), .lit false⟩ l with
  | none => none
  | some g =>
    let gen := genFrom A.r k g A.ks 0
    bif !(genOk k gen) then none else (match A.row with
    | none => some { A with gk := k, gen := gen }
    | some (t, rc) => (match subL ⟨k, qNum k, t, tiL rc, biL rc, .lit false⟩ l with
      | some rc' => some { A with gk := k, gen := gen, row := some (t, rc') }
      | none => none))
def memEnd (k : Nat) (md : Mod) (m0 : Mem) (len : T) (l : List SV) : Option Mem := match md with
  | .none => some m0
  | .map id => (match m0.tr.get id with
    | some (.arr A) => bif T.beq A.len len && Nat.beq l.length A.ks.length then (match mapped k A l with | some D => bif kindA A && kindA D then some (m0.set id (.arr D)) else none | none => none) else none
    | _ => none)
  | .acc id j => (match m0.tr.get id, l with
    | some (.cells w cs), [.bool b] => (match cs[j]?, subB ⟨k, qNum k, .var k, fun _ => none, fun _ => none, .lit true⟩ b, subB ⟨k, qNum k, .var k, fun _ => none, fun _ => none, .lit false⟩ b with
      | some (.bool a0), some p1, some (.lit false) => some (m0.set id (.cells w (cs.set j (.bool (mkAnd a0 (mkAll k len p1))))))
      | _, _, _ => none)
    | _, _ => none)
  | .bad => none
/-- many facts one behind the other, as they are -/
def conjR : PC → B
  | [] => .lit true
  | (b, v) :: r => andR (bif v then b else mkNot b) (conjR r)
theorem conjR_ev (ρ : Env) : ∀ l : PC, (conjR l).ev ρ = (conj l).ev ρ
  | [] => rfl
  | (b, v) :: r => by simp only [conjR, conj, andR_ev, mkAnd_ev, conjR_ev ρ r]
def conjS (l : PC) : B := bif Nat.blt 8 l.length then conjR l else conj l
theorem conjS_ev (ρ : Env) (l : PC) : (conjS l).ev ρ = (conj l).ev ρ := by
  unfold conjS
  cases Nat.blt 8 l.length
  · rfl
  · exact conjR_ev ρ l
def contB (pc0 : PC) : List Out → B
  | [] => .lit false
  | o :: os => mkOr (conjS (factsOf pc0 o.st.pc)) (contB pc0 os)
def Mod.isNone : Mod → Bool
  | .none => true
  | _ => false
def frPC (k : Nat) : PC → Bool
  | [] => true
  | (b, _) :: r => frB k (qNum k) b && frPC k r
def frMem (k : Nat) (m : Mem) : Nat → Bool
  | 0 => true
  | n + 1 => (match m.tr.get n with | some o => frObj k (qNum k) o | none => true) && frMem k m n
/-- the one block that a round may write, as it was -/
def sameAt (md : Mod) (memK m : Mem) : Bool := match md with
  | .none => true
  | .map W => oeq SObj.beq (m.tr.get W) (memK.tr.get W)
  | .acc W _ => oeq SObj.beq (m.tr.get W) (memK.tr.get W)
  | .bad => false
/-- the blocks that a round may not write -/
def lockM (md : Mod) (nx : Nat) : List Nat := match md with
  | .map W => (List.range nx).filter fun i => !(Nat.beq i W)
  | .acc W _ => (List.range nx).filter fun i => !(Nat.beq i W)
  | _ => List.range nx
def stepsUp (k : Nat) (τ : Tmp) (tm : Tr SV) : Bool := match tm.get τ with
  | some (.int .i64 t) => T.beq t (.wrap .i64 (.bin .add (.var k) (.lit 1))) || T.beq t (.bin .add (.var k) (.lit 1))
  | _ => false
/-- an end of a round: as it should be? -/
def okRound (k : Nat) (τ : Tmp) (i : Nat) (len : T) (tmI : Tr SV) (md : Mod) (memK : Mem) (o : Out) : Bool := Tr.sub SV.beq tmI o.st.tm && (match o.ex with
  | .norm => stepsUp k τ o.st.tm && hasFact o.st.pc (.ltI (.var k) len) true
  | .exit j => bif hasFact o.st.pc (.ltI (.var k) len) false then Nat.beq i j && sameAt md memK o.st.mem else md.isNone && hasFact o.st.pc (.ltI (.var k) len) true
  | .ret => md.isNone && hasFact o.st.pc (.ltI (.var k) len) true
  | .panic _ => false
  | .stuck _ => false)
def isEarly (k : Nat) (len : T) (o : Out) : Bool := match o.ex with
  | .ret => true
  | .exit _ => !(hasFact o.st.pc (.ltI (.var k) len) false)
  | _ => false
def exitId (k : Nat) (len : T) : List Out → Option Nat
  | [] => none
  | o :: os => (match o.ex with | .exit i => bif hasFact o.st.pc (.ltI (.var k) len) false then some i else exitId k len os | _ => exitId k len os)
def earlyOut (k : Nat) (st : St) (len : T) (c : B) (norms : List Out) (pc1 : PC) (o : Out) : Out :=
  ⟨o.ex, ⟨Tr.zip (fun x _ => bif frSV k (qNum k) x && under st.mem.nx x then some x else none) o.st.tm o.st.tm, st.mem,
    (bif norms.all (fun n => excl (factsOf pc1 o.st.pc) (factsOf pc1 n.st.pc)) then addPc (mkAll k len c) false st.pc else st.pc), st.fid⟩⟩
def finishL (k : Nat) (τ : Tmp) (md : Mod) (st : St) (tmI : Tr SV) (memK : Mem) (outs : List Out) : Option (List Out) :=
  let pc1 := (B.ltI (.var k) (.lit 0), false) :: numPc st.pc
  match lenOuts k outs with
  | none => none
  | some len => (match exitId k len outs with
    | none => none
    | some i =>
      let norms := outs.filter isNorm
      let early := outs.filter (isEarly k len)
      let c := bif early.isEmpty then B.lit true else contB pc1 norms
      bif frT k (qNum k) len && frPC k st.pc && frMem k st.mem st.mem.nx && hiLe (rng st.pc len) 9223372036854775807 && outs.all (okRound k τ i len tmI md memK) && okB k c then
        (match joinP k md memK pc1 norms with
        | some (l, _) => (match memEnd k md st.mem len l with
          | some m' => some (⟨.exit i, ⟨tmI, m', (bif early.isEmpty then st.pc else addPc (mkAll k len c) true st.pc), st.fid⟩⟩ :: early.map (earlyOut k st len c norms pc1))
          | none => none)
        | none => none) else none)
/-- the same, with no row known in what may be written: to see what a round changes -/
def looseTr (k : Nat) (m : Mem) : Nat → Tr SObj → Tr SObj
  | 0, t => t
  | n + 1, t => (match m.tr.get n with
    | some (.arr A) => bif A.wr then looseTr k m n (t.put n (.arr (A.fresh k))) else looseTr k m n t
    | _ => looseTr k m n t)
def loose (k : Nat) (m : Mem) : Mem := ⟨looseTr k m m.nx m.tr, m.nx⟩
/-- the slots that a loop's code sets -/
def setsOps : List Oper → Tr Unit → Tr Unit
  | [], t => t
  | o :: os, t => setsOps os (match o.dst with | some d => t.put d () | none => t)
def setsOf : Code → Tr Unit → Tr Unit
  | .seq a b, t => setsOf b (setsOf a t)
  | .cond _ a b, t => setsOf b (setsOf a t)
  | .block _ c, t => setsOf c t
  | .loop c, t => setsOf c t
  | .region _ ops _, t => setsOps ops.toList t
  | _, t => t
def Tr.less {α : Type} (f : α → Bool) : Tr α → Tr Unit → Tr α
  | .nil, _ => .nil
  | .node a l r, u => .node (match (match u with | .node b _ _ => b | .nil => none) with
      | some _ => none
      | none => (match a with | some x => bif f x then some x else none | none => none))
    (Tr.less f l (match u with | .node _ m _ => m | .nil => .nil)) (Tr.less f r (match u with | .node _ _ s => s | .nil => .nil))
theorem Tr.get_less {α : Type} {f : α → Bool} : ∀ {t : Tr α} {u : Tr Unit} {n : Nat} {x : α}, (Tr.less f t u).get n = some x → t.get n = some x ∧ f x = true
  | .nil, u, n, x, h => by simp [Tr.less, Tr.get] at h
  | .node a l r, u, n, x, h => by
    simp only [Tr.less] at h
    cases n with
    | zero =>
      simp only [Tr.get] at h ⊢
      split at h
      · cases h
      · split at h
        · rename_i y
          cases hf : f y <;> rw [hf] at h
          · cases h
          · cases h; exact ⟨rfl, hf⟩
        · cases h
    | succ n =>
      simp only [Tr.get] at h ⊢
      cases hb : Nat.beq (n % 2) 0
      · rw [hb] at h; exact Tr.get_less h
      · rw [hb] at h; exact Tr.get_less h
def orElseL (a b : Option (List Out)) : Option (List Out) := match a with
  | some l => some l
  | none => b
def genericL (C : Cfg) (run : List Nat → St → Option (List Out)) (c : Code) (st : St) : Option (List Out) :=
  bif C.lp (st.fid % 65536) then (match loopVar c with
    | none => none
    | some τ => (match st.tm.get τ with
      | some (.int .i64 (.lit (.ofNat 0))) =>
        let k := kNum st.fid
        let tmI := Tr.less (frSV k (qNum k)) st.tm (setsOf c .nil)
        orElseL (bif C.mrg (st.fid % 65536 + 400000) then none else (match run (lockM .none st.mem.nx) (stAt k τ st tmI st.mem) with
          | none => none
          | some outs => finishL k τ .none st tmI st.mem outs))
        (let memL := loose k st.mem
        (match run [] (stAt k τ st tmI memL) with
        | none => none
        | some outs1 =>
          let md := modAll memL outs1
          (match memAt k md st.mem with
          | none => none
          | some memK => (match run (lockM md st.mem.nx) (stAt k τ st tmI memK) with
            | none => none
            | some outs2 => finishL k τ md st tmI memK outs2))))
      | _ => none)) else none

/-- rounds of a loop, of all states at once; behind each the ends of one form are one -/
def runAll (run : St → Option (List Out)) : List St → Option (List Out)
  | [] => some []
  | st :: r => app (run st) (runAll run r)
def normsOf : List Out → List St
  | [] => []
  | o :: r => (match o.ex with | .norm => o.st :: normsOf r | _ => normsOf r)
def othersOf : List Out → List Out
  | [] => []
  | o :: r => (match o.ex with | .norm => othersOf r | _ => o :: othersOf r)
/-- do two ends or more go on? -/
def manyN : List Out → Bool
  | [] => false
  | o :: r => (match o.ex with | .norm => r.any (fun o => match o.ex with | .norm => true | _ => false) | _ => manyN r)
def loopX (run : St → Option (List Out)) (few : List Out → List Out) : Nat → List St → Option (List Out)
  | 0, sts => some (sts.map fun st => ⟨.stuck 41, st⟩)
  | k + 1, sts => (match runAll run sts with
    | some l => let l' := bif manyN l then few l else l; (match normsOf l' with
      | [] => some (othersOf l')
      | ns => app (some (othersOf l')) (loopX run few k ns))
    | none => none)
/-! a region that draws, level by level: states that are one are made one -/
structure Fr where
  k : Nat
  listed : List Bool
  st : St
def bBeq : Bool → Bool → Bool
  | true, true => true
  | false, false => true
  | _, _ => false
theorem bBeq_eq {a b : Bool} (h : bBeq a b = true) : a = b := by cases a <;> cases b <;> first | rfl | cases h
def frBeq (a b : Fr) : Bool := Nat.beq a.k b.k && leq bBeq a.listed b.listed && outBeq ⟨.norm, a.st⟩ ⟨.norm, b.st⟩
theorem frBeq_eq {a b : Fr} (h : frBeq a b = true) : a = b := by
  obtain ⟨a1, a2, a3⟩ := a
  obtain ⟨b1, b2, b3⟩ := b
  simp only [frBeq, Bool.and_eq_true] at h
  obtain ⟨⟨h1, h2⟩, h3⟩ := h
  have h3 := outBeq_eq h3
  simp only [Out.mk.injEq, true_and] at h3
  rw [Nat.eq_of_beq_eq_true h1, leq_eq (fun _ _ => bBeq_eq) h2, h3]
def addF (x : Fr) (l : List Fr) : List Fr := bif l.any (frBeq x) then l else x :: l
def dedupF : List Fr → List Fr
  | [] => []
  | x :: l => addF x (dedupF l)
theorem dedupF_mem : ∀ {l : List Fr} {x : Fr}, x ∈ l → x ∈ dedupF l
  | y :: l, x, h => by
    simp only [dedupF, addF]
    cases ha : (dedupF l).any (frBeq y)
    · simp only [cond_false]
      cases h with
      | head => exact .head _
      | tail _ h => exact .tail _ (dedupF_mem h)
    · simp only [cond_true]
      cases h with
      | head =>
        obtain ⟨z, hz, hb⟩ := List.any_eq_true.1 ha
        rw [frBeq_eq hb]; exact hz
      | tail _ h => exact dedupF_mem h
/-- what may be taken at once is taken, what must be asked is asked -/
def settleX (C : Cfg) (all : List Oper) (nt : Nat) (K : List Nat) : Nat → Fr → List Fr
  | 0, x => [x]
  | m + 1, x => (match readyL all x.listed with
    | [] => [x]
    | rs => (match x.k with
      | 0 => [x]
      | k + 1 => (match firstTake C all x.listed x.st K rs with
        | some (i, s) => settleX C all nt K m ⟨k, setT x.listed i, x.st.put nt (dstOf all i) s⟩
        | none => (match splitOf all x.st rs with
          | some b => settleX C all nt K m ⟨k + 1, x.listed, x.st.know (sp C x.st b) true⟩ ++ settleX C all nt K m ⟨k + 1, x.listed, x.st.know (sp C x.st b) false⟩
          | none => [x]))))
def settleL (C : Cfg) (all : List Oper) (nt : Nat) (K : List Nat) : List Fr → List Fr
  | [] => []
  | x :: l => settleX C all nt K (all.length + 64) x ++ settleL C all nt K l
/-- without what a region's operations lay -/
def delAll : List Oper → Tr SV → Tr SV
  | [], t => t
  | o :: os, t => (match o.dst with | some d => (delAll os t).del d | none => delAll os t)
theorem delAll_sub : ∀ {all : List Oper} {t : Tr SV} {n : Nat} {z : SV}, (delAll all t).get n = some z → t.get n = some z
  | [], _, _, _, h => h
  | o :: os, t, n, z, h => by
    simp only [delAll] at h
    split at h
    · rw [Tr.get_del] at h
      split at h
      · cases h
      · exact delAll_sub h
    · exact delAll_sub h
theorem delAll_dst {t : Tr SV} {o : Oper} {d : Nat} (hd : o.dst = some d) {all : List Oper} (hm : o ∈ all) : (delAll all t).get d = none := by
  induction all with
  | nil => cases hm
  | cons x os ih =>
    simp only [delAll]
    by_cases e : x.dst = some d
    · rw [e]; simp [Tr.get_del]
    · have hm' : o ∈ os := by
        rcases List.mem_cons.1 hm with h | h
        · rw [h] at hd; exact absurd hd e
        · exact h
      have ih := ih hm'
      split
      · rw [Tr.get_del, ih]; simp
      · exact ih
/-- of a panic's end nothing that the region laid is told -/
def clrO (all : List Oper) (o : Out) : Out := match o.ex with
  | .panic v => ⟨.panic v, ⟨delAll all o.st.tm, o.st.mem, o.st.pc, o.st.fid⟩⟩
  | _ => o
def oneR (all : List Oper) (one : Nat → St → Option (List Out)) (x : Fr) (k : Nat) : List Nat → Option (List Out × List Fr)
  | [] => some ([], [])
  | i :: is => (match one i x.st, oneR all one x k is with
    | some outs, some (o, f) => some ((othersOf outs).map (clrO all) ++ o, (normsOf outs).map (fun st => ⟨k, setT x.listed i, st⟩) ++ f)
    | _, _ => none)
def stepF (all : List Oper) (one : Nat → St → Option (List Out)) (x : Fr) : Option (List Out × List Fr) := match readyL all x.listed with
  | [] => some ([⟨.norm, x.st⟩], [])
  | rs => (match x.k with
    | 0 => some ([⟨.stuck 37, x.st⟩], [])
    | k + 1 => oneR all one x k rs)
def levelF (all : List Oper) (one : Nat → St → Option (List Out)) : List Fr → Option (List Out × List Fr)
  | [] => some ([], [])
  | x :: l => (match stepF all one x, levelF all one l with
    | some (a, b), some (c, d) => some (a ++ c, b ++ d)
    | _, _ => none)
def drwL (C : Cfg) (all : List Oper) (nt : Nat) (K : List Nat) (one : Nat → St → Option (List Out)) : Nat → List Fr → Option (List Out)
  | 0, l => some (l.map fun x => ⟨.stuck 37, x.st⟩)
  | m + 1, l => (match levelF all one (dedupF (settleL C all nt K l)) with
    | some (outs, []) => some outs
    | some (outs, l') => app (some outs) (drwL C all nt K one m l')
    | none => none)
def exec (C : Cfg) : Nat → List Nat → Nat → Task → St → Option (List Out)
  | 0, _, _, _, _ => none
  | n + 1, lk, nt, .code c, st => (match c with
    | .skip => some [⟨.norm, st⟩]
    | .label _ => some [⟨.norm, st⟩]
    | .exit id => some [⟨.exit id, st⟩]
    | .ret => some [⟨.ret, st⟩]
    | .seq a b => bindN (exec C n lk nt (.code a) st) (fun st' => exec C n lk nt (.code b) st')
    | .cond x a b => (match evX st.tm x with
      | some (.bool b0) => (match simpY (C.mrg 900000) st.pc b0 with
        | .lit true => exec C n lk nt (.code a) st
        | .lit false => exec C n lk nt (.code b) st
        | b1 => bif C.jc (st.fid % 65536) || B.beq (atomB b1) b1 then joinN (C.jc (st.fid % 65536) && !(C.mrg (st.fid % 65536 + 700000))) lk st (exec C n lk nt (.code a) (st.know b1 true)) (exec C n lk nt (.code b) (st.know b1 false))
          else app (exec C n lk nt (.code (.cond x a b)) (st.know (atomB b1) true)) (exec C n lk nt (.code (.cond x a b)) (st.know (atomB b1) false)))
      | _ => some [⟨.stuck 33, st⟩])
    | .block id c => (match exec C n lk nt (.code c) st with | some l => some (bif C.jc (st.fid % 65536) && !(C.mrg (st.fid % 65536 + 700000)) then joinL true lk st.tm st.mem st.pc (l.map (blockX id)) else l.map (blockX id)) | none => none)
    | .loop c => (match genericL C (fun L st' => exec C n (L ++ lk) nt (.code c) st') c st with
      | some outs => some outs
      | none => loopX (fun st' => exec C n lk nt (.code c) st') (fewM lk st.tm st.mem) (bif C.lp (st.fid % 65536) then 10 else n) [st])
    | .region _ ops false => (match exec C n lk nt (.ops ops.toList ops.toList) st with | some l => some (bif !(C.mrg (st.fid % 65536 + 600000)) then joinL false lk st.tm st.mem st.pc l else l) | none => none)
    | .region _ ops true =>
      let all := ops.toList
      let no := List.replicate all.length false
      let K := lockK C all nt st
      (match exec C n (K ++ lk) nt (.drw all no all.length K) st with | some l => some (bif !(C.mrg (st.fid % 65536 + 600000)) then joinL false lk st.tm st.mem st.pc l else fewL lk st.tm st.mem l) | none => none)
    | _ => some [⟨.stuck 34, st⟩])
  | _ + 1, _, _, .ops _ [], st => some [⟨.norm, st⟩]
  | n + 1, lk, nt, .ops all (o :: rest), st =>
    stepOp C (exec C n) lk nt all o st (fun st' => exec C n lk nt (.ops all rest) st') (fun st' => exec C n lk nt (.ops all (o :: rest)) st')
  | n + 1, lk, nt, .drw all listed k K, st => drwL C all nt K (fun i st' => exec C n lk nt (.one all i) st') (all.length + 1) [⟨k, listed, st⟩]
  | n + 1, lk, nt, .one all i, st => (match all[i]? with
    | none => some [⟨.stuck 38, st⟩]
    | some o => stepOp C (exec C n) lk nt all o st (fun st' => some [⟨.norm, st'⟩]) (fun st' => exec C n lk nt (.one all i) st'))

/-! its meaning -/
structure ActR (ρ : Env) (β : Bet) (nt : Nat) (D : List Deferred) (st : St) (a : Act) : Prop where
  tm : TmRel ρ β st.tm a
  nt : a.tmps.size = nt
  df : a.defers = D
def ExR (ρ : Env) : XE → Exit → Prop
  | .norm, .normal => True
  | .exit i, .exit j => i = j
  | .ret, .ret => True
  | .panic s, .panic chain => ∃ v, s.rel ρ [] v ∧ Chain v chain
  | _, _ => False
theorem ExR.env {ρ σ : Env} {x : XE} {e : Exit} (h : ExR σ x e) (hp : ∀ s, x ≠ .panic s) : ExR ρ x e := by
  cases x with
  | panic s => exact absurd rfl (hp s)
  | _ => cases e <;> exact h
def Post (ρ : Env) (β : Bet) (lk : List Nat) (nt : Nat) (D : List Deferred) (w : World) (outs : List Out) (e : Exit) (a' : Act) (w' : World) : Prop :=
  ∃ o ∈ outs, PcH ρ o.st.pc ∧ ExR ρ o.ex e ∧ ∃ β', Stp β lk w β' w' ∧ ActR ρ β' nt D o.st a' ∧ MemRel ρ β' o.st.mem w'
def HookOk (C : Cfg) (ρ : Env) : Prop := ∀ f args mem pc lk outs, C.hook f args mem pc lk = some outs → ∀ (β : Bet) (w : World) (vs : List Value),
  PcH ρ pc → relL ρ β args vs → MemRel ρ β mem w → NoStuckC ρ outs → Calls C.P f vs.toArray w (CPost ρ β lk w outs)
variable {D : List Deferred}
theorem Post.some {ρ : Env} {β : Bet} {lk : List Nat} {nt : Nat} {w : World} {outs : List Out} {e : Exit} {a' : Act} {w' : World} (h : Post ρ β lk nt D w outs e a' w') :
    a'.tmps.size = nt ∧ a'.defers = D ∧ SomeG ρ β lk w w' (fun n => a'.tmps[n]?) (fun x => ExR ρ x e) outs := by
  obtain ⟨o, ho, hp, hx, β', hs, ha, hm⟩ := h
  exact ⟨ha.nt, ha.df, o, ho, hx, hp, β', hs, ha.tm.get, hm⟩
theorem Post.ofSome {ρ : Env} {β : Bet} {lk : List Nat} {nt : Nat} {w : World} {outs : List Out} {e : Exit} {a' : Act} {w' : World} (h1 : a'.tmps.size = nt) (h2 : a'.defers = D)
    (h : SomeG ρ β lk w w' (fun n => a'.tmps[n]?) (fun x => ExR ρ x e) outs) : Post ρ β lk nt D w outs e a' w' := by
  obtain ⟨o, ho, hx, hp, β', hs, ht, hm⟩ := h
  exact ⟨o, ho, hp, hx, β', hs, ⟨⟨ht⟩, h1, h2⟩, hm⟩
theorem Post.joinL {ρ : Env} {β : Bet} {lk : List Nat} {nt : Nat} {w : World} {outs : List Out} {e : Exit} {a' : Act} {w' : World} {mk : Bool} {st : St} (hp : PcH ρ st.pc) (hm : MemRel ρ β st.mem w) (h : Post ρ β lk nt D w outs e a' w') :
    Post ρ β lk nt D w (joinL mk lk st.tm st.mem st.pc outs) e a' w' :=
  let ⟨h1, h2, h3⟩ := h.some; Post.ofSome h1 h2 (joinL_ok hp hm h3)
theorem Post.fewL {ρ : Env} {β : Bet} {lk : List Nat} {nt : Nat} {w : World} {outs : List Out} {e : Exit} {a' : Act} {w' : World} {st : St} (hm : MemRel ρ β st.mem w) (h : Post ρ β lk nt D w outs e a' w') :
    Post ρ β lk nt D w (fewL lk st.tm st.mem outs) e a' w' :=
  let ⟨h1, h2, h3⟩ := h.some; Post.ofSome h1 h2 (fewL_ok hm h3)
theorem Post.fewM {ρ : Env} {β : Bet} {lk : List Nat} {nt : Nat} {w : World} {outs : List Out} {e : Exit} {a' : Act} {w' : World} {st : St} (hm : MemRel ρ β st.mem w) (h : Post ρ β lk nt D w outs e a' w') :
    Post ρ β lk nt D w (fewM lk st.tm st.mem outs) e a' w' :=
  let ⟨h1, h2, h3⟩ := h.some; Post.ofSome h1 h2 (fewM_ok hm h3)
/-- joined, or as they were -/
theorem Post.joinIf {ρ : Env} {β : Bet} {lk : List Nat} {nt : Nat} {w : World} {outs : List Out} {e : Exit} {a' : Act} {w' : World} {mk : Bool} {st : St} (hp : PcH ρ st.pc) (hm : MemRel ρ β st.mem w) (on : Bool) (h : Post ρ β lk nt D w outs e a' w') :
    Post ρ β lk nt D w (bif on then SX.joinL mk lk st.tm st.mem st.pc outs else outs) e a' w' := by
  cases on
  · exact h
  · exact h.joinL hp hm
theorem NoStuck.ofIf {ρ : Env} {mk : Bool} {lk : List Nat} {st : St} {on : Bool} {l : List Out} (h : NoStuck ρ (bif on then SX.joinL mk lk st.tm st.mem st.pc l else l)) : NoStuck ρ l := by
  cases on
  · exact h
  · exact joinL_stuck h
theorem ActR.know {ρ : Env} {β : Bet} {nt : Nat} {st : St} {a : Act} (h : ActR ρ β nt D st a) (b : B) (v : Bool) : ActR ρ β nt D (st.know b v) a := ⟨h.tm, h.nt, h.df⟩
theorem ActR.put {ρ : Env} {β : Bet} {nt : Nat} {st : St} {a : Act} (h : ActR ρ β nt D st a) (d : Option Tmp) {s : SV} {v : Value} (hr : s.rel ρ β v) : ActR ρ β nt D (st.put nt d s) (a.put d v) := by
  cases d with
  | none => exact h
  | some d =>
    simp only [St.put]
    cases hb : Nat.blt d nt
    · have hge : ¬ d < nt := fun hlt => by
        have : Nat.blt d nt = true := Nat.ble_eq_true_of_le hlt
        rw [hb] at this; cases this
      simp only [cond_false]
      have : a.put (some d) v = a := by
        simp only [Act.put]
        have : a.tmps.setIfInBounds d v = a.tmps := by rw [Array.setIfInBounds_eq_of_size_le (by rw [h.nt]; exact Nat.le_of_not_lt hge)]
        rw [this]
      rw [this]; exact h
    · have hlt : d < nt := Nat.le_of_ble_eq_true hb
      simp only [cond_true]
      refine ⟨⟨fun t s' hs => ?_⟩, by simp [Act.put, h.nt], h.df⟩
      simp only [Tr.get_put] at hs
      simp only [Act.put]
      by_cases e : t = d
      · rw [if_pos e] at hs; cases hs; subst e
        exact ⟨v, by rw [Array.getElem?_setIfInBounds_self_of_lt (by rw [h.nt]; exact hlt)], hr⟩
      · rw [if_neg e] at hs
        rw [Array.getElem?_setIfInBounds_ne (fun h => e h.symm)]
        exact h.tm.get t s' hs
theorem ActR.stp {ρ : Env} {β β' : Bet} {lk : List Nat} {w w' : World} {nt : Nat} {st : St} {a : Act} (h : ActR ρ β nt D st a) (hs : Stp β lk w β' w') : ActR ρ β' nt D st a :=
  ⟨⟨fun t s ht => let ⟨v, hv, r⟩ := h.tm.get t s ht; ⟨v, hv, hs.rel r⟩⟩, h.nt, h.df⟩
theorem St.put_pc (nt : Nat) (st : St) (d : Option Tmp) (v : SV) : (st.put nt d v).pc = st.pc := by
  unfold St.put; split
  · rfl
  · cases Nat.blt _ _ <;> rfl
theorem St.put_mem (nt : Nat) (st : St) (d : Option Tmp) (v : SV) : (st.put nt d v).mem = st.mem := by
  unfold St.put; split
  · rfl
  · cases Nat.blt _ _ <;> rfl
theorem Post.mono {ρ : Env} {β : Bet} {lk : List Nat} {nt : Nat} {w : World} {outs outs' : List Out} (h : ∀ o ∈ outs, o ∈ outs') {e : Exit} {a : Act} {w' : World} (hp : Post ρ β lk nt D w outs e a w') : Post ρ β lk nt D w outs' e a w' :=
  let ⟨o, ho, r⟩ := hp; ⟨o, h o ho, r⟩
theorem Post.from {ρ : Env} {β β₁ : Bet} {lk : List Nat} {nt : Nat} {w w₁ : World} {outs : List Out} (hs : Stp β lk w β₁ w₁) {e : Exit} {a : Act} {w' : World} (hp : Post ρ β₁ lk nt D w₁ outs e a w') : Post ρ β lk nt D w outs e a w' :=
  let ⟨o, ho, h1, h2, β', h3, h4⟩ := hp; ⟨o, ho, h1, h2, β', hs.trans h3, h4⟩
theorem app_some {x y : Option (List Out)} {l : List Out} (h : app x y = some l) : ∃ a b, x = some a ∧ y = some b ∧ l = a ++ b := by
  unfold app at h; split at h
  · cases h; exact ⟨_, _, rfl, rfl, rfl⟩
  · cases h
theorem NoStuck.left {ρ : Env} {a b : List Out} (h : NoStuck ρ (a ++ b)) : NoStuck ρ a := fun o ho => h o (List.mem_append_left _ ho)
theorem NoStuck.right {ρ : Env} {a b : List Out} (h : NoStuck ρ (a ++ b)) : NoStuck ρ b := fun o ho => h o (List.mem_append_right _ ho)
/-- of what is bound: each part is there -/
theorem bindL_some {f : Out → Option (List Out)} : ∀ {l outs : List Out}, bindL f l = some outs → ∀ o ∈ l, ∃ r, f o = some r ∧ ∀ x ∈ r, x ∈ outs
  | [], _, _, o, ho => by cases ho
  | x :: l, outs, h, o, ho => by
    obtain ⟨a, b, h1, h2, rfl⟩ := app_some h
    cases ho with
    | head => exact ⟨a, h1, fun y hy => List.mem_append_left _ hy⟩
    | tail _ ho => obtain ⟨r, hr, hm⟩ := bindL_some h2 o ho; exact ⟨r, hr, fun y hy => List.mem_append_right _ (hm y hy)⟩
theorem bindC_some {f : COut → Option (List Out)} : ∀ {l : List COut} {outs : List Out}, bindC f l = some outs → ∀ o ∈ l, ∃ r, f o = some r ∧ ∀ x ∈ r, x ∈ outs
  | [], _, _, o, ho => by cases ho
  | x :: l, outs, h, o, ho => by
    obtain ⟨a, b, h1, h2, rfl⟩ := app_some h
    cases ho with
    | head => exact ⟨a, h1, fun y hy => List.mem_append_left _ hy⟩
    | tail _ ho => obtain ⟨r, hr, hm⟩ := bindC_some h2 o ho; exact ⟨r, hr, fun y hy => List.mem_append_right _ (hm y hy)⟩

end Go.SX

namespace Go.SX
open Go

mutual
theorem SV.rel_down {ρ : Env} {β γ : Bet} : ∀ (s : SV) (u v : Value), s.rel ρ β u → s.rel ρ (β ++ γ) v → s.rel ρ β v
  | .bool _, _, _, _, h | .int _ _, _, _, _, h | .nilp, _, _, _, h | .nils, _, _, _, h | .raw _, _, _, _, h | .str _ _, _, _, _, h | .bst _, _, _, _, h | .rst _ _ _ _, _, _, _, h => h
  | .ifc _ s, _, _, h0, h => by obtain ⟨u0, g0, _⟩ := h0; obtain ⟨u, g, r⟩ := h; exact ⟨u, SV.rel_down s u0 u g0 g, r⟩
  | .ptr id _ _, _, _, h0, h => by
    obtain ⟨e0, he0, _⟩ := h0
    obtain ⟨e, he, r⟩ := h
    rw [List.getElem?_append_left (List.getElem?_eq_some_iff.1 he0).1] at he
    exact ⟨e, he, r⟩
  | .mref id, _, _, h0, h => by
    obtain ⟨e0, he0, _⟩ := h0
    obtain ⟨e, he, r⟩ := h
    rw [List.getElem?_append_left (List.getElem?_eq_some_iff.1 he0).1] at he
    exact ⟨e, he, r⟩
  | .slice id _ _ _ _, _, _, h0, h => by
    obtain ⟨e0, _, _, he0, _⟩ := h0
    obtain ⟨e, l, c, he, r⟩ := h
    rw [List.getElem?_append_left (List.getElem?_eq_some_iff.1 he0).1] at he
    exact ⟨e, l, c, he, r⟩
  | .fn _ caps, _, _, h0, h => by obtain ⟨l0, hl0, _⟩ := h0; obtain ⟨l, hl, r⟩ := h; exact ⟨l, relL_down caps l0 l hl0 hl, r⟩
  | .agg cs, _, _, h0, h => by obtain ⟨l0, hl0, _⟩ := h0; obtain ⟨l, hl, r⟩ := h; exact ⟨l, relL_down cs l0 l hl0 hl, r⟩
  | .tup cs, _, _, h0, h => by obtain ⟨l0, hl0, _⟩ := h0; obtain ⟨l, hl, r⟩ := h; exact ⟨l, relL_down cs l0 l hl0 hl, r⟩
theorem relL_down {ρ : Env} {β γ : Bet} : ∀ (ss : List SV) (l0 l : List Value), relL ρ β ss l0 → relL ρ (β ++ γ) ss l → relL ρ β ss l
  | [], _, _, _, h => h
  | s :: ss, _, _, h0, h => by
    obtain ⟨u, us, rfl, g1, g2⟩ := h0
    obtain ⟨v, vs, rfl, h1, h2⟩ := h
    exact ⟨v, vs, rfl, SV.rel_down s u v g1 h1, relL_down ss us vs g2 h2⟩
end
mutual
theorem SV.rel_scalar {ρ : Env} {β β' : Bet} : ∀ (s : SV) (v : Value), SV.scalar s = true → s.rel ρ β v → s.rel ρ β' v
  | .bool _, _, _, h | .int _ _, _, _, h | .nilp, _, _, h | .nils, _, _, h | .raw _, _, _, h | .str _ _, _, _, h | .bst _, _, _, h | .rst _ _ _ _, _, _, h => h
  | .ifc _ s, _, hs, h => by obtain ⟨u, g, r⟩ := h; exact ⟨u, SV.rel_scalar s u (by simpa [SV.scalar] using hs) g, r⟩
  | .ptr _ _ _, _, hs, _ => by cases hs
  | .slice _ _ _ _ _, _, hs, _ => by cases hs
  | .mref _, _, hs, _ => by cases hs
  | .fn _ _, _, hs, _ => by cases hs
  | .agg cs, _, hs, h => by obtain ⟨l, hl, r⟩ := h; exact ⟨l, relL_scalar cs l (by simpa [SV.scalar] using hs) hl, r⟩
  | .tup cs, _, hs, h => by obtain ⟨l, hl, r⟩ := h; exact ⟨l, relL_scalar cs l (by simpa [SV.scalar] using hs) hl, r⟩
theorem relL_scalar {ρ : Env} {β β' : Bet} : ∀ (ss : List SV) (l : List Value), scalarL ss = true → relL ρ β ss l → relL ρ β' ss l
  | [], _, _, h => h
  | s :: ss, _, hs, h => by
    simp only [scalarL, Bool.and_eq_true] at hs
    obtain ⟨v, vs, rfl, h1, h2⟩ := h
    exact ⟨v, vs, rfl, SV.rel_scalar s v hs.1 h1, relL_scalar ss vs hs.2 h2⟩
end
theorem ent_down {ρ : Env} {β γ : Bet} {k : IntKind} : ∀ {es : List (Int × SV)} {l0 l : List MapEntry}, entRel ρ β k es l0 → entRel ρ (β ++ γ) k es l → entRel ρ β k es l
  | [], _, _, _, h => h
  | (n, s) :: r, _, _, h0, h => by
    obtain ⟨x0, xs0, rfl, _, a2, a4⟩ := h0
    obtain ⟨x, xs, rfl, b1, b2, b4⟩ := h
    exact ⟨x, xs, rfl, b1, SV.rel_down _ _ _ a2 b2, ent_down a4 b4⟩
theorem mpRel_down {ρ : Env} {β γ : Bet} {k : IntKind} {es : List (Int × SV)} {l0 l : List MapEntry} (h0 : mpRel ρ β k es l0) (h : mpRel ρ (β ++ γ) k es l) : mpRel ρ β k es l :=
  let ⟨⟨_, _, g2⟩, _⟩ := h0; let ⟨⟨l', h1, h2⟩, h3⟩ := h; ⟨⟨l', h1, ent_down g2 h2⟩, h3⟩
theorem objRel_down {ρ : Env} {β γ : Bet} {e : Blk} {w w' : World} {o : SObj} (h0 : objRel ρ β e w o) (h : objRel ρ (β ++ γ) e w' o) : objRel ρ β e w' o := by
  cases o with
  | cells wr cs =>
    obtain ⟨_, _, _, arr0, _, _, _, _, g⟩ := h0
    obtain ⟨h0, h1, h2, arr, el, fr, h3, h4, h5⟩ := h
    exact ⟨h0, h1, h2, arr, el, fr, h3, h4, relL_down _ _ _ g h5⟩
  | buf el sz cs =>
    obtain ⟨_, _, _, _, _, _, _, _, _, g⟩ := h0
    obtain ⟨h0, h1, h2, arr, h3, h4, vs, rest, h5, h6⟩ := h
    exact ⟨h0, h1, h2, arr, h3, h4, vs, rest, h5, relL_down _ _ _ g h6⟩
  | mp k es =>
    obtain ⟨_, _, _, _, _, g⟩ := h0
    obtain ⟨h0, h1, h2, arr, h3, h4⟩ := h
    exact ⟨h0, h1, h2, arr, h3, mpRel_down g h4⟩
  | mq ks vs =>
    obtain ⟨_, _, _, arr0, _, _, _, g⟩ := h0
    obtain ⟨h0, h1, h2, arr, h3, h4, h5, h6⟩ := h
    exact ⟨h0, h1, h2, arr, h3, h4, h5, relL_down _ _ _ g h6⟩
  | glob g cs => exact h
  | rop el cs r o len =>
    obtain ⟨_, _, _, _, _, _, _, _, _, _, g, _⟩ := h0
    obtain ⟨h0, h1, h2, arr, h3, h4, vs, bs, rest, h5, h6, h7⟩ := h
    exact ⟨h0, h1, h2, arr, h3, h4, vs, bs, rest, h5, relL_down _ _ _ g h6, h7⟩
  | pre cs =>
    obtain ⟨_, _, _, _, _, _, _, _, _, _, g⟩ := h0
    obtain ⟨h0, h1, h2, arr, el, fr, h3, vs, rest, h5, h6⟩ := h
    exact ⟨h0, h1, h2, arr, el, fr, h3, vs, rest, h5, relL_down _ _ _ g h6⟩
  | it mid n seen last =>
    obtain ⟨_, _, _, em0, _, g, _⟩ := h0
    obtain ⟨h0, h1, h2, em, sa, h3, h4, h5, h6⟩ := h
    exact ⟨h0, h1, h2, em, sa, by rw [List.getElem?_append_left (List.getElem?_eq_some_iff.1 g).1] at h3; exact h3, h4, h5, h6⟩
  | arr A =>
    obtain ⟨_, _, _, _, _, _, arr0, _, _, _, _, g⟩ := h0
    obtain ⟨h0, h1, h2, h2', h2a, h2b, arr, el, fr, h3, h4, h5⟩ := h
    refine ⟨h0, h1, h2, h2', h2a, h2b, arr, el, fr, h3, h4, fun j hj f sv hs => ?_⟩
    obtain ⟨v, hv, r⟩ := h5 j hj f sv hs
    obtain ⟨u, _, q⟩ := g j hj f sv hs
    exact ⟨v, hv, SV.rel_down _ _ _ q r⟩
theorem sameBelow_get {m0 m : Mem} : ∀ {n : Nat}, sameBelow m0 m n = true → ∀ id, id < n → m.tr.get id = m0.tr.get id
  | 0, _, id, h => by omega
  | n + 1, hs, id, h => by
    simp only [sameBelow, Bool.and_eq_true] at hs
    rcases Nat.lt_succ_iff_lt_or_eq.1 h with h | rfl
    · exact sameBelow_get hs.2 id h
    · exact oeq_eq (fun _ _ => SObj.beq_eq) hs.1
theorem forgot_ok {ρ : Env} {β β' : Bet} {lk : List Nat} {m0 : Mem} {w w' : World} {o : COut} {v : SV} (h : forgot m0 o = some v) (hm0 : MemRel ρ β m0 w) (hs : Stp β lk w β' w') (hm : MemRel ρ β' o.mem w') {e : Ending} (he : EndR ρ β' o.ex e) :
    o.ex = .ret v ∧ Stp β lk w β w' ∧ MemRel ρ β m0 w' ∧ EndR ρ β (.ret v) e := by
  unfold forgot at h
  split at h
  · rename_i u hu
    cases hb : SV.scalar u && sameBelow m0 o.mem m0.nx
    · rw [hb] at h; cases h
    · rw [hb] at h
      cases h
      rw [Bool.and_eq_true] at hb
      rw [hu] at he
      obtain ⟨γ, rfl, hγ⟩ := hs.ext
      refine ⟨hu, ⟨⟨[], by simp, by simp⟩, hs.os, hs.tape, hs.output, hs.size, hs.keep, hs.lock⟩, ⟨hm0.nx, fun id ob hob => ?_, fun e he => Nat.lt_of_lt_of_le (hm0.lt e he) hs.size, hm0.apart, hm0.dom⟩, ?_⟩
      · obtain ⟨e0, he0, r0⟩ := hm0.obj id ob hob
        have hlt : id < m0.nx := by rw [hm0.nx]; exact (List.getElem?_eq_some_iff.1 he0).1
        obtain ⟨e1, he1, r1⟩ := hm.obj id ob (by rw [sameBelow_get hb.2 id hlt]; exact hob)
        rw [List.getElem?_append_left (List.getElem?_eq_some_iff.1 he0).1, he0] at he1
        cases he1
        exact ⟨e0, he0, objRel_down r0 r1⟩
      · cases e <;> simp only [EndR] at he ⊢
        exact SV.rel_scalar _ _ hb.1 he
  · cases h
theorem insG_new (pc0 pc : PC) (v : SV) : ∀ (r : List (PC × SV)), ∃ g ∈ insG pc0 pc v r, g.2 = v ∧ (g.1 = pc ∨ g.1 = pc0)
  | [] => ⟨(pc, v), .head _, rfl, .inl rfl⟩
  | (q, u) :: r => by
    simp only [insG]
    cases hb : SV.beq v u
    · obtain ⟨g, hg, h⟩ := insG_new pc0 pc v r
      exact ⟨g, .tail _ hg, h⟩
    · exact ⟨(pc0, u), .head _, (SV.beq_eq hb).symm, .inr rfl⟩
theorem insG_old (pc0 pc : PC) (v : SV) : ∀ (r : List (PC × SV)), ∀ x ∈ r, ∃ g ∈ insG pc0 pc v r, g.2 = x.2 ∧ (g.1 = x.1 ∨ g.1 = pc0)
  | (q, u) :: r, x, hx => by
    simp only [insG]
    cases hb : SV.beq v u
    · cases hx with
      | head => exact ⟨(q, u), .head _, rfl, .inl rfl⟩
      | tail _ hx =>
        obtain ⟨g, hg, h⟩ := insG_old pc0 pc v r x hx
        exact ⟨g, .tail _ hg, h⟩
    · cases hx with
      | head => exact ⟨(pc0, u), .head _, rfl, .inr rfl⟩
      | tail _ hx => exact ⟨x, .tail _ hx, rfl, .inl rfl⟩
theorem grouped_ok (m0 : Mem) (pc0 : PC) : ∀ (l : List COut), ∀ o ∈ l, (∃ v, forgot m0 o = some v ∧ ∃ g ∈ (grouped m0 pc0 l).1, g.2 = v ∧ (g.1 = o.pc ∨ g.1 = pc0)) ∨ o ∈ (grouped m0 pc0 l).2
  | x :: l, o, h => by
    have ih := grouped_ok m0 pc0 l
    simp only [grouped]
    generalize hg : grouped m0 pc0 l = p at ih
    obtain ⟨gs, rs⟩ := p
    simp only at ih ⊢
    cases hf : forgot m0 x with
    | none =>
      cases h with
      | head => exact .inr (.head _)
      | tail _ h =>
        rcases ih o h with h | h
        · exact .inl h
        · exact .inr (.tail _ h)
    | some v =>
      cases h with
      | head => exact .inl ⟨v, hf, insG_new pc0 _ v gs⟩
      | tail _ h =>
        rcases ih o h with ⟨u, hu, g, hg, h1, h2⟩ | h
        · obtain ⟨g', hg', k1, k2⟩ := insG_old pc0 x.pc v gs g hg
          refine .inl ⟨u, hu, g', hg', k1.trans h1, ?_⟩
          rcases k2 with k2 | k2
          · rw [k2]; exact h2
          · exact .inr k2
        · exact .inr h
theorem mergeC_post {ρ : Env} {β : Bet} {lk : List Nat} {m0 : Mem} {pc0 : PC} {w w' : World} {l : List COut} {e : Ending} (hp : PcH ρ pc0) (hm0 : MemRel ρ β m0 w) (h : CPost ρ β lk w l e w') : CPost ρ β lk w (mergeC m0 pc0 l) e w' := by
  obtain ⟨o, ho, hpc, β', hs, hm, he⟩ := h
  unfold mergeC
  rcases grouped_ok m0 pc0 l o ho with ⟨v, hv, g, hg, h1, h2⟩ | hr
  · obtain ⟨hex, k1, k2, k3⟩ := forgot_ok hv hm0 hs hm he
    refine ⟨⟨g.1, m0, .ret g.2⟩, List.mem_append_left _ (List.mem_map_of_mem (f := fun g => (⟨g.1, m0, .ret g.2⟩ : COut)) hg), ?_, β, k1, k2, by rw [h1]; exact k3⟩
    rcases h2 with h2 | h2
    · rw [h2]; exact hpc
    · rw [h2]; exact hp
  · exact ⟨o, List.mem_append_right _ hr, hpc, β', hs, hm, he⟩
theorem mergeC_stuck {ρ : Env} {m0 : Mem} {pc0 : PC} {l : List COut} (h : NoStuckC ρ (mergeC m0 pc0 l)) : NoStuckC ρ l := fun o ho k hk hpc => by
  rcases grouped_ok m0 pc0 l o ho with ⟨v, hv, _⟩ | hr
  · unfold forgot at hv; rw [hk] at hv; cases hv
  · exact h o (by unfold mergeC; exact List.mem_append_right _ hr) k hk hpc

theorem joinAll_post {ρ : Env} {β : Bet} {lk : List Nat} {m0 : Mem} {pc0 : PC} {w w' : World} {l : List COut} {e : Ending} (hp : PcH ρ pc0) (hm0 : MemRel ρ β m0 w) (h : CPost ρ β lk w l e w') : CPost ρ β lk w (joinAll m0 pc0 l) e w' := by
  unfold joinAll
  split
  · rename_i v t fs hj
    rw [hm0.nx] at hj
    obtain ⟨o, ho, hpc, β', hs, hm, he⟩ := h
    obtain ⟨γ, rfl, hγ⟩ := hs.ext
    obtain ⟨i1, i2, i3, i4⟩ := joinC_ok (ρ := ρ) (γ := γ) (w := w') hj
    obtain ⟨u, hu⟩ := i1 o ho
    rw [hu] at he
    cases e <;> simp only [EndR] at he
    obtain ⟨k1, k2⟩ := i4 o ho hpc u _ hu he hm.obj
    refine ⟨_, .head _, hp, β, ⟨⟨[], by simp, by simp⟩, hs.os, hs.tape, hs.output, hs.size, hs.keep, hs.lock⟩, ⟨hm0.nx, k2, fun e he => Nat.lt_of_lt_of_le (hm0.lt e he) hs.size, hm0.apart, fun id hid => ?_⟩, k1⟩
    cases hg : t.get id with
    | none => rfl
    | some ob => have := i3 id ob hg; have := hm0.nx; simp only at hid; omega
  · exact h
theorem joinAll_stuck {ρ : Env} {m0 : Mem} {pc0 : PC} {l : List COut} (hlen : ∀ v t fs, joinC m0.nx pc0 l = some (v, t, fs) → ∀ o ∈ l, ∃ u, o.ex = .ret u) (h : NoStuckC ρ (joinAll m0 pc0 l)) : NoStuckC ρ l := by
  unfold joinAll at h
  split at h
  · rename_i v t fs hj
    intro o ho k hk _
    obtain ⟨u, hu⟩ := hlen v t fs hj o ho
    rw [hk] at hu; cases hu
  · exact h
theorem joinC_rets {N : Nat} {pc0 : PC} : ∀ {l : List COut} {v : SV} {t : Tr SObj} {fs : List PC}, joinC N pc0 l = some (v, t, fs) → ∀ o ∈ l, ∃ u, o.ex = .ret u
  | [], _, _, _, h => by simp [joinC] at h
  | [o], v, t, fs, h => by
    simp only [joinC] at h
    split at h
    · rename_i hex _; intro x hx; simp at hx; subst hx; exact ⟨_, hex⟩
    · cases h
  | o :: o' :: os, v, t, fs, h => by
    simp only [joinC] at h
    split at h
    · rename_i hex hj
      intro x hx
      cases hx with
      | head => exact ⟨_, hex⟩
      | tail _ hx => exact joinC_rets hj x hx
    · cases h
theorem truncO_post {ρ : Env} {β β' : Bet} {lk : List Nat} {m0 : Mem} {w w' : World} {o : COut} {e : Ending} (hm0 : MemRel ρ β m0 w) (hpc : PcH ρ o.pc) (hs : Stp β lk w β' w') (hm : MemRel ρ β' o.mem w') (he : EndR ρ β' o.ex e) :
    PcH ρ (truncO m0 o).pc ∧ ∃ β₁, Stp β lk w β₁ w' ∧ MemRel ρ β₁ (truncO m0 o).mem w' ∧ EndR ρ β₁ (truncO m0 o).ex e := by
  unfold truncO
  split
  · rename_i v t fs hj
    refine ⟨hpc, ?_⟩
    rw [hm0.nx] at hj
    obtain ⟨γ, rfl, hγ⟩ := hs.ext
    obtain ⟨i1, i2, i3, i4⟩ := joinC_ok (ρ := ρ) (γ := γ) (w := w') hj
    obtain ⟨u, hu⟩ := i1 o (.head _)
    rw [hu] at he
    cases e <;> simp only [EndR] at he
    obtain ⟨k1, k2⟩ := i4 o (.head _) hpc u _ hu he hm.obj
    refine ⟨β, ⟨⟨[], by simp, by simp⟩, hs.os, hs.tape, hs.output, hs.size, hs.keep, hs.lock⟩, ⟨hm0.nx, k2, fun e he => Nat.lt_of_lt_of_le (hm0.lt e he) hs.size, hm0.apart, fun id hid => ?_⟩, k1⟩
    cases hg : t.get id with
    | none => rfl
    | some ob => have := i3 id ob hg; have := hm0.nx; simp only at hid; omega
  · exact ⟨hpc, β', hs, hm, he⟩
theorem truncO_stuck {m0 : Mem} {o : COut} {k : Nat} (h : o.ex = .stuck k) : truncO m0 o = o := by
  unfold truncO
  split
  · rename_i v t fs hj
    obtain ⟨u, hu⟩ := joinC_rets hj o (.head _)
    rw [hu] at h; cases h
  · rfl
theorem joined0_stuck {C : Cfg} {id : Nat} {lk : List Nat} {ρ : Env} {m0 : Mem} {pc0 : PC} {l : List COut} (h : NoStuckC ρ (joined0 C id lk m0 pc0 l)) : NoStuckC ρ l := by
  unfold joined0 at h
  revert h
  cases C.jn id
  · cases C.mrg id
    · exact fun h => h
    · exact fun h => mergeC_stuck h
  · exact fun h => joinRets_stuck h
theorem joined0_post {C : Cfg} {id : Nat} {ρ : Env} {β : Bet} {lk : List Nat} {m0 : Mem} {pc0 : PC} {w w' : World} {l : List COut} {e : Ending} (hn : NoStuckC ρ (joined0 C id lk m0 pc0 l)) (hp : PcH ρ pc0) (hm0 : MemRel ρ β m0 w) (h : CPost ρ β lk w l e w') : CPost ρ β lk w (joined0 C id lk m0 pc0 l) e w' := by
  unfold joined0 at hn ⊢
  revert hn
  cases C.jn id
  · cases C.mrg id
    · exact fun _ => h
    · exact fun _ => mergeC_post hp hm0 h
  · exact fun hn => joinRets_post hn hp hm0 h
theorem forgotN {ρ : Env} {pc0 : PC} {l : List COut} (h : NoStuckC ρ (l.map (forgetO pc0))) : NoStuckC ρ l := fun o ho k hk hp => by
  have hf : forgetO pc0 o = o := by unfold forgetO; rw [hk]
  exact h (forgetO pc0 o) (List.mem_map_of_mem ho) k (by rw [hf]; exact hk) (by rw [hf]; exact hp)
theorem joined1_post {C : Cfg} {id : Nat} {ρ : Env} {β : Bet} {lk : List Nat} {m0 : Mem} {pc0 : PC} {w w' : World} {l : List COut} {e : Ending} (hn : NoStuckC ρ (joined1 C id lk m0 pc0 l)) (hp : PcH ρ pc0) (hm0 : MemRel ρ β m0 w) (h : CPost ρ β lk w l e w') : CPost ρ β lk w (joined1 C id lk m0 pc0 l) e w' := by
  unfold joined1 at hn ⊢
  revert hn
  cases C.mrg (id + 200000)
  · exact fun hn => joined0_post hn hp hm0 h
  · intro hn
    obtain ⟨o, ho, hpc, β', hs, hm, he⟩ := joined0_post (forgotN hn) hp hm0 h
    refine ⟨forgetO pc0 o, List.mem_map_of_mem ho, ?_, β', hs, ?_, ?_⟩
    · unfold forgetO; split
      · exact hp
      · exact hpc
    · unfold forgetO; split <;> exact hm
    · unfold forgetO
      split
      · rename_i v hv; rw [hv] at he; exact he
      · exact he
theorem joined1_stuck {C : Cfg} {id : Nat} {lk : List Nat} {ρ : Env} {m0 : Mem} {pc0 : PC} {l : List COut} (h : NoStuckC ρ (joined1 C id lk m0 pc0 l)) : NoStuckC ρ l := by
  unfold joined1 at h
  revert h
  cases C.mrg (id + 200000)
  · exact fun h => joined0_stuck h
  · exact fun h => joined0_stuck (forgotN h)
theorem canonC_ex {o : COut} {k : Nat} : (canonC o).ex = .stuck k ↔ o.ex = .stuck k := by
  unfold canonC
  cases o.ex <;> simp
theorem joined_stuck {C : Cfg} {id : Nat} {lk : List Nat} {ρ : Env} {m0 : Mem} {pc0 : PC} {l : List COut} (h : NoStuckC ρ (joined C id lk m0 pc0 l)) : NoStuckC ρ l := by
  unfold joined at h
  revert h
  cases C.mrg 900000
  · exact fun h => joined1_stuck h
  · exact fun h => joined1_stuck (fun o ho k hk hp => h (canonC o) (List.mem_map_of_mem ho) k (canonC_ex.2 hk) (compPc_iff.2 (canonPc_iff.2 hp)))
theorem joined_post {C : Cfg} {id : Nat} {ρ : Env} {β : Bet} {lk : List Nat} {m0 : Mem} {pc0 : PC} {w w' : World} {l : List COut} {e : Ending} (hn : NoStuckC ρ (joined C id lk m0 pc0 l)) (hp : PcH ρ pc0) (hm0 : MemRel ρ β m0 w) (h : CPost ρ β lk w l e w') : CPost ρ β lk w (joined C id lk m0 pc0 l) e w' := by
  unfold joined at hn ⊢
  revert hn
  cases C.mrg 900000
  · exact fun hn => joined1_post hn hp hm0 h
  · intro hn
    obtain ⟨o, ho, hpc, β', hs, hm, he⟩ := joined1_post (fun o ho k hk hp => hn (canonC o) (List.mem_map_of_mem ho) k (canonC_ex.2 hk) (compPc_iff.2 (canonPc_iff.2 hp))) hp hm0 h
    refine ⟨canonC o, List.mem_map_of_mem ho, compPc_iff.2 (canonPc_iff.2 hpc), β', hs, hm, ?_⟩
    unfold canonC
    cases hx : o.ex with
    | ret v =>
      rw [hx] at he
      simp only
      cases e <;> simp only [EndR] at he ⊢
      exact canonV_rel hpc he
    | panic v => rw [hx] at he; exact he
    | stuck k => rw [hx] at he; exact he
end Go.SX

namespace Go.SX
open Go
variable {D : List Deferred}

def asB : Value → Option Bool
  | .bool b => some b
  | _ => none
theorem wantX_yes {ρ : Env} {β : Bet} {nt : Nat} {st : St} {a : Act} {all : List Oper} {o : Oper} (hp : PcH ρ st.pc) (ha : ActR ρ β nt D st a) :
    (wantX all st o = .yes → Region.wanted o (yielded all.toArray a.tmps) = true) ∧ (wantX all st o = .no → Region.wanted o (yielded all.toArray a.tmps) = false) := by
  unfold wantX Region.wanted
  cases hg : o.guard with
  | none => exact ⟨fun _ => rfl, fun h => by cases h⟩
  | some g =>
    obtain ⟨j, want⟩ := g
    simp only
    cases hj : all[j]? with
    | none =>
      simp only
      refine ⟨fun h => (by cases h), fun _ => ?_⟩
      simp [yielded, hj]
    | some oj =>
      simp only
      cases hd : oj.dst with
      | none =>
        simp only
        refine ⟨fun h => (by cases h), fun _ => ?_⟩
        simp [yielded, hj, hd]
      | some d =>
        simp only
        cases hs : st.tm.get d with
        | none => exact ⟨fun h => (by cases h), fun h => (by cases h)⟩
        | some s =>
          obtain ⟨v, hv, r⟩ := ha.tm.get d s hs
          have hy : yielded all.toArray a.tmps j = asB v := by
            unfold yielded
            simp only [List.getElem?_toArray, hj, hd, Option.bind_some, hv]
            cases v <;> rfl
          cases s <;> (try simp only) <;> try (exact ⟨fun h => (by cases h), fun h => (by cases h)⟩)
          case bool b =>
            rw [show v = .bool (b.ev ρ) from r] at hy
            rw [hy, asB]
            have hsb := simpB_ev hp b
            split
            · rename_i u hu
              rw [hu] at hsb
              rw [← hsb]
              simp only [B.ev]
              cases hq : (u == want)
              · refine ⟨fun h => (by simp at h), fun _ => ?_⟩
                simpa using hq
              · refine ⟨fun _ => ?_, fun h => (by simp at h)⟩
                simpa using hq
            · exact ⟨fun h => (by cases h), fun h => (by cases h)⟩
          case tup vs =>
            cases vs with
            | nil =>
              simp only
              obtain ⟨l, hl, rfl⟩ := r
              refine ⟨fun h => (by cases h), fun _ => ?_⟩
              rw [hy]; rfl
            | cons x xs => exact ⟨fun h => (by cases h), fun h => (by cases h)⟩
theorem undefX_rel (ρ : Env) (β : Bet) : undefX.rel ρ β undef := ⟨[], rfl, rfl⟩

theorem callee_ok {C : Cfg} {ρ : Env} {β : Bet} {tm : Tr SV} {a : Act} (ht : TmRel ρ β tm a) {o : Oper} {id : Nat} {args : List SV} (h : calleeX tm o.op = some (id, args)) :
    ∃ vs, relL ρ β args vs ∧ ∀ (fn : Func) (body : Code) (w : World), C.P.funcs[id]? = some fn → (fn.name == "runtime.NumGoroutine") = false → fn.body = some body →
      (execOp a.eval o).run C.P w = .ok (.enter id vs.toArray) w := by
  obtain ⟨dst, op, type, pos, after, guard⟩ := o
  simp only [calleeX] at h
  split at h
  · rename_i c
    split at h
    · rename_i f hc
      split at h
      · rename_i id' caps as hf has
        cases h
        obtain ⟨l, hl, hv⟩ := evX_ok ht hf
        have h2 := evXL_ok ht has
        refine ⟨_, relL_append h2 hl, fun fn body w h1 hn hb => ?_⟩
        have h1' : fn.name ≠ "runtime.NumGoroutine" := by simpa using hn
        have harr : (c.args.map a.eval) = (c.args.toList.map a.eval).toArray := by rw [← Array.toList_inj]; simp
        simp [execOp, resolve, hc, hv, Deferred.ofValue, invoke, callFunc, h1, h1', hb, harr]
      · cases h
    · cases h
  · cases h

theorem callee_run {C : Cfg} {ρ : Env} {β : Bet} {tm : Tr SV} {a : Act} (ht : TmRel ρ β tm a) {o : Oper} {id : Nat} {args : List SV} (h : calleeX tm o.op = some (id, args)) :
    ∃ vs, relL ρ β args vs ∧ ∀ w : World, (execOp a.eval o).run C.P w = (callFunc id vs.toArray).run C.P w := by
  obtain ⟨dst, op, type, pos, after, guard⟩ := o
  simp only [calleeX] at h
  split at h
  · rename_i c
    split at h
    · rename_i f hc
      split at h
      · rename_i id' caps as hf has
        cases h
        obtain ⟨l, hl, hv⟩ := evX_ok ht hf
        have h2 := evXL_ok ht has
        refine ⟨_, relL_append h2 hl, fun w => ?_⟩
        have harr : (c.args.map a.eval) = (c.args.toList.map a.eval).toArray := by rw [← Array.toList_inj]; simp
        simp [execOp, resolve, hc, hv, Deferred.ofValue, invoke, harr]
      · cases h
    · cases h
  · cases h
theorem initTm_get : ∀ (ss : List SV) (i : Nat) (t : Tr SV) (k : Nat), (initTm ss i t).get k = if i ≤ k ∧ k < i + ss.length then ss[k - i]? else t.get k
  | [], i, t, k => by simp only [initTm, List.length_nil]; rw [if_neg (by omega)]
  | s :: ss, i, t, k => by
    simp only [initTm, initTm_get ss (i + 1), Tr.get_put, List.length_cons]
    by_cases e : k = i
    · subst e
      rw [if_neg (by omega), if_pos rfl, if_pos (by omega)]
      simp
    · by_cases c : i + 1 ≤ k ∧ k < i + 1 + ss.length
      · rw [if_pos c, if_pos (by omega), show k - i = (k - (i + 1)) + 1 by omega]
        simp
      · rw [if_neg c, if_neg e, if_neg (by omega)]
theorem init_act {ρ : Env} {β : Bet} {args : List SV} {vs : List Value} (h : relL ρ β args vs) (mem : Mem) (pc : PC) (n : Nat) {id : Nat} :
    ActR ρ β (args.length + (n - args.length)) [] ⟨initTm args 0 .nil, mem, pc, id⟩ { tmps := vs.toArray ++ Array.replicate (n - vs.toArray.size) undef, defers := [] } := by
  have hl := relL_length h
  refine ⟨⟨fun t s hs => ?_⟩, by simp [hl], rfl⟩
  simp only [initTm_get] at hs
  split at hs
  · rename_i c
    obtain ⟨v, hv, r⟩ := relL_get h hs
    refine ⟨v, ?_, r⟩
    simp only [Nat.sub_zero] at hv
    have : t < vs.length := by omega
    rw [Array.getElem?_append_left (by simpa using this)]
    simpa using hv
  · simp [Tr.get] at hs
def resF (a : Act) : ResultVar → Sem Value
  | .tmp t => pure (a.tmps.getD t undef)
  | .cell x t => do loadVar t (← asAddr (a.tmps.getD x undef))
theorem run_resultsL {C : Cfg} (hC : C.Types) {ρ : Env} {β : Bet} {nt : Nat} {st : St} {a : Act} {w : World} (hp : PcH ρ st.pc) (ha : ActR ρ β nt D st a) (hm : MemRel ρ β st.mem w) :
    ∀ {rs : List ResultVar} {l : List SV}, resX C st rs = some l → ∃ vs, relL ρ β l vs ∧ (rs.mapM (resF a)).run C.P w = .ok vs w
  | [], l, h => by cases h; exact ⟨[], rfl, rfl⟩
  | .tmp t :: rs, l, h => by
    simp only [resX] at h
    split at h
    · rename_i s ss h1 h2
      cases h
      obtain ⟨vs, r1, r2⟩ := run_resultsL hC hp ha hm h2
      obtain ⟨v, hv, r⟩ := ha.tm.get t s h1
      refine ⟨v :: vs, ⟨v, vs, rfl, r, r1⟩, ?_⟩
      simp [List.mapM_cons, r2, hv, resF]
    · cases h
  | .cell x t :: rs, l, h => by
    simp only [resX] at h
    split at h
    · rename_i p hpx
      split at h
      · rename_i s ss h1 h2
        cases h
        obtain ⟨vs, r1, r2⟩ := run_resultsL hC hp ha hm h2
        obtain ⟨v, hv, r⟩ := ha.tm.get x p hpx
        obtain ⟨u, ru, hrun⟩ := xLoad_ok hC hp hm.o r h1
        refine ⟨u :: vs, ⟨u, vs, rfl, ru, r1⟩, ?_⟩
        have h3 := hrun w (Same.refl _ _ _)
        have hptr : ∃ ad, v = .pointer (some ad) := by
          unfold xLoad at h1
          split at h1
          · obtain ⟨e, _, _, _, rfl⟩ := r; exact ⟨_, rfl⟩
          · cases h1
        obtain ⟨ad, rfl⟩ := hptr
        have h4 : (loadVar t ad).run C.P w = .ok u w := by simpa [Instr.loadAt, Instr.sureAddr] using h3
        simp [List.mapM_cons, r2, hv, resF, asAddr, h4]
      · cases h
    · cases h
theorem run_results {C : Cfg} (hC : C.Types) {ρ : Env} {β : Bet} {nt : Nat} {st : St} {a : Act} {w : World} (hp : PcH ρ st.pc) (ha : ActR ρ β nt D st a) (hm : MemRel ρ β st.mem w) {fn : Func} {l : List SV}
    (h : resX C st fn.results.toList = some l) : ∃ v, (results fn a.tmps).run C.P w = .ok v w ∧ (oneX l).rel ρ β v := by
  obtain ⟨vs, r1, r2⟩ := run_resultsL hC hp ha hm h
  refine ⟨if h : vs.toArray.size = 1 then vs.toArray[0] else .tuple vs.toArray, ?_, ?_⟩
  · have : results fn a.tmps = (do let vs ← fn.results.mapM (resF a); pure (if h : vs.size = 1 then vs[0] else .tuple vs)) := rfl
    rw [this, Array.mapM_eq_mapM_toList]
    simp only [Sem.run_bind, Sem.run_map, r2, Result.andThen_ok, Sem.run_pure]
  · match l, r1 with
    | [], r1 => rw [show vs = [] from r1]; exact ⟨[], rfl, rfl⟩
    | [s], r1 => obtain ⟨u, rfl, r⟩ := relL_single r1; exact r
    | s :: t :: l, r1 =>
      have hl := relL_length r1
      have : ¬ vs.toArray.size = 1 := by simp at hl ⊢; omega
      rw [dif_neg this]
      exact ⟨vs, r1, rfl⟩

/-! monotony -/
theorem opwp_mono {P : Program} {o : Oper} {a : Act} {w : World} {K K' : Act → World → Prop} {Q Q' : Exit → Act → World → Prop} (hk : ∀ a w, K a w → K' a w) (hq : ∀ e a w, Q e a w → Q' e a w)
    (h : o.wp P a w K Q ∨ (o.asks P a w ∧ LetsOut Q)) : o.wp P a w K' Q' ∨ (o.asks P a w ∧ LetsOut Q') := by
  rcases h with h | ⟨h1, a0, w0, h2⟩
  · left
    unfold Oper.wp at *
    generalize (execOp a.eval o).run P w = r at *
    cases r with
    | ok x w' =>
      cases x <;> simp only [Oper.upon] at h ⊢ <;> first
        | exact h
        | exact hk _ _ h
        | (refine Calls.mono h fun e w'' he => ?_
           cases e with
           | returned v => exact hk _ _ he
           | panicked c => exact hq _ _ _ he
           | outgrown => obtain ⟨a0, w0, h0⟩ := he; exact ⟨a0, w0, hq _ _ _ h0⟩)
        | (exact Rows.mono h fun v w'' he => hk _ _ he)
    | halt x w' => cases x <;> simp only [Oper.upon] at h ⊢ <;> first | exact h | exact hq _ _ _ h
  · exact .inr ⟨h1, a0, w0, hq _ _ _ h2⟩
/-- what is shown of one operation of a region -/
def OpT (P : Program) (ops : Array Oper) (o : Oper) (K : Act → World → Prop) (Q : Exit → Act → World → Prop) (a : Act) (w : World) : Prop :=
  (Region.wanted o (yielded ops a.tmps) = true → o.wp P a w K Q ∨ (o.asks P a w ∧ LetsOut Q)) ∧ (Region.wanted o (yielded ops a.tmps) = false → K (a.put o.dst undef) w)
theorem OpT.mono {P : Program} {ops : Array Oper} {o : Oper} {a : Act} {w : World} {K K' : Act → World → Prop} {Q Q' : Exit → Act → World → Prop} (hk : ∀ a w, K a w → K' a w) (hq : ∀ e a w, Q e a w → Q' e a w)
    (h : OpT P ops o K Q a w) : OpT P ops o K' Q' a w := ⟨fun hw => opwp_mono hk hq (h.1 hw), fun hw => hk _ _ (h.2 hw)⟩
theorem OpT.list {P : Program} {ops : Array Oper} {o : Oper} {rest : List Oper} {a : Act} {w : World} {Q : Exit → Act → World → Prop} :
    OpT P ops o (wpList P ops Q rest) Q a w ↔ wpList P ops Q (o :: rest) a w := by
  simp only [wpList, OpT]
  cases hw : Region.wanted o (yielded ops a.tmps) <;> simp
theorem OpT.op {P : Program} {ops : Array Oper} {i : Nat} {o : Oper} (ho : ops[i]? = some o) {K : Act → World → Prop} {a : Act} {w : World} {Q : Exit → Act → World → Prop} :
    OpT P ops o K Q a w ↔ wpOp P ops Q i K a w := by
  simp only [wpOp, ho, OpT]
  cases hw : Region.wanted o (yielded ops a.tmps) <;> simp
theorem wpList_mono {P : Program} {ops : Array Oper} {Q Q' : Exit → Act → World → Prop} (hq : ∀ e a w, Q e a w → Q' e a w) : ∀ {rest : List Oper} {a : Act} {w : World}, wpList P ops Q rest a w → wpList P ops Q' rest a w := by
  intro rest
  induction rest with
  | nil => intro a w h; exact hq _ _ _ h
  | cons o rest ih => intro a w h; exact OpT.list.1 ((OpT.list.2 h).mono (fun _ _ => ih) hq)
theorem rounds_mono {P : Program} {c : Code} {Q Q' : Exit → Act → World → Prop} (hq : ∀ e a w, Q e a w → Q' e a w) : ∀ {n : Nat} {a : Act} {w : World}, Code.rounds P c Q n a w → Code.rounds P c Q' n a w
  | 0, _, _, h => h
  | n + 1, a, w, h => Code.wp_mono (fun e a' w' he => by
      cases e <;> first
        | exact rounds_mono hq he
        | exact hq _ _ _ he) h
theorem wpAnyH_mono {P : Program} {md : Region.Mode} {ops : Array Oper} {Q Q' : Exit → Act → World → Prop} {S S' : World → Prop} (hq : ∀ e a w, Q e a w → Q' e a w) (hS : ∀ w, S w → S' w) :
    ∀ {k : Nat} {l : Array Bool} {a : Act} {w : World}, wpAnyH P md ops Q S k l a w → wpAnyH P md ops Q' S' k l a w := by
  intro k
  induction k with
  | zero => intro l a w h; exact ⟨h.1, hq _ _ _ h.2⟩
  | succ k ih =>
    intro l a w h
    refine ⟨fun hr => hq _ _ _ (h.1 hr), fun i hi => ?_⟩
    have h1 := h.2 i hi
    cases ho : ops[i]? with
    | none => simp only [wpOp, ho] at h1 ⊢; exact ⟨hS _ h1.1, ih h1.2⟩
    | some o => exact (OpT.op ho).1 (((OpT.op ho).2 h1).mono (fun _ _ hk => ⟨hS _ hk.1, ih hk.2⟩) hq)

/-! regions that draw their order -/
theorem binds_any (e : Edge) : Region.binds .any e = bindsA e := by
  unfold Region.binds bindsA; cases e.ground <;> rfl
theorem edgesIn_eq (listed : List Bool) : ∀ es : List Edge, edgesIn listed es = es.all fun e => !Region.binds .any e || listed.toArray.getD e.on false
  | [] => rfl
  | e :: es => by
    simp only [edgesIn, List.all_cons, edgesIn_eq listed es, binds_any]
    cases bindsA e <;> simp
theorem readyGo_eq (all : List Oper) (listed : List Bool) : ∀ (os : List Oper) (i : Nat), (∀ j, os[j]? = all[i + j]?) →
    readyGo listed os i = (List.range' i os.length).filter fun i => !listed.toArray.getD i true && ((all.toArray[i]?).map (·.after.all fun e => !Region.binds .any e || listed.toArray.getD e.on false)).getD false
  | [], i, _ => by simp [readyGo]
  | o :: os, i, h => by
    have h0 : all[i]? = some o := by have := h 0; simpa using this.symm
    have hs : ∀ j, os[j]? = all[i + 1 + j]? := fun j => by have := h (j + 1); rw [show i + 1 + j = i + (j + 1) by omega]; simpa using this
    simp only [readyGo, List.length_cons, List.range'_succ, List.filter_cons, readyGo_eq all listed os (i + 1) hs]
    have hc : (!(listed.getD i true) && edgesIn listed o.after.toList) = (!listed.toArray.getD i true && ((all.toArray[i]?).map (·.after.all fun e => !Region.binds .any e || listed.toArray.getD e.on false)).getD false) := by
      simp only [List.getElem?_toArray, h0, Option.map_some, Option.getD_some, edgesIn_eq]
      simp
    rw [hc]
    generalize (!listed.toArray.getD i true && ((all.toArray[i]?).map (·.after.all fun e => !Region.binds .any e || listed.toArray.getD e.on false)).getD false) = c
    cases c <;> rfl
theorem readyL_eq (all : List Oper) (listed : List Bool) : readyL all listed = Region.ready .any all.toArray listed.toArray := by
  unfold readyL Region.ready
  rw [readyGo_eq all listed all 0 (fun j => by simp), List.range_eq_range']
  simp
theorem noSelL_mem (all : List Oper) (h : noSelL all = true) (o : Oper) (ho : o ∈ all) : notSel o.op = true := by
  induction all with
  | nil => cases ho
  | cons x os ih =>
    rw [noSelL, Bool.and_eq_true] at h
    rcases List.mem_cons.1 ho with e | e
    · rw [e]; exact h.1
    · exact ih h.2 e
theorem noSelL_ok {all : List Oper} (h : noSelL all = true) : Region.noSelect all.toArray = true := by
  unfold Region.noSelect
  rw [Array.all_eq_true_iff_forall_mem]
  intro o ho
  have := noSelL_mem all h o (by simpa using ho)
  cases hop : o.op <;> simp [hop, notSel] at this ⊢
theorem freeGo_ok (all : List Oper) (listed : List Bool) (i : Nat) (oi : Oper) : ∀ (os : List Oper) (j : Nat), (∀ k, os[k]? = all[j + k]?) → freeGo all listed i oi os j = true →
    ∀ k, j ≤ k → k < j + os.length → (k == i || listed.toArray.getD k true || match all.toArray[k]? with | some oj => oj.after.any (fun e => Region.binds .any e && e.on == i) || oi.apart all.toArray oj | none => true) = true
  | [], j, _, _, k, h1, h2 => by simp at h2; omega
  | o :: os, j, h, hf, k, h1, h2 => by
    have h0 : all[j]? = some o := by have := h 0; simpa using this.symm
    have hs : ∀ k, os[k]? = all[j + 1 + k]? := fun k => by have := h (k + 1); rw [show j + 1 + k = j + (k + 1) by omega]; simpa using this
    simp only [freeGo, Bool.and_eq_true] at hf
    by_cases e : k = j
    · subst e
      have := hf.1
      simp only [List.getElem?_toArray, h0, binds_any]
      simp only [Bool.or_eq_true] at this ⊢
      rcases this with ((h3 | h3) | h3) | h3
      · left; left; simpa using h3
      · left; right; simpa using h3
      · right; left
        rw [← Array.any_toList]
        simpa using h3
      · right; right; exact h3
    · exact freeGo_ok all listed i oi os (j + 1) hs hf.2 k (by omega) (by simp at h2; omega)
theorem free_ok {all : List Oper} {listed : List Bool} {i : Nat} {oi : Oper} (hi : all[i]? = some oi) (h : freeGo all listed i oi all 0 = true) : Region.free .any all.toArray listed.toArray i = true := by
  unfold Region.free
  simp only [List.getElem?_toArray, hi, List.all_eq_true, List.mem_range]
  intro k hk
  have := freeGo_ok all listed i oi all 0 (fun k => by simp) h k (by omega) (by simpa using hk)
  have hlt : k < all.length := by simpa using hk
  have hk' : all[k]? = some all[k] := List.getElem?_eq_getElem hlt
  simp only [List.getElem?_toArray, hk'] at this ⊢
  exact this
theorem setT_eq : ∀ (l : List Bool) (i : Nat), (setT l i).toArray = l.toArray.setIfInBounds i true
  | [], i => by simp [setT]
  | b :: l, 0 => by simp [setT]
  | b :: l, i + 1 => by
    have := setT_eq l i
    rw [← Array.toList_inj] at this ⊢
    simp only [Array.toList_setIfInBounds] at this ⊢
    simp only [setT, List.set_cons_succ, this]
theorem restrictTo_get (m : Mem) : ∀ (K : List Nat) (t : Tr SObj) (id : Nat) (o : SObj), (restrictTo m K t).get id = some o → (id ∈ K ∧ m.tr.get id = some o) ∨ t.get id = some o
  | [], t, id, o, h => .inr h
  | k :: K, t, id, o, h => by
    simp only [restrictTo] at h
    split at h
    · rename_i o' ho'
      rcases restrictTo_get m K _ id o h with ⟨h1, h2⟩ | h1
      · exact .inl ⟨.tail _ h1, h2⟩
      · rw [Tr.get_put] at h1
        by_cases e : id = k
        · rw [if_pos e] at h1; cases h1; subst e; exact .inl ⟨.head _, ho'⟩
        · rw [if_neg e] at h1; exact .inr h1
    · rcases restrictTo_get m K _ id o h with ⟨h1, h2⟩ | h1
      · exact .inl ⟨.tail _ h1, h2⟩
      · exact .inr h1
theorem only_get {m : Mem} {K : List Nat} {id : Nat} {o : SObj} (h : (m.only K).tr.get id = some o) : id ∈ K ∧ m.tr.get id = some o := by
  rcases restrictTo_get m K .nil id o h with h | h
  · exact h
  · simp [Tr.get] at h
theorem MemO.only {ρ : Env} {β : Bet} {m : Mem} {w : World} (h : MemO ρ β m w) (K : List Nat) : MemO ρ β (m.only K) w :=
  ⟨fun id o ho => h.obj id o (only_get ho).2, h.apart⟩
/-- the blocks of K are as they were -/
def SW (β : Bet) (w : World) (K : List Nat) (w' : World) : Prop := ∀ id ∈ K, ∀ e, β[id]? = some e → w'.heap[e.blk]? = w.heap[e.blk]?
theorem SW.refl (β : Bet) (w : World) (K : List Nat) : SW β w K w := fun _ _ _ _ => rfl
theorem SW.same {β : Bet} {w w' : World} {K : List Nat} (h : SW β w K w') (m : Mem) : Same β (m.only K) w w' := fun id _ e ho he => h id (only_get ho).1 e he
theorem SW.back {β β' : Bet} {lk : List Nat} {w w' w'' : World} {K : List Nat} (hs : Stp β lk w β' w') (hK : ∀ id ∈ K, id ∈ lk) (h : SW β' w' K w'') : SW β w K w'' := fun id hid e he => by
  obtain ⟨γ, rfl, _⟩ := hs.ext
  rw [h id hid e (by rw [List.getElem?_append_left (List.getElem?_eq_some_iff.1 he).1]; exact he), hs.lock id (hK id hid) e he]
theorem SW.of_stp {β β' : Bet} {lk : List Nat} {w w' : World} {K : List Nat} (hs : Stp β lk w β' w') (hK : ∀ id ∈ K, id ∈ lk) : SW β w K w' := fun id hid e he => hs.lock id (hK id hid) e he

/-! the great theorem -/
def taskWp (P : Program) (_n : Nat) (β : Bet) (Q : Exit → Act → World → Prop) (t : Task) (a : Act) (w : World) : Prop := match t with
  | .code c => c.wp P Q a w
  | .ops all rest => wpList P all.toArray Q rest a w
  | .drw all listed k K => wpAnyH P .any all.toArray Q (SW β w K) k listed.toArray a w
  | .one all i => ∀ Q', (∀ e a' w', e ≠ .normal → Q e a' w' → Q' e a' w') → wpOp P all.toArray Q' i (fun a' w' => Q .normal a' w') a w
def taskOk (lk : List Nat) : Task → Prop
  | .drw _ _ _ K => ∀ id ∈ K, id ∈ lk
  | _ => True
theorem taskWp_mono {P : Program} {n : Nat} {β : Bet} {Q Q' : Exit → Act → World → Prop} (hq : ∀ e a w, Q e a w → Q' e a w) {t : Task} {a : Act} {w : World} (h : taskWp P n β Q t a w) : taskWp P n β Q' t a w := by
  cases t with
  | code c => exact Code.wp_mono hq h
  | ops all rest => exact wpList_mono hq h
  | drw all listed k K => exact wpAnyH_mono hq (fun _ h => h) h
  | one all i =>
    simp only [taskWp] at h ⊢
    intro Q'' hQ''
    have h := h Q'' fun e a' w' he hx => hQ'' e a' w' he (hq e a' w' hx)
    cases ho : all.toArray[i]? with
    | none => simp only [wpOp, ho] at h ⊢; exact hq _ _ _ h
    | some o => exact (OpT.op ho).1 (((OpT.op ho).2 h).mono (fun _ _ hk => hq _ _ _ hk) (fun _ _ _ h => h))
end Go.SX
