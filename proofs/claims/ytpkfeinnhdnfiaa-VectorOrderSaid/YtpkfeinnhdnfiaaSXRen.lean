/- SX, part 9g: new blocks by new names; ends of one form made one. -/
import Derived.Test.YtpkfeinnhdnfiaaSXPre
namespace Go.SX
open Go

def posOf (id : Nat) : List Nat → Nat → Option Nat
  | [], _ => none
  | x :: l, k => bif Nat.beq x id then some k else posOf id l (k + 1)
theorem posOf_ok {id j : Nat} : ∀ {l : List Nat} {k : Nat}, posOf id l k = some j → k ≤ j ∧ l[j - k]? = some id
  | [], _, h => by cases h
  | x :: l, k, h => by
    simp only [posOf] at h
    cases hb : Nat.beq x id
    · rw [hb] at h
      obtain ⟨h1, h2⟩ := posOf_ok h
      refine ⟨by omega, ?_⟩
      rw [show j - k = (j - (k + 1)) + 1 by omega]
      simpa using h2
    · rw [hb] at h
      cases h
      have := Nat.eq_of_beq_eq_true hb
      subst this
      simp
def ren (n0 : Nat) (L : List Nat) (id : Nat) : Option Nat := bif Nat.blt id n0 then some id else posOf id L n0
mutual
def renV (n0 : Nat) (L : List Nat) : SV → Option SV
  | .ptr i a o => (match ren n0 L i with | some j => some (.ptr j a o) | none => none)
  | .slice i a o l c => (match ren n0 L i with | some j => some (.slice j a o l c) | none => none)
  | .fn f cs => o1 (SV.fn f) (renVL n0 L cs)
  | .agg cs => o1 SV.agg (renVL n0 L cs)
  | .tup cs => o1 SV.tup (renVL n0 L cs)
  | s => some s
def renVL (n0 : Nat) (L : List Nat) : List SV → Option (List SV)
  | [] => some []
  | s :: ss => o2 List.cons (renV n0 L s) (renVL n0 L ss)
end
def RenOk (n0 : Nat) (L : List Nat) (β β' : Bet) : Prop := ∀ i j e, ren n0 L i = some j → β[i]? = some e → β'[j]? = some e
mutual
theorem renV_rel {ρ : Env} {β β' : Bet} {n0 : Nat} {L : List Nat} (hR : RenOk n0 L β β') : ∀ {s s' : SV} {v : Value}, renV n0 L s = some s' → s.rel ρ β v → s'.rel ρ β' v
  | .bool _, _, _, h, r => by cases h; exact r
  | .int _ _, _, _, h, r => by cases h; exact r
  | .nilp, _, _, h, r => by cases h; exact r
  | .nils, _, _, h, r => by cases h; exact r
  | .raw _, _, _, h, r => by cases h; exact r
  | .ptr i a o, s', v, h, r => by
    simp only [renV] at h
    split at h
    · rename_i j hj
      cases h
      obtain ⟨e, he, r⟩ := r
      exact ⟨e, hR i j e hj he, r⟩
    · cases h
  | .slice i a o l c, s', v, h, r => by
    simp only [renV] at h
    split at h
    · rename_i j hj
      cases h
      obtain ⟨e, l', c', he, r⟩ := r
      exact ⟨e, l', c', hR i j e hj he, r⟩
    · cases h
  | .fn f cs, s', v, h, r => by
    simp only [renV] at h
    obtain ⟨cs', h1, rfl⟩ := o1_some h
    obtain ⟨l, hl, rfl⟩ := r
    exact ⟨l, renVL_rel hR h1 hl, rfl⟩
  | .agg cs, s', v, h, r => by
    simp only [renV] at h
    obtain ⟨cs', h1, rfl⟩ := o1_some h
    obtain ⟨l, hl, rfl⟩ := r
    exact ⟨l, renVL_rel hR h1 hl, rfl⟩
  | .tup cs, s', v, h, r => by
    simp only [renV] at h
    obtain ⟨cs', h1, rfl⟩ := o1_some h
    obtain ⟨l, hl, rfl⟩ := r
    exact ⟨l, renVL_rel hR h1 hl, rfl⟩
theorem renVL_rel {ρ : Env} {β β' : Bet} {n0 : Nat} {L : List Nat} (hR : RenOk n0 L β β') : ∀ {s s' : List SV} {v : List Value}, renVL n0 L s = some s' → relL ρ β s v → relL ρ β' s' v
  | [], s', v, h, r => by cases h; exact r
  | s :: ss, s', v, h, r => by
    simp only [renVL] at h
    obtain ⟨a, b, h1, h2, rfl⟩ := o2_some h
    obtain ⟨u, us, rfl, r1, r2⟩ := r
    exact ⟨u, us, rfl, renV_rel hR h1 r1, renVL_rel hR h2 r2⟩
end
theorem renVL_length {n0 : Nat} {L : List Nat} : ∀ {s s' : List SV}, renVL n0 L s = some s' → s'.length = s.length
  | [], s', h => by cases h; rfl
  | s :: ss, s', h => by
    simp only [renVL] at h
    obtain ⟨a, b, h1, h2, rfl⟩ := o2_some h
    simp [renVL_length h2]
theorem renVL_get {n0 : Nat} {L : List Nat} : ∀ {s s' : List SV}, renVL n0 L s = some s' → ∀ (f : Nat) (z : SV), s'[f]? = some z → ∃ x, s[f]? = some x ∧ renV n0 L x = some z
  | [], s', h, f, z, hz => by cases h; simp at hz
  | s :: ss, s', h, f, z, hz => by
    simp only [renVL] at h
    obtain ⟨a, b, h1, h2, rfl⟩ := o2_some h
    cases f with
    | zero => simp at hz; subst hz; exact ⟨s, rfl, h1⟩
    | succ f => simp at hz; simpa using renVL_get h2 f z hz
def renO (n0 : Nat) (L : List Nat) : SObj → Option SObj
  | .cells w cs => o1 (SObj.cells w) (renVL n0 L cs)
  | .arr A => (match A.row with
    | none => some (.arr A)
    | some (t, cs) => o1 (fun l => SObj.arr { A with row := some (t, l) }) (renVL n0 L cs))
  | .buf e z cs => o1 (SObj.buf e z) (renVL n0 L cs)
/-- a value that names no block -/
theorem rel_any {ρ : Env} {β β' : Bet} {s : SV} {v : Value} (h : under 0 s = true) (r : s.rel ρ β v) : s.rel ρ β' v := by
  have h1 : s.rel ρ [] v := under_rel (β := []) (γ := β) s v h r
  exact SV.rel_mono (β := []) β' s v h1
theorem renO_rel {ρ : Env} {β β' : Bet} {n0 : Nat} {L : List Nat} (hR : RenOk n0 L β β') {o o' : SObj} {e : Blk} {w : World} (h : renO n0 L o = some o') (r : objRel ρ β e w o) : objRel ρ β' e w o' := by
  cases o with
  | cells wr cs =>
    simp only [renO] at h
    obtain ⟨l, hl, rfl⟩ := o1_some h
    obtain ⟨h0, h1, h2, arr, el, fr, h3, h4, h5⟩ := r
    exact ⟨h0, h1, h2, arr, el, fr, h3, h4, renVL_rel hR hl h5⟩
  | buf el sz cs =>
    simp only [renO] at h
    obtain ⟨l, hl, rfl⟩ := o1_some h
    obtain ⟨h0, h1, h2, arr, h3, h4, vs, rest, h5, h6⟩ := r
    exact ⟨h0, h1, h2, arr, h3, h4, vs, rest, h5, renVL_rel hR hl h6⟩
  | arr A =>
    simp only [renO] at h
    obtain ⟨h0, h1, h2, h2', h2a, h2b, arr, el, fr, h3, h4, h5⟩ := r
    split at h
    · rename_i hA
      cases h
      refine ⟨h0, h1, h2, h2', h2a, h2b, arr, el, fr, h3, h4, fun j hj f sv hs => ?_⟩
      obtain ⟨v, hv, q⟩ := h5 j hj f sv hs
      refine ⟨v, hv, rel_any ?_ q⟩
      simp only [SArr.at, hA] at hs
      exact under_base A h2b.1 _ f sv hs
    · rename_i t cs hA
      obtain ⟨l, hl, rfl⟩ := o1_some h
      refine ⟨h0, h1, h2, h2', h2a, ⟨h2b.1, fun u ds hu => ?_⟩, arr, el, fr, h3, h4, fun j hj f sv hs => ?_⟩
      · simp only [Option.some.injEq, Prod.mk.injEq] at hu
        rw [← hu.2, renVL_length hl]; exact h2b.2 t cs hA
      · simp only [SArr.at] at hs
        split at hs
        · rename_i he
          obtain ⟨x, hx, hxz⟩ := renVL_get hl f sv hs
          obtain ⟨v, hv, q⟩ := h5 j hj f x (by simp only [SArr.at, hA, he, if_true]; exact hx)
          exact ⟨v, hv, renV_rel hR hxz q⟩
        · rename_i he
          obtain ⟨v, hv, q⟩ := h5 j hj f sv (by simp only [SArr.at, hA]; rw [if_neg he]; exact hs)
          exact ⟨v, hv, rel_any (under_base A h2b.1 _ f sv hs) q⟩
/-- the old blocks, by the new names; those that are locked as they were -/
def renTr (n0 : Nat) (L : List Nat) (lk : List Nat) (m0 m : Mem) : Nat → Tr SObj
  | 0 => .nil
  | n + 1 => bif memB n lk then (match m0.tr.get n with | some o => (renTr n0 L lk m0 m n).put n o | none => renTr n0 L lk m0 m n)
    else (match m.tr.get n with
      | some o => (match renO n0 L o with | some o' => (renTr n0 L lk m0 m n).put n o' | none => renTr n0 L lk m0 m n)
      | none => renTr n0 L lk m0 m n)
def renNew (n0 : Nat) (L : List Nat) (m : Mem) : List Nat → Nat → Tr SObj → Tr SObj
  | [], _, t => t
  | id :: l, k, t => (match m.tr.get id with
    | some o => (match renO n0 L o with | some o' => renNew n0 L m l (k + 1) (t.put k o') | none => renNew n0 L m l (k + 1) t)
    | none => renNew n0 L m l (k + 1) t)
theorem memB_of {n : Nat} : ∀ {l : List Nat}, memB n l = true → n ∈ l
  | [], h => by cases h
  | x :: l, h => by
    simp only [memB] at h
    cases hb : Nat.beq x n
    · rw [hb] at h; exact .tail _ (memB_of h)
    · have := Nat.eq_of_beq_eq_true hb; subst this; exact .head _
theorem renTr_get {n0 : Nat} {L lk : List Nat} {m0 m : Mem} : ∀ {n id : Nat} {o : SObj}, (renTr n0 L lk m0 m n).get id = some o → id < n ∧ ((id ∈ lk ∧ m0.tr.get id = some o) ∨ (∃ x, m.tr.get id = some x ∧ renO n0 L x = some o))
  | 0, id, o, h => by simp [renTr, Tr.get] at h
  | n + 1, id, o, h => by
    simp only [renTr] at h
    cases hb : memB n lk
    · rw [hb] at h
      simp only [cond_false] at h
      split at h
      · rename_i x hx
        split at h
        · rename_i o' ho'
          rw [Tr.get_put] at h
          split at h
          · rename_i e; subst e; cases h; exact ⟨by omega, .inr ⟨x, hx, ho'⟩⟩
          · obtain ⟨h1, h2⟩ := renTr_get h; exact ⟨by omega, h2⟩
        · obtain ⟨h1, h2⟩ := renTr_get h; exact ⟨by omega, h2⟩
      · obtain ⟨h1, h2⟩ := renTr_get h; exact ⟨by omega, h2⟩
    · rw [hb] at h
      simp only [cond_true] at h
      split at h
      · rename_i x hx
        rw [Tr.get_put] at h
        split at h
        · rename_i e; subst e; cases h; exact ⟨by omega, .inl ⟨memB_of hb, hx⟩⟩
        · obtain ⟨h1, h2⟩ := renTr_get h; exact ⟨by omega, h2⟩
      · obtain ⟨h1, h2⟩ := renTr_get h; exact ⟨by omega, h2⟩
theorem renNew_get {n0 : Nat} {L : List Nat} {m : Mem} : ∀ {l : List Nat} {k : Nat} {t : Tr SObj} {id : Nat} {o : SObj}, (renNew n0 L m l k t).get id = some o →
    (t.get id = some o) ∨ (∃ i x y, l[i]? = some x ∧ id = k + i ∧ m.tr.get x = some y ∧ renO n0 L y = some o)
  | [], k, t, id, o, h => .inl h
  | x :: l, k, t, id, o, h => by
    simp only [renNew] at h
    have go : ∀ {t' : Tr SObj}, (renNew n0 L m l (k + 1) t').get id = some o → (t'.get id = some o) ∨ (∃ i x' y, (x :: l)[i]? = some x' ∧ id = k + i ∧ m.tr.get x' = some y ∧ renO n0 L y = some o) := by
      intro t' h
      rcases renNew_get h with h | ⟨i, x', y, h1, h2, h3⟩
      · exact .inl h
      · exact .inr ⟨i + 1, x', y, by simpa using h1, by omega, h3⟩
    split at h
    · rename_i y hy
      split at h
      · rename_i o' ho'
        rcases go h with h | h
        · rw [Tr.get_put] at h
          split at h
          · rename_i e; cases h; exact .inr ⟨0, x, y, rfl, by omega, hy, ho'⟩
          · exact .inl h
        · exact .inr h
      · exact go h
    · exact go h
def nodupB : List Nat → Bool
  | [] => true
  | x :: l => !(memB x l) && nodupB l
theorem nodupB_ok : ∀ {l : List Nat}, nodupB l = true → ∀ {i j x : Nat}, l[i]? = some x → l[j]? = some x → i = j
  | [], _, i, j, x, h, _ => by simp at h
  | y :: l, h, i, j, x, hi, hj => by
    simp only [nodupB, Bool.and_eq_true, Bool.not_eq_true'] at h
    cases i with
    | zero =>
      cases j with
      | zero => rfl
      | succ j =>
        simp at hi hj; subst hi
        exact absurd (List.mem_of_getElem? hj) (memB_ok h.1)
    | succ i =>
      cases j with
      | zero =>
        simp at hi hj; subst hj
        exact absurd (List.mem_of_getElem? hi) (memB_ok h.1)
      | succ j =>
        simp at hi hj
        rw [nodupB_ok h.2 hi hj]
def okNew (n0 nx : Nat) (L : List Nat) : Bool := nodupB L && L.all (fun i => Nat.ble n0 i && Nat.blt i nx)
def renM (n0 : Nat) (L lk : List Nat) (m0 m : Mem) : Mem := ⟨renNew n0 L m L n0 (renTr n0 L lk m0 m n0), n0 + L.length⟩
/-- the extension that the new names stand for -/
theorem ren_ext {ρ : Env} {β γ : Bet} {L lk : List Nat} {m0 m : Mem} {w w' : World} (hL : okNew β.length m.nx L = true) (hm0 : MemRel ρ β m0 w) (hm : MemRel ρ (β ++ γ) m w') (hs : Stp β lk w (β ++ γ) w') :
    ∃ δ, RenOk β.length L (β ++ γ) (β ++ δ) ∧ Stp β lk w (β ++ δ) w' ∧ MemRel ρ (β ++ δ) (renM β.length L lk m0 m) w' := by
  simp only [okNew, Bool.and_eq_true] at hL
  obtain ⟨hnd, hall⟩ := hL
  have hin : ∀ {k x : Nat}, L[k]? = some x → β.length ≤ x ∧ x < (β ++ γ).length := fun {k x} hk => by
    have := List.all_eq_true.1 hall x (List.mem_of_getElem? hk)
    rw [Bool.and_eq_true] at this
    rw [← hm.nx]
    exact ⟨Nat.le_of_ble_eq_true this.1, Nat.le_of_ble_eq_true this.2⟩
  let δ : Bet := L.map fun x => (β ++ γ).getD x ⟨0, 0, 0, 0, false⟩
  have hδ : ∀ {k x : Nat}, L[k]? = some x → ∃ e, (β ++ γ)[x]? = some e ∧ δ[k]? = some e := fun {k x} hk => by
    obtain ⟨_, h2⟩ := hin hk
    refine ⟨(β ++ γ)[x], List.getElem?_eq_getElem h2, ?_⟩
    simp only [δ, List.getElem?_map, hk, Option.map_some]
    rw [List.getD_eq_getElem?_getD, List.getElem?_eq_getElem h2]; rfl
  have hR : RenOk β.length L (β ++ γ) (β ++ δ) := fun i j e hij he => by
    unfold ren at hij
    cases hb : Nat.blt i β.length
    · rw [hb] at hij
      obtain ⟨h1, h2⟩ := posOf_ok hij
      obtain ⟨e', he', hd⟩ := hδ h2
      rw [he] at he'; cases he'
      rw [List.getElem?_append_right h1]; exact hd
    · rw [hb] at hij
      cases hij
      have hlt : i < β.length := Nat.le_of_ble_eq_true hb
      rw [List.getElem?_append_left hlt] at he ⊢; exact he
  have hmem : ∀ e ∈ δ, ∃ x, β.length ≤ x ∧ (β ++ γ)[x]? = some e := fun e he => by
    obtain ⟨k, hk⟩ := List.getElem?_of_mem he
    have hlt : k < L.length := by have := (List.getElem?_eq_some_iff.1 hk).1; simpa [δ] using this
    obtain ⟨e', he', hd⟩ := hδ (List.getElem?_eq_getElem hlt)
    rw [hk] at hd; cases hd
    exact ⟨_, (hin (List.getElem?_eq_getElem hlt)).1, he'⟩
  obtain ⟨γ', hγ', hnew⟩ := hs.ext
  have : γ' = γ := by simpa using hγ'.symm
  subst this
  refine ⟨δ, hR, ⟨⟨δ, rfl, fun e he => ?_⟩, hs.os, hs.tape, hs.output, hs.size, hs.keep, hs.lock⟩, ⟨by simp [renM, δ], fun id o ho => ?_, fun e he => ?_, fun i j e e' hi hj hne hb => ?_, fun id hid => ?_⟩⟩
  · obtain ⟨x, hx, he'⟩ := hmem e he
    rw [List.getElem?_append_right hx] at he'
    exact hnew e (List.mem_of_getElem? he')
  · simp only [renM] at ho
    rcases renNew_get ho with h | ⟨i, x, y, h1, h2, h3, h4⟩
    · obtain ⟨hlt, h⟩ := renTr_get h
      rcases h with ⟨hl, h⟩ | ⟨x, hx, h⟩
      · obtain ⟨e, he, r⟩ := hm0.obj id o h
        exact ⟨e, by rw [List.getElem?_append_left hlt]; exact he, objRel_mono _ (objRel_heap r (hs.lock id hl e he))⟩
      · obtain ⟨e, he, r⟩ := hm.obj id x hx
        refine ⟨e, hR id id e ?_ he, renO_rel hR h r⟩
        unfold ren
        rw [show Nat.blt id β.length = true from Nat.ble_eq_true_of_le hlt]; rfl
    · obtain ⟨e, he, r⟩ := hm.obj x y h3
      obtain ⟨e', he', hd⟩ := hδ h1
      rw [he] at he'; cases he'
      exact ⟨e, by rw [h2, List.getElem?_append_right (by omega)]; simpa using hd, renO_rel hR h4 r⟩
  · rcases List.mem_append.1 he with h | h
    · exact hm.lt e (List.mem_append_left _ h)
    · obtain ⟨x, _, he'⟩ := hmem e h
      exact hm.lt e (List.mem_of_getElem? he')
  · -- each stands for one
    have back : ∀ {k : Nat} {e : Blk}, (β ++ δ)[k]? = some e → ∃ x, (β ++ γ')[x]? = some e ∧ ((k < β.length ∧ x = k) ∨ (β.length ≤ k ∧ L[k - β.length]? = some x)) := fun {k e} hk => by
      by_cases hlt : k < β.length
      · rw [List.getElem?_append_left hlt] at hk
        exact ⟨k, by rw [List.getElem?_append_left hlt]; exact hk, .inl ⟨hlt, rfl⟩⟩
      · have hge : β.length ≤ k := by omega
        rw [List.getElem?_append_right hge] at hk
        have hlt' : k - β.length < L.length := by have := (List.getElem?_eq_some_iff.1 hk).1; simpa [δ] using this
        obtain ⟨e', he', hd⟩ := hδ (List.getElem?_eq_getElem hlt')
        rw [hk] at hd; cases hd
        exact ⟨_, he', .inr ⟨hge, List.getElem?_eq_getElem hlt'⟩⟩
    obtain ⟨x, hx, cx⟩ := back hi
    obtain ⟨y, hy, cy⟩ := back hj
    refine hm.apart x y e e' hx hy (fun hxy => ?_) hb
    subst hxy
    rcases cx with ⟨c1, c2⟩ | ⟨c1, c2⟩
    · rcases cy with ⟨d1, d2⟩ | ⟨d1, d2⟩
      · omega
      · have := (hin d2).1; omega
    · rcases cy with ⟨d1, d2⟩ | ⟨d1, d2⟩
      · have := (hin c2).1; omega
      · have := nodupB_ok hnd c2 d2; omega
  · simp only [renM] at hid ⊢
    cases hg : (renNew β.length L m L β.length (renTr β.length L lk m0 m β.length)).get id with
    | none => rfl
    | some o =>
      rcases renNew_get hg with h | ⟨i, x, y, h1, h2, _⟩
      · have := (renTr_get h).1; omega
      · have := (List.getElem?_eq_some_iff.1 h1).1; omega

/-! which new blocks there are, one behind the other -/
mutual
def newsV (n0 : Nat) : SV → List Nat → List Nat
  | .ptr i _ _, acc => bif Nat.blt i n0 || memB i acc then acc else acc ++ [i]
  | .slice i _ _ _ _, acc => bif Nat.blt i n0 || memB i acc then acc else acc ++ [i]
  | .fn _ cs, acc => newsL n0 cs acc
  | .agg cs, acc => newsL n0 cs acc
  | .tup cs, acc => newsL n0 cs acc
  | _, acc => acc
def newsL (n0 : Nat) : List SV → List Nat → List Nat
  | [], acc => acc
  | s :: ss, acc => newsL n0 ss (newsV n0 s acc)
end
def newsO (n0 : Nat) (o : SObj) (acc : List Nat) : List Nat := match o with
  | .cells _ cs => newsL n0 cs acc
  | .arr A => (match A.row with | some (_, cs) => newsL n0 cs acc | none => acc)
  | .buf _ _ cs => newsL n0 cs acc
def newsM (n0 : Nat) (lk : List Nat) (m : Mem) : Nat → List Nat → List Nat
  | 0, acc => acc
  | n + 1, acc => bif memB n lk then newsM n0 lk m n acc else newsM n0 lk m n (match m.tr.get n with | some o => newsO n0 o acc | none => acc)
def newsC (n0 : Nat) (m : Mem) : Nat → Nat → List Nat → List Nat
  | 0, _, acc => acc
  | n + 1, k, acc => (match acc[k]? with
    | some id => newsC n0 m n (k + 1) (match m.tr.get id with | some o => newsO n0 o acc | none => acc)
    | none => acc)
def newsT (n0 : Nat) : Tr SV → List Nat → List Nat
  | .nil, acc => acc
  | .node a l r, acc => newsT n0 r (newsT n0 l (match a with | some s => newsV n0 s acc | none => acc))
/-- the new blocks that are named -/
def newsAll (n0 : Nat) (lk : List Nat) (tm : Tr SV) (m : Mem) : List Nat := newsC n0 m (m.nx + 1) 0 (newsM n0 lk m n0 (newsT n0 tm []))
def Tr.mapO {α : Type} (f : α → Option α) : Tr α → Tr α
  | .nil => .nil
  | .node a l r => .node (match a with | some x => f x | none => none) (Tr.mapO f l) (Tr.mapO f r)
theorem Tr.get_mapO {α : Type} {f : α → Option α} : ∀ {t : Tr α} {n : Nat} {z : α}, (Tr.mapO f t).get n = some z → ∃ x, t.get n = some x ∧ f x = some z
  | .nil, n, z, h => by simp [Tr.mapO, Tr.get] at h
  | .node a l r, n, z, h => by
    simp only [Tr.mapO] at h
    cases n with
    | zero =>
      simp only [Tr.get] at h ⊢
      split at h
      · exact ⟨_, rfl, h⟩
      · cases h
    | succ n =>
      simp only [Tr.get] at h ⊢
      cases hb : Nat.beq (n % 2) 0
      · rw [hb] at h; exact Tr.get_mapO h
      · rw [hb] at h; exact Tr.get_mapO h

/-! ends -/
/-- what an end is good for: values by number, in one world -/
def EndG (ρ : Env) (β : Bet) (lk : List Nat) (w w' : World) (vals : Nat → Option Value) (tm : Tr SV) (mem : Mem) (pc : PC) : Prop :=
  PcH ρ pc ∧ ∃ β', Stp β lk w β' w' ∧ (∀ t s, tm.get t = some s → ∃ v, vals t = some v ∧ s.rel ρ β' v) ∧ MemRel ρ β' mem w'
/-- slots that are new, and name new blocks, forgotten -/
def Tr.mask (n0 : Nat) : Tr SV → Tr SV → Tr SV
  | _, .nil => .nil
  | base, .node a l r => .node (match a with
      | some s => (match base with | .node (some _) _ _ => some s | _ => bif under n0 s then some s else none)
      | none => none) (Tr.mask n0 (match base with | .node _ l _ => l | .nil => .nil) l) (Tr.mask n0 (match base with | .node _ _ r => r | .nil => .nil) r)
theorem Tr.get_mask {n0 : Nat} : ∀ {t base : Tr SV} {n : Nat} {z : SV}, (Tr.mask n0 base t).get n = some z → t.get n = some z
  | .nil, base, n, z, h => by simp [Tr.mask, Tr.get] at h
  | .node a l r, base, n, z, h => by
    simp only [Tr.mask] at h
    cases n with
    | zero =>
      simp only [Tr.get] at h ⊢
      split at h
      · split at h
        · exact h
        · cases hu : under n0 _ <;> rw [hu] at h
          · cases h
          · exact h
      · cases h
    | succ n =>
      simp only [Tr.get] at h ⊢
      cases hb : Nat.beq (n % 2) 0
      · rw [hb] at h; exact Tr.get_mask h
      · rw [hb] at h; exact Tr.get_mask h
def maskO (on : Bool) (n0 : Nat) (base : Tr SV) (o : Out) : Out := bif on then ⟨o.ex, { o.st with tm := Tr.mask n0 base o.st.tm }⟩ else o
/-- an end by new names -/
def canonO (lk : List Nat) (m0 : Mem) (o : Out) : Out :=
  bif Nat.beq o.st.mem.nx m0.nx then o else
  let L := newsAll m0.nx lk o.st.tm o.st.mem
  bif okNew m0.nx o.st.mem.nx L then ⟨o.ex, ⟨Tr.mapO (renV m0.nx L) o.st.tm, renM m0.nx L lk m0 o.st.mem, o.st.pc, o.st.fid⟩⟩ else o
theorem maskO_ok {ρ : Env} {β : Bet} {lk : List Nat} {w w' : World} {vals : Nat → Option Value} {on : Bool} {n0 : Nat} {base : Tr SV} {o : Out} (h : EndG ρ β lk w w' vals o.st.tm o.st.mem o.st.pc) :
    EndG ρ β lk w w' vals (maskO on n0 base o).st.tm (maskO on n0 base o).st.mem (maskO on n0 base o).st.pc := by
  cases on
  · exact h
  · obtain ⟨hp, β', hs, ht, hm⟩ := h
    exact ⟨hp, β', hs, fun t s hts => ht t s (Tr.get_mask hts), hm⟩
theorem maskO_ex (on : Bool) (n0 : Nat) (base : Tr SV) (o : Out) : (maskO on n0 base o).ex = o.ex := by cases on <;> rfl
theorem maskO_pc (on : Bool) (n0 : Nat) (base : Tr SV) (o : Out) : (maskO on n0 base o).st.pc = o.st.pc := by cases on <;> rfl
theorem canonO_ok {ρ : Env} {β : Bet} {lk : List Nat} {w w' : World} {vals : Nat → Option Value} {m0 : Mem} (hm0 : MemRel ρ β m0 w) {o : Out} (h : EndG ρ β lk w w' vals o.st.tm o.st.mem o.st.pc) :
    EndG ρ β lk w w' vals (canonO lk m0 o).st.tm (canonO lk m0 o).st.mem (canonO lk m0 o).st.pc := by
  unfold canonO
  cases Nat.beq o.st.mem.nx m0.nx
  · simp only [cond_false]
    generalize newsAll m0.nx lk o.st.tm o.st.mem = L
    cases hL : okNew m0.nx o.st.mem.nx L
    · exact h
    · simp only [cond_true]
      obtain ⟨hp, β', hs, ht, hm⟩ := h
      obtain ⟨γ, rfl, _⟩ := hs.ext
      rw [hm0.nx] at hL ⊢
      obtain ⟨δ, hR, hs', hm'⟩ := ren_ext hL hm0 hm hs
      refine ⟨hp, β ++ δ, hs', fun t s hts => ?_, hm'⟩
      obtain ⟨x, hx, hr⟩ := Tr.get_mapO hts
      obtain ⟨v, hv, r⟩ := ht t x hx
      exact ⟨v, hv, renV_rel hR hr r⟩
  · exact h
theorem canonO_ex (lk : List Nat) (m0 : Mem) (o : Out) : (canonO lk m0 o).ex = o.ex := by
  unfold canonO
  cases Nat.beq o.st.mem.nx m0.nx
  · simp only [cond_false]
    cases okNew m0.nx o.st.mem.nx (newsAll m0.nx lk o.st.tm o.st.mem) <;> rfl
  · rfl

/-! two ends as one -/
/-- what parts two ends: true at the first, false at the second -/
def discA (f : PC) : PC → Option B
  | [] => none
  | p :: g => (match discA f g with
    | some c => some c
    | none => (match simpB f p.1 with | .lit v => bif v == p.2 then none else some (bif p.2 then mkNot p.1 else p.1) | _ => none))
theorem discA_ok {ρ : Env} {f : PC} {c : B} : ∀ {g : PC}, discA f g = some c → (PcH ρ f → c.ev ρ = true) ∧ (PcH ρ g → c.ev ρ = false)
  | [], h => by cases h
  | p :: g, h => by
    simp only [discA] at h
    split at h
    · rename_i c' hc'
      cases h
      obtain ⟨h1, h2⟩ := discA_ok hc'
      exact ⟨h1, fun hg => h2 hg.tail⟩
    · split at h
      · rename_i v hv
        cases hb : v == p.2
        · rw [hb] at h
          cases h
          have hne : v = !p.2 := by cases v <;> cases hp2 : p.2 <;> rw [hp2] at hb <;> simp at hb ⊢
          refine ⟨fun hf => ?_, fun hg => ?_⟩
          · have := simpB_ev hf p.1
            rw [hv] at this
            simp only [B.ev] at this
            cases hp2 : p.2 <;> rw [hp2] at hne <;> simp only [cond_true, cond_false, mkNot_ev] <;> rw [← this, hne] <;> rfl
          · have := hg _ (.head _)
            cases hp2 : p.2 <;> rw [hp2] at this <;> simp only [cond_true, cond_false, mkNot_ev] <;> rw [this] <;> rfl
        · rw [hb] at h; cases h
      · cases h
def disc (f g : PC) : Option B := match discA f g with
  | some c => some c
  | none => (match discA g f with
    | some c => some (mkNot c)
    | none => (match mkAnd (conj f) (conj g) with | .lit false => some (conj f) | _ => none))
theorem disc_ok {ρ : Env} {f g : PC} {c : B} (h : disc f g = some c) : (PcH ρ f → c.ev ρ = true) ∧ (PcH ρ g → c.ev ρ = false) := by
  unfold disc at h
  split at h
  · rename_i c' hc'; cases h; exact discA_ok hc'
  · split at h
    · rename_i c' hc'
      cases h
      obtain ⟨h1, h2⟩ := discA_ok (ρ := ρ) hc'
      exact ⟨fun hf => by rw [mkNot_ev, h2 hf]; rfl, fun hg => by rw [mkNot_ev, h1 hg]; rfl⟩
    · split at h
      · rename_i hc
        cases h
        refine ⟨conj_ev, fun hg => ?_⟩
        have := mkAnd_ev ρ (conj f) (conj g)
        rw [hc, conj_ev hg, Bool.and_true] at this
        exact this.symm
      · cases h
/-- the blocks of two ends -/
def iteTr2 (c : B) (lk : List Nat) (m0 m1 m2 : Mem) : Nat → Option (Tr SObj)
  | 0 => some .nil
  | n + 1 => (match iteTr2 c lk m0 m1 m2 n with
    | none => none
    | some t => bif memB n lk && Nat.blt n m0.nx then (match m0.tr.get n with | some o => some (t.put n o) | none => some t)
      else (match m1.tr.get n, m2.tr.get n with
        | some a, some b => (match iteObj c a b with | some o => some (t.put n o) | none => none)
        | _, _ => some t))
theorem iteTr2_get {c : B} {lk : List Nat} {m0 m1 m2 : Mem} : ∀ {n : Nat} {t : Tr SObj}, iteTr2 c lk m0 m1 m2 n = some t → ∀ id o, t.get id = some o →
    id < n ∧ ((id ∈ lk ∧ m0.tr.get id = some o) ∨ ∃ a b, m1.tr.get id = some a ∧ m2.tr.get id = some b ∧ iteObj c a b = some o)
  | 0, t, h, id, o, ho => by simp only [iteTr2, Option.some.injEq] at h; subst h; simp [Tr.get] at ho
  | n + 1, t, h, id, o, ho => by
    simp only [iteTr2] at h
    split at h
    · cases h
    · rename_i t0 ht0
      cases hb : memB n lk && Nat.blt n m0.nx
      · rw [hb] at h
        simp only [cond_false] at h
        split at h
        · rename_i a b ha hb
          split at h
          · rename_i x hx
            cases h
            rw [Tr.get_put] at ho
            split at ho
            · rename_i e; subst e; cases ho; exact ⟨by omega, .inr ⟨a, b, ha, hb, hx⟩⟩
            · have := iteTr2_get ht0 id o ho; exact ⟨by omega, this.2⟩
          · cases h
        · cases h
          have := iteTr2_get ht0 id o ho; exact ⟨by omega, this.2⟩
      · rw [hb] at h
        simp only [cond_true] at h
        rw [Bool.and_eq_true] at hb
        split at h
        · rename_i x hx
          cases h
          rw [Tr.get_put] at ho
          split at ho
          · rename_i e; subst e; cases ho; exact ⟨by omega, .inl ⟨memB_of hb.1, hx⟩⟩
          · have := iteTr2_get ht0 id o ho; exact ⟨by omega, this.2⟩
        · cases h
          have := iteTr2_get ht0 id o ho; exact ⟨by omega, this.2⟩
def undefB : SV → Bool
  | .tup [] => true
  | _ => false
/-- must be one at both, where it was -/
def keepsT (need : Bool) (c : B) : Tr SV → Tr SV → Tr SV → Bool
  | base, .node a l r, .node b m s =>
    (match a, b with
      | some x, some y => (match iteSV c x y with
        | some _ => true
        | none => undefB x || undefB y || (match base with | .node (some _) _ _ => false | _ => !need))
      | _, _ => true) &&
    keepsT need c (match base with | .node _ l _ => l | .nil => .nil) l m && keepsT need c (match base with | .node _ _ r => r | .nil => .nil) r s
  | _, _, _ => true
def notStuckX : XE → Bool
  | .stuck _ => false
  | _ => true
/-- facts of both; facts of one alone -/
def commonPc (f g : PC) : PC := f.filter fun x => g.any (pcItem x)
def restPc (f g : PC) : PC := f.filter fun x => !(g.any (pcItem x))
def guardB (c : B) (f g : PC) : B := mkIteB c (simpB (addPc c true []) (conj (restPc f g))) (simpB (addPc c false []) (conj (restPc g f)))
def pcJoin (c : B) (pc0 f g : PC) : PC := match guardB c f g with
  | .lit true => commonPc f g ++ pc0
  | b => addPc b true (commonPc f g ++ pc0)
theorem commonPc_ok {ρ : Env} {f g : PC} (h : PcH ρ f ∨ PcH ρ g) : PcH ρ (commonPc f g) := fun x hx => by
  obtain ⟨h1, h2⟩ := List.mem_filter.1 hx
  rcases h with h | h
  · exact h x h1
  · obtain ⟨y, hy, he⟩ := List.any_eq_true.1 h2
    rw [pcItem_eq _ _ he]; exact h y hy
theorem pcJoin_ok {ρ : Env} {c : B} {pc0 f g : PC} (h0 : PcH ρ pc0) (h : (c.ev ρ = true ∧ PcH ρ f) ∨ (c.ev ρ = false ∧ PcH ρ g)) : PcH ρ (pcJoin c pc0 f g) := by
  have hc : PcH ρ (commonPc f g ++ pc0) := fun x hx => by
    rcases List.mem_append.1 hx with hx | hx
    · exact commonPc_ok (h.elim (fun h => .inl h.2) (fun h => .inr h.2)) x hx
    · exact h0 x hx
  have hg : (guardB c f g).ev ρ = true := by
    unfold guardB
    rw [mkIteB_ev]
    rcases h with ⟨h1, h2⟩ | ⟨h1, h2⟩
    · rw [h1, cond_true, simpB_ev (addPc_ok c true h1 (PcH.nil ρ))]
      exact conj_ev fun x hx => h2 x (List.mem_filter.1 hx).1
    · rw [h1, cond_false, simpB_ev (addPc_ok c false h1 (PcH.nil ρ))]
      exact conj_ev fun x hx => h2 x (List.mem_filter.1 hx).1
  unfold pcJoin
  split
  · exact hc
  · exact addPc_ok _ true hg hc
def isRetX : XE → Bool
  | .ret => true
  | _ => false
def needX (mk : Bool) (_ : XE) : Bool := !mk
def join2 (mk : Bool) (lk : List Nat) (tm0 : Tr SV) (m0 : Mem) (pc0 : PC) (a b : Out) : Option Out :=
  bif xeBeq a.ex b.ex && notStuckX a.ex && Nat.beq a.st.mem.nx b.st.mem.nx && !(mk && isRetX a.ex) then
    (match disc (factsOf pc0 a.st.pc) (factsOf pc0 b.st.pc) with
    | none => none
    | some c => bif keepsT (needX mk a.ex) c tm0 a.st.tm b.st.tm then
        (match iteTr2 c lk m0 a.st.mem b.st.mem a.st.mem.nx with
        | none => none
        | some t => some ⟨a.ex, ⟨Tr.zip (iteSV c) a.st.tm b.st.tm, ⟨t, a.st.mem.nx⟩, pcJoin c pc0 (factsOf pc0 a.st.pc) (factsOf pc0 b.st.pc), a.st.fid⟩⟩) else none)
  else none
theorem join2_ok {mk : Bool} {ρ : Env} {β : Bet} {lk : List Nat} {w w' : World} {vals : Nat → Option Value} {tm0 : Tr SV} {m0 : Mem} {pc0 : PC} (hp0 : PcH ρ pc0) (hm0 : MemRel ρ β m0 w) {a b o : Out} (h : join2 mk lk tm0 m0 pc0 a b = some o) :
    (EndG ρ β lk w w' vals a.st.tm a.st.mem a.st.pc → EndG ρ β lk w w' vals o.st.tm o.st.mem o.st.pc) ∧ (EndG ρ β lk w w' vals b.st.tm b.st.mem b.st.pc → EndG ρ β lk w w' vals o.st.tm o.st.mem o.st.pc) ∧ o.ex = a.ex ∧ b.ex = a.ex ∧ notStuckX a.ex = true := by
  unfold join2 at h
  obtain ⟨h1, h⟩ := bif_some h
  simp only [Bool.and_eq_true] at h1
  obtain ⟨⟨⟨h1, h2⟩, h3⟩, _⟩ := h1
  have h1 := xeBeq_eq h1
  have h3 := Nat.eq_of_beq_eq_true h3
  split at h
  · cases h
  · rename_i c hc
    obtain ⟨d1, d2⟩ := disc_ok (ρ := ρ) hc
    obtain ⟨_, h⟩ := bif_some h
    split at h
    · cases h
    · rename_i t ht
      cases h
      -- either one
      have fin : ∀ (q : Out) (u : Bool), (u = true → q = a) → (u = false → q = b) → EndG ρ β lk w w' vals q.st.tm q.st.mem q.st.pc →
          EndG ρ β lk w w' vals (Tr.zip (iteSV c) a.st.tm b.st.tm) ⟨t, a.st.mem.nx⟩ (pcJoin c pc0 (factsOf pc0 a.st.pc) (factsOf pc0 b.st.pc)) := by
        intro q u hqa hqb hG
        obtain ⟨hp, β', hs, ht', hm⟩ := hG
        have hcu : c.ev ρ = u := by
          cases u
          · rw [hqb rfl] at hp; exact d2 (factsOf_ok hp)
          · rw [hqa rfl] at hp; exact d1 (factsOf_ok hp)
        have hnx : q.st.mem.nx = a.st.mem.nx := by
          cases u
          · rw [hqb rfl]; exact h3.symm
          · rw [hqa rfl]
        refine ⟨pcJoin_ok hp0 ?_, β', hs, fun t' s hts => ?_, ⟨by rw [← hm.nx, hnx], fun id ob hob => ?_, hm.lt, hm.apart, fun id hid => ?_⟩⟩
        · cases u
          · rw [hqb rfl] at hp; exact .inr ⟨hcu, factsOf_ok hp⟩
          · rw [hqa rfl] at hp; exact .inl ⟨hcu, factsOf_ok hp⟩
        · obtain ⟨x, y, hx, hy, hi⟩ := Tr.get_zip hts
          cases u
          · rw [hqb rfl] at ht'
            obtain ⟨v, hv, r⟩ := ht' t' y hy
            exact ⟨v, hv, iteSV_rel hi (by rw [hcu]; exact r)⟩
          · rw [hqa rfl] at ht'
            obtain ⟨v, hv, r⟩ := ht' t' x hx
            exact ⟨v, hv, iteSV_rel hi (by rw [hcu]; exact r)⟩
        · obtain ⟨hlt, hob'⟩ := iteTr2_get ht id ob hob
          rcases hob' with ⟨hl, h0⟩ | ⟨x, y, hx, hy, hi⟩
          · obtain ⟨e, he, r⟩ := hm0.obj id ob h0
            obtain ⟨γ, rfl, _⟩ := hs.ext
            exact ⟨e, by rw [List.getElem?_append_left (List.getElem?_eq_some_iff.1 he).1]; exact he, objRel_mono _ (objRel_heap r (hs.lock id hl e he))⟩
          · cases u
            · rw [hqb rfl] at hm
              obtain ⟨e, he, r⟩ := hm.obj id y hy
              exact ⟨e, he, iteObj_rel hi (by rw [hcu]; exact r)⟩
            · rw [hqa rfl] at hm
              obtain ⟨e, he, r⟩ := hm.obj id x hx
              exact ⟨e, he, iteObj_rel hi (by rw [hcu]; exact r)⟩
        · cases hg : t.get id with
          | none => rfl
          | some ob => have := (iteTr2_get ht id ob hg).1; simp only at hid; omega
      exact ⟨fin a true (fun _ => rfl) (fun h => by cases h), fin b false (fun h => by cases h) (fun _ => rfl), rfl, h1.symm, h2⟩
def insJ (mk : Bool) (lk : List Nat) (tm0 : Tr SV) (m0 : Mem) (pc0 : PC) (o : Out) : List Out → List Out
  | [] => [o]
  | x :: l => (match join2 mk lk tm0 m0 pc0 o x with
    | some y => y :: l
    | none => x :: insJ mk lk tm0 m0 pc0 o l)
def joinR (mk : Bool) (lk : List Nat) (tm0 : Tr SV) (m0 : Mem) (pc0 : PC) : List Out → List Out
  | [] => []
  | o :: l => insJ mk lk tm0 m0 pc0 o (joinR mk lk tm0 m0 pc0 l)
/-- all of it: dead ways dropped, new names, what is twice once, ends of one form one -/
def prepO (mk : Bool) (lk : List Nat) (tm0 : Tr SV) (m0 : Mem) (o : Out) : Out := canonO lk m0 (maskO (mk && (match o.ex with | .ret => false | _ => true)) m0.nx tm0 o)
def joinL (mk : Bool) (lk : List Nat) (tm0 : Tr SV) (m0 : Mem) (pc0 : PC) (l : List Out) : List Out := match l with
  | [] => []
  | [o] => [o]
  | l => joinR mk lk tm0 m0 pc0 (dedup ((l.filter fun o => !(deadPc o.st.pc)).map (prepO mk lk tm0 m0)))
/-- dead ways dropped, new names, what is twice once -/
def fewL (lk : List Nat) (tm0 : Tr SV) (m0 : Mem) (l : List Out) : List Out := match l with
  | [] => []
  | [o] => [o]
  | l => dedup ((l.filter fun o => !(deadPc o.st.pc)).map (prepO false lk tm0 m0))
/-- the same, behind a round of a loop -/
def fewM (lk : List Nat) (tm0 : Tr SV) (m0 : Mem) (l : List Out) : List Out := match l with
  | [] => []
  | [o] => [o]
  | l => dedup ((l.filter fun o => !(deadPc o.st.pc)).map (prepO true lk tm0 m0))
/-- an end among some -/
def SomeG (ρ : Env) (β : Bet) (lk : List Nat) (w w' : World) (vals : Nat → Option Value) (X : XE → Prop) (l : List Out) : Prop := ∃ o ∈ l, X o.ex ∧ EndG ρ β lk w w' vals o.st.tm o.st.mem o.st.pc
theorem insJ_ok {mk : Bool} {ρ : Env} {β : Bet} {lk : List Nat} {w w' : World} {vals : Nat → Option Value} {tm0 : Tr SV} {m0 : Mem} {pc0 : PC} {X : XE → Prop} (hp0 : PcH ρ pc0) (hm0 : MemRel ρ β m0 w) {o : Out} : ∀ {l : List Out},
    SomeG ρ β lk w w' vals X (o :: l) → SomeG ρ β lk w w' vals X (insJ mk lk tm0 m0 pc0 o l)
  | [], h => h
  | x :: l, h => by
    simp only [insJ]
    obtain ⟨q, hq, hx, hG⟩ := h
    split
    · rename_i y hy
      obtain ⟨j1, j2, j3, j4, _⟩ := join2_ok (w' := w') (vals := vals) hp0 hm0 hy
      cases hq with
      | head => exact ⟨y, .head _, by rw [j3]; exact hx, j1 hG⟩
      | tail _ hq =>
        cases hq with
        | head => exact ⟨y, .head _, by rw [j3, ← j4]; exact hx, j2 hG⟩
        | tail _ hq => exact ⟨q, .tail _ hq, hx, hG⟩
    · cases hq with
      | head =>
        obtain ⟨r, hr, h⟩ := insJ_ok (l := l) (tm0 := tm0) (pc0 := pc0) hp0 hm0 ⟨o, .head _, hx, hG⟩
        exact ⟨r, .tail _ hr, h⟩
      | tail _ hq =>
        cases hq with
        | head => exact ⟨x, .head _, hx, hG⟩
        | tail _ hq =>
          obtain ⟨r, hr, h⟩ := insJ_ok (l := l) (tm0 := tm0) (pc0 := pc0) hp0 hm0 ⟨q, .tail _ hq, hx, hG⟩
          exact ⟨r, .tail _ hr, h⟩
theorem joinR_ok {mk : Bool} {ρ : Env} {β : Bet} {lk : List Nat} {w w' : World} {vals : Nat → Option Value} {tm0 : Tr SV} {m0 : Mem} {pc0 : PC} {X : XE → Prop} (hp0 : PcH ρ pc0) (hm0 : MemRel ρ β m0 w) : ∀ {l : List Out},
    SomeG ρ β lk w w' vals X l → SomeG ρ β lk w w' vals X (joinR mk lk tm0 m0 pc0 l)
  | [], h => h
  | o :: l, ⟨q, hq, hx, hG⟩ => by
    refine insJ_ok hp0 hm0 ?_
    cases hq with
    | head => exact ⟨_, .head _, hx, hG⟩
    | tail _ hq =>
      obtain ⟨r, hr, h⟩ := joinR_ok (tm0 := tm0) (pc0 := pc0) hp0 hm0 (l := l) ⟨q, hq, hx, hG⟩
      exact ⟨r, .tail _ hr, h⟩
theorem joinL_ok {ρ : Env} {β : Bet} {lk : List Nat} {w w' : World} {vals : Nat → Option Value} {tm0 : Tr SV} {m0 : Mem} {pc0 : PC} {X : XE → Prop} (hp0 : PcH ρ pc0) (hm0 : MemRel ρ β m0 w) {l : List Out}
    {mk : Bool} (h : SomeG ρ β lk w w' vals X l) : SomeG ρ β lk w w' vals X (joinL mk lk tm0 m0 pc0 l) := by
  unfold joinL
  split
  · exact h
  · exact h
  · refine joinR_ok hp0 hm0 ?_
    obtain ⟨q, hq, hx, hG⟩ := h
    refine ⟨prepO mk lk tm0 m0 q, dedup_mem (List.mem_map_of_mem (List.mem_filter.2 ⟨hq, ?_⟩)), by unfold prepO; rw [canonO_ex, maskO_ex]; exact hx, canonO_ok hm0 (maskO_ok hG)⟩
    cases hd : deadPc q.st.pc
    · rfl
    · exact (deadPc_ok hd hG.1).elim
theorem fewL_ok {ρ : Env} {β : Bet} {lk : List Nat} {w w' : World} {vals : Nat → Option Value} {tm0 : Tr SV} {m0 : Mem} {X : XE → Prop} (hm0 : MemRel ρ β m0 w) {l : List Out}
    (h : SomeG ρ β lk w w' vals X l) : SomeG ρ β lk w w' vals X (fewL lk tm0 m0 l) := by
  unfold fewL
  split
  · exact h
  · exact h
  · obtain ⟨q, hq, hx, hG⟩ := h
    refine ⟨prepO false lk tm0 m0 q, dedup_mem (List.mem_map_of_mem (List.mem_filter.2 ⟨hq, ?_⟩)), by unfold prepO; rw [canonO_ex, maskO_ex]; exact hx, canonO_ok hm0 (maskO_ok hG)⟩
    cases hd : deadPc q.st.pc
    · rfl
    · exact (deadPc_ok hd hG.1).elim
theorem fewM_ok {ρ : Env} {β : Bet} {lk : List Nat} {w w' : World} {vals : Nat → Option Value} {tm0 : Tr SV} {m0 : Mem} {X : XE → Prop} (hm0 : MemRel ρ β m0 w) {l : List Out}
    (h : SomeG ρ β lk w w' vals X l) : SomeG ρ β lk w w' vals X (fewM lk tm0 m0 l) := by
  unfold fewM
  split
  · exact h
  · exact h
  · obtain ⟨q, hq, hx, hG⟩ := h
    refine ⟨prepO true lk tm0 m0 q, dedup_mem (List.mem_map_of_mem (List.mem_filter.2 ⟨hq, ?_⟩)), by unfold prepO; rw [canonO_ex, maskO_ex]; exact hx, canonO_ok hm0 (maskO_ok hG)⟩
    cases hd : deadPc q.st.pc
    · rfl
    · exact (deadPc_ok hd hG.1).elim
/-- what is stuck stays -/
theorem insJ_stuck {mk : Bool} {lk : List Nat} {tm0 : Tr SV} {m0 : Mem} {pc0 : PC} {o q : Out} {k : Nat} (hk : q.ex = .stuck k) : ∀ {l : List Out}, q ∈ o :: l → q ∈ insJ mk lk tm0 m0 pc0 o l
  | [], h => h
  | x :: l, h => by
    simp only [insJ]
    split
    · rename_i y hy
      have hns : notStuckX o.ex = true ∧ x.ex = o.ex := by
        unfold join2 at hy
        obtain ⟨h1, _⟩ := bif_some hy
        simp only [Bool.and_eq_true] at h1
        exact ⟨h1.1.1.2, (xeBeq_eq h1.1.1.1).symm⟩
      cases h with
      | head => rw [hk] at hns; cases hns.1
      | tail _ h =>
        cases h with
        | head => rw [hns.2] at hk; rw [hk] at hns; cases hns.1
        | tail _ h => exact .tail _ h
    · cases h with
      | head => exact .tail _ (insJ_stuck hk (.head _))
      | tail _ h =>
        cases h with
        | head => exact .head _
        | tail _ h => exact .tail _ (insJ_stuck hk (.tail _ h))
theorem joinR_stuck {mk : Bool} {lk : List Nat} {tm0 : Tr SV} {m0 : Mem} {pc0 : PC} {q : Out} {k : Nat} (hk : q.ex = .stuck k) : ∀ {l : List Out}, q ∈ l → q ∈ joinR mk lk tm0 m0 pc0 l
  | o :: l, h => by
    refine insJ_stuck hk ?_
    cases h with
    | head => exact .head _
    | tail _ h => exact .tail _ (joinR_stuck hk h)
theorem canonO_pc (lk : List Nat) (m0 : Mem) (o : Out) : (canonO lk m0 o).st.pc = o.st.pc := by
  unfold canonO
  cases Nat.beq o.st.mem.nx m0.nx
  · simp only [cond_false]
    cases okNew m0.nx o.st.mem.nx (newsAll m0.nx lk o.st.tm o.st.mem) <;> rfl
  · rfl
theorem joinL_stuck {ρ : Env} {mk : Bool} {lk : List Nat} {tm0 : Tr SV} {m0 : Mem} {pc0 : PC} {l : List Out} (h : NoStuck ρ (joinL mk lk tm0 m0 pc0 l)) : NoStuck ρ l := fun o ho k hk hp => by
  unfold joinL at h
  split at h
  · cases ho
  · exact h o ho k hk hp
  · have hm : prepO mk lk tm0 m0 o ∈ dedup (List.map (prepO mk lk tm0 m0) (List.filter (fun o => !(deadPc o.st.pc)) _)) := dedup_mem (List.mem_map_of_mem (List.mem_filter.2 ⟨ho, by
      cases hd : deadPc o.st.pc
      · rfl
      · exact (deadPc_ok hd hp).elim⟩))
    have he : (prepO mk lk tm0 m0 o).ex = .stuck k := by unfold prepO; rw [canonO_ex, maskO_ex]; exact hk
    exact h _ (joinR_stuck (k := k) he hm) k he (by unfold prepO; rw [canonO_pc, maskO_pc]; exact hp)
theorem fewL_stuck {ρ : Env} {lk : List Nat} {tm0 : Tr SV} {m0 : Mem} {l : List Out} (h : NoStuck ρ (fewL lk tm0 m0 l)) : NoStuck ρ l := fun o ho k hk hp => by
  unfold fewL at h
  split at h
  · cases ho
  · exact h o ho k hk hp
  · have hm : prepO false lk tm0 m0 o ∈ dedup (List.map (prepO false lk tm0 m0) (List.filter (fun o => !(deadPc o.st.pc)) _)) := dedup_mem (List.mem_map_of_mem (List.mem_filter.2 ⟨ho, by
      cases hd : deadPc o.st.pc
      · rfl
      · exact (deadPc_ok hd hp).elim⟩))
    have he : (prepO false lk tm0 m0 o).ex = .stuck k := by unfold prepO; rw [canonO_ex, maskO_ex]; exact hk
    exact h _ hm k he (by unfold prepO; rw [canonO_pc, maskO_pc]; exact hp)
theorem fewM_stuck {ρ : Env} {lk : List Nat} {tm0 : Tr SV} {m0 : Mem} {l : List Out} (h : NoStuck ρ (fewM lk tm0 m0 l)) : NoStuck ρ l := fun o ho k hk hp => by
  unfold fewM at h
  split at h
  · cases ho
  · exact h o ho k hk hp
  · have hm : prepO true lk tm0 m0 o ∈ dedup (List.map (prepO true lk tm0 m0) (List.filter (fun o => !(deadPc o.st.pc)) _)) := dedup_mem (List.mem_map_of_mem (List.mem_filter.2 ⟨ho, by
      cases hd : deadPc o.st.pc
      · rfl
      · exact (deadPc_ok hd hp).elim⟩))
    have he : (prepO true lk tm0 m0 o).ex = .stuck k := by unfold prepO; rw [canonO_ex, maskO_ex]; exact hk
    exact h _ hm k he (by unfold prepO; rw [canonO_pc, maskO_pc]; exact hp)
/-! ends of calls -/
def outOf (o : COut) : Out := match o.ex with
  | .ret v => ⟨.ret, ⟨Tr.put .nil 0 v, o.mem, o.pc, 0⟩⟩
  | .panic v => ⟨.exit 0, ⟨Tr.put .nil 0 v, o.mem, o.pc, 0⟩⟩
  | .stuck k => ⟨.stuck k, ⟨.nil, o.mem, o.pc, 0⟩⟩
def cOf (o : Out) : COut := match o.ex with
  | .ret => (match o.st.tm.get 0 with | some v => ⟨o.st.pc, o.st.mem, .ret v⟩ | none => ⟨o.st.pc, o.st.mem, .stuck 50⟩)
  | .exit _ => (match o.st.tm.get 0 with | some v => ⟨o.st.pc, o.st.mem, .panic v⟩ | none => ⟨o.st.pc, o.st.mem, .stuck 50⟩)
  | .stuck k => ⟨o.st.pc, o.st.mem, .stuck k⟩
  | .norm => ⟨o.st.pc, o.st.mem, .stuck 51⟩
def joinRets (lk : List Nat) (m0 : Mem) (pc0 : PC) (l : List COut) : List COut := match l with
  | [] => []
  | [o] => (joinR false lk .nil m0 pc0 [canonO lk m0 (outOf o)]).map cOf
  | l => (joinL false lk .nil m0 pc0 (l.map outOf)).map cOf
def NoStuckC (ρ : Env) (outs : List COut) : Prop := ∀ o ∈ outs, ∀ k, o.ex = .stuck k → ¬ PcH ρ o.pc
def EndR (ρ : Env) (β : Bet) : CEnd → Ending → Prop
  | .ret s, .returned v => s.rel ρ β v
  | .panic s, .panicked chain => ∃ v, s.rel ρ β v ∧ chain = [{ v, recovered := false }]
  | _, _ => False
def CPost (ρ : Env) (β : Bet) (lk : List Nat) (w : World) (outs : List COut) (e : Ending) (w' : World) : Prop :=
  ∃ o ∈ outs, PcH ρ o.pc ∧ ∃ β', Stp β lk w β' w' ∧ MemRel ρ β' o.mem w' ∧ EndR ρ β' o.ex e
theorem CPost.unlock {ρ : Env} {β : Bet} {lk lk' : List Nat} {w w' : World} {outs : List COut} {e : Ending} (h : CPost ρ β lk w outs e w') (hs : ∀ i ∈ lk', i ∈ lk) : CPost ρ β lk' w outs e w' :=
  let ⟨o, ho, hp, β', h1, h2⟩ := h; ⟨o, ho, hp, β', h1.unlock hs, h2⟩
def valsE : Ending → Nat → Option Value
  | .returned v, 0 => some v
  | .panicked (c :: _), 0 => some c.v
  | _, _ => none
def kindE : Ending → XE → Prop
  | .returned _, .ret => True
  | .panicked chain, .exit _ => ∃ v, chain = [{ v, recovered := false }]
  | _, _ => False
theorem put0_get {s : SV} {t : Nat} {z : SV} (h : (Tr.put .nil 0 s : Tr SV).get t = some z) : t = 0 ∧ z = s := by
  rw [Tr.get_put] at h
  split at h
  · cases h; exact ⟨by assumption, rfl⟩
  · simp [Tr.get] at h
theorem outOf_ok {ρ : Env} {β : Bet} {lk : List Nat} {w w' : World} {e : Ending} {o : COut} (hp : PcH ρ o.pc) {β' : Bet} (hs : Stp β lk w β' w') (hm : MemRel ρ β' o.mem w') (he : EndR ρ β' o.ex e) :
    kindE e (outOf o).ex ∧ EndG ρ β lk w w' (valsE e) (outOf o).st.tm (outOf o).st.mem (outOf o).st.pc := by
  obtain ⟨pc, mem, ex⟩ := o
  cases ex with
  | ret v =>
    cases e <;> simp only [EndR] at he
    refine ⟨trivial, hp, β', hs, fun t s hts => ?_, hm⟩
    obtain ⟨rfl, rfl⟩ := put0_get hts
    exact ⟨_, rfl, he⟩
  | panic v =>
    cases e <;> simp only [EndR] at he
    obtain ⟨u, hu, rfl⟩ := he
    refine ⟨⟨u, rfl⟩, hp, β', hs, fun t s hts => ?_, hm⟩
    obtain ⟨rfl, rfl⟩ := put0_get hts
    exact ⟨_, rfl, hu⟩
  | stuck k => cases e <;> simp only [EndR] at he
theorem cOf_ok {ρ : Env} {β : Bet} {lk : List Nat} {w w' : World} {e : Ending} {o : Out} (hx : kindE e o.ex) (h : EndG ρ β lk w w' (valsE e) o.st.tm o.st.mem o.st.pc) (hn : ∀ k, (cOf o).ex = .stuck k → ¬ PcH ρ (cOf o).pc) :
    PcH ρ (cOf o).pc ∧ ∃ β', Stp β lk w β' w' ∧ MemRel ρ β' (cOf o).mem w' ∧ EndR ρ β' (cOf o).ex e := by
  obtain ⟨ex, tm, mem, pc, fid⟩ := o
  obtain ⟨hp, β', hs, ht, hm⟩ := h
  simp only at hp hs ht hm
  cases e with
  | outgrown => cases ex <;> simp only [kindE] at hx
  | returned v =>
    cases ex <;> simp only [kindE] at hx
    simp only [cOf] at hn ⊢
    cases hg : tm.get 0 with
    | none => simp only [hg] at hn; exact (hn 50 rfl hp).elim
    | some s =>
      simp only
      obtain ⟨u, hu, r⟩ := ht 0 s hg
      simp only [valsE, Option.some.injEq] at hu
      subst hu
      exact ⟨hp, β', hs, hm, r⟩
  | panicked c =>
    cases ex <;> simp only [kindE] at hx
    obtain ⟨v, rfl⟩ := hx
    simp only [cOf] at hn ⊢
    cases hg : tm.get 0 with
    | none => simp only [hg] at hn; exact (hn 50 rfl hp).elim
    | some s =>
      simp only
      obtain ⟨u, hu, r⟩ := ht 0 s hg
      simp only [valsE, Option.some.injEq] at hu
      subst hu
      exact ⟨hp, β', hs, hm, _, r, rfl⟩
theorem joinRets_post {ρ : Env} {β : Bet} {lk : List Nat} {m0 : Mem} {pc0 : PC} {w w' : World} {l : List COut} {e : Ending} (hn : NoStuckC ρ (joinRets lk m0 pc0 l)) (hp : PcH ρ pc0) (hm0 : MemRel ρ β m0 w) (h : CPost ρ β lk w l e w') : CPost ρ β lk w (joinRets lk m0 pc0 l) e w' := by
  obtain ⟨o, ho, hpc, β', hs, hm, he⟩ := h
  obtain ⟨k1, k2⟩ := outOf_ok hpc hs hm he
  have fin : ∀ l' : List Out, SomeG ρ β lk w w' (valsE e) (kindE e) l' → NoStuckC ρ (l'.map cOf) → CPost ρ β lk w (l'.map cOf) e w' := by
    intro l' ⟨q, hq, hx, hG⟩ hn'
    obtain ⟨h1, h2⟩ := cOf_ok hx hG (hn' _ (List.mem_map_of_mem hq))
    exact ⟨cOf q, List.mem_map_of_mem hq, h1, h2⟩
  unfold joinRets at hn ⊢
  split
  · cases ho
  · simp only [List.mem_singleton] at ho
    subst ho
    refine fin _ (joinR_ok hp hm0 ⟨_, .head _, by rw [canonO_ex]; exact k1, canonO_ok hm0 k2⟩) ?_
    simpa using hn
  · rename_i h1 h2
    refine fin _ (joinL_ok hp hm0 ⟨_, List.mem_map_of_mem ho, k1, k2⟩) ?_
    split at hn
    · exact absurd rfl h1
    · exact absurd rfl (h2 _)
    · exact hn
theorem cOf_stuck {o : Out} {k : Nat} (h : o.ex = .stuck k) : (cOf o).ex = .stuck k ∧ (cOf o).pc = o.st.pc := by
  unfold cOf; rw [h]; exact ⟨rfl, rfl⟩
theorem outOf_stuck {o : COut} {k : Nat} (h : o.ex = .stuck k) : (outOf o).ex = .stuck k ∧ (outOf o).st.pc = o.pc := by
  unfold outOf; rw [h]; exact ⟨rfl, rfl⟩
theorem joinRets_stuck {ρ : Env} {lk : List Nat} {m0 : Mem} {pc0 : PC} {l : List COut} (h : NoStuckC ρ (joinRets lk m0 pc0 l)) : NoStuckC ρ l := by
  have fin : ∀ l' : List Out, NoStuckC ρ (l'.map cOf) → NoStuck ρ l' := fun l' hn o ho k hk hp => by
    obtain ⟨h1, h2⟩ := cOf_stuck hk
    exact hn _ (List.mem_map_of_mem ho) k h1 (by rw [h2]; exact hp)
  intro o ho k hk hp
  obtain ⟨h1, h2⟩ := outOf_stuck hk
  unfold joinRets at h
  split at h
  · cases ho
  · simp only [List.mem_singleton] at ho
    subst ho
    exact fin _ h _ (joinR_stuck (k := k) (by rw [canonO_ex]; exact h1) (.head _)) k (by rw [canonO_ex]; exact h1) (by rw [canonO_pc, h2]; exact hp)
  · exact joinL_stuck (fin _ h) _ (List.mem_map_of_mem ho) k h1 (by rw [h2]; exact hp)
end Go.SX
