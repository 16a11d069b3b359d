/- SX, part 6: composite literals. -/
import Derived.Test.YtpkfeinnhdnfiaaSXPure2
namespace Go.SX
open Go

def cellsX : SV → List SV
  | .agg cs => cs
  | v => [v]
theorem cellsX_ok {ρ : Env} {β : Bet} {s : SV} {v : Value} (h : s.rel ρ β v) : relL ρ β (cellsX s) v.cells.toList := by
  cases s
  case agg cs => obtain ⟨l, hl, rfl⟩ := h; simpa [cellsX, Value.cells] using hl
  case raw u =>
    have h' := h
    obtain ⟨rfl, h1⟩ := h
    cases v <;> first | exact ⟨_, [], rfl, h', rfl⟩ | cases h1
  all_goals
    have h' := h
    simp only [SV.rel] at h
    first
      | (subst h; exact ⟨_, [], rfl, h', rfl⟩)
      | (obtain ⟨rfl, _⟩ := h; exact ⟨_, [], rfl, h', rfl⟩)
      | (obtain ⟨_, _, _, _, rfl⟩ := h; exact ⟨_, [], rfl, h', rfl⟩)
      | (obtain ⟨_, _, _, _, _, _, _, _, _, rfl⟩ := h; exact ⟨_, [], rfl, h', rfl⟩)
      | (obtain ⟨_, _, rfl⟩ := h; exact ⟨_, [], rfl, h', rfl⟩)

theorem fold_set : ∀ (l : List Value) (k off : Nat) (arr : Array Value), off + k + l.length ≤ arr.size →
    ((l.zipIdx k).foldl (fun cs (x : Value × Nat) => cs.setIfInBounds (off + x.2) x.1) arr).size = arr.size ∧
    ∀ i : Nat, ((l.zipIdx k).foldl (fun cs (x : Value × Nat) => cs.setIfInBounds (off + x.2) x.1) arr)[i]? = if off + k ≤ i ∧ i < off + k + l.length then l[i - (off + k)]? else arr[i]?
  | [], k, off, arr, _ => ⟨rfl, fun i => by rw [if_neg (by simp)]; rfl⟩
  | v :: l, k, off, arr, h => by
    obtain ⟨h1, h2⟩ := fold_set l (k + 1) off (arr.setIfInBounds (off + k) v) (by simp at h ⊢; omega)
    simp only [List.zipIdx_cons, List.foldl_cons]
    refine ⟨by rw [h1]; simp, fun i => ?_⟩
    rw [h2 i]
    simp only [List.length_cons] at h ⊢
    by_cases e : i = off + k
    · subst e
      rw [if_neg (by omega), if_pos (by omega), Array.getElem?_setIfInBounds_self_of_lt (by omega)]
      simp
    · rw [Array.getElem?_setIfInBounds_ne (by omega)]
      by_cases c : off + (k + 1) ≤ i ∧ i < off + (k + 1) + l.length
      · rw [if_pos c, if_pos (by omega)]
        rw [show i - (off + k) = (i - (off + (k + 1))) + 1 by omega]
        simp
      · rw [if_neg c, if_neg (by omega)]
def fillX (place : Nat → Option (Nat × Nat)) (cells : List SV) : List (Nat × SV) → Option (List SV)
  | [] => some cells
  | (i, v) :: rest => (match place i with
    | none => none
    | some (off, size) => bif Nat.beq (cellsX v).length size then (match writeL cells off (cellsX v) with
      | some cells' => fillX place cells' rest
      | none => none) else none)
inductive PartsRel (ρ : Env) (β : Bet) : List (Nat × SV) → List (Nat × Value) → Prop
  | nil : PartsRel ρ β [] []
  | cons {i : Nat} {s : SV} {v : Value} {ss : List (Nat × SV)} {vs : List (Nat × Value)} (h : s.rel ρ β v) (hs : PartsRel ρ β ss vs) : PartsRel ρ β ((i, s) :: ss) ((i, v) :: vs)
theorem fillX_ok {ρ : Env} {β : Bet} {place : Nat → Option (Nat × Nat)} : ∀ {ps : List (Nat × SV)} {qs : List (Nat × Value)} {cells cells' : List SV} {arr : Array Value}, PartsRel ρ β ps qs → relL ρ β cells arr.toList →
    fillX place cells ps = some cells' → ∃ arr', Instr.fill place arr qs = some arr' ∧ relL ρ β cells' arr'.toList
  | _, _, cells, cells', arr, .nil, hr, h => by cases h; exact ⟨arr, rfl, hr⟩
  | _, _, cells, cells', arr, .cons (i := i) (s := s) (v := v) hv hs, hr, h => by
    simp only [fillX] at h
    split at h
    · cases h
    · rename_i off size hp
      cases hb : Nat.beq (cellsX s).length size
      · rw [hb] at h; cases h
      · rw [hb] at h
        simp only [cond_true] at h
        split at h
        · rename_i cells1 hw
          have hsz := Nat.eq_of_beq_eq_true hb
          have hc := cellsX_ok hv
          have hcl := relL_length hc
          have hal := relL_length hr
          obtain ⟨hw1, hw2⟩ := writeL_length hw
          have hvs : v.cells.size = size := by simpa [hsz] using hcl
          obtain ⟨f1, f2⟩ := fold_set v.cells.toList 0 off arr (by simp at hcl hal ⊢; omega)
          have hr' : relL ρ β cells1 ((v.cells.toList.zipIdx 0).foldl (fun cs (x : Value × Nat) => cs.setIfInBounds (off + x.2) x.1) arr).toList := by
            refine relL_of_get (by simp at f1 hal ⊢; rw [f1]; omega) fun k s' hk => ?_
            rw [writeL_get hw k] at hk
            have := f2 k
            rw [Array.getElem?_toList, this]
            simp only [Nat.add_zero]
            rw [hcl]
            split at hk
            · rename_i c; rw [if_pos c]; exact relL_get hc hk
            · rename_i c; rw [if_neg c, ← Array.getElem?_toList]; exact relL_get hr hk
          obtain ⟨arr', e1, e2⟩ := fillX_ok hs hr' h
          refine ⟨arr', ?_, e2⟩
          simp only [Instr.fill, hp]
          rw [if_neg (by simp at hcl hal ⊢; omega), ← e1]
          congr 1
          rw [← Array.foldl_toList, Array.toList_zipIdx]
        · cases h
end Go.SX
