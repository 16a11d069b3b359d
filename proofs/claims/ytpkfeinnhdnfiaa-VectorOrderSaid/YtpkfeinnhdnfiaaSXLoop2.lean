/- SX, part 10d: what a round changes: nothing; a block's row; a truth. -/
import Derived.Test.YtpkfeinnhdnfiaaSXLoop
namespace Go.SX
open Go

theorem kindL_get : ∀ {ks : List CK} {ss : List SV}, kindL ks ss = true → ∀ {f : Nat} {s : SV}, ss[f]? = some s → ∃ k, ks[f]? = some k ∧ kindOf k s = true
  | [], [], _, f, s, h => by simp at h
  | k :: ks, x :: ss, hk, f, s, h => by
    simp only [kindL, Bool.and_eq_true] at hk
    cases f with
    | zero => simp at h; subst h; exact ⟨k, rfl, hk.1⟩
    | succ f => simp at h; simpa using kindL_get hk.2 h
  | [], _ :: _, hk, _, _, _ => by cases hk
  | _ :: _, [], hk, _, _, _ => by cases hk
theorem kindOf_inst {k : CK} {s : SV} {g : Nat} {i : T} (h : kindOf k s = true) : kindOf k (instSV g i s) = true := by
  cases k <;> cases s <;> first | exact h | (cases h)
theorem baseRow_get (r : Nat) (i : T) : ∀ (ks : List CK) (n f : Nat) (s : SV), (baseRow r i ks n)[f]? = some s → ∃ k, ks[f]? = some k ∧ s = mkCell r i (n + f) k
  | [], _, _, _, h => by simp [baseRow] at h
  | k :: ks, n, 0, s, h => by simp [baseRow] at h; exact ⟨k, rfl, h.symm⟩
  | k :: ks, n, f + 1, s, h => by
    simp [baseRow] at h
    obtain ⟨k', hk', e⟩ := baseRow_get r i ks (n + 1) f s h
    exact ⟨k', by simpa using hk', by rw [e]; congr 1; omega⟩
/-- a cell of a base row: a template's, or an unknown one -/
theorem base_get {A : SArr} {i : T} {f : Nat} {s : SV} (h : (A.base i)[f]? = some s) :
    (∃ x, (f, x) ∈ A.gen ∧ s = instSV A.gk i x ∧ ∀ i' : T, (A.base i')[f]? = some (instSV A.gk i' x)) ∨ ∃ k, A.ks[f]? = some k ∧ s = mkCell A.r i f k ∧ ∀ i' : T, (A.base i')[f]? = some (mkCell A.r i' f k) := by
  unfold SArr.base at h ⊢
  have key : ∀ (g : List (Nat × SV)), (setAll (instG A.gk i g) (baseRow A.r i A.ks 0))[f]? = some s →
      (∃ x, (f, x) ∈ g ∧ s = instSV A.gk i x ∧ ∀ i' : T, (setAll (instG A.gk i' g) (baseRow A.r i' A.ks 0))[f]? = some (instSV A.gk i' x)) ∨
      ∃ k, A.ks[f]? = some k ∧ s = mkCell A.r i f k ∧ ∀ i' : T, (setAll (instG A.gk i' g) (baseRow A.r i' A.ks 0))[f]? = some (mkCell A.r i' f k) := by
    intro g
    induction g with
    | nil =>
      intro h
      simp only [instG, setAll] at h ⊢
      obtain ⟨k, hk, e⟩ := baseRow_get A.r i A.ks 0 f s h
      refine .inr ⟨k, hk, by simpa using e, fun i' => ?_⟩
      have hlt : f < (baseRow A.r i' A.ks 0).length := by rw [baseRow_length]; exact (List.getElem?_eq_some_iff.1 hk).1
      obtain ⟨k', hk', e'⟩ := baseRow_get A.r i' A.ks 0 f _ (List.getElem?_eq_getElem hlt)
      rw [hk] at hk'; cases hk'
      rw [List.getElem?_eq_getElem hlt, e']; simp
    | cons p g ih =>
      obtain ⟨f0, x⟩ := p
      intro h
      simp only [instG, setAll, List.getElem?_set] at h ⊢
      by_cases e : f0 = f
      · subst e
        simp only [if_true] at h ⊢
        split at h
        · rename_i hlt
          cases h
          refine .inl ⟨x, by simp, rfl, fun i' => ?_⟩
          rw [setAll_length, baseRow_length] at hlt ⊢
          rw [if_pos hlt]
        · cases h
      · rw [if_neg e] at h
        rcases ih h with ⟨y, hy, h1, h2⟩ | ⟨k, hk, h1, h2⟩
        · exact .inl ⟨y, by simp [hy], h1, fun i' => by rw [if_neg e]; exact h2 i'⟩
        · exact .inr ⟨k, hk, h1, fun i' => by rw [if_neg e]; exact h2 i'⟩
  exact key A.gen h
theorem kindG_mem {ks : List CK} : ∀ {g : List (Nat × SV)}, kindG ks g = true → ∀ {f : Nat} {x : SV}, (f, x) ∈ g → ∀ {k : CK}, ks[f]? = some k → kindOf k x = true
  | (f0, x0) :: g, h, f, x, hm, k, hk => by
    simp only [kindG, Bool.and_eq_true] at h
    cases hm with
    | head => have := h.1; rw [hk] at this; exact this
    | tail _ hm => exact kindG_mem h.2 hm hk
theorem kind_base {A : SArr} (h : kindG A.ks A.gen = true) {i : T} {f : Nat} {s : SV} (hs : (A.base i)[f]? = some s) : ∃ k, A.ks[f]? = some k ∧ kindOf k s = true := by
  have hlt : f < A.ks.length := by have := (List.getElem?_eq_some_iff.1 hs).1; rwa [SArr.base_length] at this
  have hk : A.ks[f]? = some A.ks[f] := List.getElem?_eq_getElem hlt
  refine ⟨_, hk, ?_⟩
  rcases base_get hs with ⟨x, hx, rfl, _⟩ | ⟨k, hk', rfl, _⟩
  · exact kindOf_inst (kindG_mem h hx hk)
  · rw [hk] at hk'; cases hk'
    cases A.ks[f] <;> simp [mkCell, kindOf]
theorem kind_at {ρ : Env} {A : SArr} (h : kindA A = true) {j f : Nat} {s : SV} (hs : (A.at ρ j)[f]? = some s) : ∃ k, A.ks[f]? = some k ∧ kindOf k s = true := by
  unfold kindA at h
  rw [Bool.and_eq_true] at h
  unfold SArr.at at hs
  split at hs
  · rename_i t cs hA
    split at hs
    · have h2 := h.2; rw [hA] at h2; exact kindL_get h2 hs
    · exact kind_base h.1 hs
  · exact kind_base h.1 hs
theorem at_length {ρ : Env} {A : SArr} (hks : A.ks.length = A.stride) (hrow : ∀ t cs, A.row = some (t, cs) → cs.length = A.stride) (j : Nat) : (A.at ρ j).length = A.stride := by
  unfold SArr.at
  split
  · rename_i t cs hA
    split
    · exact hrow t cs hA
    · rw [SArr.base_length, hks]
  · rw [SArr.base_length, hks]

/-! what mentions nothing of the number -/
theorem frGen_mem {k q : Nat} : ∀ {g : List (Nat × SV)}, frGen k q g = true → ∀ {f : Nat} {x : SV}, (f, x) ∈ g → frSV k q x = true
  | (_, _) :: g, h, f, x, hm => by
    simp only [frGen, Bool.and_eq_true] at h
    cases hm with
    | head => exact h.1
    | tail _ hm => exact frGen_mem h.2 hm
theorem genOk_mem {k : Nat} : ∀ {g : List (Nat × SV)}, genOk k g = true → ∀ {f : Nat} {x : SV}, (f, x) ∈ g → okSV k x = true
  | (_, _) :: g, h, f, x, hm => by
    simp only [genOk, Bool.and_eq_true] at h
    cases hm with
    | head => exact h.1
    | tail _ hm => exact genOk_mem h.2 hm
theorem frL_get {k q : Nat} : ∀ {ss : List SV}, frL k q ss = true → ∀ {f : Nat} {s : SV}, ss[f]? = some s → frSV k q s = true
  | x :: ss, h, f, s, hs => by
    simp only [frL, Bool.and_eq_true] at h
    cases f with
    | zero => simp at hs; subst hs; exact h.1
    | succ f => simp at hs; exact frL_get h.2 hs
theorem mkCell_fr {k q r : Nat} {ρ σ : Env} {β : Bet} (g : Agree k q ρ σ) (hr : r ≠ q) {i : Int} {f : Nat} {c : CK} {v : Value} (h : (mkCell r (.lit i) f c).rel ρ β v) : (mkCell r (.lit i) f c).rel σ β v := by
  cases c
  · simp only [mkCell, SV.rel, B.ev, T.ev] at h ⊢; rw [← g.bc r hr]; exact h
  · simp only [mkCell, SV.rel, T.ev] at h ⊢; rw [← g.c r hr]; exact h
theorem base_fr {k q : Nat} {ρ σ : Env} {β : Bet} (g : Agree k q ρ σ) {A : SArr} (hg : genOk A.gk A.gen = true) (hr : A.r ≠ q) (hf : (bif Nat.beq A.gk k then frGen noN q A.gen else frGen k q A.gen) = true) {j : Int} {f : Nat} {s : SV} {v : Value}
    (hs : (A.base (.lit j))[f]? = some s) (h : s.rel ρ β v) : s.rel σ β v := by
  rcases base_get hs with ⟨x, hx, rfl, _⟩ | ⟨c, _, rfl, _⟩
  · have hok := genOk_mem hg hx
    rw [instSV_rel hok] at h ⊢
    simp only [T.ev] at h ⊢
    cases hb : Nat.beq A.gk k
    · rw [hb] at hf; exact frSV_rel (g.at A.gk j) x v (frGen_mem hf hx) h
    · rw [hb] at hf
      have := Nat.eq_of_beq_eq_true hb
      rw [this] at h ⊢
      exact frSV_rel (g.at_self noN j) x v (frGen_mem hf hx) h
  · exact mkCell_fr g hr h
theorem at_fr {k q : Nat} {ρ σ : Env} {A : SArr} (g : Agree k q ρ σ) (hf : frObj k q (.arr A) = true) (j : Nat) : A.at σ j = A.at ρ j := by
  simp only [frObj, Bool.and_eq_true] at hf
  unfold SArr.at
  split
  · rename_i t cs hA
    have := hf.1.2
    rw [hA] at this
    simp only [Bool.and_eq_true] at this
    rw [frT_ev this.1 g]
  · rfl
theorem at_fr_rel {k q : Nat} {ρ σ : Env} {β : Bet} {A : SArr} (g : Agree k q ρ σ) (hg : genOk A.gk A.gen = true) (hf : frObj k q (.arr A) = true) {j f : Nat} {s : SV} {v : Value} (hs : (A.at ρ j)[f]? = some s) (h : s.rel ρ β v) : s.rel σ β v := by
  simp only [frObj, Bool.and_eq_true] at hf
  have hr := neB_ok hf.1.1.1
  unfold SArr.at at hs
  split at hs
  · rename_i t cs hA
    have h2 := hf.1.2
    rw [hA] at h2
    simp only [Bool.and_eq_true] at h2
    split at hs
    · exact frSV_rel g s v (frL_get h2.2 hs) h
    · exact base_fr g hg hr hf.2 hs h
  · exact base_fr g hg hr hf.2 hs h
theorem objRel_fr {k q : Nat} {ρ σ : Env} {β : Bet} {e : Blk} {w : World} {o : SObj} (g : Agree k q ρ σ) (hf : frObj k q o = true) (h : objRel ρ β e w o) : objRel σ β e w o := by
  cases o with
  | cells wr cs =>
    obtain ⟨h0, h1, h2, arr, el, fr, h3, h4, h5⟩ := h
    exact ⟨h0, h1, h2, arr, el, fr, h3, h4, frL_rel g _ _ hf h5⟩
  | buf el sz cs =>
    obtain ⟨h0, h1, h2, arr, h3, h4, vs, rest, h5, h6⟩ := h
    exact ⟨h0, h1, h2, arr, h3, h4, vs, rest, h5, frL_rel g _ _ hf h6⟩
  | arr A =>
    obtain ⟨h0, h1, h2, h2', h2a, h2b, arr, el, fr, h3, h4, h5⟩ := h
    have hl : frT k q A.len = true := by simp only [frObj, Bool.and_eq_true] at hf; exact hf.1.1.2
    refine ⟨h0, h1, h2, h2', by rw [← frT_ev hl g]; exact h2a, h2b, arr, el, fr, h3, h4, fun j hj f sv hs => ?_⟩
    rw [at_fr g hf] at hs
    obtain ⟨v, hv, r⟩ := h5 j hj f sv hs
    exact ⟨v, hv, at_fr_rel g h2b.1 hf hs r⟩
theorem frMem_get {k : Nat} {m : Mem} : ∀ {n : Nat}, frMem k m n = true → ∀ id, id < n → ∀ o, m.tr.get id = some o → frObj k (qNum k) o = true
  | 0, _, id, h, _, _ => by omega
  | n + 1, hf, id, h, o, ho => by
    simp only [frMem, Bool.and_eq_true] at hf
    rcases Nat.lt_succ_iff_lt_or_eq.1 h with h | rfl
    · exact frMem_get hf.2 id h o ho
    · have := hf.1; rw [ho] at this; exact this
theorem MemRel.id_lt {ρ : Env} {β : Bet} {m : Mem} {w : World} (h : MemRel ρ β m w) {id : Nat} {o : SObj} (ho : m.tr.get id = some o) : id < m.nx := by
  obtain ⟨e, he, _⟩ := h.obj id o ho
  rw [h.nx]; exact (List.getElem?_eq_some_iff.1 he).1
theorem MemRel.fr {k : Nat} {ρ σ : Env} {β : Bet} {m : Mem} {w : World} (g : Agree k (qNum k) ρ σ) (hf : frMem k m m.nx = true) (h : MemRel ρ β m w) : MemRel σ β m w :=
  ⟨h.nx, fun id o ho => let ⟨e, he, r⟩ := h.obj id o ho; ⟨e, he, objRel_fr g (frMem_get hf id (h.id_lt ho) o ho) r⟩, h.lt, h.apart, h.dom⟩
/-- one block, behind a step that left it as it was told -/
theorem obj_back {k : Nat} {ρ σ : Env} {β γ : Bet} {e : Blk} {w w' : World} {o : SObj} (g : Agree k (qNum k) ρ σ) (hf : frObj k (qNum k) o = true) (h0 : objRel ρ β e w o) (h : objRel σ (β ++ γ) e w' o) : objRel ρ β e w' o :=
  objRel_down h0 (objRel_fr g.symm hf h)
theorem MemRel.keep {ρ : Env} {β β' : Bet} {lk : List Nat} {m0 : Mem} {w w' : World} (h : MemRel ρ β m0 w) (hs : Stp β lk w β' w') (hall : ∀ id, id < m0.nx → id ∈ lk) : MemRel ρ β m0 w' := by
  refine ⟨h.nx, fun id o ho => ?_, fun e he => Nat.lt_of_lt_of_le (h.lt e he) hs.size, h.apart, h.dom⟩
  obtain ⟨e, he, r⟩ := h.obj id o ho
  exact ⟨e, he, objRel_heap r (hs.lock id (hall id (h.id_lt ho)) e he)⟩
theorem contB_ok {ρ : Env} {pc0 : PC} : ∀ {l : List Out} {o : Out}, o ∈ l → PcH ρ o.st.pc → (contB pc0 l).ev ρ = true
  | x :: l, o, h, hp => by
    simp only [contB, mkOr_ev, Bool.or_eq_true]
    cases h with
    | head => exact .inl (by rw [conjS_ev]; exact conj_ev (factsOf_ok hp))
    | tail _ h => exact .inr (contB_ok h hp)
theorem contB_no {ρ : Env} {pc0 : PC} {f : PC} (hf : PcH ρ f) : ∀ {l : List Out}, (l.all fun n => excl f (factsOf pc0 n.st.pc)) = true → (contB pc0 l).ev ρ = false
  | [], _ => rfl
  | x :: l, h => by
    simp only [List.all_cons, Bool.and_eq_true] at h
    simp only [contB, mkOr_ev, conjS_ev, contB_no hf h.2, Bool.or_false]
    cases hc : (conj (factsOf pc0 x.st.pc)).ev ρ
    · rfl
    · exact (excl_ok h.1 hf (conj_pc hc)).elim
theorem joinP_mem {k : Nat} {md : Mod} {memK : Mem} {pc0 : PC} : ∀ {l : List Out} {r : List SV} {fs : List PC}, joinP k md memK pc0 l = some (r, fs) → ∀ o ∈ l, ∃ p, payload k md memK o = some p ∧ factsOf pc0 o.st.pc ∈ fs
  | [], _, _, h => by simp [joinP] at h
  | [o], r, fs, h => by
    simp only [joinP] at h
    split at h
    · rename_i p hp
      cases h
      intro x hx; simp at hx; subst hx; exact ⟨_, hp, by simp⟩
    · cases h
  | o :: o' :: os, r, fs, h => by
    simp only [joinP] at h
    split at h
    · rename_i p r' fs' hp hj
      obtain ⟨h1, h2⟩ := bif_some h
      split at h2
      · rename_i u hu
        cases h2
        intro x hx
        cases hx with
        | head => exact ⟨p, hp, .head _⟩
        | tail _ hx => obtain ⟨y, hy, hm⟩ := joinP_mem hj x hx; exact ⟨y, hy, .tail _ hm⟩
      · cases h2
    · cases h
theorem joinP_rel {σ : Env} {β : Bet} {k : Nat} {md : Mod} {memK : Mem} {pc0 : PC} : ∀ {l : List Out} {r : List SV} {fs : List PC}, joinP k md memK pc0 l = some (r, fs) → ∀ o ∈ l, PcH σ o.st.pc → ∀ p, payload k md memK o = some p →
    p.length = r.length ∧ ∀ (f : Nat) (z : SV), r[f]? = some z → ∃ x, p[f]? = some x ∧ ∀ v, x.rel σ β v → z.rel σ β v
  | [], _, _, h => by simp [joinP] at h
  | [o], r, fs, h => by
    simp only [joinP] at h
    split at h
    · rename_i p hp
      cases h
      intro x hx _ p' hp'
      simp at hx; subst hx
      rw [hp] at hp'; cases hp'
      exact ⟨rfl, fun f z hz => ⟨z, hz, fun _ h => h⟩⟩
    · cases h
  | o :: o' :: os, r, fs, h => by
    simp only [joinP] at h
    split at h
    · rename_i p r' fs' hp hj
      obtain ⟨h1, h2⟩ := bif_some h
      split at h2
      · rename_i u hu
        cases h2
        obtain ⟨l1, l2, l3⟩ := iteL_get hu
        intro x hx hpc p' hp'
        cases hx with
        | head =>
          rw [hp] at hp'; cases hp'
          have hc := conj_ev (factsOf_ok (pc0 := pc0) hpc)
          refine ⟨l1.symm, fun f z hz => ?_⟩
          obtain ⟨a, b, ha, _, hi⟩ := l3 f z hz
          exact ⟨a, ha, fun v r => iteSV_rel hi (by rw [hc]; exact r)⟩
        | tail _ hx =>
          obtain ⟨k1, k2⟩ := joinP_rel (σ := σ) (β := β) hj x hx hpc p' hp'
          obtain ⟨_, _, hm⟩ := joinP_mem hj x hx
          have hc : (conj (factsOf pc0 o.st.pc)).ev σ = false := by
            cases hc : (conj (factsOf pc0 o.st.pc)).ev σ
            · rfl
            · exact (excl_ok (List.all_eq_true.1 h1 _ hm) (conj_pc hc) (factsOf_ok hpc)).elim
          refine ⟨k1.trans l2.symm, fun f z hz => ?_⟩
          obtain ⟨a, b, _, hb, hi⟩ := l3 f z hz
          obtain ⟨y, hy, hr⟩ := k2 f b hb
          exact ⟨y, hy, fun v r => iteSV_rel hi (by rw [hc]; exact hr v r)⟩
      · cases h2
    · cases h

/-- nothing is changed -/
def semNone {ρ : Env} {β : Bet} {lk : List Nat} {k : Nat} {mem0 : Mem} {outs : List Out} {c : B} {M : Nat} (hf : frMem k mem0 mem0.nx = true)
    (hc : ∀ (σ : Env) (o : Out), o ∈ outs → isNorm o = true → PcH σ o.st.pc → c.ev σ = true) (hall : ∀ id, id < mem0.nx → id ∈ lk) : LoopSem ρ β lk k mem0 mem0 mem0 .none outs c M where
  σ j _ := ρ.at k j
  At _ w := MemRel ρ β mem0 w
  agree j _ := Env.at_agree ρ k _ j
  var j _ := by simp [Env.at]
  over j w h := h.fr (Env.at_agree ρ k _ j) hf
  next j w w' β' o h hs ho hn hp hm := h.keep hs hall
  stay j w w' β' m h hs hsame hm := h.keep hs hall
  fin w h := h
  cont j w o ho hn hp := hc _ o ho hn hp
  back _ _ _ h := h
end Go.SX
