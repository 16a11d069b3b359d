/- SX, part 10d: what a round changes: nothing; a block's row; a truth. -/
import Derived.Test.YtemmnagphjaigaaSXF
import Derived.ChangeKeysEq
namespace Go.SX
open Go

theorem kindL_get : ∀ {ks : List CK} {ss : List SV}, kindL ks ss = true → ∀ {f : Nat} {s : SV}, ss[f]? = some s → ∃ k, ks[f]? = some k ∧ kindOf k s = true
  | [], [], _, f, s, h => by simp at h
  | k :: ks, x :: ss, hk, f, s, h => by
    simp only [kindL, Bool.and_eq_true] at hk
    cases f with
    | zero => simp at h; subst h; exact ⟨k, rfl, hk.1⟩
    | succ f => simp at h; simpa using kindL_get hk.2 h
  | [], _ :: _, hk, _, _, _ => by cases hk
  | _ :: _, [], hk, _, _, _ => by cases hk
theorem kindOf_inst {k : CK} {s : SV} {g : Nat} {i : T} (h : kindOf k s = true) : kindOf k (instSV g i s) = true := by
  cases k <;> cases s <;> first | exact h | (cases h)
theorem baseRow_get (r : Nat) (i : T) : ∀ (ks : List CK) (n f : Nat) (s : SV), (baseRow r i ks n)[f]? = some s → ∃ k, ks[f]? = some k ∧ s = mkCell r i (n + f) k
  | [], _, _, _, h => by simp [baseRow] at h
  | k :: ks, n, 0, s, h => by simp [baseRow] at h; exact ⟨k, rfl, h.symm⟩
  | k :: ks, n, f + 1, s, h => by
    simp [baseRow] at h
    obtain ⟨k', hk', e⟩ := baseRow_get r i ks (n + 1) f s h
    exact ⟨k', by simpa using hk', by rw [e]; congr 1; omega⟩
/-- a cell of a base row: a template's, or an unknown one -/
theorem base_get {A : SArr} {i : T} {f : Nat} {s : SV} (h : (A.base i)[f]? = some s) :
    (∃ x, (f, x) ∈ A.gen ∧ s = instSV A.gk i x ∧ ∀ i' : T, (A.base i')[f]? = some (instSV A.gk i' x)) ∨ ∃ k, A.ks[f]? = some k ∧ s = mkCell A.r i f k ∧ ∀ i' : T, (A.base i')[f]? = some (mkCell A.r i' f k) := by
  unfold SArr.base at h ⊢
  have key : ∀ (g : List (Nat × SV)), (setAll (instG A.gk i g) (baseRow A.r i A.ks 0))[f]? = some s →
      (∃ x, (f, x) ∈ g ∧ s = instSV A.gk i x ∧ ∀ i' : T, (setAll (instG A.gk i' g) (baseRow A.r i' A.ks 0))[f]? = some (instSV A.gk i' x)) ∨
      ∃ k, A.ks[f]? = some k ∧ s = mkCell A.r i f k ∧ ∀ i' : T, (setAll (instG A.gk i' g) (baseRow A.r i' A.ks 0))[f]? = some (mkCell A.r i' f k) := by
    intro g
    induction g with
    | nil =>
      intro h
      simp only [instG, setAll] at h ⊢
      obtain ⟨k, hk, e⟩ := baseRow_get A.r i A.ks 0 f s h
      refine .inr ⟨k, hk, by simpa using e, fun i' => ?_⟩
      have hlt : f < (baseRow A.r i' A.ks 0).length := by rw [baseRow_length]; exact (List.getElem?_eq_some_iff.1 hk).1
      obtain ⟨k', hk', e'⟩ := baseRow_get A.r i' A.ks 0 f _ (List.getElem?_eq_getElem hlt)
      rw [hk] at hk'; cases hk'
      rw [List.getElem?_eq_getElem hlt, e']; simp
    | cons p g ih =>
      obtain ⟨f0, x⟩ := p
      intro h
      simp only [instG, setAll, List.getElem?_set] at h ⊢
      by_cases e : f0 = f
      · subst e
        simp only [if_true] at h ⊢
        split at h
        · rename_i hlt
          cases h
          refine .inl ⟨x, by simp, rfl, fun i' => ?_⟩
          rw [setAll_length, baseRow_length] at hlt ⊢
          rw [if_pos hlt]
        · cases h
      · rw [if_neg e] at h
        rcases ih h with ⟨y, hy, h1, h2⟩ | ⟨k, hk, h1, h2⟩
        · exact .inl ⟨y, by simp [hy], h1, fun i' => by rw [if_neg e]; exact h2 i'⟩
        · exact .inr ⟨k, hk, h1, fun i' => by rw [if_neg e]; exact h2 i'⟩
  exact key A.gen h
theorem kindG_mem {ks : List CK} : ∀ {g : List (Nat × SV)}, kindG ks g = true → ∀ {f : Nat} {x : SV}, (f, x) ∈ g → ∀ {k : CK}, ks[f]? = some k → kindOf k x = true
  | (f0, x0) :: g, h, f, x, hm, k, hk => by
    simp only [kindG, Bool.and_eq_true] at h
    cases hm with
    | head => have := h.1; rw [hk] at this; exact this
    | tail _ hm => exact kindG_mem h.2 hm hk
theorem kind_base {A : SArr} (h : kindG A.ks A.gen = true) {i : T} {f : Nat} {s : SV} (hs : (A.base i)[f]? = some s) : ∃ k, A.ks[f]? = some k ∧ kindOf k s = true := by
  have hlt : f < A.ks.length := by have := (List.getElem?_eq_some_iff.1 hs).1; rwa [SArr.base_length] at this
  have hk : A.ks[f]? = some A.ks[f] := List.getElem?_eq_getElem hlt
  refine ⟨_, hk, ?_⟩
  rcases base_get hs with ⟨x, hx, rfl, _⟩ | ⟨k, hk', rfl, _⟩
  · exact kindOf_inst (kindG_mem h hx hk)
  · rw [hk] at hk'; cases hk'
    cases A.ks[f] <;> simp [mkCell, kindOf]
theorem kind_at {ρ : Env} {A : SArr} (h : kindA A = true) {j f : Nat} {s : SV} (hs : (A.at ρ j)[f]? = some s) : ∃ k, A.ks[f]? = some k ∧ kindOf k s = true := by
  unfold kindA at h
  rw [Bool.and_eq_true] at h
  unfold SArr.at at hs
  split at hs
  · rename_i t cs hA
    split at hs
    · have h2 := h.2; rw [hA] at h2; exact kindL_get h2 hs
    · exact kind_base h.1 hs
  · exact kind_base h.1 hs
theorem at_length {ρ : Env} {A : SArr} (hks : A.ks.length = A.stride) (hrow : ∀ t cs, A.row = some (t, cs) → cs.length = A.stride) (j : Nat) : (A.at ρ j).length = A.stride := by
  unfold SArr.at
  split
  · rename_i t cs hA
    split
    · exact hrow t cs hA
    · rw [SArr.base_length, hks]
  · rw [SArr.base_length, hks]

/-! what mentions nothing of the number -/
theorem frGen_mem {k q : Nat} : ∀ {g : List (Nat × SV)}, frGen k q g = true → ∀ {f : Nat} {x : SV}, (f, x) ∈ g → frSV k q x = true
  | (_, _) :: g, h, f, x, hm => by
    simp only [frGen, Bool.and_eq_true] at h
    cases hm with
    | head => exact h.1
    | tail _ hm => exact frGen_mem h.2 hm
theorem genOk_mem {k : Nat} : ∀ {g : List (Nat × SV)}, genOk k g = true → ∀ {f : Nat} {x : SV}, (f, x) ∈ g → okSV k x = true
  | (_, _) :: g, h, f, x, hm => by
    simp only [genOk, Bool.and_eq_true] at h
    cases hm with
    | head => exact h.1
    | tail _ hm => exact genOk_mem h.2 hm
theorem frL_get {k q : Nat} : ∀ {ss : List SV}, frL k q ss = true → ∀ {f : Nat} {s : SV}, ss[f]? = some s → frSV k q s = true
  | x :: ss, h, f, s, hs => by
    simp only [frL, Bool.and_eq_true] at h
    cases f with
    | zero => simp at hs; subst hs; exact h.1
    | succ f => simp at hs; exact frL_get h.2 hs
theorem mkCell_fr {k q r : Nat} {ρ σ : Env} {β : Bet} (g : Agree k q ρ σ) (hr : r ≠ q) {i : Int} {f : Nat} {c : CK} {v : Value} (h : (mkCell r (.lit i) f c).rel ρ β v) : (mkCell r (.lit i) f c).rel σ β v := by
  cases c
  · simp only [mkCell, SV.rel, B.ev, T.ev] at h ⊢; rw [← g.bc r hr]; exact h
  · simp only [mkCell, SV.rel, T.ev] at h ⊢; rw [← g.c r hr]; exact h
  · exact h
theorem base_fr {k q : Nat} {ρ σ : Env} {β : Bet} (g : Agree k q ρ σ) {A : SArr} (hg : genOk A.gk A.gen = true) (hr : A.r ≠ q) (hf : (bif Nat.beq A.gk k then frGen noN q A.gen else frGen k q A.gen) = true) {j : Int} {f : Nat} {s : SV} {v : Value}
    (hs : (A.base (.lit j))[f]? = some s) (h : s.rel ρ β v) : s.rel σ β v := by
  rcases base_get hs with ⟨x, hx, rfl, _⟩ | ⟨c, _, rfl, _⟩
  · have hok := genOk_mem hg hx
    rw [instSV_rel hok] at h ⊢
    simp only [T.ev] at h ⊢
    cases hb : Nat.beq A.gk k
    · rw [hb] at hf; exact frSV_rel (g.at A.gk j) x v (frGen_mem hf hx) h
    · rw [hb] at hf
      have := Nat.eq_of_beq_eq_true hb
      rw [this] at h ⊢
      exact frSV_rel (g.at_self noN j) x v (frGen_mem hf hx) h
  · exact mkCell_fr g hr h
theorem at_fr {k q : Nat} {ρ σ : Env} {A : SArr} (g : Agree k q ρ σ) (hf : frObj k q (.arr A) = true) (j : Nat) : A.at σ j = A.at ρ j := by
  simp only [frObj, Bool.and_eq_true] at hf
  unfold SArr.at
  split
  · rename_i t cs hA
    have := hf.1.2
    rw [hA] at this
    simp only [Bool.and_eq_true] at this
    rw [frT_ev this.1 g]
  · rfl
theorem at_fr_rel {k q : Nat} {ρ σ : Env} {β : Bet} {A : SArr} (g : Agree k q ρ σ) (hg : genOk A.gk A.gen = true) (hf : frObj k q (.arr A) = true) {j f : Nat} {s : SV} {v : Value} (hs : (A.at ρ j)[f]? = some s) (h : s.rel ρ β v) : s.rel σ β v := by
  simp only [frObj, Bool.and_eq_true] at hf
  have hr := neB_ok hf.1.1.1
  unfold SArr.at at hs
  split at hs
  · rename_i t cs hA
    have h2 := hf.1.2
    rw [hA] at h2
    simp only [Bool.and_eq_true] at h2
    split at hs
    · exact frSV_rel g s v (frL_get h2.2 hs) h
    · exact base_fr g hg hr hf.2 hs h
  · exact base_fr g hg hr hf.2 hs h
theorem objRel_fr {k q : Nat} {ρ σ : Env} {β : Bet} {e : Blk} {w : World} {o : SObj} (g : Agree k q ρ σ) (hf : frObj k q o = true) (h : objRel ρ β e w o) : objRel σ β e w o := by
  cases o with
  | cells wr cs =>
    obtain ⟨h0, h1, h2, arr, el, fr, h3, h4, h5⟩ := h
    exact ⟨h0, h1, h2, arr, el, fr, h3, h4, frL_rel g _ _ hf h5⟩
  | buf el sz cs =>
    obtain ⟨h0, h1, h2, arr, h3, h4, vs, rest, h5, h6⟩ := h
    exact ⟨h0, h1, h2, arr, h3, h4, vs, rest, h5, frL_rel g _ _ hf h6⟩
  | mp k es =>
    obtain ⟨h0, h1, h2, arr, h3, h4⟩ := h
    exact ⟨h0, h1, h2, arr, h3, mpRel_imp' (fun p hp v q => frSV_rel g _ _ (List.all_eq_true.1 hf p hp) q) h4⟩
  | mq ks vs =>
    obtain ⟨h0, h1, h2, arr, h3, h4, h5, h6⟩ := h
    exact ⟨h0, h1, h2, arr, h3, h4, h5, frL_rel g _ _ hf h6⟩
  | glob g cs => exact h
  | rop el cs r o len =>
    simp only [frObj, Bool.and_eq_true] at hf
    obtain ⟨h0, h1, h2, arr, h3, h4, vs, bs, rest, h5, h6, h7, h8⟩ := h
    exact ⟨h0, h1, h2, arr, h3, h4, vs, bs, rest, h5, frL_rel g _ _ hf.1.1 h6, by rw [← frT_ev hf.2 g]; exact h7, fun j v hv => by rw [← g.c _ (neB_ok hf.1.2)]; exact h8 j v hv⟩
  | pre cs =>
    obtain ⟨h0, h1, h2, arr, el, fr, h3, vs, rest, h5, h6⟩ := h
    exact ⟨h0, h1, h2, arr, el, fr, h3, vs, rest, h5, frL_rel g _ _ hf h6⟩
  | it mid n seen last => exact h
  | arr A =>
    obtain ⟨h0, h1, h2, h2', h2a, h2b, arr, el, fr, h3, h4, h5⟩ := h
    have hl : frT k q A.len = true := by simp only [frObj, Bool.and_eq_true] at hf; exact hf.1.1.2
    refine ⟨h0, h1, h2, h2', by rw [← frT_ev hl g]; exact h2a, h2b, arr, el, fr, h3, h4, fun j hj f sv hs => ?_⟩
    rw [at_fr g hf] at hs
    obtain ⟨v, hv, r⟩ := h5 j hj f sv hs
    exact ⟨v, hv, at_fr_rel g h2b.1 hf hs r⟩
theorem frMem_get {k : Nat} {m : Mem} : ∀ {n : Nat}, frMem k m n = true → ∀ id, id < n → ∀ o, m.tr.get id = some o → frObj k (qNum k) o = true
  | 0, _, id, h, _, _ => by omega
  | n + 1, hf, id, h, o, ho => by
    simp only [frMem, Bool.and_eq_true] at hf
    rcases Nat.lt_succ_iff_lt_or_eq.1 h with h | rfl
    · exact frMem_get hf.2 id h o ho
    · have := hf.1; rw [ho] at this; exact this
theorem MemRel.id_lt {ρ : Env} {β : Bet} {m : Mem} {w : World} (h : MemRel ρ β m w) {id : Nat} {o : SObj} (ho : m.tr.get id = some o) : id < m.nx := by
  obtain ⟨e, he, _⟩ := h.obj id o ho
  rw [h.nx]; exact (List.getElem?_eq_some_iff.1 he).1
theorem MemRel.fr {k : Nat} {ρ σ : Env} {β : Bet} {m : Mem} {w : World} (g : Agree k (qNum k) ρ σ) (hf : frMem k m m.nx = true) (h : MemRel ρ β m w) : MemRel σ β m w :=
  ⟨h.nx, fun id o ho => let ⟨e, he, r⟩ := h.obj id o ho; ⟨e, he, objRel_fr g (frMem_get hf id (h.id_lt ho) o ho) r⟩, h.lt, h.apart, h.dom⟩
/-- one block, behind a step that left it as it was told -/
theorem obj_back {k : Nat} {ρ σ : Env} {β γ : Bet} {e : Blk} {w w' : World} {o : SObj} (g : Agree k (qNum k) ρ σ) (hf : frObj k (qNum k) o = true) (h0 : objRel ρ β e w o) (h : objRel σ (β ++ γ) e w' o) : objRel ρ β e w' o :=
  objRel_down h0 (objRel_fr g.symm hf h)
theorem MemRel.keep {ρ : Env} {β β' : Bet} {lk : List Nat} {m0 : Mem} {w w' : World} (h : MemRel ρ β m0 w) (hs : Stp β lk w β' w') (hall : ∀ id, id < m0.nx → id ∈ lk) : MemRel ρ β m0 w' := by
  refine ⟨h.nx, fun id o ho => ?_, fun e he => Nat.lt_of_lt_of_le (h.lt e he) hs.size, h.apart, h.dom⟩
  obtain ⟨e, he, r⟩ := h.obj id o ho
  exact ⟨e, he, objRel_heap r (hs.lock id (hall id (h.id_lt ho)) e he)⟩
theorem contB_ok {ρ : Env} {pc0 : PC} : ∀ {l : List Out} {o : Out}, o ∈ l → PcH ρ o.st.pc → (contB pc0 l).ev ρ = true
  | x :: l, o, h, hp => by
    simp only [contB, mkOr_ev, Bool.or_eq_true]
    cases h with
    | head => exact .inl (by rw [conjS_ev]; exact conj_ev (factsOf_ok hp))
    | tail _ h => exact .inr (contB_ok h hp)
theorem contB_no {ρ : Env} {pc0 : PC} {f : PC} (hf : PcH ρ f) : ∀ {l : List Out}, (l.all fun n => excl f (factsOf pc0 n.st.pc)) = true → (contB pc0 l).ev ρ = false
  | [], _ => rfl
  | x :: l, h => by
    simp only [List.all_cons, Bool.and_eq_true] at h
    simp only [contB, mkOr_ev, conjS_ev, contB_no hf h.2, Bool.or_false]
    cases hc : (conj (factsOf pc0 x.st.pc)).ev ρ
    · rfl
    · exact (excl_ok h.1 hf (conj_pc hc)).elim
theorem joinP_mem {k : Nat} {md : Mod} {memK : Mem} {pc0 : PC} : ∀ {l : List Out} {r : List SV} {fs : List PC}, joinP k md memK pc0 l = some (r, fs) → ∀ o ∈ l, ∃ p, payload k md memK o = some p ∧ factsOf pc0 o.st.pc ∈ fs
  | [], _, _, h => by simp [joinP] at h
  | [o], r, fs, h => by
    simp only [joinP] at h
    split at h
    · rename_i p hp
      cases h
      intro x hx; simp at hx; subst hx; exact ⟨_, hp, by simp⟩
    · cases h
  | o :: o' :: os, r, fs, h => by
    simp only [joinP] at h
    split at h
    · rename_i p r' fs' hp hj
      obtain ⟨h1, h2⟩ := bif_some h
      split at h2
      · rename_i u hu
        cases h2
        intro x hx
        cases hx with
        | head => exact ⟨p, hp, .head _⟩
        | tail _ hx => obtain ⟨y, hy, hm⟩ := joinP_mem hj x hx; exact ⟨y, hy, .tail _ hm⟩
      · cases h2
    · cases h
theorem joinP_rel {σ : Env} {β : Bet} {k : Nat} {md : Mod} {memK : Mem} {pc0 : PC} : ∀ {l : List Out} {r : List SV} {fs : List PC}, joinP k md memK pc0 l = some (r, fs) → ∀ o ∈ l, PcH σ o.st.pc → ∀ p, payload k md memK o = some p →
    p.length = r.length ∧ ∀ (f : Nat) (z : SV), r[f]? = some z → ∃ x, p[f]? = some x ∧ ∀ v, x.rel σ β v → z.rel σ β v
  | [], _, _, h => by simp [joinP] at h
  | [o], r, fs, h => by
    simp only [joinP] at h
    split at h
    · rename_i p hp
      cases h
      intro x hx _ p' hp'
      simp at hx; subst hx
      rw [hp] at hp'; cases hp'
      exact ⟨rfl, fun f z hz => ⟨z, hz, fun _ h => h⟩⟩
    · cases h
  | o :: o' :: os, r, fs, h => by
    simp only [joinP] at h
    split at h
    · rename_i p r' fs' hp hj
      obtain ⟨h1, h2⟩ := bif_some h
      split at h2
      · rename_i u hu
        cases h2
        obtain ⟨l1, l2, l3⟩ := iteL_get hu
        intro x hx hpc p' hp'
        cases hx with
        | head =>
          rw [hp] at hp'; cases hp'
          have hc := conj_ev (factsOf_ok (pc0 := pc0) hpc)
          refine ⟨l1.symm, fun f z hz => ?_⟩
          obtain ⟨a, b, ha, _, hi⟩ := l3 f z hz
          exact ⟨a, ha, fun v r => iteSV_rel hi (by rw [hc]; exact r)⟩
        | tail _ hx =>
          obtain ⟨k1, k2⟩ := joinP_rel (σ := σ) (β := β) hj x hx hpc p' hp'
          obtain ⟨_, _, hm⟩ := joinP_mem hj x hx
          have hc : (conj (factsOf pc0 o.st.pc)).ev σ = false := by
            cases hc : (conj (factsOf pc0 o.st.pc)).ev σ
            · rfl
            · exact (excl_ok (List.all_eq_true.1 h1 _ hm) (conj_pc hc) (factsOf_ok hpc)).elim
          refine ⟨k1.trans l2.symm, fun f z hz => ?_⟩
          obtain ⟨a, b, _, hb, hi⟩ := l3 f z hz
          obtain ⟨y, hy, hr⟩ := k2 f b hb
          exact ⟨y, hy, fun v r => iteSV_rel hi (by rw [hc]; exact hr v r)⟩
      · cases h2
    · cases h

/-- nothing is changed -/
def semNone {ρ : Env} {β : Bet} {lk : List Nat} {k : Nat} {mem0 : Mem} {outs : List Out} {c : B} {M : Nat} (hf : frMem k mem0 mem0.nx = true)
    (hc : ∀ (σ : Env) (o : Out), o ∈ outs → isNorm o = true → PcH σ o.st.pc → c.ev σ = true) (hall : ∀ id, id < mem0.nx → id ∈ lk) : LoopSem ρ β lk k mem0 mem0 mem0 .none outs c M where
  σ j _ := ρ.at k j
  At _ w := MemRel ρ β mem0 w
  agree j _ := Env.at_agree ρ k _ j
  var j _ := by simp [Env.at]
  over j w h := h.fr (Env.at_agree ρ k _ j) hf
  next j w w' β' o h hs ho hn hp hm := h.keep hs hall
  stay j w w' β' m h hs hsame hm := h.keep hs hall
  fin w h := h
  cont j w o ho hn hp := hc _ o ho hn hp
  back _ _ _ h := h
end Go.SX

namespace Go.SX
open Go

theorem genFrom_get {r k : Nat} : ∀ {g : List SV} {ks : List CK} {n : Nat}, ∀ {f : Nat} {x : SV}, (f, x) ∈ genFrom r k g ks n → n ≤ f ∧ g[f - n]? = some x
  | [], _, _, f, x, h => by simp [genFrom] at h
  | _ :: _, [], _, f, x, h => by simp [genFrom] at h
  | s :: ss, q :: ks, n, f, x, h => by
    simp only [genFrom] at h
    cases hb : SV.beq s (mkCell r (.var k) n q)
    · rw [hb] at h
      simp only [cond_false, List.mem_cons, Prod.mk.injEq] at h
      rcases h with ⟨rfl, rfl⟩ | h
      · simp
      · obtain ⟨h1, h2⟩ := genFrom_get h
        refine ⟨by omega, ?_⟩
        rw [show f - n = (f - (n + 1)) + 1 by omega]; simpa using h2
    · rw [hb] at h
      obtain ⟨h1, h2⟩ := genFrom_get (by simpa using h)
      refine ⟨by omega, ?_⟩
      rw [show f - n = (f - (n + 1)) + 1 by omega]; simpa using h2
theorem genFrom_none {r k : Nat} : ∀ {g : List SV} {ks : List CK} {n : Nat}, ∀ {f : Nat} {s : SV} {c : CK}, g[f]? = some s → ks[f]? = some c → (∀ x, (n + f, x) ∉ genFrom r k g ks n) → s = mkCell r (.var k) (n + f) c
  | [], _, _, f, s, c, h, _, _ => by simp at h
  | _ :: _, [], _, f, s, c, _, h, _ => by simp at h
  | s0 :: ss, q :: ks, n, f, s, c, hs, hc, hn => by
    simp only [genFrom] at hn
    cases hb : SV.beq s0 (mkCell r (.var k) n q)
    · rw [hb] at hn
      cases f with
      | zero => simp at hs hc; exact (hn s0 (by simp)).elim
      | succ f =>
        simp at hs hc
        have := genFrom_none hs hc (n := n + 1) (fun x hx => hn x (by simp only [cond_false, List.mem_cons]; exact .inr (by rw [show n + (f + 1) = n + 1 + f by omega]; exact hx)))
        rw [this]; congr 1; omega
    · rw [hb] at hn
      cases f with
      | zero => simp at hs hc; subst hs; subst hc; exact SV.beq_eq hb
      | succ f =>
        simp at hs hc
        have := genFrom_none hs hc (n := n + 1) (fun x hx => hn x (by simp only [cond_true]; rw [show n + (f + 1) = n + 1 + f by omega]; exact hx))
        rw [this]; congr 1; omega
theorem genFrom_uniq {r k : Nat} : ∀ {g : List SV} {ks : List CK} {n f : Nat} {x y : SV}, (f, x) ∈ genFrom r k g ks n → (f, y) ∈ genFrom r k g ks n → x = y := by
  intro g ks n f x y hx hy
  have h1 := (genFrom_get hx).2
  have h2 := (genFrom_get hy).2
  rw [h1] at h2; cases h2; rfl
/-- a base row's cell of a block whose template is made so -/
theorem base_gen {D : SArr} {i : T} {f : Nat} {s : SV} (h : (D.base i)[f]? = some s) : (∃ x, (f, x) ∈ D.gen ∧ s = instSV D.gk i x) ∨ ((∀ x, (f, x) ∉ D.gen) ∧ ∃ c, D.ks[f]? = some c ∧ s = mkCell D.r i f c) := by
  unfold SArr.base at h
  have key : ∀ (g : List (Nat × SV)), (setAll (instG D.gk i g) (baseRow D.r i D.ks 0))[f]? = some s →
      (∃ x, (f, x) ∈ g ∧ s = instSV D.gk i x) ∨ ((∀ x, (f, x) ∉ g) ∧ ∃ c, D.ks[f]? = some c ∧ s = mkCell D.r i f c) := by
    intro g
    induction g with
    | nil =>
      intro h
      simp only [instG, setAll] at h
      obtain ⟨c, hc, e⟩ := baseRow_get D.r i D.ks 0 f s h
      exact .inr ⟨by simp, c, hc, by simpa using e⟩
    | cons p g ih =>
      obtain ⟨f0, x⟩ := p
      intro h
      simp only [instG, setAll, List.getElem?_set] at h
      by_cases e : f0 = f
      · subst e
        simp only [if_true] at h
        split at h
        · cases h; exact .inl ⟨x, by simp, rfl⟩
        · cases h
      · rw [if_neg e] at h
        rcases ih h with ⟨y, hy, h1⟩ | ⟨h1, h2⟩
        · exact .inl ⟨y, by simp [hy], h1⟩
        · exact .inr ⟨fun y hy => (by
            rcases List.mem_cons.1 hy with hy | hy
            · simp only [Prod.mk.injEq] at hy; exact e hy.1.symm
            · exact h1 y hy), h2⟩
  exact key D.gen h
theorem mapped_row {k : Nat} {A D : SArr} {l : List SV} (hmap : mapped k A l = some D) (hlen' : ∀ f, f < A.ks.length → f < l.length) (hfA : frObj k (qNum k) (.arr A) = true) (hgA : genOk A.gk A.gen = true) {ρ σ : Env} {β : Bet} {j : Nat}
    (g : Agree k (qNum k) ρ σ) (hv : σ.v k = j) (hb : σ.bv (qNum k) = false)
    (hold : ∀ (f : Nat) (s : SV), (A.at ρ j)[f]? = some s → ∃ v, s.rel ρ β v ∧ iOf v = σ.c (qNum k) j f ∧ bOf v = σ.bc (qNum k) j f) :
    ∀ (f : Nat) (s : SV), (D.at ρ j)[f]? = some s → ∃ x, l[f]? = some x ∧ ∀ v, x.rel σ β v → s.rel ρ β v := by
  unfold mapped at hmap
  split at hmap
  · cases hmap
  · rename_i gl hgl
    cases hok : genOk k (genFrom A.r k gl A.ks 0)
    · simp [hok] at hmap
    simp only [hok, Bool.not_true, cond_false] at hmap
    -- what is in place of the rows' cells is what they are
    have sub : ∀ (rc : List SV) (τ : Env) (t : T), Agree k (qNum k) τ σ → t.ev τ = j → (∀ (f : Nat) (s : SV), rc[f]? = some s → ∃ v, s.rel τ β v ∧ iOf v = σ.c (qNum k) j f ∧ bOf v = σ.bc (qNum k) j f) →
        SubR ⟨k, qNum k, t, tiL rc, biL rc, .lit false⟩ τ σ := by
      intro rc τ t ha ht hr
      refine ⟨ha, by rw [hv, ht], fun f x hx => ?_, fun f x hx => ?_, hb⟩
      · simp only [tiL] at hx
        split at hx
        · rename_i q t' hs
          cases hx
          obtain ⟨v, r, h1, _⟩ := hr f _ hs
          rw [hv, ← h1, r.1]; rfl
        · cases hx
      · simp only [biL] at hx
        split at hx
        · rename_i b' hs
          cases hx
          obtain ⟨v, r, _, h2⟩ := hr f _ hs
          rw [hv, ← h2, show v = .bool _ from r]; rfl
        · cases hx
    have hag2 : Agree k (qNum k) (ρ.at k j) σ := (Env.at_agree ρ k _ j).symm.trans g
    -- the base row
    have hbase : (∀ t cs, A.row = some (t, cs) → t.ev ρ ≠ j) → ∀ (gn : List (Nat × SV)), gn = genFrom A.r k gl A.ks 0 → ∀ (f : Nat) (s : SV), (SArr.base { A with gk := k, gen := gn } (.lit j))[f]? = some s → ∃ x, l[f]? = some x ∧ ∀ v, x.rel σ β v → s.rel ρ β v := by
      intro hno gn hgn f s hs
      have hAt : A.at ρ j = A.base (.lit j) := by
        unfold SArr.at
        split
        · rename_i t cs hA
          rw [if_neg (hno t cs hA)]
        · rfl
      have hS := sub (A.base (.var k)) (ρ.at k j) (.var k) hag2 (by simp [T.ev, Env.at]) (fun f s hs => by
        have hfA' := hfA
        simp only [frObj, Bool.and_eq_true] at hfA'
        rcases base_get hs with ⟨x, hx, rfl, hall⟩ | ⟨c, hc, rfl, hall⟩
        · obtain ⟨v, r, h1, h2⟩ := hold f _ (by rw [hAt]; exact hall (.lit j))
          have hokx := genOk_mem hgA hx
          refine ⟨v, ?_, h1, h2⟩
          rw [instSV_rel hokx] at r ⊢
          simp only [T.ev] at r ⊢
          have e : (ρ.at k (j : Int)).v k = j := by simp [Env.at]
          rw [e]
          cases hq : Nat.beq A.gk k
          · have hx' := frGen_mem (by have := hfA'.2; rw [hq] at this; exact this) hx
            exact frSV_rel ((Env.at_agree ρ k (qNum k) j).at A.gk j) x v hx' r
          · have hx' := Nat.eq_of_beq_eq_true hq
            rw [hx'] at r ⊢
            have : (ρ.at k (j : Int)).at k j = ρ.at k j := by
              unfold Env.at; congr 1; funext n; by_cases hn : n = k <;> simp [hn]
            rw [this]; exact r
        · obtain ⟨v, r, h1, h2⟩ := hold f _ (by rw [hAt]; exact hall (.lit j))
          refine ⟨v, ?_, h1, h2⟩
          cases c
          · simp only [mkCell, SV.rel, B.ev, T.ev] at r ⊢
            rw [r]; simp [Env.at]
          · simp only [mkCell, SV.rel, T.ev] at r ⊢
            rw [r.1]; simpa [Env.at] using r.2
          · exact r)
      obtain ⟨hgl1, hgl2⟩ := subL_get hgl
      rcases base_gen hs with ⟨x, hx, rfl⟩ | ⟨hn, c, hc, rfl⟩
      · simp only at hx
        rw [hgn] at hx
        obtain ⟨_, hx'⟩ := genFrom_get hx
        obtain ⟨y, hy, hyx⟩ := hgl2 f x (by simpa using hx')
        refine ⟨y, hy, fun v r => ?_⟩
        have hokx := genOk_mem hok hx
        simp only
        rw [instSV_rel hokx]
        exact subSV_rel hS hyx r
      · simp only at hn hc
        have hlt : f < l.length := hlen' f (List.getElem?_eq_some_iff.1 hc).1
        obtain ⟨s', hs'⟩ : ∃ s', gl[f]? = some s' := ⟨_, List.getElem?_eq_getElem (by omega)⟩
        obtain ⟨y, hy, hyx⟩ := hgl2 f s' hs'
        have he := genFrom_none hs' hc (n := 0) (fun x hx => hn x (by rw [hgn]; simpa using hx))
        rw [Nat.zero_add] at he
        refine ⟨y, hy, fun v r => ?_⟩
        have := subSV_rel hS hyx r
        rw [he] at this
        cases c
        · simp only [mkCell, SV.rel, B.ev, T.ev] at this ⊢
          rw [this]; simp [Env.at]
        · simp only [mkCell, SV.rel, T.ev] at this ⊢
          rw [this.1]; simpa [Env.at] using this.2
        · exact this
    split at hmap
    · rename_i hA
      cases hmap
      intro f s hs
      have : SArr.at { A with gk := k, gen := genFrom A.r k gl A.ks 0 } ρ j = SArr.base { A with gk := k, gen := genFrom A.r k gl A.ks 0 } (.lit j) := by
        unfold SArr.at; simp only [hA]
      rw [this] at hs
      exact hbase (fun t cs h => by rw [hA] at h; cases h) _ rfl f s hs
    · rename_i t rc hA
      split at hmap
      · rename_i rc' hrc'
        cases hmap
        intro f s hs
        simp only [SArr.at] at hs
        by_cases ht : t.ev ρ = j
        · rw [if_pos ht] at hs
          have hAt : A.at ρ j = rc := by unfold SArr.at; simp only [hA]; rw [if_pos ht]
          have hS := sub rc ρ t g ht (fun f s hs => hold f s (by rw [hAt]; exact hs))
          obtain ⟨x, hx, hxs⟩ := (subL_get hrc').2 f s hs
          exact ⟨x, hx, fun v r => subSV_rel hS hxs r⟩
        · rw [if_neg ht] at hs
          exact hbase (fun t' cs' h => by rw [hA] at h; cases h; exact ht) _ rfl f s hs
      · cases hmap

/-- rows below j as D says, the others as A does -/
def mapRel (ρ : Env) (β : Bet) (e : Blk) (A D : SArr) (w : World) (j : Nat) : Prop := ∃ arr el fr, w.heap[e.blk]? = some (.cells arr el fr) ∧ (e.ro = false → fr = (0, 0)) ∧
  ∀ i, i < e.cnt → ∀ (f : Nat) (s : SV), ((if i < j then D else A).at ρ i)[f]? = some s → ∃ v, arr[e.base + i * e.stride + f]? = some v ∧ s.rel ρ β v
structure MapCtx (ρ : Env) (β : Bet) (k : Nat) (mem0 memK memF : Mem) (W : Nat) (A D : SArr) (e : Blk) (len : T) : Prop where
  get : mem0.tr.get W = some (.arr A)
  blk : β[W]? = some e
  nx : mem0.nx = β.length
  apart : ∀ (i j : Nat) (e e' : Blk), β[i]? = some e → β[j]? = some e' → i ≠ j → e.blk = e'.blk → e.ro = true ∧ e'.ro = true
  dom : ∀ id, mem0.nx ≤ id → mem0.tr.get id = none
  inb : ∀ id o, mem0.tr.get id = some o → id < mem0.nx
  memK : memK = mem0.set W (.arr (A.fresh k))
  memF : memF = mem0.set W (.arr D)
  fr : frMem k mem0 mem0.nx = true
  wr : A.wr = true → e.ro = false
  stride : e.stride = A.stride
  pos : 0 < A.stride
  ks : A.ks.length = A.stride
  cnt : A.len.ev ρ = e.cnt
  len : T.beq A.len len = true
  okA : genOk A.gk A.gen = true
  rowA : ∀ t cs, A.row = some (t, cs) → cs.length = A.stride
  kindA : kindA A = true
  kindD : Go.SX.kindA D = true
  dWr : D.wr = A.wr
  dStride : D.stride = A.stride
  dKs : D.ks = A.ks
  dLen : D.len = A.len
  dOk : genOk D.gk D.gen = true
  dRow : ∀ t cs, D.row = some (t, cs) → cs.length = A.stride
structure MapAt (ρ : Env) (β : Bet) (mem0 : Mem) (W : Nat) (A D : SArr) (e : Blk) (j : Nat) (w : World) : Prop where
  lt : ∀ x ∈ β, x.blk < w.heap.size
  other : ∀ id o, id ≠ W → mem0.tr.get id = some o → ∃ x, β[id]? = some x ∧ objRel ρ β x w o
  rows : mapRel ρ β e A D w j
def mapEnv (ρ : Env) (k : Nat) (e : Blk) (j : Nat) (w : World) : Env :=
  ρ.snap k (qNum k) j (fun i f => iOf ((w.cell? ⟨e.blk, e.base + i.toNat * e.stride + f, none⟩).getD undef)) (fun i f => bOf ((w.cell? ⟨e.blk, e.base + i.toNat * e.stride + f, none⟩).getD undef)) false
theorem MapCtx.len_at {ρ : Env} {β : Bet} {k : Nat} {mem0 memK memF : Mem} {W : Nat} {A D : SArr} {e : Blk} {len : T} (h : MapCtx ρ β k mem0 memK memF W A D e len) (i j : Nat) : ((if i < j then D else A).at ρ i).length = A.stride := by
  split
  · rw [← h.dStride]; exact at_length (by rw [h.dKs, h.dStride, h.ks]) (by rw [h.dStride]; exact h.dRow) i
  · exact at_length h.ks h.rowA i
/-- a cell of the block: of its kind, and what the environment says -/
theorem MapCtx.cell {ρ : Env} {β : Bet} {k : Nat} {mem0 memK memF : Mem} {W : Nat} {A D : SArr} {e : Blk} {len : T} (h : MapCtx ρ β k mem0 memK memF W A D e len) {j : Nat} {w : World} (hr : mapRel ρ β e A D w j) {i : Nat} (hi : i < e.cnt) {f : Nat} {c : CK}
    (hc : A.ks[f]? = some c) : ∃ s v, ((if i < j then D else A).at ρ i)[f]? = some s ∧ w.cell? ⟨e.blk, e.base + i * e.stride + f, none⟩ = some v ∧ s.rel ρ β v ∧
      ∀ (σ : Env) (γ : Bet) (v' : Value), σ.c (qNum k) i f = iOf v → σ.bc (qNum k) i f = bOf v → ((mkCell (qNum k) (.lit i) f c).rel σ γ v' ↔ v' = v) := by
  obtain ⟨arr, el, fr, hh, _, hrr⟩ := hr
  have hlt : f < ((if i < j then D else A).at ρ i).length := by rw [h.len_at, ← h.ks]; exact (List.getElem?_eq_some_iff.1 hc).1
  obtain ⟨v, hv, r⟩ := hrr i hi f _ (List.getElem?_eq_getElem hlt)
  refine ⟨_, v, List.getElem?_eq_getElem hlt, by rw [cell?_heap hh]; exact hv, r, fun σ γ v' h1 h2 => ?_⟩
  have hk : ∃ c', A.ks[f]? = some c' ∧ kindOf c' (((if i < j then D else A).at ρ i)[f]) = true := by
    by_cases hij : i < j
    · simp only [if_pos hij] at hlt ⊢
      have := kind_at (ρ := ρ) h.kindD (j := i) (List.getElem?_eq_getElem hlt)
      rwa [h.dKs] at this
    · simp only [if_neg hij] at hlt ⊢
      exact kind_at (ρ := ρ) h.kindA (j := i) (List.getElem?_eq_getElem hlt)
  obtain ⟨c', hc', hkk⟩ := hk
  rw [hc] at hc'; cases hc'
  generalize ((if i < j then D else A).at ρ i)[f] = s at r hkk
  cases c with
  | b =>
    cases s <;> simp only [kindOf, Bool.false_eq_true] at hkk
    simp only [mkCell, SV.rel, B.ev, T.ev]
    rw [h2, show v = .bool _ from r]; rfl
  | i q =>
    cases s <;> simp only [kindOf, Bool.false_eq_true] at hkk
    simp only [mkCell, SV.rel, T.ev]
    rw [h1, r.1, kindNo_inj hkk]
    constructor
    · exact fun h => h.1
    · exact fun h => ⟨h, r.2⟩
  | s =>
    cases s <;> simp only [kindOf, Bool.false_eq_true] at hkk
    simp only [mkCell, SV.rel]
    rw [show v = .slice none 0 0 from r]
theorem MapCtx.envc {ρ : Env} {k : Nat} {e : Blk} {j : Nat} {w : World} {i f : Nat} {v : Value} (hv : w.cell? ⟨e.blk, e.base + i * e.stride + f, none⟩ = some v) :
    (mapEnv ρ k e j w).c (qNum k) i f = iOf v ∧ (mapEnv ρ k e j w).bc (qNum k) i f = bOf v := by
  simp [mapEnv, Env.snap, hv]
theorem MapCtx.over {ρ : Env} {β : Bet} {k : Nat} {mem0 memK memF : Mem} {W : Nat} {A D : SArr} {e : Blk} {len : T} (h : MapCtx ρ β k mem0 memK memF W A D e len) {j : Nat} {w : World} (ha : MapAt ρ β mem0 W A D e j w) :
    MemRel (mapEnv ρ k e j w) β memK w := by
  have g : Agree k (qNum k) ρ (mapEnv ρ k e j w) := Env.snap_agree _ _ _ _ _ _ _
  have hW : W < mem0.nx := h.inb W _ h.get
  have hfA := frMem_get h.fr W hW _ h.get
  rw [h.memK]
  refine ⟨h.nx, fun id o ho => ?_, ha.lt, h.apart, fun id hid => ?_⟩
  · simp only [Mem.set, Tr.get_put] at ho
    by_cases e1 : id = W
    · rw [if_pos e1] at ho
      cases ho
      rw [e1]
      refine ⟨e, h.blk, h.wr, h.stride, h.pos, h.ks, ?_, ⟨rfl, fun t cs hr => by cases hr⟩, ?_⟩
      · rw [← frT_ev (by simp only [frObj, Bool.and_eq_true] at hfA; exact hfA.1.1.2) g]; exact h.cnt
      · have hrows := ha.rows
        obtain ⟨arr, el, fr, hh, hfr, hrr⟩ := ha.rows
        refine ⟨arr, el, fr, hh, hfr, fun i hi f s hs => ?_⟩
        simp only [SArr.at, SArr.fresh] at hs
        obtain ⟨c, hc, rfl⟩ := baseRow_get (qNum k) (.lit i) A.ks 0 f s (by simpa [SArr.base, instG, setAll] using hs)
        obtain ⟨s0, v, _, hv, _, himp⟩ := h.cell hrows hi hc
        obtain ⟨e1, e2⟩ := MapCtx.envc (ρ := ρ) (k := k) (j := j) hv
        refine ⟨v, by rw [cell?_heap hh] at hv; exact hv, ?_⟩
        rw [Nat.zero_add]
        exact (himp _ _ v e1 e2).2 rfl
    · rw [if_neg e1] at ho
      obtain ⟨x, hx, r⟩ := ha.other id o e1 ho
      exact ⟨x, hx, objRel_fr g (frMem_get h.fr id (h.inb id o ho) o ho) r⟩
  · simp only [Mem.set] at hid ⊢
    rw [Tr.get_put, if_neg (by omega)]
    exact h.dom id hid
/-- the other rows are as they were -/
theorem MapCtx.rest {ρ : Env} {β γ : Bet} {k : Nat} {mem0 memK memF : Mem} {W : Nat} {A D : SArr} {e : Blk} {len : T} (h : MapCtx ρ β k mem0 memK memF W A D e len) {j : Nat} {w : World} (ha : MapAt ρ β mem0 W A D e j w) {arr' : Array Value} {i : Nat} (hi : i < e.cnt)
    (hr : ∀ (f : Nat) (s : SV), ((A.fresh k).base (.lit i))[f]? = some s → ∃ v, arr'[e.base + i * e.stride + f]? = some v ∧ s.rel (mapEnv ρ k e j w) γ v) :
    ∀ (f : Nat) (s : SV), ((if i < j then D else A).at ρ i)[f]? = some s → ∃ v, arr'[e.base + i * e.stride + f]? = some v ∧ s.rel ρ β v := by
  intro f s hs
  have hf : f < A.ks.length := by have := (List.getElem?_eq_some_iff.1 hs).1; rw [h.len_at, ← h.ks] at this; exact this
  have hc : A.ks[f]? = some A.ks[f] := List.getElem?_eq_getElem hf
  obtain ⟨s0, v, hs0, hv, r, himp⟩ := h.cell ha.rows hi hc
  rw [hs] at hs0; cases hs0
  have hlt : f < ((A.fresh k).base (.lit i)).length := by rw [SArr.base_length]; exact hf
  obtain ⟨v', hv', r'⟩ := hr f _ (List.getElem?_eq_getElem hlt)
  have hcell : ((A.fresh k).base (.lit i))[f] = mkCell (qNum k) (.lit i) f A.ks[f] := by
    obtain ⟨c, hc2, e2⟩ := baseRow_get (qNum k) (.lit i) A.ks 0 f (((A.fresh k).base (.lit i))[f]) (List.getElem?_eq_getElem hlt)
    rw [hc] at hc2; cases hc2
    rw [e2, Nat.zero_add]
  rw [hcell] at r'
  obtain ⟨e1, e2⟩ := MapCtx.envc (ρ := ρ) (k := k) (j := j) hv
  have := (himp _ _ v' e1 e2).1 r'
  subst this
  exact ⟨_, hv', r⟩
theorem MapCtx.others {ρ : Env} {β β' : Bet} {lk : List Nat} {k : Nat} {mem0 memK memF : Mem} {W : Nat} {A D : SArr} {e : Blk} {len : T} (h : MapCtx ρ β k mem0 memK memF W A D e len) {j : Nat} {w w' : World} (ha : MapAt ρ β mem0 W A D e j w)
    (hs : Stp β lk w β' w') (hall : ∀ id, id < mem0.nx → id ≠ W → id ∈ lk) :
    (∀ x ∈ β, x.blk < w'.heap.size) ∧ ∀ id o, id ≠ W → mem0.tr.get id = some o → ∃ x, β[id]? = some x ∧ objRel ρ β x w' o := by
  refine ⟨fun x hx => Nat.lt_of_lt_of_le (ha.lt x hx) hs.size, fun id o hne ho => ?_⟩
  obtain ⟨x, hx, r⟩ := ha.other id o hne ho
  exact ⟨x, hx, objRel_heap r (hs.lock id (hall id (h.inb id o ho) hne) x hx)⟩
def semMap {ρ : Env} {β : Bet} {lk : List Nat} {k : Nat} {mem0 memK memF : Mem} {outs : List Out} {W : Nat} {A D : SArr} {e : Blk} {len : T} {pc1 : PC} {l : List SV} {fs : List PC} (h : MapCtx ρ β k mem0 memK memF W A D e len)
    (hmap : mapped k A l = some D) (hll : l.length = A.ks.length) (hj : joinP k (.map W) memK pc1 (outs.filter isNorm) = some (l, fs)) (hall : ∀ id, id < mem0.nx → id ≠ W → id ∈ lk) : LoopSem ρ β lk k mem0 memK memF (.map W) outs (.lit true) (len.ev ρ).toNat where
  σ j w := mapEnv ρ k e j w
  At j w := MapAt ρ β mem0 W A D e j w
  agree j w := Env.snap_agree _ _ _ _ _ _ _
  var j w := by simp [mapEnv, Env.snap]
  over j w ha := h.over ha
  next j w w' β' o ha hs ho hn hp hm := by
    obtain ⟨γ, rfl, hγ⟩ := hs.ext
    have g : Agree k (qNum k) ρ (mapEnv ρ k e j w) := Env.snap_agree _ _ _ _ _ _ _
    have hW : W < mem0.nx := h.inb W _ h.get
    have hfA := frMem_get h.fr W hW _ h.get
    have homem := List.mem_filter.2 ⟨ho, hn⟩
    obtain ⟨p, hpay, _⟩ := joinP_mem hj o homem
    obtain ⟨hpl, hprel⟩ := joinP_rel (σ := mapEnv ρ k e j w) (β := β) hj o homem hp p hpay
    have hnxK : memK.nx = mem0.nx := by rw [h.memK]; rfl
    have hgetK : memK.tr.get W = some (.arr (A.fresh k)) := by rw [h.memK]; simp [Mem.set, Tr.get_put]
    have hpay0 := hpay
    simp only [payload] at hpay
    simp only [hgetK] at hpay
    split at hpay
    · rename_i Ax Dx hAx hDx
      cases hAx
      obtain ⟨hsa, hpay⟩ := bif_some hpay
      have hDe := sameArr_ok hsa
      obtain ⟨k1, k2⟩ := h.others ha hs hall
      refine ⟨k1, k2, ?_⟩
      obtain ⟨e', he', hobj⟩ := hm.obj W _ hDx
      rw [List.getElem?_append_left (List.getElem?_eq_some_iff.1 h.blk).1, h.blk] at he'
      cases he'
      rw [hDe] at hobj
      obtain ⟨_, _, _, _, _, _, arr', el', fr', hh', hfr', hrr'⟩ := hobj
      refine ⟨arr', el', fr', hh', hfr', fun i hi f s hs' => ?_⟩
      -- the row that is changed, and the others
      have hcases : (Dx.row = none ∧ p = (A.fresh k).base (.var k)) ∨ ∃ t cs, Dx.row = some (t, cs) ∧ T.beq t (.var k) = true ∧ underL memK.nx cs = true ∧ p = cs := by
        split at hpay
        · rename_i hrow; cases hpay; exact .inl ⟨hrow, rfl⟩
        · rename_i t cs hrow
          obtain ⟨h1, h2⟩ := bif_some hpay
          cases h2
          rw [Bool.and_eq_true] at h1
          exact .inr ⟨t, _, hrow, h1.1, h1.2, rfl⟩
      have hother : i ≠ j → ∀ (f : Nat) (s : SV), ((A.fresh k).base (.lit i))[f]? = some s → ∃ v, arr'[e.base + i * e.stride + f]? = some v ∧ s.rel (mapEnv ρ k e j w) (β ++ γ) v := by
        intro hne f s hs
        refine hrr' i hi f s ?_
        rcases hcases with ⟨hrow, _⟩ | ⟨t, cs, hrow, ht, _, _⟩
        · simp only [SArr.at, hrow]; exact hs
        · simp only [SArr.at, hrow]
          rw [if_neg (by rw [T.beq_eq ht]; simp only [T.ev, mapEnv, Env.snap, if_true]; omega)]
          exact hs
      by_cases hij : i = j
      · -- the row of this round
        subst hij
        rw [if_pos (Nat.lt_succ_self _)] at hs'
        have hold : ∀ (f : Nat) (s : SV), (A.at ρ i)[f]? = some s → ∃ v, s.rel ρ β v ∧ iOf v = (mapEnv ρ k e i w).c (qNum k) i f ∧ bOf v = (mapEnv ρ k e i w).bc (qNum k) i f := by
          intro f s hs
          obtain ⟨arr, el, fr, hh, _, hrr⟩ := ha.rows
          obtain ⟨v, hv, r⟩ := hrr i hi f s (by rw [if_neg (Nat.lt_irrefl _)]; exact hs)
          obtain ⟨e1, e2⟩ := MapCtx.envc (ρ := ρ) (k := k) (j := i) (w := w) (e := e) (i := i) (f := f) (v := v) (by rw [cell?_heap hh]; exact hv)
          exact ⟨v, r, e1.symm, e2.symm⟩
        obtain ⟨x, hx, himp⟩ := mapped_row hmap (fun f hf => by omega) hfA h.okA g (by simp [mapEnv, Env.snap]) (by simp [mapEnv, Env.snap]) hold f s hs'
        obtain ⟨y, hy, hyr⟩ := hprel f x hx
        have hval : ∃ v, arr'[e.base + i * e.stride + f]? = some v ∧ y.rel (mapEnv ρ k e i w) β v := by
          rcases hcases with ⟨hrow, hp⟩ | ⟨t, cs, hrow, ht, hu, hp⟩
          · rw [hp] at hy
            have hlt : f < A.ks.length := by have := (List.getElem?_eq_some_iff.1 hy).1; rwa [SArr.base_length] at this
            have hlt2 : f < ((A.fresh k).base (.lit i)).length := by rw [SArr.base_length]; exact hlt
            obtain ⟨v, hv, r⟩ := hrr' i hi f _ (by simp only [SArr.at, hrow]; exact List.getElem?_eq_getElem hlt2)
            refine ⟨v, hv, ?_⟩
            obtain ⟨c, hc, rfl⟩ := baseRow_get (qNum k) (.var k) A.ks 0 f y (by simpa [SArr.base, SArr.fresh, instG, setAll] using hy)
            obtain ⟨c2, hc2, e2⟩ := baseRow_get (qNum k) (.lit i) A.ks 0 f (((A.fresh k).base (.lit i))[f]) (List.getElem?_eq_getElem hlt2)
            rw [hc] at hc2; cases hc2
            have e3 : ((A.fresh k).base (.lit i))[f] = mkCell (qNum k) (.lit i) (0 + f) c := e2
            have r' : (mkCell (qNum k) (.lit i) (0 + f) c).rel (mapEnv ρ k e i w) (β ++ γ) v := by rw [← e3]; exact r
            have hev : T.ev (mapEnv ρ k e i w) (.var k) = i := by simp [T.ev, mapEnv, Env.snap]
            cases c
            · simp only [mkCell, SV.rel, B.ev, T.ev] at r' hev ⊢; rw [hev]; exact r'
            · simp only [mkCell, SV.rel, T.ev] at r' hev ⊢; rw [hev]; exact r'
            · exact r'
          · rw [hp] at hy
            obtain ⟨v, hv, r⟩ := hrr' i hi f y (by
              simp only [SArr.at, hrow]
              rw [if_pos (by rw [T.beq_eq ht]; simp [T.ev, mapEnv, Env.snap])]; exact hy)
            exact ⟨v, hv, under_rel _ _ (underL_get (by rw [← h.nx, ← hnxK]; exact hu) f y hy) r⟩
        obtain ⟨v, hv, r⟩ := hval
        exact ⟨v, hv, himp v (hyr v r)⟩
      · refine h.rest ha hi (hother hij) f s ?_
        by_cases h1 : i < j
        · rw [if_pos h1]; rwa [if_pos (by omega)] at hs'
        · rw [if_neg h1]; rwa [if_neg (by omega)] at hs'
    · cases hpay
  stay j w w' β' m ha hs hsame hm := by
    obtain ⟨γ, rfl, hγ⟩ := hs.ext
    have hnxK : memK.nx = mem0.nx := by rw [h.memK]; rfl
    have hW : W < mem0.nx := h.inb W _ h.get
    have hgetK : memK.tr.get W = some (.arr (A.fresh k)) := by rw [h.memK]; simp [Mem.set, Tr.get_put]
    obtain ⟨k1, k2⟩ := h.others ha hs hall
    have hsame := oeq_eq (fun _ _ => SObj.beq_eq) hsame
    refine ⟨k1, k2, ?_⟩
    obtain ⟨e', he', hobj⟩ := hm.obj W _ (by rw [hsame]; exact hgetK)
    rw [List.getElem?_append_left (List.getElem?_eq_some_iff.1 h.blk).1, h.blk] at he'
    cases he'
    obtain ⟨_, _, _, _, _, _, arr', el', fr', hh', hfr', hrr'⟩ := hobj
    exact ⟨arr', el', fr', hh', hfr', fun i hi f s hs' => h.rest ha hi (fun f s hs => hrr' i hi f s (by simpa [SArr.at, SArr.fresh] using hs)) f s hs'⟩
  fin w ha := by
    rw [h.memF]
    refine ⟨h.nx, fun id o ho => ?_, ha.lt, h.apart, fun id hid => ?_⟩
    · simp only [Mem.set, Tr.get_put] at ho
      by_cases e1 : id = W
      · rw [if_pos e1] at ho
        cases ho
        rw [e1]
        obtain ⟨arr, el, fr, hh, hfr, hrr⟩ := ha.rows
        refine ⟨e, h.blk, (by rw [h.dWr]; exact h.wr), (by rw [h.dStride]; exact h.stride), (by rw [h.dStride]; exact h.pos), (by rw [h.dKs, h.dStride]; exact h.ks), (by rw [h.dLen]; exact h.cnt), ⟨h.dOk, by rw [h.dStride]; exact h.dRow⟩, arr, el, fr, hh, hfr, fun i hi f s hs => ?_⟩
        have hM : i < (len.ev ρ).toNat := by
          have := h.cnt
          rw [T.beq_eq h.len] at this; omega
        exact hrr i hi f s (by rw [if_pos hM]; exact hs)
      · rw [if_neg e1] at ho
        exact ha.other id o e1 ho
    · simp only [Mem.set] at hid ⊢
      have hW : W < mem0.nx := h.inb W _ h.get
      rw [Tr.get_put, if_neg (by omega)]
      exact h.dom id hid
  cont _ _ _ _ _ _ := rfl
  back hn := by cases hn
end Go.SX

namespace Go.SX
open Go

def accB (ρ : Env) (k : Nat) (a0 p : B) (j : Nat) : Bool := a0.ev ρ && (List.range j).all fun i => p.ev (ρ.at k i)
theorem accB_succ (ρ : Env) (k : Nat) (a0 p : B) (j : Nat) : accB ρ k a0 p (j + 1) = (accB ρ k a0 p j && p.ev (ρ.at k j)) := by
  simp [accB, List.range_succ, Bool.and_assoc]
structure AccCtx (ρ : Env) (β : Bet) (k : Nat) (mem0 memK memF : Mem) (W x : Nat) (wr : Bool) (cs : List SV) (a0 p : B) (e : Blk) (len : T) : Prop where
  get : mem0.tr.get W = some (.cells wr cs)
  at_ : cs[x]? = some (.bool a0)
  blk : β[W]? = some e
  nx : mem0.nx = β.length
  apart : ∀ (i j : Nat) (e e' : Blk), β[i]? = some e → β[j]? = some e' → i ≠ j → e.blk = e'.blk → e.ro = true ∧ e'.ro = true
  dom : ∀ id, mem0.nx ≤ id → mem0.tr.get id = none
  inb : ∀ id o, mem0.tr.get id = some o → id < mem0.nx
  memK : memK = mem0.set W (.cells wr (cs.set x (.bool (.var (qNum k)))))
  memF : memF = mem0.set W (.cells wr (cs.set x (.bool (mkAnd a0 (mkAll k len p)))))
  fr : frMem k mem0 mem0.nx = true
structure AccAt (ρ : Env) (β : Bet) (mem0 : Mem) (W x : Nat) (wr : Bool) (cs : List SV) (b : Bool) (e : Blk) (w : World) : Prop where
  lt : ∀ y ∈ β, y.blk < w.heap.size
  other : ∀ id o, id ≠ W → mem0.tr.get id = some o → ∃ y, β[id]? = some y ∧ objRel ρ β y w o
  own : objRel ρ β e w (.cells wr (cs.set x (.bool (.lit b))))
def accEnv (ρ : Env) (k j : Nat) (b : Bool) : Env := ρ.snap k (qNum k) j (ρ.c (qNum k)) (ρ.bc (qNum k)) b
theorem relL_set {ρ σ : Env} {β γ : Bet} {cs : List SV} {x : Nat} {s t : SV} {vs : List Value} (h : relL ρ β (cs.set x s) vs) (ho : ∀ f c v, f ≠ x → cs[f]? = some c → vs[f]? = some v → c.rel ρ β v → c.rel σ γ v) (hx : ∀ v, s.rel ρ β v → t.rel σ γ v) : relL σ γ (cs.set x t) vs := by
  have hl := relL_length h
  refine relL_of_get (by simpa using hl) fun f c hc => ?_
  simp only [List.getElem?_set] at hc
  by_cases e : x = f
  · subst e
    simp only [if_true] at hc
    split at hc
    · rename_i hlt
      cases hc
      obtain ⟨v, hv, r⟩ := relL_get h (i := x) (s := s) (by simp [hlt])
      exact ⟨v, hv, hx v r⟩
    · cases hc
  · rw [if_neg e] at hc
    obtain ⟨v, hv, r⟩ := relL_get h (i := f) (s := c) (by simp only [List.getElem?_set]; rw [if_neg e]; exact hc)
    exact ⟨v, hv, ho f c v (Ne.symm e) hc hv r⟩
theorem AccCtx.others {ρ : Env} {β β' : Bet} {lk : List Nat} {k : Nat} {mem0 memK memF : Mem} {W x : Nat} {wr : Bool} {cs : List SV} {a0 p : B} {e : Blk} {len : T} (h : AccCtx ρ β k mem0 memK memF W x wr cs a0 p e len) {b : Bool} {w w' : World} (ha : AccAt ρ β mem0 W x wr cs b e w)
    (hs : Stp β lk w β' w') (hall : ∀ id, id < mem0.nx → id ≠ W → id ∈ lk) :
    (∀ y ∈ β, y.blk < w'.heap.size) ∧ ∀ id o, id ≠ W → mem0.tr.get id = some o → ∃ y, β[id]? = some y ∧ objRel ρ β y w' o := by
  refine ⟨fun y hy => Nat.lt_of_lt_of_le (ha.lt y hy) hs.size, fun id o hne ho => ?_⟩
  obtain ⟨y, hy, r⟩ := ha.other id o hne ho
  exact ⟨y, hy, objRel_heap r (hs.lock id (hall id (h.inb id o ho) hne) y hy)⟩
/-- its own block: what it holds behind a step, as it was told -/
theorem AccCtx.back {ρ : Env} {β γ : Bet} {k : Nat} {mem0 memK memF : Mem} {W x : Nat} {wr : Bool} {cs : List SV} {a0 p : B} {e : Blk} {len : T} (h : AccCtx ρ β k mem0 memK memF W x wr cs a0 p e len) {j : Nat} {b b' : Bool} {w w' : World} (ha : AccAt ρ β mem0 W x wr cs b e w) {s : SV}
    (ho : objRel (accEnv ρ k j b) (β ++ γ) e w' (.cells wr (cs.set x s))) (hs : ∀ v, s.rel (accEnv ρ k j b) (β ++ γ) v → v = .bool b') : objRel ρ β e w' (.cells wr (cs.set x (.bool (.lit b')))) := by
  have g : Agree k (qNum k) ρ (accEnv ρ k j b) := Env.snap_agree _ _ _ _ _ _ _
  have hfr : frL k (qNum k) cs = true := by simpa [frObj] using frMem_get h.fr W (h.inb W _ h.get) _ h.get
  obtain ⟨h0, h1, h2, arr, el, fr, h3, h4, h5⟩ := ho
  obtain ⟨_, _, _, arr0, _, _, _, _, g5⟩ := ha.own
  refine ⟨h0, h1, h2, arr, el, fr, h3, h4, relL_set h5 (fun f c v hne hc hv r => ?_) (fun v r => hs v r)⟩
  obtain ⟨u, _, r0⟩ := relL_get g5 (i := f) (s := c) (by simp only [List.getElem?_set]; rw [if_neg (Ne.symm hne)]; exact hc)
  exact SV.rel_down c u v r0 (frSV_rel g.symm c v (frL_get hfr hc) r)
def semAcc {ρ : Env} {β : Bet} {lk : List Nat} {k : Nat} {mem0 memK memF : Mem} {outs : List Out} {W x : Nat} {wr : Bool} {cs : List SV} {a0 b p : B} {e : Blk} {len : T} {pc1 : PC} {fs : List PC} (h : AccCtx ρ β k mem0 memK memF W x wr cs a0 p e len)
    (hj : joinP k (.acc W x) memK pc1 (outs.filter isNorm) = some ([.bool b], fs))
    (hp1 : subB ⟨k, qNum k, .var k, fun _ => none, fun _ => none, .lit true⟩ b = some p) (hp0 : subB ⟨k, qNum k, .var k, fun _ => none, fun _ => none, .lit false⟩ b = some (.lit false)) (hall : ∀ id, id < mem0.nx → id ≠ W → id ∈ lk) :
    LoopSem ρ β lk k mem0 memK memF (.acc W x) outs (.lit true) (len.ev ρ).toNat where
  σ j w := accEnv ρ k j (accB ρ k a0 p j)
  At j w := AccAt ρ β mem0 W x wr cs (accB ρ k a0 p j) e w
  agree j w := Env.snap_agree _ _ _ _ _ _ _
  var j w := by simp [accEnv, Env.snap]
  over j w ha := by
    have g : Agree k (qNum k) ρ (accEnv ρ k j (accB ρ k a0 p j)) := Env.snap_agree _ _ _ _ _ _ _
    have hfr : frL k (qNum k) cs = true := by simpa [frObj] using frMem_get h.fr W (h.inb W _ h.get) _ h.get
    rw [h.memK]
    refine ⟨h.nx, fun id o ho => ?_, ha.lt, h.apart, fun id hid => ?_⟩
    · simp only [Mem.set, Tr.get_put] at ho
      by_cases e1 : id = W
      · rw [if_pos e1] at ho
        cases ho
        rw [e1]
        obtain ⟨h0, h1, h2, arr, el, fr, h3, h4, h5⟩ := ha.own
        refine ⟨e, h.blk, h0, h1, h2, arr, el, fr, h3, h4, relL_set h5 (fun f c v hne hc hv r => frSV_rel g c v (frL_get hfr hc) r) (fun v r => ?_)⟩
        rw [show v = .bool _ from r]
        simp [SV.rel, B.ev, accEnv, Env.snap]
      · rw [if_neg e1] at ho
        obtain ⟨y, hy, r⟩ := ha.other id o e1 ho
        exact ⟨y, hy, objRel_fr g (frMem_get h.fr id (h.inb id o ho) o ho) r⟩
    · simp only [Mem.set] at hid ⊢
      have := h.inb W _ h.get
      rw [Tr.get_put, if_neg (by omega)]
      exact h.dom id hid
  next j w w' β' o ha hs ho hn hp hm := by
    obtain ⟨γ, rfl, hγ⟩ := hs.ext
    have hnxK : memK.nx = mem0.nx := by rw [h.memK]; rfl
    have hgetK : memK.tr.get W = some (.cells wr (cs.set x (.bool (.var (qNum k))))) := by rw [h.memK]; simp [Mem.set, Tr.get_put]
    have homem := List.mem_filter.2 ⟨ho, hn⟩
    obtain ⟨pl, hpay, _⟩ := joinP_mem hj o homem
    obtain ⟨_, hprel⟩ := joinP_rel (σ := accEnv ρ k j (accB ρ k a0 p j)) (β := β) hj o homem hp pl hpay
    simp only [payload] at hpay
    simp only [hgetK] at hpay
    split at hpay
    · rename_i w1 c1 w2 ds hc1 hds
      cases hc1
      obtain ⟨h1, hpay2⟩ := bif_some hpay
      clear hpay
      simp only [Bool.and_eq_true, beq_iff_eq] at h1
      obtain ⟨hw, hbe⟩ := h1
      subst hw
      have hbe := beqL_eq hbe
      split at hpay2
      · rename_i b' hb'
        simp only [Option.some.injEq] at hpay2
        subst hpay2
        obtain ⟨k1, k2⟩ := h.others ha hs hall
        refine ⟨k1, k2, ?_⟩
        obtain ⟨e', he', hobj⟩ := hm.obj W _ hds
        rw [List.getElem?_append_left (List.getElem?_eq_some_iff.1 h.blk).1, h.blk] at he'
        cases he'
        have hds' : ds = cs.set x (.bool b') := by
          have : (ds.set x (.bool (.var (qNum k)))).set x (.bool b') = (cs.set x (.bool (.var (qNum k)))).set x (.bool b') := by rw [hbe]
          rw [List.set_set, List.set_set] at this
          rw [← this]
          refine (List.ext_getElem? fun f => ?_)
          rw [List.getElem?_set]
          by_cases e2 : x = f
          · subst e2
            rw [if_pos rfl]
            have := (List.getElem?_eq_some_iff.1 hb').1
            rw [if_pos this, hb']
          · rw [if_neg e2]
        rw [hds'] at hobj
        refine h.back ha hobj (fun v r => ?_)
        obtain ⟨y, hy, hyr⟩ := hprel 0 (.bool b) rfl
        cases hy
        have r2 := hyr (.bool (b'.ev (accEnv ρ k j (accB ρ k a0 p j)))) rfl
        have hbb : b'.ev (accEnv ρ k j (accB ρ k a0 p j)) = b.ev (accEnv ρ k j (accB ρ k a0 p j)) := by
          have : Value.bool (b'.ev (accEnv ρ k j (accB ρ k a0 p j))) = Value.bool (b.ev (accEnv ρ k j (accB ρ k a0 p j))) := r2
          exact Value.bool.inj this
        rw [show v = .bool _ from r, hbb, accB_succ]
        have hS : ∀ u : Bool, accB ρ k a0 p j = u → SubR ⟨k, qNum k, .var k, fun _ => none, fun _ => none, .lit u⟩ (ρ.at k j) (accEnv ρ k j (accB ρ k a0 p j)) := fun u hu =>
          ⟨(Env.at_agree ρ k _ j).symm.trans (Env.snap_agree _ _ _ _ _ _ _), by simp [accEnv, Env.snap, T.ev, Env.at], fun f y hy => (by cases hy), fun f y hy => (by cases hy), by simp [accEnv, Env.snap, B.ev, hu]⟩
        cases hu : accB ρ k a0 p j
        · have := subB_ev (hS false hu) hp0
          rw [hu] at this
          rw [← this]; simp [B.ev]
        · have := subB_ev (hS true hu) hp1
          rw [hu] at this
          rw [← this]; simp
      · cases hpay2
    · cases hpay
  stay j w w' β' m ha hs hsame hm := by
    obtain ⟨γ, rfl, hγ⟩ := hs.ext
    have hnxK : memK.nx = mem0.nx := by rw [h.memK]; rfl
    have hgetK : memK.tr.get W = some (.cells wr (cs.set x (.bool (.var (qNum k))))) := by rw [h.memK]; simp [Mem.set, Tr.get_put]
    obtain ⟨k1, k2⟩ := h.others ha hs hall
    have hsame := oeq_eq (fun _ _ => SObj.beq_eq) hsame
    refine ⟨k1, k2, ?_⟩
    obtain ⟨e', he', hobj⟩ := hm.obj W _ (by rw [hsame]; exact hgetK)
    rw [List.getElem?_append_left (List.getElem?_eq_some_iff.1 h.blk).1, h.blk] at he'
    cases he'
    exact h.back ha hobj (fun v r => by rw [show v = .bool _ from r]; simp [B.ev, accEnv, Env.snap])
  fin w ha := by
    rw [h.memF]
    refine ⟨h.nx, fun id o ho => ?_, ha.lt, h.apart, fun id hid => ?_⟩
    · simp only [Mem.set, Tr.get_put] at ho
      by_cases e1 : id = W
      · rw [if_pos e1] at ho
        cases ho
        rw [e1]
        obtain ⟨h0, h1, h2, arr, el, fr, h3, h4, h5⟩ := ha.own
        refine ⟨e, h.blk, h0, h1, h2, arr, el, fr, h3, h4, relL_set h5 (fun f c v hne hc hv r => r) (fun v r => ?_)⟩
        rw [show v = .bool _ from r]
        simp only [SV.rel, mkAnd_ev, mkAll_ev]
        rfl
      · rw [if_neg e1] at ho
        exact ha.other id o e1 ho
    · simp only [Mem.set] at hid ⊢
      have hW := h.inb W _ h.get
      rw [Tr.get_put, if_neg (by omega)]
      exact h.dom id hid
  cont _ _ _ _ _ _ := rfl
  back hn := by cases hn
end Go.SX

namespace Go.SX
open Go
variable {D : List Deferred}

theorem mapped_static {k : Nat} {A D : SArr} {l : List SV} (h : mapped k A l = some D) : D.wr = A.wr ∧ D.stride = A.stride ∧ D.ks = A.ks ∧ D.len = A.len ∧ genOk D.gk D.gen = true ∧ ∀ t cs, D.row = some (t, cs) → cs.length = l.length := by
  unfold mapped at h
  split at h
  · cases h
  · rename_i g hg
    cases hok : genOk k (genFrom A.r k g A.ks 0)
    · simp [hok] at h
    simp only [hok, Bool.not_true, cond_false] at h
    split at h
    · rename_i hA
      cases h
      exact ⟨rfl, rfl, rfl, rfl, hok, fun t cs hr => by simp only [hA] at hr; cases hr⟩
    · rename_i t rc hA
      split at h
      · rename_i rc' hrc
        cases h
        refine ⟨rfl, rfl, rfl, rfl, hok, fun t' cs hr => ?_⟩
        simp only [Option.some.injEq, Prod.mk.injEq] at hr
        rw [← hr.2]; exact (subL_get hrc).1
      · cases h
theorem hiLe_ok {ρ : Env} {pc : PC} (hp : PcH ρ pc) {t : T} {n : Nat} (h : hiLe (rng pc t) n = true) : t.ev ρ ≤ n := by
  unfold hiLe at h
  have hb := rng_ok hp t
  split at h
  · rename_i x hx
    rw [ilt_iff] at h
    have := hb.2 x hx
    have : ¬ ((n : Nat) : Int) < x := by simpa using h
    omega
  · cases h
theorem isEmpty_filter {p : Out → Bool} {l : List Out} (h : (l.filter p).isEmpty = false) : ∃ o ∈ l, p o = true := by
  cases hf : l.filter p with
  | nil => rw [hf] at h; cases h
  | cons x xs =>
    have : x ∈ l.filter p := by rw [hf]; simp
    exact ⟨x, (List.mem_filter.1 this).1, (List.mem_filter.1 this).2⟩
theorem orElseL_some {a b : Option (List Out)} {l : List Out} (h : orElseL a b = some l) : a = some l ∨ b = some l := by
  cases a with
  | none => exact .inr h
  | some x => exact .inl h
theorem lockM_none {nx id : Nat} (h : id < nx) : id ∈ lockM .none nx := List.mem_range.2 h
theorem lockM_map {nx id W : Nat} (h : id < nx) (hne : id ≠ W) : id ∈ lockM (.map W) nx := List.mem_filter.2 ⟨List.mem_range.2 h, by
  cases hb : Nat.beq id W
  · rfl
  · exact absurd (Nat.eq_of_beq_eq_true hb) hne⟩
theorem finishL_ok {C : Cfg} {c : Code} {st : St} {outs outs2 : List Out} {k : Nat} {τ : Tmp} {md : Mod} {tmI : Tr SV} {memK : Mem} (h : finishL k τ md st tmI memK outs2 = some outs) {ρ : Env} {β : Bet} {lk : List Nat} {nt : Nat} {a : Act} {w : World}
    (hp : PcH ρ st.pc) (ha : ActR ρ β nt D st a) (hm : MemRel ρ β st.mem w) (hmemK : memAt k md st.mem = some memK) (hτ : st.tm.get τ = some (.int .i64 (.lit (.ofNat 0))))
    (htm : ∀ n s, tmI.get n = some s → frSV k (qNum k) s = true) (htr : TmRel ρ β tmI a)
    (hRun : ∀ (σ : Env) (a : Act) (w : World), PcH σ (stAt k τ st tmI memK).pc → ActR σ β nt D (stAt k τ st tmI memK) a → MemRel σ β memK w → NoStuck σ outs2 → c.wp C.P (Post σ β (lockM md st.mem.nx ++ lk) nt D w outs2) a w) :
    (Code.loop c).wp C.P (Post ρ β lk nt D w outs) a w := by
  obtain ⟨v0, hv0, r0⟩ := ha.tm.get τ _ hτ
  have hat : a.tmps[τ]? = some (.int .i64 ((0 : Nat) : Int)) := by rw [hv0, r0.1]; rfl
  have hlt : τ < nt := by rw [← ha.nt]; exact (Array.getElem?_eq_some_iff.1 hv0).1
  unfold finishL at h
  simp only at h
  split at h
  · cases h
  · rename_i len hlen
    split at h
    · cases h
    · rename_i i hi
      obtain ⟨hchk, h⟩ := bif_some h
      simp only [Bool.and_eq_true] at hchk
      obtain ⟨⟨⟨⟨⟨q1, q2⟩, q3⟩, q4⟩, q5⟩, q7⟩ := hchk
      have hmax : len.ev ρ ≤ 9223372036854775807 := hiLe_ok hp q4
      have hok : ∀ o ∈ outs2, okRound k τ i len tmI md memK o = true := fun o ho => List.all_eq_true.1 q5 o ho
      split at h
      · rename_i l fs hj
        split at h
        · rename_i memF hmemF
          simp only [Option.some.injEq] at h
          subst h
          clear q7
          generalize hc : (bif (outs2.filter (isEarly k len)).isEmpty then B.lit true else contB ((B.ltI (.var k) (.lit 0), false) :: numPc st.pc) (outs2.filter isNorm)) = cB
          have hpcF : (∀ j : Nat, j < (len.ev ρ).toNat → cB.ev (ρ.at k j) = true) → PcH ρ (bif (outs2.filter (isEarly k len)).isEmpty then st.pc else addPc (mkAll k len cB) true st.pc) := by
            intro hall
            cases (outs2.filter (isEarly k len)).isEmpty
            · refine addPc_ok _ true ?_ hp
              rw [mkAll_ev]
              simp only [B.ev, List.all_eq_true, List.mem_range]
              exact hall
            · exact hp
          have hnoE : md.isNone = false → ∀ o ∈ outs2, isEarly k len o = false := by
            intro hmd o ho
            have := hok o ho
            cases he : isEarly k len o
            · rfl
            · simp only [okRound, Bool.and_eq_true] at this
              have h2 := this.2
              unfold isEarly at he
              split at he
              · rename_i hx; rw [hx] at h2; simp [hmd] at h2
              · rename_i j hx
                rw [hx] at h2
                have hf : hasFact o.st.pc (.ltI (.var k) len) false = false := by simpa using he
                simp [hf, hmd] at h2
              · cases he
          have final : ∀ (S : LoopSem ρ β (lockM md st.mem.nx ++ lk) k st.mem memK memF md outs2 cB (len.ev ρ).toNat) (_ : S.At 0 w) (_ : ∀ j w o, o ∈ outs2 → isEarly k len o = true → PcH (S.σ j w) o.st.pc → j < (len.ev ρ).toNat →
              ∃ o' ∈ ((⟨.exit i, ⟨tmI, memF, (bif (outs2.filter (isEarly k len)).isEmpty then st.pc else addPc (mkAll k len cB) true st.pc), st.fid⟩⟩ : Out) :: (outs2.filter (isEarly k len)).map (earlyOut k st len cB (outs2.filter isNorm) ((B.ltI (.var k) (.lit 0), false) :: numPc st.pc))),
                o'.ex = o.ex ∧ PcH ρ o'.st.pc ∧ o'.st.mem = st.mem ∧ ∀ n s, o'.st.tm.get n = some s → o.st.tm.get n = some s ∧ frSV k (qNum k) s = true ∧ under β.length s = true),
              (Code.loop c).wp C.P (Post ρ β lk nt D w ((⟨.exit i, ⟨tmI, memF, (bif (outs2.filter (isEarly k len)).isEmpty then st.pc else addPc (mkAll k len cB) true st.pc), st.fid⟩⟩ : Out) :: (outs2.filter (isEarly k len)).map (earlyOut k st len cB (outs2.filter isNorm) ((B.ltI (.var k) (.lit 0), false) :: numPc st.pc)))) a w := by
            intro S hA hE
            refine wp_loop_rounds ((len.ev ρ).toNat + 1) (loop_sem (C := C) (τ := τ) (i := i) (tmI := tmI) (fun i hi => List.mem_append_right _ hi) S hp hRun hlt htm q1 q2 hmax hok (.head _) hpcF hE (len.ev ρ).toNat 0 (by omega) a w (Stp.refl _ _ _) htr hat ha.nt ha.df hA (fun q hq => by omega))
          cases md with
          | bad => simp [memAt] at hmemK
          | none =>
            simp only [memAt, Option.some.injEq] at hmemK
            simp only [memEnd, Option.some.injEq] at hmemF
            subst hmemK; subst hmemF
            have hcn : ∀ (σ : Env) (o : Out), o ∈ outs2 → isNorm o = true → PcH σ o.st.pc → cB.ev σ = true := by
              intro σ o ho hn hpo
              rw [← hc]
              cases (outs2.filter (isEarly k len)).isEmpty
              · exact contB_ok (List.mem_filter.2 ⟨ho, hn⟩) hpo
              · rfl
            refine final (semNone q3 hcn (fun id hid => List.mem_append_left _ (lockM_none hid))) hm ?_
            intro j w' o ho he hpo hjM
            have hmem := List.mem_filter.2 ⟨ho, he⟩
            refine ⟨_, .tail _ (List.mem_map_of_mem hmem), rfl, ?_, rfl, ?_⟩
            · simp only [earlyOut]
              cases hx : (outs2.filter isNorm).all (fun n => excl (factsOf ((B.ltI (.var k) (.lit 0), false) :: numPc st.pc) o.st.pc) (factsOf ((B.ltI (.var k) (.lit 0), false) :: numPc st.pc) n.st.pc))
              · exact hp
              · refine addPc_ok _ false ?_ hp
                rw [mkAll_ev]
                have hne : (outs2.filter (isEarly k len)).isEmpty = false := by
                  cases hq : outs2.filter (isEarly k len) with
                  | nil => rw [hq] at hmem; cases hmem
                  | cons _ _ => rfl
                rw [hne] at hc
                have hcf : cB.ev (ρ.at k j) = false := by
                  rw [← hc]
                  exact contB_no (factsOf_ok hpo) hx
                simp only [B.ev]
                cases hall : (List.range (len.ev ρ).toNat).all fun j => cB.ev (ρ.at k j)
                · rfl
                · have := List.all_eq_true.1 hall j (by simpa using hjM)
                  rw [hcf] at this; cases this
            · intro n s hn
              simp only [earlyOut] at hn
              obtain ⟨x, y, hx, _, hf⟩ := Tr.get_zip hn
              obtain ⟨h1, h2⟩ := bif_some hf
              cases h2
              rw [Bool.and_eq_true, hm.nx] at h1
              exact ⟨hx, h1.1, h1.2⟩
          | map W =>
            simp only [memAt] at hmemK
            split at hmemK
            · rename_i A hA
              simp only [Option.some.injEq] at hmemK
              simp only [memEnd, hA] at hmemF
              obtain ⟨g1, hmemF⟩ := bif_some hmemF
              rw [Bool.and_eq_true] at g1
              split at hmemF
              · rename_i D hD
                obtain ⟨g2, hmemF⟩ := bif_some hmemF
                simp only [Option.some.injEq] at hmemF
                rw [Bool.and_eq_true] at g2
                obtain ⟨s1, s2, s3, s4, s5, s6⟩ := mapped_static hD
                obtain ⟨e, he, hobj⟩ := hm.obj W _ hA
                obtain ⟨o1, o2, o3, o4, o5, o6, arr, el, fr, hh, hfr, hrr⟩ := hobj
                have hll := Nat.eq_of_beq_eq_true g1.2
                have hnoE' := hnoE rfl
                have hct : cB = .lit true := by
                  rw [← hc]
                  cases hem : (outs2.filter (isEarly k len)).isEmpty
                  · obtain ⟨o, ho, he⟩ := isEmpty_filter hem
                    rw [hnoE' o ho] at he; cases he
                  · rfl
                subst hct
                have ctx : MapCtx ρ β k st.mem memK memF W A D e len := ⟨hA, he, hm.nx, hm.apart, hm.dom, fun id o ho => hm.id_lt ho, hmemK.symm, hmemF.symm, q3, o1, o2, o3, o4, o5, g1.1, o6.1, o6.2, g2.1, g2.2, s1, s2, s3, s4, s5, fun t cs hr => by rw [s6 t cs hr, hll, o4]⟩
                refine final (semMap ctx hD hll hj (fun id hid hne => List.mem_append_left _ (lockM_map hid hne))) ⟨hm.lt, fun id o _ ho => hm.obj id o ho, arr, el, fr, hh, hfr, fun i hi f s hs => hrr i hi f s (by simpa using hs)⟩ ?_
                intro j w' o ho he _ _
                rw [hnoE' o ho] at he; cases he
              · cases hmemF
            · cases hmemK
          | acc W x =>
            simp only [memAt] at hmemK
            split at hmemK
            · rename_i wr cs hA
              simp only [Option.some.injEq] at hmemK
              simp only [memEnd, hA] at hmemF
              split at hmemF
              · rename_i wr' cs' b hcs
                cases hcs
                split at hmemF
                · rename_i a0 p1 ha0 hp1 hp0
                  simp only [Option.some.injEq] at hmemF
                  obtain ⟨e, he, hobj⟩ := hm.obj W _ hA
                  have hobj' := hobj
                  obtain ⟨o1, o2, o3, arr, el, fr, hh, hfr, hrr⟩ := hobj
                  have hnoE' := hnoE rfl
                  have hct : cB = .lit true := by
                    rw [← hc]
                    cases hem : (outs2.filter (isEarly k len)).isEmpty
                    · obtain ⟨o, ho, he⟩ := isEmpty_filter hem
                      rw [hnoE' o ho] at he; cases he
                    · rfl
                  subst hct
                  have ctx : AccCtx ρ β k st.mem memK memF W x wr cs a0 p1 e len := ⟨hA, ha0, he, hm.nx, hm.apart, hm.dom, fun id o ho => hm.id_lt ho, hmemK.symm, hmemF.symm, q3⟩
                  refine final (semAcc ctx hj hp1 hp0 (fun id hid hne => List.mem_append_left _ (lockM_map hid hne))) ⟨hm.lt, fun id o _ ho => hm.obj id o ho, o1, o2, o3, arr, el, fr, hh, hfr, ?_⟩ ?_
                  · have hself : cs = cs.set x (.bool a0) := by
                      refine (List.ext_getElem? fun f => ?_)
                      rw [List.getElem?_set]
                      by_cases e2 : x = f
                      · subst e2
                        rw [if_pos rfl, if_pos (List.getElem?_eq_some_iff.1 ha0).1, ha0]
                      · rw [if_neg e2]
                    rw [hself] at hrr
                    refine relL_set hrr (fun f c v _ _ _ r => r) (fun v r => ?_)
                    rw [show v = .bool _ from r]
                    simp [SV.rel, B.ev, accB]
                  · intro j w' o ho he _ _
                    rw [hnoE' o ho] at he; cases he
                · cases hmemF
              · cases hmemF
            · cases hmemK
        · cases h
      · cases h
theorem genericL_ok {C : Cfg} {run : List Nat → St → Option (List Out)} {c : Code} {st : St} {outs : List Out} (h : genericL C run c st = some outs) {ρ : Env} {β : Bet} {lk : List Nat} {nt : Nat} {a : Act} {w : World}
    (hp : PcH ρ st.pc) (ha : ActR ρ β nt D st a) (hm : MemRel ρ β st.mem w)
    (hrun : ∀ L st' outs', run L st' = some outs' → ∀ (σ : Env) (a : Act) (w : World), PcH σ st'.pc → ActR σ β nt D st' a → MemRel σ β st'.mem w → NoStuck σ outs' → c.wp C.P (Post σ β (L ++ lk) nt D w outs') a w) :
    (Code.loop c).wp C.P (Post ρ β lk nt D w outs) a w := by
  unfold genericL at h
  obtain ⟨_, h⟩ := bif_some h
  split at h
  · cases h
  · rename_i τ hτv
    split at h
    · rename_i hτ
      simp only at h
      have htm : ∀ n s, (Tr.less (frSV (kNum st.fid) (qNum (kNum st.fid))) st.tm (setsOf c .nil)).get n = some s → frSV (kNum st.fid) (qNum (kNum st.fid)) s = true := fun n s hn => (Tr.get_less hn).2
      have htr : TmRel ρ β (Tr.less (frSV (kNum st.fid) (qNum (kNum st.fid))) st.tm (setsOf c .nil)) a := ⟨fun n s hn => ha.tm.get n s (Tr.get_less hn).1⟩
      rcases orElseL_some h with h | h
      · cases hw : C.mrg (st.fid % 65536 + 400000) <;> rw [hw] at h
        · simp only [cond_false] at h
          split at h
          · cases h
          · rename_i outs2 hr2
            exact finishL_ok h hp ha hm rfl hτ htm htr (hrun _ _ _ hr2)
        · cases h
      · split at h
        · cases h
        · rename_i outs1 _
          split at h
          · cases h
          · rename_i memK hmemK
            split at h
            · cases h
            · rename_i outs2 hr2
              exact finishL_ok h hp ha hm hmemK hτ htm htr (hrun _ _ _ hr2)
    · cases h
end Go.SX

namespace Go.SX
open Go
variable {D : List Deferred}

theorem wp_skipR {P : Program} {o : Oper} {a : Act} {w w' : World} {K : Act → World → Prop} {Q : Exit → Act → World → Prop} (hr : (execOp a.eval o).run P w = .ok .skip w') (h : K (a.put o.dst undef) w') : o.wp P a w K Q := by
  unfold Oper.wp; rw [hr]; exact h
theorem wp_enter {P : Program} {o : Oper} {a : Act} {w w' : World} {K : Act → World → Prop} {Q : Exit → Act → World → Prop} {f : FuncId} {args : Array Value} (hr : (execOp a.eval o).run P w = .ok (.enter f args) w')
    (h : Calls P f args w' fun | .returned v, w'' => K (a.put o.dst v) w'' | .panicked chain, w'' => Q (.panic chain) a w'' | .outgrown, _ => LetsOut Q) : o.wp P a w K Q := by
  unfold Oper.wp; rw [hr]; exact h
theorem eachV_some {f : SV × Mem → Option (List Out)} : ∀ {l : List (SV × Mem)} {outs : List Out}, eachV f l = some outs → ∀ x ∈ l, ∃ r, f x = some r ∧ ∀ y ∈ r, y ∈ outs
  | [], _, _, x, hx => by cases hx
  | z :: l, outs, h, x, hx => by
    obtain ⟨a, b, h1, h2, rfl⟩ := app_some h
    cases hx with
    | head => exact ⟨a, h1, fun y hy => List.mem_append_left _ hy⟩
    | tail _ hx => obtain ⟨q, hq, hm⟩ := eachV_some h2 x hx; exact ⟨q, hq, fun y hy => List.mem_append_right _ (hm y hy)⟩
theorem eachK_some {f : Option SV × Mem → Option (List Out)} : ∀ {l : List (Option SV × Mem)} {outs : List Out}, eachK f l = some outs → ∀ x ∈ l, ∃ r, f x = some r ∧ ∀ y ∈ r, y ∈ outs
  | [], _, _, x, hx => by cases hx
  | z :: l, outs, h, x, hx => by
    obtain ⟨a, b, h1, h2, rfl⟩ := app_some h
    cases hx with
    | head => exact ⟨a, h1, fun y hy => List.mem_append_left _ hy⟩
    | tail _ hx => obtain ⟨q, hq, hm⟩ := eachK_some h2 x hx; exact ⟨q, hq, fun y hy => List.mem_append_right _ (hm y hy)⟩
theorem runAll_some {run : St → Option (List Out)} : ∀ {l : List St} {outs : List Out}, runAll run l = some outs → ∀ x ∈ l, ∃ r, run x = some r ∧ ∀ y ∈ r, y ∈ outs
  | [], _, _, x, hx => by cases hx
  | z :: l, outs, h, x, hx => by
    obtain ⟨a, b, h1, h2, rfl⟩ := app_some h
    cases hx with
    | head => exact ⟨a, h1, fun y hy => List.mem_append_left _ hy⟩
    | tail _ hx => obtain ⟨q, hq, hm⟩ := runAll_some h2 x hx; exact ⟨q, hq, fun y hy => List.mem_append_right _ (hm y hy)⟩
theorem normsOf_mem : ∀ {l : List Out} {o : Out}, o ∈ l → o.ex = .norm → o.st ∈ normsOf l
  | x :: l, o, h, hx => by
    rw [List.mem_cons] at h
    simp only [normsOf]
    rcases h with rfl | h
    · rw [hx]; exact .head _
    · have := normsOf_mem h hx
      split
      · exact .tail _ this
      · exact this
theorem othersOf_mem : ∀ {l : List Out} {o : Out}, o ∈ l → o.ex ≠ .norm → o ∈ othersOf l
  | x :: l, o, h, hx => by
    rw [List.mem_cons] at h
    simp only [othersOf]
    rcases h with rfl | h
    · split
      · rename_i he; exact absurd he hx
      · exact .head _
    · have := othersOf_mem h hx
      split
      · exact this
      · exact .tail _ this
theorem loopX_ok {P : Program} {ρ : Env} {lk : List Nat} {nt : Nat} {c : Code} {run : St → Option (List Out)} {st0 : St} {β0 : Bet} {w0 : World} (hm0 : MemRel ρ β0 st0.mem w0)
    (hrun : ∀ st outs, run st = some outs → ∀ β a w, PcH ρ st.pc → ActR ρ β nt D st a → MemRel ρ β st.mem w → NoStuck ρ outs → c.wp P (Post ρ β lk nt D w outs) a w) :
    ∀ (k : Nat) (sts : List St) (outs : List Out), loopX run (fewM lk st0.tm st0.mem) k sts = some outs → NoStuck ρ outs → ∀ st ∈ sts, ∀ β a w, Stp β0 lk w0 β w → PcH ρ st.pc → ActR ρ β nt D st a → MemRel ρ β st.mem w →
      Code.rounds P c (Post ρ β0 lk nt D w0 outs) k a w := by
  intro k
  induction k with
  | zero =>
    intro sts outs h hns st hst β a w hs hp ha hm
    simp only [loopX, Option.some.injEq] at h
    rw [← h] at hns
    exact (hns _ (List.mem_map_of_mem hst) 41 rfl hp).elim
  | succ k ih =>
    intro sts outs h hns st hst β a w hs hp ha hm
    simp only [loopX] at h
    split at h
    · rename_i l hl
      -- each end is told, or goes on
      generalize hl' : (bif manyN l then fewM lk st0.tm st0.mem l else l) = l' at h
      have main : (∀ o ∈ l', o.ex ≠ .norm → o ∈ outs) ∧ (∀ o ∈ l', o.ex = .norm → ∃ ns o2, o.st ∈ ns ∧ loopX run (fewM lk st0.tm st0.mem) k ns = some o2 ∧ ∀ x ∈ o2, x ∈ outs) := by
        split at h
        · rename_i hnil
          cases h
          refine ⟨fun o ho hx => othersOf_mem ho hx, fun o ho hx => ?_⟩
          have := normsOf_mem ho hx
          rw [hnil] at this; cases this
        · obtain ⟨o1, o2, e1, e2, rfl⟩ := app_some h
          cases e1
          exact ⟨fun o ho hx => List.mem_append_left _ (othersOf_mem ho hx), fun o ho hx => ⟨_, o2, normsOf_mem ho hx, e2, fun x hx => List.mem_append_right _ hx⟩⟩
      have hn2 : NoStuck ρ l' := fun o ho j hj hpc => hns o (main.1 o ho (by rw [hj]; simp)) j hj hpc
      obtain ⟨r, hr, hsub⟩ := runAll_some hl st hst
      have hnl : NoStuck ρ l := by
        cases hm2 : manyN l
        · rw [hm2] at hl'; rw [show l' = l from hl'.symm] at hn2; exact hn2
        · rw [hm2] at hl'; rw [← show fewM lk st0.tm st0.mem l = l' from hl'] at hn2; exact fewM_stuck hn2
      rw [rounds_succ]
      refine Code.wp_mono (fun e a1 w1 hq => ?_) (hrun st r hr β a w hp ha hm fun x hx => hnl x (hsub x hx))
      have hq : Post ρ β0 lk nt D w0 l' e a1 w1 := by
        have hq := Post.mono hsub (Post.from hs hq)
        cases hm2 : manyN l
        · rw [hm2] at hl'; rw [show l' = l from hl'.symm]; exact hq
        · rw [hm2] at hl'; rw [← show fewM lk st0.tm st0.mem l = l' from hl']; exact Post.fewM (st := st0) hm0 hq
      obtain ⟨o, ho, hpc, hex, β1, hs1, ha1, hm1⟩ := hq
      cases hoe : o.ex with
      | norm =>
        rw [hoe] at hex
        cases e <;> simp only [ExR] at hex
        obtain ⟨ns, o2, hmem, hgo, hsub2⟩ := main.2 o ho hoe
        exact rounds_mono (fun e a w hq => Post.mono hsub2 hq) (ih ns o2 hgo (fun x hx => hns x (hsub2 x hx)) o.st hmem β1 a1 w1 hs1 hpc ha1 hm1)
      | exit i =>
        have hP : Post ρ β0 lk nt D w0 outs e a1 w1 := ⟨o, main.1 o ho (by rw [hoe]; simp), hpc, hex, β1, hs1, ha1, hm1⟩
        rw [hoe] at hex
        cases e <;> simp only [ExR] at hex
        exact hP
      | ret =>
        have hP : Post ρ β0 lk nt D w0 outs e a1 w1 := ⟨o, main.1 o ho (by rw [hoe]; simp), hpc, hex, β1, hs1, ha1, hm1⟩
        rw [hoe] at hex
        cases e <;> simp only [ExR] at hex
        exact hP
      | panic s =>
        have hP : Post ρ β0 lk nt D w0 outs e a1 w1 := ⟨o, main.1 o ho (by rw [hoe]; simp), hpc, hex, β1, hs1, ha1, hm1⟩
        rw [hoe] at hex
        cases e <;> simp only [ExR] at hex
        exact hP
      | stuck j => exact (hn2 o ho j hoe hpc).elim
    · cases h
theorem stepOp_ok {C : Cfg} (hC : C.Types) {ρ : Env} (hH : HookOk C ρ) {run : List Nat → Nat → Task → St → Option (List Out)} {lk : List Nat} {nt : Nat} {all : List Oper} {o : Oper} {st : St} {next again : St → Option (List Out)} {outs : List Out}
    (h : stepOp C run lk nt all o st next again = some outs) {β : Bet} {a : Act} {w : World} (hp : PcH ρ st.pc) (ha : ActR ρ β nt D st a) (hm : MemRel ρ β st.mem w) (hns : NoStuck ρ outs) {K : Act → World → Prop} {Q : Exit → Act → World → Prop} (hQ : ∀ c w', Post ρ β lk nt D w outs (.panic c) a w' → Q (.panic c) a w')
    (hrun : RunOk C ρ run)
    (hnext : ∀ st' outs', next st' = some outs' → ∀ β' a' w', PcH ρ st'.pc → ActR ρ β' nt D st' a' → MemRel ρ β' st'.mem w' → NoStuck ρ outs' → Stp β lk w β' w' → (∀ x ∈ outs', x ∈ outs) → K a' w')
    (hagain : ∀ st' outs', again st' = some outs' → PcH ρ st'.pc → ActR ρ β nt D st' a → MemRel ρ β st'.mem w → NoStuck ρ outs' → (∀ x ∈ outs', x ∈ outs) → OpT C.P all.toArray o K Q a w) :
    OpT C.P all.toArray o K Q a w := by
  have nostuck : ∀ k, outs = [⟨.stuck k, st⟩] → False := fun k ho => by
    rw [ho] at hns; exact hns _ (.head _) k rfl hp
  have hw := wantX_yes (all := all) (o := o) hp ha
  have two : ∀ b, app (again (st.know b true)) (again (st.know b false)) = some outs → OpT C.P all.toArray o K Q a w := by
    intro b happ
    obtain ⟨o1, o2, e1, e2, rfl⟩ := app_some happ
    cases hb : b.ev ρ
    · exact hagain _ o2 e2 (addPc_ok b false hb hp) (ha.know b false) hm hns.right (fun x hx => List.mem_append_right _ hx)
    · exact hagain _ o1 e1 (addPc_ok b true hb hp) (ha.know b true) hm hns.left (fun x hx => List.mem_append_left _ hx)
  have yes : o.wp C.P a w K Q → Region.wanted o (yielded all.toArray a.tmps) = true → OpT C.P all.toArray o K Q a w := fun h1 h2 =>
    ⟨fun _ => .inl h1, fun h3 => by rw [h2] at h3; cases h3⟩
  have after : ∀ (id : Nat) (args : List SV) (couts : List COut), calleeX st.tm o.op = some (id, args) →
      bindC (afterC nt st o.dst next) couts = some outs →
      (NoStuckC ρ couts → ∀ vs, relL ρ β args vs → (∃ fn body, C.P.funcs[id]? = some fn ∧ (fn.name == "runtime.NumGoroutine") = false ∧ fn.body = some body) ∧ Calls C.P id vs.toArray w (CPost ρ β lk w couts)) →
      o.wp C.P a w K Q := by
    intro id args couts hcal hb hcalls
    obtain ⟨vs, hr, henter⟩ := callee_ok (C := C) ha.tm hcal
    have hnc : NoStuckC ρ couts := fun c hc k hk => by
      obtain ⟨r, hr, hm⟩ := bindC_some hb c hc
      simp only [afterC, hk] at hr
      cases hr
      exact hns _ (hm _ (.head _)) k rfl
    obtain ⟨⟨fn, body, h1, h2, h3⟩, hc⟩ := hcalls hnc vs hr
    refine wp_enter (henter fn body w h1 h2 h3) (Calls.mono hc fun e w' hq => ?_)
    obtain ⟨c, hcm, hpc, β', hs, hm', he⟩ := hq
    obtain ⟨r, hr', hmem⟩ := bindC_some hb c hcm
    cases hce : c.ex with
    | stuck k => exact (hnc c hcm k hce hpc).elim
    | panic v =>
      simp only [afterC, hce] at hr'
      cases hr'
      rw [hce] at he
      cases e <;> simp only [EndR] at he
      obtain ⟨u, hu, hch⟩ := he
      cases hun : under 0 v
      · rw [hun] at hmem
        exact (hns _ (hmem _ (.head _)) 32 rfl hpc).elim
      · rw [hun] at hmem
        exact hQ _ _ ⟨_, hmem _ (.head _), hpc, ⟨u, rel_any hun hu, hch⟩, β', hs, ⟨(ha.stp hs).tm, ha.nt, ha.df⟩, hm'⟩
    | ret v =>
      rw [hce] at he
      cases e <;> simp only [EndR] at he
      rename_i u
      simp only [afterC, hce] at hr'
      have ha' : ActR ρ β' nt D (St.put nt { st with mem := c.mem, pc := c.pc } o.dst v) (a.put o.dst u) := by
        have h0 : ActR ρ β' nt D { st with mem := c.mem, pc := c.pc } a := ⟨(ha.stp hs).tm, ha.nt, ha.df⟩
        exact h0.put o.dst he
      exact hnext _ r hr' β' (a.put o.dst u) w' (by rw [St.put_pc]; exact hpc) ha' (by rw [St.put_mem]; exact hm') (fun x hx => hns x (hmem x hx)) hs hmem
  unfold stepOp at h
  split at h
  · cases h; exact (nostuck 35 rfl).elim
  · rename_i b _; exact two _ h
  · rename_i hwx
    refine ⟨(fun h1 => by rw [hw.2 hwx] at h1; cases h1), fun _ => ?_⟩
    exact hnext _ outs h β _ w (by rw [St.put_pc]; exact hp) (ha.put o.dst (undefX_rel ρ β)) (by rw [St.put_mem]; exact hm) hns (Stp.refl _ _ _) (fun _ hx => hx)
  · rename_i hwx
    have hwy := hw.1 hwx
    split at h
    · rename_i id args hcal
      refine yes ?_ hwy
      split at h
      · rename_i fn hfn
        obtain ⟨hf1, hf2⟩ := hC.fn id fn hfn
        split at h
        · rename_i body hbody
          split at h
          · rename_i couts hk
            exact after id args _ hcal h fun hnc vs hr => ⟨⟨fn, body, hf1, hf2, hbody⟩,
              (hH id args st.mem st.pc lk couts hk β w vs hp hr hm (fun o ho k hx hpc => hnc o (aliveC_mem ho hpc) k hx hpc)).mono fun e w' ⟨o, ho, hpc, r⟩ => ⟨o, aliveC_mem ho hpc, hpc, r⟩⟩
          · split at h
            · rename_i couts h1
              refine after id args _ hcal h fun hnc' vs hr => ⟨⟨fn, body, hf1, hf2, hbody⟩, ?_⟩
              exact (callB_ok hC hrun h1 hf1 hbody hp hr hm (joined_stuck hnc')).mono fun e w' hq => (joined_post hnc' hp hm hq).unlock (lockC_sub C id st.mem lk)
            · cases h
        · split at h
          · rename_i s hx
            obtain ⟨vs, hr, hrun1⟩ := callee_run (C := C) ha.tm hcal
            obtain ⟨v, hv, hrun2⟩ := extX_ok hC hp hx hr
            exact wp_value (by rw [hrun1, hrun2]) (hnext _ outs h β (a.put o.dst v) w (by rw [St.put_pc]; exact hp) (ha.put o.dst hv) (by rw [St.put_mem]; exact hm) hns (Stp.refl _ _ _) (fun _ hx => hx))
          · cases h; exact (nostuck 36 rfl).elim
      · cases h; exact (nostuck 36 rfl).elim
    · split at h
      · rename_i x hox
        split at h
        · rename_i t s hx
          cases hu : under 0 s
          · rw [hu] at h; cases h; exact (nostuck 76 rfl).elim
          · rw [hu] at h
            cases h
            have hev := evX_ok ha.tm hx
            have hev0 : SV.rel ρ [] (.ifc t s) (a.eval x) := rel_any (s := .ifc t s) (by simpa [under] using hu) hev
            obtain ⟨u, hu1, hu2⟩ := hev
            refine yes ?_ hwy
            have hr : (execOp a.eval o).run C.P w = .halt (.panic (a.eval x)) w := by
              obtain ⟨dst, op, type, pos, after, guard⟩ := o
              simp only at hox
              subst hox
              simp [execOp, Instr.panic, hu2, goPanic]
            unfold Oper.wp
            rw [hr]
            exact hQ _ _ ⟨_, .head _, hp, ⟨_, hev0, [], rfl, fun _ h => by cases h⟩, β, Stp.refl _ _ _, ha, hm⟩
        · cases h; exact (nostuck 76 rfl).elim
      · split at h
        · rename_i s m hop
          obtain ⟨w', β', hs, hm', v, hr, r⟩ := (opM_ok hC (lk := lk) hm ha.tm o).1 s m hop
          refine yes (wp_value hr ?_) hwy
          have ha' : ActR ρ β' nt D (St.put nt { st with mem := m } o.dst s) (a.put o.dst v) := by
            have h0 : ActR ρ β' nt D { st with mem := m } a := ⟨(ha.stp hs).tm, ha.nt, ha.df⟩
            exact h0.put o.dst r
          exact hnext _ outs h β' (a.put o.dst v) w' (by rw [St.put_pc]; exact hp) ha' (by rw [St.put_mem]; exact hm') hns hs (fun _ hx => hx)
        · rename_i m hop
          obtain ⟨w', β', hs, hm', hr⟩ := (opM_ok hC (lk := lk) hm ha.tm o).2 m hop
          refine yes (wp_skipR hr ?_) hwy
          have ha' : ActR ρ β' nt D (St.put nt { st with mem := m } o.dst undefX) (a.put o.dst undef) := by
            have h0 : ActR ρ β' nt D { st with mem := m } a := ⟨(ha.stp hs).tm, ha.nt, ha.df⟩
            exact h0.put o.dst (undefX_rel ρ β')
          exact hnext _ outs h β' (a.put o.dst undef) w' (by rw [St.put_pc]; exact hp) ha' (by rw [St.put_mem]; exact hm') hns hs (fun _ hx => hx)
        · split at h
          · rename_i l hop
            obtain ⟨x, hx, w', β', hs, hm', v, hr, r⟩ := opN_ok hC (lk := lk) hp hm ha.tm o hop
            obtain ⟨o1, ho1, hsub⟩ := eachV_some h x hx
            refine yes (wp_value hr ?_) hwy
            have ha' : ActR ρ β' nt D (St.put nt { st with mem := x.2 } o.dst x.1) (a.put o.dst v) := by
              have h0 : ActR ρ β' nt D { st with mem := x.2 } a := ⟨(ha.stp hs).tm, ha.nt, ha.df⟩
              exact h0.put o.dst r
            exact hnext _ o1 ho1 β' (a.put o.dst v) w' (by rw [St.put_pc]; exact hp) ha' (by rw [St.put_mem]; exact hm') (fun y hy => hns y (hsub y hy)) hs hsub
          split at h
          · rename_i l hop
            obtain ⟨x, hx, w', β', hs, hm', hv⟩ := opK_ok hC (lk := lk) hm ha.tm o hop
            obtain ⟨o1, ho1, hsub⟩ := eachK_some h x hx
            obtain ⟨xv, xm⟩ := x
            have h0 : ActR ρ β' nt D { st with mem := xm } a := ⟨(ha.stp hs).tm, ha.nt, ha.df⟩
            cases xv with
            | some s =>
              obtain ⟨v, hr, r⟩ := hv
              exact yes (wp_value hr (hnext _ o1 ho1 β' (a.put o.dst v) w' (by rw [St.put_pc]; exact hp) (h0.put o.dst r) (by rw [St.put_mem]; exact hm') (fun y hy => hns y (hsub y hy)) hs hsub)) hwy
            | none => exact yes (wp_skipR hv (hnext _ o1 ho1 β' (a.put o.dst undef) w' (by rw [St.put_pc]; exact hp) (h0.put o.dst (undefX_rel ρ β')) (by rw [St.put_mem]; exact hm') (fun y hy => hns y (hsub y hy)) hs hsub)) hwy
          split at h
          · rename_i s m hop
            obtain ⟨w', β', hs, hm', v, hr, r⟩ := opA_ok hC (lk := lk) hp hm ha.tm o hop
            refine yes (wp_value hr ?_) hwy
            have ha' : ActR ρ β' nt D (St.put nt { st with mem := m } o.dst s) (a.put o.dst v) := by
              have h0 : ActR ρ β' nt D { st with mem := m } a := ⟨(ha.stp hs).tm, ha.nt, ha.df⟩
              exact h0.put o.dst r
            exact hnext _ outs h β' (a.put o.dst v) w' (by rw [St.put_pc]; exact hp) ha' (by rw [St.put_mem]; exact hm') hns hs (fun _ hx => hx)
          · rename_i b hop; exact two _ h
          · split at h
            · rename_i s hop
              obtain ⟨v, r, hr⟩ := opP_ok hC hp hm.o ha.tm hop
              refine yes (wp_value (hr w (Same.refl _ _ _)) ?_) hwy
              exact hnext _ outs h β _ w (by rw [St.put_pc]; exact hp) (ha.put o.dst r) (by rw [St.put_mem]; exact hm) hns (Stp.refl _ _ _) (fun _ hx => hx)
            · rename_i b hop; exact two _ h
            · cases h; exact (nostuck _ rfl).elim

/-- an operation that may be taken first -/
theorem takeX_ok {C : Cfg} (hC : C.Types) {ρ : Env} {β : Bet} {nt : Nat} {all : List Oper} {listed : List Bool} {st : St} {K : List Nat} {i : Nat} {s : SV} {a : Act} {w : World}
    (h : takeX C all listed st K i = some s) (hp : PcH ρ st.pc) (ha : ActR ρ β nt D st a) (hm : MemRel ρ β st.mem w) :
    ∃ o v, all[i]? = some o ∧ s.rel ρ β v ∧ Region.noSelect all.toArray = true ∧ Region.free .any all.toArray listed.toArray i = true ∧ YieldsIf C.P all.toArray (SW β w K) o v a := by
  unfold takeX at h
  split at h
  · cases h
  · rename_i o ho
    have hw := wantX_yes (all := all) (o := o) hp ha
    split at h
    · rename_i hwx
      cases hc : noSelL all && freeGo all listed i o all 0
      · rw [hc] at h; cases h
      · rw [hc] at h; cases h
        rw [Bool.and_eq_true] at hc
        exact ⟨o, undef, ho, undefX_rel ρ β, noSelL_ok hc.1, free_ok ho hc.2, .inr ⟨hw.2 hwx, rfl⟩⟩
    · rename_i hwx
      split at h
      · split at h
        · rename_i s' hop
          cases hc : noSelL all && freeGo all listed i o all 0
          · rw [hc] at h; cases h
          · rw [hc] at h; cases h
            rw [Bool.and_eq_true] at hc
            obtain ⟨v, r, hrun⟩ := opP_ok hC hp (hm.o.only K) ha.tm hop
            exact ⟨o, v, ho, r, noSelL_ok hc.1, free_ok ho hc.2, .inl ⟨hw.1 hwx, fun w' hS => hrun w' (hS.same st.mem)⟩⟩
        · cases h
      · cases h
    · cases h
theorem firstTake_some {C : Cfg} {all : List Oper} {listed : List Bool} {st : St} {K : List Nat} {i : Nat} {s : SV} : ∀ {rs : List Nat}, firstTake C all listed st K rs = some (i, s) → i ∈ rs ∧ takeX C all listed st K i = some s
  | [], h => by cases h
  | r :: rs, h => by
    simp only [firstTake] at h
    split at h
    · rename_i s' hs; cases h; exact ⟨.head _, hs⟩
    · obtain ⟨h1, h2⟩ := firstTake_some h; exact ⟨.tail _ h1, h2⟩
theorem settleL_mem {C : Cfg} {all : List Oper} {nt : Nat} {K : List Nat} : ∀ {l : List Fr} {x : Fr}, x ∈ l → ∀ y ∈ settleX C all nt K (all.length + 64) x, y ∈ settleL C all nt K l
  | z :: l, x, h, y, hy => by
    cases h with
    | head => exact List.mem_append_left _ hy
    | tail _ h => exact List.mem_append_right _ (settleL_mem h y hy)
def PanNil (all : List Oper) (l : List Out) : Prop := ∀ o ∈ l, ∀ s, o.ex = .panic s → ∀ oi ∈ all, ∀ d, oi.dst = some d → o.st.tm.get d = none
theorem settleX_ok {C : Cfg} (hC : C.Types) {ρ : Env} {β : Bet} {lk : List Nat} {nt : Nat} {all : List Oper} {K : List Nat} {w w0 : World} {β0 : Bet} {outs : List Out} (hcl : PanNil all outs) : ∀ (m : Nat) (x : Fr) (a : Act), PcH ρ x.st.pc → ActR ρ β nt D x.st a → MemRel ρ β x.st.mem w →
    (∀ y ∈ settleX C all nt K m x, ∀ a', PcH ρ y.st.pc → ActR ρ β nt D y.st a' → MemRel ρ β y.st.mem w → wpAnyH C.P .any all.toArray (Post ρ β0 lk nt D w0 outs) (SW β w K) y.k y.listed.toArray a' w) →
    wpAnyH C.P .any all.toArray (Post ρ β0 lk nt D w0 outs) (SW β w K) x.k x.listed.toArray a w := by
  intro m
  induction m with
  | zero => intro x a hp ha hm h; exact h x (.head _) a hp ha hm
  | succ m ih =>
    intro x a hp ha hm h
    obtain ⟨k, listed, st⟩ := x
    simp only [settleX] at h
    split at h
    · exact h _ (.head _) a hp ha hm
    · rename_i hne
      generalize hrs : readyL all listed = rs at h hne
      have hrd : Region.ready .any all.toArray listed.toArray = rs := by rw [← hrs]; exact (readyL_eq all listed).symm
      cases k with
      | zero => exact h _ (.head _) a hp ha hm
      | succ k =>
        simp only at h
        split at h
        · rename_i i s hft
          obtain ⟨hi, htake⟩ := firstTake_some hft
          obtain ⟨o, v, ho, r, hsel, hfree, hy⟩ := takeX_ok hC (w := w) htake hp ha hm
          have hdst : dstOf all i = o.dst := by simp [dstOf, ho]
          rw [hdst] at h
          have := ih ⟨k, setT listed i, st.put nt o.dst s⟩ (a.put o.dst v) (by simp only [St.put_pc]; exact hp) (ha.put o.dst r) (by simp only [St.put_mem]; exact hm) h
          simp only at this
          rw [setT_eq] at this
          refine wpAnyH_take (i := i) (oi := o) (v := v) (by simpa using ho) hsel hfree (by rw [hrd]; simpa using hi) ?_ hy (SW.refl _ _ _) this
          rintro c a' w' ⟨x, hx, hpc, hex, β1, hs1, ha1, hm1⟩
          have hxn : ∃ s, x.ex = .panic s := by cases hxe : x.ex <;> rw [hxe] at hex <;> first | exact ⟨_, rfl⟩ | exact hex.elim
          obtain ⟨s1, hs1'⟩ := hxn
          refine ⟨x, hx, hpc, hex, β1, hs1, ⟨⟨fun t s ht => ?_⟩, ?_, ?_⟩, hm1⟩
          · obtain ⟨u, hu, r⟩ := ha1.tm.get t s ht
            refine ⟨u, ?_, r⟩
            cases hd : o.dst with
            | none => simpa [Act.put, hd] using hu
            | some d =>
              have hne : t ≠ d := fun e => by
                have := hcl x hx s1 hs1' o (List.mem_of_getElem? ho) d hd
                rw [← e, ht] at this; cases this
              rw [hd] at hu
              simpa [Act.put, Array.getElem?_setIfInBounds, Ne.symm hne] using hu
          · have := ha1.nt; cases hd : o.dst <;> simpa [Act.put, hd] using this
          · have := ha1.df; cases hd : o.dst <;> simpa [Act.put, hd] using this
        · split at h
          · rename_i b hb
            cases hbv : (sp C st b).ev ρ
            · exact ih ⟨k + 1, listed, st.know (sp C st b) false⟩ a (addPc_ok _ false hbv hp) (ha.know _ false) hm fun y hy => h y (List.mem_append_right _ hy)
            · exact ih ⟨k + 1, listed, st.know (sp C st b) true⟩ a (addPc_ok _ true hbv hp) (ha.know _ true) hm fun y hy => h y (List.mem_append_left _ hy)
          · exact h _ (.head _) a hp ha hm
theorem oneR_some {all : List Oper} {one : Nat → St → Option (List Out)} {x : Fr} {k : Nat} : ∀ {rs : List Nat} {o : List Out} {f : List Fr}, oneR all one x k rs = some (o, f) → ∀ i ∈ rs, ∃ r, one i x.st = some r ∧ (∀ y ∈ othersOf r, clrO all y ∈ o) ∧ ∀ st ∈ normsOf r, (⟨k, setT x.listed i, st⟩ : Fr) ∈ f
  | [], _, _, _, i, hi => by cases hi
  | j :: rs, o, f, h, i, hi => by
    simp only [oneR] at h
    split at h
    · rename_i r o' f' h1 h2
      cases h
      cases hi with
      | head => exact ⟨r, h1, fun y hy => List.mem_append_left _ (List.mem_map_of_mem hy), fun st hst => List.mem_append_left _ (List.mem_map_of_mem (f := fun st => (⟨k, setT x.listed j, st⟩ : Fr)) hst)⟩
      | tail _ hi =>
        obtain ⟨q, hq, h3, h4⟩ := oneR_some h2 i hi
        exact ⟨q, hq, fun y hy => List.mem_append_right _ (h3 y hy), fun st hst => List.mem_append_right _ (h4 st hst)⟩
    · cases h
theorem levelF_some {all : List Oper} {one : Nat → St → Option (List Out)} : ∀ {l : List Fr} {o : List Out} {f : List Fr}, levelF all one l = some (o, f) → ∀ x ∈ l, ∃ o' f', stepF all one x = some (o', f') ∧ (∀ y ∈ o', y ∈ o) ∧ ∀ y ∈ f', y ∈ f
  | [], _, _, _, x, hx => by cases hx
  | z :: l, o, f, h, x, hx => by
    simp only [levelF] at h
    split at h
    · rename_i a b c d h1 h2
      cases h
      cases hx with
      | head => exact ⟨a, b, h1, fun y hy => List.mem_append_left _ hy, fun y hy => List.mem_append_left _ hy⟩
      | tail _ hx =>
        obtain ⟨o', f', h3, h4, h5⟩ := levelF_some h2 x hx
        exact ⟨o', f', h3, fun y hy => List.mem_append_right _ (h4 y hy), fun y hy => List.mem_append_right _ (h5 y hy)⟩
    · cases h
theorem clrO_ex (all : List Oper) (o : Out) : (clrO all o).ex = o.ex := by unfold clrO; split <;> simp_all
theorem clrO_pc (all : List Oper) (o : Out) : (clrO all o).st.pc = o.st.pc := by unfold clrO; split <;> rfl
theorem clrO_nil {all : List Oper} {o : Out} {s : SV} (h : o.ex = .panic s) : ∀ oi ∈ all, ∀ d, oi.dst = some d → (clrO all o).st.tm.get d = none := fun oi hi d hd => by unfold clrO; rw [h]; exact delAll_dst hd hi
theorem clrO_post {all : List Oper} {ρ : Env} {β : Bet} {lk : List Nat} {nt : Nat} {w w' : World} {outs : List Out} {o : Out} {e : Exit} {a : Act} (hm : clrO all o ∈ outs) (hp : PcH ρ o.st.pc) (hx : ExR ρ o.ex e) {β' : Bet} (hs : Stp β lk w β' w') (ha : ActR ρ β' nt D o.st a) (hmr : MemRel ρ β' o.st.mem w') :
    Post ρ β lk nt D w outs e a w' := by
  refine ⟨_, hm, by rw [clrO_pc]; exact hp, by rw [clrO_ex]; exact hx, β', hs, ?_, ?_⟩
  · unfold clrO; split
    · exact ⟨⟨fun t s h => ha.tm.get t s (delAll_sub h)⟩, ha.nt, ha.df⟩
    · exact ha
  · unfold clrO; split <;> exact hmr
theorem PanNil.append {all : List Oper} {a b : List Out} (h1 : PanNil all a) (h2 : PanNil all b) : PanNil all (a ++ b) := fun o ho => (List.mem_append.1 ho).elim (h1 o) (h2 o)
theorem oneR_nil {all : List Oper} {one : Nat → St → Option (List Out)} {x : Fr} {k : Nat} : ∀ {rs : List Nat} {o : List Out} {f : List Fr}, oneR all one x k rs = some (o, f) → PanNil all o
  | [], _, _, h => by cases h; intro o ho; cases ho
  | j :: rs, o, f, h => by
    simp only [oneR] at h
    split at h
    · rename_i r o' f' h1 h2
      cases h
      refine PanNil.append (fun o ho s hs => ?_) (oneR_nil h2)
      obtain ⟨y, _, rfl⟩ := List.mem_map.1 ho
      rw [clrO_ex] at hs
      exact clrO_nil hs
    · cases h
theorem stepF_nil {all : List Oper} {one : Nat → St → Option (List Out)} {x : Fr} {o : List Out} {f : List Fr} (h : stepF all one x = some (o, f)) : PanNil all o := by
  unfold stepF at h
  split at h
  · cases h; intro o ho s hs; simp at ho; subst ho; cases hs
  · split at h
    · cases h; intro o ho s hs; simp at ho; subst ho; cases hs
    · exact oneR_nil h
theorem levelF_nil {all : List Oper} {one : Nat → St → Option (List Out)} : ∀ {l : List Fr} {o : List Out} {f : List Fr}, levelF all one l = some (o, f) → PanNil all o
  | [], _, _, h => by cases h; intro o ho; cases ho
  | z :: l, o, f, h => by
    simp only [levelF] at h
    split at h
    · rename_i a b c d h1 h2
      cases h
      exact PanNil.append (stepF_nil h1) (levelF_nil h2)
    · cases h
theorem drwL_nil {C : Cfg} {all : List Oper} {nt : Nat} {K : List Nat} {one : Nat → St → Option (List Out)} : ∀ (m : Nat) (l : List Fr) (outs : List Out), drwL C all nt K one m l = some outs → PanNil all outs
  | 0, l, outs, h => by
    simp only [drwL, Option.some.injEq] at h
    subst h
    intro o ho s hs
    obtain ⟨x, _, rfl⟩ := List.mem_map.1 ho
    cases hs
  | m + 1, l, outs, h => by
    simp only [drwL] at h
    split at h
    · rename_i o ho; cases h; exact levelF_nil ho
    · rename_i o f _ ho
      obtain ⟨o1, o2, e1, e2, rfl⟩ := app_some h
      cases e1
      exact PanNil.append (levelF_nil ho) (drwL_nil m _ _ e2)
    · cases h
theorem drwL_ok {C : Cfg} (hC : C.Types) {ρ : Env} {lk : List Nat} {nt : Nat} {all : List Oper} {K : List Nat} (hK : ∀ id ∈ K, id ∈ lk) {one : Nat → St → Option (List Out)}
    (hone : ∀ i st r, one i st = some r → ∀ β a w, PcH ρ st.pc → ActR ρ β nt D st a → MemRel ρ β st.mem w → NoStuck ρ r → ∀ Q', (∀ e a' w', e ≠ .normal → Post ρ β lk nt D w r e a' w' → Q' e a' w') → wpOp C.P all.toArray Q' i (fun a' w' => Post ρ β lk nt D w r .normal a' w') a w) :
    ∀ (m : Nat) (l : List Fr) (outs : List Out), drwL C all nt K one m l = some outs → NoStuck ρ outs → ∀ x ∈ l, ∀ β a w, PcH ρ x.st.pc → ActR ρ β nt D x.st a → MemRel ρ β x.st.mem w →
      wpAnyH C.P .any all.toArray (Post ρ β lk nt D w outs) (SW β w K) x.k x.listed.toArray a w := by
  intro m
  induction m with
  | zero =>
    intro l outs h hns x hx β a w hp ha hm
    simp only [drwL, Option.some.injEq] at h
    rw [← h] at hns
    exact (hns _ (List.mem_map_of_mem hx) 37 rfl hp).elim
  | succ m ih =>
    intro l outs h hns x hx β a w hp ha hm
    have hcl := drwL_nil _ _ _ h
    simp only [drwL] at h
    have main : ∃ o f, levelF all one (dedupF (settleL C all nt K l)) = some (o, f) ∧ (∀ y ∈ o, y ∈ outs) ∧ (∀ y ∈ f, ∃ o2, drwL C all nt K one m f = some o2 ∧ ∀ z ∈ o2, z ∈ outs) := by
      split at h
      · rename_i o ho
        cases h
        exact ⟨_, _, ho, fun y hy => hy, fun y hy => by cases hy⟩
      · rename_i o f _ ho
        obtain ⟨o1, o2, e1, e2, rfl⟩ := app_some h
        cases e1
        exact ⟨_, _, ho, fun y hy => List.mem_append_left _ hy, fun y _ => ⟨o2, e2, fun z hz => List.mem_append_right _ hz⟩⟩
      · cases h
    obtain ⟨o, f, hlev, hsub, hgo⟩ := main
    refine settleX_ok hC hcl (all.length + 64) x a hp ha hm fun y hy a hp ha hm => ?_
    obtain ⟨o', f', hstep, hs1, hs2⟩ := levelF_some hlev y (dedupF_mem (settleL_mem hx y hy))
    obtain ⟨k, listed, st⟩ := y
    simp only [stepF] at hstep
    split at hstep
    · rename_i hrs
      cases hstep
      exact wpAnyH_done (by rw [← readyL_eq]; exact hrs) ⟨_, hsub _ (hs1 _ (.head _)), hp, trivial, β, Stp.refl _ _ _, ha, hm⟩ k
    · rename_i hne
      generalize hrs : readyL all listed = rs at hstep hne
      have hrd : Region.ready .any all.toArray listed.toArray = rs := by rw [← hrs]; exact (readyL_eq all listed).symm
      cases k with
      | zero =>
        simp only [Option.some.injEq, Prod.mk.injEq] at hstep
        obtain ⟨rfl, rfl⟩ := hstep
        exact (hns _ (hsub _ (hs1 _ (.head _))) 37 rfl hp).elim
      | succ k =>
        simp only at hstep
        refine wpAnyH_all hrd (fun e => hne e) fun i hi => ?_
        obtain ⟨r, hr, h1, h2⟩ := oneR_some hstep i hi
        have hnr : NoStuck ρ r := fun o ho j hj hpc => hns _ (hsub _ (hs1 _ (h1 _ (othersOf_mem ho (by rw [hj]; simp))))) j (by rw [clrO_ex]; exact hj) (by rw [clrO_pc]; exact hpc)
        have hw := hone i st r hr β a w hp ha hm hnr (Post ρ β lk nt D w outs) fun e a' w' hne ⟨o1, ho1, hpc, hex, β1, hst, ha1, hm1⟩ =>
          clrO_post (hsub _ (hs1 _ (h1 _ (othersOf_mem ho1 fun hn => by rw [hn] at hex; cases e <;> simp_all [ExR])))) hpc hex hst ha1 hm1
        have conv : ∀ a' w', Post ρ β lk nt D w r .normal a' w' → SW β w K w' ∧ wpAnyH C.P .any all.toArray (Post ρ β lk nt D w outs) (SW β w K) k (listed.toArray.setIfInBounds i true) a' w' := by
          rintro a' w' ⟨o1, ho1, hpc, hex, β1, hst, ha1, hm1⟩
          have hnorm : o1.ex = .norm := by cases hoe : o1.ex <;> rw [hoe] at hex <;> first | rfl | exact hex.elim
          have hf := hs2 _ (h2 _ (normsOf_mem ho1 hnorm))
          obtain ⟨o2, hd, hsub2⟩ := hgo _ hf
          have := ih f o2 hd (fun z hz => hns z (hsub2 z hz)) _ hf β1 a' w' hpc ha1 hm1
          simp only [setT_eq] at this
          exact ⟨SW.of_stp hst hK, wpAnyH_mono (fun e a w hq => (Post.from hst hq).mono hsub2) (fun w'' hS => SW.back hst hK hS) this⟩
        cases hoi : all.toArray[i]? with
        | none => simp only [wpOp, hoi] at hw ⊢; exact conv _ _ hw
        | some o => exact (OpT.op hoi).1 (((OpT.op hoi).2 hw).mono (fun _ _ hk => conv _ _ hk) (fun _ _ _ h => h))

theorem exec_sound {C : Cfg} (hC : C.Types) (hHA : ∀ ρ, HookOk C ρ) : ∀ (n : Nat) (lk : List Nat) (nt : Nat) (t : Task) (st : St) (outs : List Out), exec C n lk nt t st = some outs → taskOk lk t →
    ∀ (ρ : Env) (D : List Deferred) (β : Bet) (a : Act) (w : World), PcH ρ st.pc → ActR ρ β nt D st a → MemRel ρ β st.mem w → NoStuck ρ outs → taskWp C.P n β (Post ρ β lk nt D w outs) t a w := by
  intro n
  induction n with
  | zero => intro lk nt t st outs h; simp [exec] at h
  | succ n ihA =>
    intro lk nt t st outs h htk ρ D β a w hp ha hm hns
    have hH := hHA ρ
    have ih := fun lk nt t st outs h htk β a w => ihA lk nt t st outs h htk ρ D β a w
    have single : ∀ (x : XE) (e : Exit), ExR ρ x e → outs = [⟨x, st⟩] → Post ρ β lk nt D w outs e a w := fun x e hx ho => by
      rw [ho]; exact ⟨_, .head _, hp, hx, β, Stp.refl _ _ _, ha, hm⟩
    have nostuck : ∀ k, outs = [⟨.stuck k, st⟩] → False := fun k ho => by
      rw [ho] at hns; exact hns _ (.head _) k rfl hp
    -- two ways, by a truth
    have two : ∀ {outs : List Out} (hns : NoStuck ρ outs) (b : B) (t' : Task) (l r : Option (List Out)), app l r = some outs →
        (b.ev ρ = true → ∀ o1, l = some o1 → NoStuck ρ o1 → taskWp C.P (n + 1) β (Post ρ β lk nt D w o1) t' a w) →
        (b.ev ρ = false → ∀ o2, r = some o2 → NoStuck ρ o2 → taskWp C.P (n + 1) β (Post ρ β lk nt D w o2) t' a w) → taskWp C.P (n + 1) β (Post ρ β lk nt D w outs) t' a w := by
      intro outs hns b t' l r happ h1 h2
      obtain ⟨o1, o2, e1, e2, rfl⟩ := app_some happ
      cases hb : b.ev ρ
      · exact taskWp_mono (fun e a w => Post.mono fun o ho => List.mem_append_right _ ho) (h2 hb o2 e2 hns.right)
      · exact taskWp_mono (fun e a w => Post.mono fun o ho => List.mem_append_left _ ho) (h1 hb o1 e1 hns.left)
    -- one thing, then another
    have thenN : ∀ (c : Code) (K : Act → World → Prop) (f : St → Option (List Out)), bindN (exec C n lk nt (.code c) st) f = some outs →
        (∀ st' outs' β' a' w', f st' = some outs' → PcH ρ st'.pc → ActR ρ β' nt D st' a' → MemRel ρ β' st'.mem w' → NoStuck ρ outs' → Stp β lk w β' w' → (∀ o ∈ outs', o ∈ outs) → K a' w') →
        c.wp C.P (Exit.then K (Post ρ β lk nt D w outs)) a w := by
      intro c K f hb hK
      unfold bindN at hb
      cases h1 : exec C n lk nt (.code c) st with
      | none => simp [h1] at hb
      | some outs1 =>
        simp only [h1] at hb
        have hn1 : NoStuck ρ outs1 := fun o ho k hk => by
          obtain ⟨r, hr, hm⟩ := bindL_some hb o ho
          rw [hk] at hr
          cases hr
          exact hns o (hm o (.head _)) k hk
        refine Code.wp_mono (fun e a1 w1 hq => ?_) (ih lk nt (.code c) _ _ h1 trivial β a w hp ha hm hn1)
        obtain ⟨o, ho, hpc, hex, β1, hs, ha1, hm1⟩ := hq
        obtain ⟨r, hr, hmem⟩ := bindL_some hb o ho
        cases hoe : o.ex with
        | norm =>
          rw [hoe] at hex hr
          cases e <;> simp only [ExR] at hex
          exact hK o.st r β1 a1 w1 hr hpc ha1 hm1 (fun x hx => hns x (hmem x hx)) hs hmem
        | exit i =>
          rw [hoe] at hr
          cases hr
          have hP : Post ρ β lk nt D w outs e a1 w1 := ⟨o, hmem o (.head _), hpc, hex, β1, hs, ha1, hm1⟩
          rw [hoe] at hex
          cases e <;> simp only [ExR] at hex
          exact hP
        | ret =>
          rw [hoe] at hr
          cases hr
          have hP : Post ρ β lk nt D w outs e a1 w1 := ⟨o, hmem o (.head _), hpc, hex, β1, hs, ha1, hm1⟩
          rw [hoe] at hex
          cases e <;> simp only [ExR] at hex
          exact hP
        | panic s =>
          rw [hoe] at hr
          cases hr
          have hP : Post ρ β lk nt D w outs e a1 w1 := ⟨o, hmem o (.head _), hpc, hex, β1, hs, ha1, hm1⟩
          rw [hoe] at hex
          cases e <;> simp only [ExR] at hex
          exact hP
        | stuck k => exact (hn1 o ho k hoe hpc).elim
    -- a callee
    have hrun : RunOk C ρ (exec C n) := fun lk' nt' t' st' outs' h' htk' D' β' a' w' hp' ha' hm' hn' => ihA lk' nt' t' st' outs' h' htk' ρ D' β' a' w' hp' ha' hm' hn'
    cases t with
    | drw all listed k K =>
      have htk : ∀ id ∈ K, id ∈ lk := htk
      simp only [exec] at h
      simp only [taskWp]
      exact drwL_ok hC htk (fun i st' r hr β' a' w' hp' ha' hm' hn' => by
        have := ih lk nt (.one all i) st' r hr trivial β' a' w' hp' ha' hm' hn'
        simpa only [taskWp] using this) _ _ outs h hns ⟨k, listed, st⟩ (.head _) β a w hp ha hm
    | one all i =>
      simp only [exec] at h
      split at h
      · cases h; exact (nostuck 38 rfl).elim
      · rename_i o ho
        have ho' : all.toArray[i]? = some o := by simpa using ho
        simp only [taskWp]
        intro Q' hQ'
        refine (OpT.op ho').1 (stepOp_ok hC hH h hp ha hm hns (fun c w' hq => hQ' _ _ _ (by simp) hq) hrun (fun st' outs' h' β' a' w' hp' ha' hm' hn' hs hsub => ?_) (fun st' outs' h' hp' ha' hm' hn' hsub => ?_))
        · cases h'
          exact ⟨_, hsub _ (.head _), hp', trivial, β', hs, ha', hm'⟩
        · have := ih lk nt (.one all i) st' outs' h' trivial β a w hp' ha' hm' hn'
          simp only [taskWp] at this
          exact ((OpT.op ho').2 (this Q' fun e a' w' he hx => hQ' e a' w' he (Post.mono hsub hx))).mono (fun _ _ hk => Post.mono hsub hk) (fun _ _ _ h => h)
    | code c =>
      simp only [taskWp]
      cases c <;> simp only [exec] at h
      case skip => cases h; exact wp_skip (single .norm .normal trivial rfl)
      case label l => cases h; exact wp_label (single .norm .normal trivial rfl)
      case exit id => cases h; exact wp_exit (single (.exit id) (.exit id) rfl rfl)
      case ret => cases h; exact wp_ret (single .ret .ret trivial rfl)
      case goto l => cases h; exact (nostuck 34 rfl).elim
      case refuse l => cases h; exact (nostuck 34 rfl).elim
      case scope l => cases h; exact (nostuck 34 rfl).elim
      case rangeFunc => cases h; exact (nostuck 34 rfl).elim
      case loop c =>
        split at h
        · rename_i outs' hg
          cases h
          exact genericL_ok hg hp ha hm (fun L st' outs' h' σ a' w' hp' ha' hm' hn' => ihA (L ++ lk) nt (.code c) st' outs' h' trivial σ D β a' w' hp' ha' hm' hn')
        · exact wp_loop_rounds _ (loopX_ok hm (fun st' outs' h' β' a' w' hp' ha' hm' hn' => ih lk nt (.code c) st' outs' h' trivial β' a' w' hp' ha' hm' hn') _ [st] outs h hns st (.head _) β a w (Stp.refl _ _ _) hp ha hm)
      case seq x y =>
        refine wp_seq (thenN x _ _ h fun st' outs' β' a' w' hf hp' ha' hm' hn' hs hsub => ?_)
        exact Code.wp_mono (fun e a w hq => (Post.from hs hq).mono hsub) (ih lk nt (.code y) st' outs' hf trivial β' a' w' hp' ha' hm' hn')
      case block id c =>
        cases h1 : exec C n lk nt (.code c) st with
        | none => simp [h1] at h
        | some outs1 =>
          simp only [h1, Option.some.injEq] at h
          subst h
          have hns := hns.ofIf
          refine Code.wp_mono (fun e a1 w1 hq => Post.joinIf hp hm _ hq) ?_
          have hn1 : NoStuck ρ outs1 := fun o ho k hk hpc => hns (blockX id o) (List.mem_map_of_mem ho) k (by simp [blockX, hk]) (by simpa [blockX, hk] using hpc)
          refine wp_block (Code.wp_mono (fun e a1 w1 hq => ?_) (ih lk nt (.code c) _ _ h1 trivial β a w hp ha hm hn1))
          obtain ⟨o, ho, hpc, hex, β1, hs, ha1, hm1⟩ := hq
          have mk : ∀ e', ExR ρ (blockX id o).ex e' → (blockX id o).st = o.st → Post ρ β lk nt D w (outs1.map (blockX id)) e' a1 w1 := fun e' he hst =>
            ⟨blockX id o, List.mem_map_of_mem ho, by rw [hst]; exact hpc, he, β1, hs, by rw [hst]; exact ha1, by rw [hst]; exact hm1⟩
          cases hoe : o.ex with
          | norm =>
            rw [hoe] at hex
            cases e <;> simp only [ExR] at hex
            exact mk _ (by simp [blockX, hoe, ExR]) (by simp [blockX, hoe])
          | ret =>
            rw [hoe] at hex
            cases e <;> simp only [ExR] at hex
            exact mk _ (by simp [blockX, hoe, ExR]) (by simp [blockX, hoe])
          | panic s =>
            rw [hoe] at hex
            cases e <;> simp only [ExR] at hex
            exact mk _ (by simp only [blockX, hoe, ExR]; exact hex) (by simp [blockX, hoe])
          | stuck k => exact (hn1 o ho k hoe hpc).elim
          | exit i =>
            rw [hoe] at hex
            cases e <;> simp only [ExR] at hex
            rename_i j
            subst hex
            simp only [Exit.inBlock]
            cases hb : Nat.beq i id
            · have : i ≠ id := fun e => by rw [e] at hb; simp at hb
              rw [if_neg this]
              exact mk _ (by simp [blockX, hoe, hb, ExR]) (by simp [blockX, hoe, hb])
            · have := Nat.eq_of_beq_eq_true hb
              rw [if_pos this]
              exact mk _ (by simp [blockX, hoe, hb, ExR]) (by simp [blockX, hoe, hb])
      case region id ops d =>
        cases d
        · simp only at h
          cases hex : exec C n lk nt (.ops ops.toList ops.toList) st with
          | none => simp only [hex] at h; cases h
          | some outs0 =>
          simp only [hex, Option.some.injEq] at h
          subst h
          refine Code.wp_mono (fun e a1 w1 hq => Post.joinIf hp hm _ hq) (wp_region_list ?_)
          have := ih lk nt (.ops ops.toList ops.toList) st outs0 hex trivial β a w hp ha hm hns.ofIf
          simpa [taskWp] using this
        · simp only at h
          cases hex : exec C n (lockK C ops.toList nt st ++ lk) nt (.drw ops.toList (List.replicate ops.toList.length false) ops.toList.length (lockK C ops.toList nt st)) st with
          | none => simp only [hex] at h; cases h
          | some outs0 =>
          simp only [hex, Option.some.injEq] at h
          subst h
          have hns0 : NoStuck ρ outs0 := by
            cases hj : C.mrg (st.fid % 65536 + 600000) <;> rw [hj] at hns
            · exact joinL_stuck hns
            · exact fewL_stuck hns
          have := ih _ nt _ st outs0 hex (fun id hid => List.mem_append_left _ hid) β a { w with drawn := w.drawn + 1 } hp ha (hm.drew _) hns0
          refine wp_region_held (S := SW β { w with drawn := w.drawn + 1 } (lockK C ops.toList nt st)) hC.mixed ?_
          simp only [taskWp] at this
          have hmono : ∀ (e : Exit) (a : Act) (w' : World), Post ρ β (lockK C ops.toList nt st ++ lk) nt D { w with drawn := w.drawn + 1 } outs0 e a w' → Post ρ β lk nt D w (bif !(C.mrg (st.fid % 65536 + 600000)) then joinL false lk st.tm st.mem st.pc outs0 else fewL lk st.tm st.mem outs0) e a w' := fun e a w' ⟨o, ho, h0, h1, β', h2, h3⟩ => by
            have s1 := (Stp.drew β lk w (w.drawn + 1)).trans (h2.unlock fun id hid => List.mem_append_right _ hid)
            cases C.mrg (st.fid % 65536 + 600000)
            · exact Post.joinL hp hm ⟨o, ho, h0, h1, β', s1, h3⟩
            · exact Post.fewL hm ⟨o, ho, h0, h1, β', s1, h3⟩
          have h2 := wpAnyH_mono hmono (fun _ h => h) this
          rw [Array.toArray_toList, Array.length_toList] at h2
          have hl : (List.replicate ops.size false).toArray = Array.replicate ops.size false := by simp
          rw [hl] at h2
          exact h2
      case cond x c1 c2 =>
        split at h
        · rename_i b0 hb0
          have hx : a.eval x = .bool (b0.ev ρ) := evX_ok ha.tm hb0
          have hsb := simpY_ev hp (C.mrg 900000) b0
          split at h
          · rename_i hs
            rw [hs] at hsb
            refine wp_cond_true (by rw [hx, ← hsb]; rfl) ?_
            exact ih lk nt (.code c1) st outs h trivial β a w hp ha hm hns
          · rename_i hs
            rw [hs] at hsb
            refine wp_cond_false (by rw [hx, ← hsb]; rfl) ?_
            exact ih lk nt (.code c2) st outs h trivial β a w hp ha hm hns
          · rename_i hs1 hs2
            generalize simpY (C.mrg 900000) st.pc b0 = b1 at h hsb
            have ev : ∀ u, b1.ev ρ = u → a.eval x = .bool u := fun u hu => by rw [hx, ← hsb, hu]
            cases hcb : C.jc (st.fid % 65536) || B.beq (atomB b1) b1
            · rw [hcb] at h
              simp only [cond_false] at h
              have := two hns (atomB b1) (.code (.cond x c1 c2)) _ _ h (fun hb o1 e1 hn1 => ?_) (fun hb o2 e2 hn2 => ?_)
              · exact this
              · have := ih lk nt (.code (.cond x c1 c2)) _ o1 e1 trivial β a w (addPc_ok _ true hb hp) (ha.know _ true) hm hn1
                simpa only [taskWp] using this
              · have := ih lk nt (.code (.cond x c1 c2)) _ o2 e2 trivial β a w (addPc_ok _ false hb hp) (ha.know _ false) hm hn2
                simpa only [taskWp] using this
            rw [hcb] at h
            simp only [cond_true] at h
            unfold joinN at h
            split at h
            · rename_i l hl
              cases h
              have hns := hns.ofIf
              refine Code.wp_mono (fun e a1 w1 hq => Post.joinIf hp hm _ hq) ?_
              refine two hns b1 (.code (.cond x c1 c2)) _ _ hl (fun hb o1 e1 hn1 => ?_) (fun hb o2 e2 hn2 => ?_)
              · exact wp_cond_true (ev _ hb) (ih lk nt (.code c1) _ o1 e1 trivial β a w (addPc_ok b1 true hb hp) (ha.know b1 true) hm hn1)
              · exact wp_cond_false (ev _ hb) (ih lk nt (.code c2) _ o2 e2 trivial β a w (addPc_ok b1 false hb hp) (ha.know b1 false) hm hn2)
            · cases h
        · cases h; exact (nostuck 33 rfl).elim
    | ops all rest =>
      cases rest with
      | nil => simp only [exec] at h; cases h; exact single .norm .normal trivial rfl
      | cons o rest =>
        simp only [exec] at h
        refine OpT.list.1 (stepOp_ok hC hH h hp ha hm hns (fun c w' hq => hq) hrun (fun st' outs' h' β' a' w' hp' ha' hm' hn' hs hsub => ?_) (fun st' outs' h' hp' ha' hm' hn' hsub => ?_))
        · exact wpList_mono (fun e a w hq => (Post.from hs hq).mono hsub) (ih lk nt (.ops all rest) st' outs' h' trivial β' a' w' hp' ha' hm' hn')
        · have := ih lk nt (.ops all (o :: rest)) st' outs' h' trivial β a w hp' ha' hm' hn'
          exact (OpT.list.2 this).mono (fun _ _ hk => wpList_mono (fun e a w => Post.mono hsub) hk) (fun e a w => Post.mono hsub)
theorem exec_run {C : Cfg} (hC : C.Types) (hHA : ∀ ρ, HookOk C ρ) (ρ : Env) (n : Nat) : RunOk C ρ (exec C n) := fun lk nt t st outs h htk D β a w hp ha hm hn => exec_sound hC hHA n lk nt t st outs h htk ρ D β a w hp ha hm hn
end Go.SX

namespace Go.SX
open Go

def mkTr {α : Type} : List α → Nat → Tr α → Tr α
  | [], _, t => t
  | x :: xs, i, t => mkTr xs (i + 1) (t.put i x)
theorem mkTr_get {α : Type} : ∀ (l : List α) (i : Nat) (t : Tr α) (k : Nat), (mkTr l i t).get k = if i ≤ k ∧ k < i + l.length then l[k - i]? else t.get k
  | [], i, t, k => by simp only [mkTr, List.length_nil]; rw [if_neg (by omega)]
  | s :: ss, i, t, k => by
    simp only [mkTr, mkTr_get ss (i + 1), Tr.get_put, List.length_cons]
    by_cases e : k = i
    · subst e
      rw [if_neg (by omega), if_pos rfl, if_pos (by omega)]
      simp
    · by_cases c : i + 1 ≤ k ∧ k < i + 1 + ss.length
      · rw [if_pos c, if_pos (by omega), show k - i = (k - (i + 1)) + 1 by omega]
        simp
      · rw [if_neg c, if_neg e, if_neg (by omega)]
theorem mkTr_some {α : Type} {l : List α} {k : Nat} {x : α} (h : (mkTr l 0 .nil).get k = some x) : l[k]? = some x := by
  rw [mkTr_get] at h
  split at h
  · simpa using h
  · simp [Tr.get] at h
def tiAt (P : Program) (t : Nat) : Option TI := match P.info? t, P.underlying t with
  | some j, some d => some ⟨d, j.size, j.zero⟩
  | _, _ => none
def tiTr (P : Program) : Tr (Option TI) := mkTr ((List.range P.types.size).map (tiAt P)) 0 .nil
def fnAt (x : Func) : Option Func := bif x.name == "runtime.NumGoroutine" then none else some x
def fnTr (P : Program) : Tr (Option Func) := mkTr (P.funcs.toList.map fnAt) 0 .nil
def getO {α : Type} (t : Tr (Option α)) (k : Nat) : Option α := match t.get k with
  | some r => r
  | none => none
theorem tiTr_ok {P : Program} {t : Nat} {i : TI} (h : getO (tiTr P) t = some i) : ∃ j, P.info? t = some j ∧ j.size = i.size ∧ j.zero = i.zero ∧ P.underlying t = some i.und := by
  unfold getO at h
  split at h
  · rename_i r hr
    subst h
    have := mkTr_some hr
    rw [List.getElem?_map] at this
    cases hx : (List.range P.types.size)[t]? with
    | none => simp [hx] at this
    | some u =>
      have hu : u = t := by
        have h1 := (List.getElem?_eq_some_iff.1 hx).2
        simpa using h1.symm
      subst hu
      simp only [hx, Option.map_some, Option.some.injEq] at this
      unfold tiAt at this
      split at this
      · rename_i j d h1 h2; cases this; exact ⟨j, h1, rfl, rfl, h2⟩
      · cases this
  · cases h
theorem fnTr_ok {P : Program} {f : Nat} {x : Func} (h : getO (fnTr P) f = some x) : P.funcs[f]? = some x ∧ (x.name == "runtime.NumGoroutine") = false := by
  unfold getO at h
  split at h
  · rename_i r hr
    subst h
    have := mkTr_some hr
    rw [List.getElem?_map] at this
    cases hx : P.funcs.toList[f]? with
    | none => simp [hx] at this
    | some u =>
      simp only [hx, Option.map_some, Option.some.injEq] at this
      unfold fnAt at this
      cases hn : u.name == "runtime.NumGoroutine"
      · rw [hn] at this; cases this; exact ⟨by rw [← Array.getElem?_toList]; exact hx, hn⟩
      · rw [hn] at this; cases this
  · cases h

/-! flat structs -/
def repK : Nat → List CK → List CK
  | 0, _ => []
  | n + 1, l => l ++ repK n l
mutual
def flatK (P : Program) : Nat → TypeId → Option (List CK)
  | 0, _ => none
  | d + 1, t => (match P.underlying t with
    | some .bool => some [.b]
    | some (.int k) => some [.i k]
    | some .string => some [.s]
    | some (.struct fs) => bif P.stoodInHeld t then none else flatF P d fs.toList 0
    | some (.array n e) => (match P.info? e, flatK P d e with
      | some i, some ks => bif Nat.beq i.size ks.length then some (repK n ks) else none
      | _, _ => none)
    | _ => none)
def flatF (P : Program) : Nat → List Field → Nat → Option (List CK)
  | _, [], _ => some []
  | 0, _ :: _, _ => none
  | d + 1, f :: fs, off => bif f.name == "_" then none else bif !(Nat.beq f.offset off) then none else
    (match P.info? f.type, flatK P d f.type with
    | some i, some ks => bif Nat.beq i.size ks.length then (match flatF P d fs (off + ks.length) with | some r => some (ks ++ r) | none => none) else none
    | _, _ => none)
end
theorem kOfL_length : ∀ {ks : List CK} {l : List Value}, kOfL ks l → l.length = ks.length
  | [], _, h => by rw [h]; rfl
  | _ :: _, _, h => by obtain ⟨v, vs, rfl, _, h2⟩ := h; simp [kOfL_length h2]
theorem kOfL_append : ∀ {ks ls : List CK} {l : List Value}, kOfL (ks ++ ls) l → ∃ a b, l = a ++ b ∧ kOfL ks a ∧ kOfL ls b
  | [], _, l, h => ⟨[], l, rfl, rfl, h⟩
  | k :: ks, ls, l, h => by
    obtain ⟨v, vs, rfl, h1, h2⟩ := h
    obtain ⟨a, b, rfl, h3, h4⟩ := kOfL_append h2
    exact ⟨v :: a, b, rfl, ⟨v, a, rfl, h1, h3⟩, h4⟩
theorem vEqL_append : ∀ {a b c d : List Value}, a.length = c.length → vEqL (a ++ b) (c ++ d) = (vEqL a c && vEqL b d)
  | [], b, [], d, _ => by simp [vEqL]
  | x :: a, b, y :: c, d, h => by simp [vEqL, vEqL_append (a := a) (b := b) (c := c) (d := d) (by simpa using h), Bool.and_assoc]
  | [], _, _ :: _, _, h => by simp at h
  | _ :: _, _, [], _, h => by simp at h
/-- the value of a type, out of its cells -/
def valOf (d : TypeDesc) (l : List Value) : Value := if isAggD d then .agg l.toArray else l.headD undef
theorem part_of {P : Program} {t : TypeId} {d : TypeDesc} {i : TypeInfo} (hu : P.underlying t = some d) (hi : P.info? t = some i) {pre l post : List Value} (hs : i.size = l.length) (hl : isAggD d = false → ∃ v, l = [v])
    (w : World) : (part t (pre ++ l ++ post).toArray pre.length).run P w = .ok (valOf d l) w := by
  cases ha : isAggD d
  · obtain ⟨v, rfl⟩ := hl ha
    simp [part, run_isAgg' hu, ha, valOf]
  · simp only [part, Sem.run_bind, run_isAgg' hu, ha, Result.andThen_ok, if_true, run_sizeOf' hi, Sem.run_pure, valOf]
    congr 2
    rw [← Array.toList_inj]
    simp [hs]
theorem flatK_single {P : Program} {d : Nat} {t : TypeId} {ks : List CK} {td : TypeDesc} (h : flatK P (d + 1) t = some ks) (hu : P.underlying t = some td) (ha : isAggD td = false) : ∃ k, ks = [k] := by
  simp only [flatK, hu] at h
  cases td <;> simp [isAggD] at ha <;> simp at h
  · exact ⟨_, h.symm⟩
  · exact ⟨_, h.symm⟩
  · exact ⟨_, h.symm⟩
theorem flatK_und {P : Program} {d : Nat} {t : TypeId} {ks : List CK} (h : flatK P (d + 1) t = some ks) : ∃ td, P.underlying t = some td := by
  simp only [flatK] at h
  cases hu : P.underlying t with
  | none => simp [hu] at h
  | some td => exact ⟨td, rfl⟩
theorem flat_eq {P : Program} (w : World) : ∀ (d : Nat),
    (∀ (t : TypeId) (ks : List CK) (td : TypeDesc), flatK P d t = some ks → P.underlying t = some td → ∀ (D : Nat), d ≤ D → ∀ (l m : List Value), kOfL ks l → kOfL ks m →
      (Op.equalIn D t (valOf td l) (valOf td m)).run P w = .ok (vEqL l m) w) ∧
    (∀ (fs : List Field) (off : Nat) (ks : List CK), flatF P d fs off = some ks → ∀ (D : Nat), d ≤ D → ∀ (px py l m : List Value), px.length = off → py.length = off → kOfL ks l → kOfL ks m →
      (Op.eqFields D (px ++ l).toArray (py ++ m).toArray fs).run P w = .ok (vEqL l m) w) := by
  intro d
  induction d with
  | zero =>
    refine ⟨fun t ks td h => by simp [flatK] at h, fun fs off ks h D _ px py l m _ _ hl hm => ?_⟩
    cases fs with
    | nil =>
      simp only [flatF, Option.some.injEq] at h
      subst h
      rw [show l = [] from hl, show m = [] from hm]
      rfl
    | cons f fs => simp [flatF] at h
  | succ d ih =>
    obtain ⟨ihK, ihF⟩ := ih
    refine ⟨fun t ks td h hu D hD l m hl hm => ?_, fun fs off ks h D hD px py l m hpx hpy hl hm => ?_⟩
    · obtain ⟨D, rfl⟩ : ∃ D', D = D' + 1 := ⟨D - 1, by omega⟩
      simp only [flatK, hu] at h
      cases td <;> simp only [reduceCtorEq, Option.some.injEq] at h
      case bool =>
        subst h
        obtain ⟨_, _, rfl, ⟨a, rfl⟩, h2⟩ := hl
        obtain ⟨_, _, rfl, ⟨b, rfl⟩, h3⟩ := hm
        rw [show _ = [] from h2, show _ = [] from h3]
        simp [valOf, isAggD, run_equalIn_bool w D t a b hu, vEqL, vEq]
      case int k =>
        subst h
        obtain ⟨_, _, rfl, ⟨a, rfl⟩, h2⟩ := hl
        obtain ⟨_, _, rfl, ⟨b, rfl⟩, h3⟩ := hm
        rw [show _ = [] from h2, show _ = [] from h3]
        simp [valOf, isAggD, run_equalIn_int w D t k k a b hu, vEqL, vEq]
      case string =>
        subst h
        obtain ⟨_, _, rfl, ⟨a, rfl⟩, h2⟩ := hl
        obtain ⟨_, _, rfl, ⟨b, rfl⟩, h3⟩ := hm
        rw [show _ = [] from h2, show _ = [] from h3]
        simp [valOf, isAggD, run_equalIn_string w D t a b hu, vEqL, vEq]
      case array n e =>
        split at h
        · rename_i i ks' hi hk
          cases hb : Nat.beq i.size ks'.length
          · rw [hb] at h; cases h
          · rw [hb] at h
            simp only [cond_true, Option.some.injEq] at h
            subst h
            have hsz := Nat.eq_of_beq_eq_true hb
            have hc : P.cellsOf e = ks'.length := by simp [Program.cellsOf, hi, hsz]
            simp only [valOf, isAggD, if_true]
            rw [run_equalIn_array w D _ _ hu hi]
            cases d with
            | zero => simp [flatK] at hk
            | succ d =>
              obtain ⟨te, hte⟩ := flatK_und hk
              have key : ∀ (n k : Nat) (px py l m : List Value), px.length = k * ks'.length → py.length = k * ks'.length → kOfL (repK n ks') l → kOfL (repK n ks') m →
                  (Op.eqItems D e (P.cellsOf e) (px ++ l).toArray (py ++ m).toArray (List.range' k n)).run P w = .ok (vEqL l m) w := by
                intro n
                induction n with
                | zero =>
                  intro k px py l m _ _ hl hm
                  rw [show l = [] from hl, show m = [] from hm]
                  rfl
                | succ n ihn =>
                  intro k px py l m hpx hpy hl hm
                  obtain ⟨l1, l2, rfl, a1, a2⟩ := kOfL_append hl
                  obtain ⟨m1, m2, rfl, b1, b2⟩ := kOfL_append hm
                  have e1 := kOfL_length a1
                  have e2 := kOfL_length b1
                  have one : isAggD te = false → (∃ v, l1 = [v]) ∧ ∃ v, m1 = [v] := fun ha => by
                    obtain ⟨k, rfl⟩ := flatK_single hk hte ha
                    obtain ⟨v, vs, rfl, _, h⟩ := a1
                    obtain ⟨u, us, rfl, _, g⟩ := b1
                    rw [show vs = [] from h, show us = [] from g]
                    exact ⟨⟨v, rfl⟩, u, rfl⟩
                  have p1 := part_of hte hi (pre := px) (l := l1) (post := l2) (by rw [hsz, e1]) (fun h => (one h).1) w
                  have p2 := part_of hte hi (pre := py) (l := m1) (post := m2) (by rw [hsz, e2]) (fun h => (one h).2) w
                  rw [List.append_assoc, hpx] at p1
                  rw [List.append_assoc, hpy] at p2
                  have p3 := ihK e ks' te hk hte D (by omega) l1 m1 a1 b1
                  have p4 := ihn (k + 1) (px ++ l1) (py ++ m1) l2 m2 (by rw [List.length_append, hpx, e1, Nat.succ_mul]) (by rw [List.length_append, hpy, e2, Nat.succ_mul]) a2 b2
                  rw [List.append_assoc, List.append_assoc] at p4
                  rw [vEqL_append (by omega)]
                  simp only [List.range'_succ, Op.eqItems, Sem.run_bind, hc]
                  rw [hc] at p4
                  simp only [p1, p2, p3, Result.andThen_ok, Sem.run_ite, p4, Sem.run_pure]
                  cases vEqL l1 m1 <;> rfl
              have := key n 0 [] [] l m (by simp) (by simp) hl hm
              simpa [List.range_eq_range'] using this
        · cases h
      case struct fs =>
        cases hs : P.stoodInHeld t
        · rw [hs] at h
          simp only [cond_false] at h
          have hf : P.fieldsOf t = fs := by simp [Program.fieldsOf, hu]
          simp only [valOf, isAggD, if_true]
          rw [run_equalIn_struct w D t _ _ (by rw [hf]; exact hu) hs, hf]
          have := ihF fs.toList 0 ks h D (by omega) [] [] l m rfl rfl hl hm
          simpa using this
        · rw [hs] at h; cases h
    · cases fs with
      | nil =>
        simp only [flatF, Option.some.injEq] at h
        subst h
        rw [show l = [] from hl, show m = [] from hm]
        rfl
      | cons f fs =>
        simp only [flatF] at h
        cases hn : f.name == "_"
        case true => rw [hn] at h; cases h
        cases ho : !(Nat.beq f.offset off)
        case true => rw [hn, ho] at h; cases h
        rw [hn, ho] at h
        simp only [cond_false] at h
        split at h
        · rename_i i ks1 hi hk
          cases hb : Nat.beq i.size ks1.length
          · rw [hb] at h; cases h
          · rw [hb] at h
            simp only [cond_true] at h
            split at h
            · rename_i ks2 hr
              cases h
              have hsz := Nat.eq_of_beq_eq_true hb
              have ho : f.offset = off := Nat.eq_of_beq_eq_true (by simpa using ho)
              have hn' : f.name ≠ "_" := by simpa using hn
              cases d with
              | zero => simp [flatK] at hk
              | succ d =>
                obtain ⟨te, hte⟩ := flatK_und hk
                obtain ⟨l1, l2, rfl, a1, a2⟩ := kOfL_append hl
                obtain ⟨m1, m2, rfl, b1, b2⟩ := kOfL_append hm
                have e1 := kOfL_length a1
                have e2 := kOfL_length b1
                have one : isAggD te = false → (∃ v, l1 = [v]) ∧ ∃ v, m1 = [v] := fun ha => by
                  obtain ⟨k, rfl⟩ := flatK_single hk hte ha
                  obtain ⟨v, vs, rfl, _, h⟩ := a1
                  obtain ⟨u, us, rfl, _, g⟩ := b1
                  rw [show vs = [] from h, show us = [] from g]
                  exact ⟨⟨v, rfl⟩, u, rfl⟩
                have p1 := part_of hte hi (pre := px) (l := l1) (post := l2) (by rw [hsz, e1]) (fun h => (one h).1) w
                have p2 := part_of hte hi (pre := py) (l := m1) (post := m2) (by rw [hsz, e2]) (fun h => (one h).2) w
                rw [List.append_assoc, hpx] at p1
                rw [List.append_assoc, hpy] at p2
                have p3 := ihK f.type ks1 te hk hte D (by omega) l1 m1 a1 b1
                have p4 := ihF fs (off + ks1.length) ks2 hr D (by omega) (px ++ l1) (py ++ m1) l2 m2 (by rw [List.length_append, hpx, e1]) (by rw [List.length_append, hpy, e2]) a2 b2
                rw [List.append_assoc, List.append_assoc] at p4
                rw [vEqL_append (by omega)]
                simp only [Op.eqFields, if_pos hn', Sem.run_bind, ho, p1, p2, p3, p4, Result.andThen_ok, Sem.run_ite, Sem.run_pure]
                cases vEqL l1 m1 <;> rfl
            · cases h
        · cases h
theorem eqOk_flat {P : Program} {t : TypeId} {ks : List CK} {fs : Array Field} (h : flatK P 300 t = some ks) (hu : P.underlying t = some (.struct fs)) (hg : P.eqGuardType P.depth t = false) : EqOk P t ks :=
  ⟨hg, fun w xs ys hx hy => by
    have := (flat_eq w 300).1 t ks (.struct fs) h hu 10000 (by omega) xs.toList ys.toList hx hy
    simpa [valOf, isAggD] using this⟩
theorem eqOk_flatA {P : Program} {t : TypeId} {ks : List CK} {n : Nat} {e : TypeId} (h : flatK P 300 t = some ks) (hu : P.underlying t = some (.array n e)) (hg : P.eqGuardType P.depth t = false) : EqOk P t ks :=
  ⟨hg, fun w xs ys hx hy => by
    have := (flat_eq w 300).1 t ks (.array n e) h hu 10000 (by omega) xs.toList ys.toList hx hy
    simpa [valOf, isAggD] using this⟩
/-- a table of such types -/
def eqAt (P : Program) (t : TypeId) : Option (List CK) := bif P.eqGuardType P.depth t then none else
  (match P.underlying t with
  | some (.struct _) => flatK P 300 t
  | some (.array _ _) => flatK P 300 t
  | _ => none)
theorem eqAt_ok {P : Program} {t : TypeId} {ks : List CK} (h : eqAt P t = some ks) : EqOk P t ks := by
  unfold eqAt at h
  cases hg : P.eqGuardType P.depth t
  · rw [hg] at h
    simp only [cond_false] at h
    split at h
    · rename_i fs hu; exact eqOk_flat h hu hg
    · rename_i n e hu; exact eqOk_flatA h hu hg
    · cases h
  · rw [hg] at h; cases h
def bytAt (P : Program) (t : TypeId) : Option Nat := match P.info? t with | some i => some i.bytes | none => none
theorem bytAt_ok {P : Program} {t : TypeId} {n : Nat} (h : bytAt P t = some n) : ∃ j, P.info? t = some j ∧ j.bytes = n := by
  unfold bytAt at h
  split at h
  · rename_i i hi; cases h; exact ⟨i, hi, rfl⟩
  · cases h
end Go.SX
