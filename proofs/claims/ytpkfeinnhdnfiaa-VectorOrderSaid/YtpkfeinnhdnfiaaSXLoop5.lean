/- SX, part 10g: the loop's rule is right. -/
import Derived.Test.YtpkfeinnhdnfiaaSXLoop4
namespace Go.SX
open Go

theorem mapped_static {k : Nat} {A D : SArr} {l : List SV} (h : mapped k A l = some D) : D.wr = A.wr ∧ D.stride = A.stride ∧ D.ks = A.ks ∧ D.len = A.len ∧ genOk D.gk D.gen = true ∧ ∀ t cs, D.row = some (t, cs) → cs.length = l.length := by
  unfold mapped at h
  split at h
  · cases h
  · rename_i g hg
    cases hok : genOk k (genFrom A.r k g A.ks 0)
    · simp [hok] at h
    simp only [hok, Bool.not_true, cond_false] at h
    split at h
    · rename_i hA
      cases h
      exact ⟨rfl, rfl, rfl, rfl, hok, fun t cs hr => by simp only [hA] at hr; cases hr⟩
    · rename_i t rc hA
      split at h
      · rename_i rc' hrc
        cases h
        refine ⟨rfl, rfl, rfl, rfl, hok, fun t' cs hr => ?_⟩
        simp only [Option.some.injEq, Prod.mk.injEq] at hr
        rw [← hr.2]; exact (subL_get hrc).1
      · cases h
theorem hiLe_ok {ρ : Env} {pc : PC} (hp : PcH ρ pc) {t : T} {n : Nat} (h : hiLe (rng pc t) n = true) : t.ev ρ ≤ n := by
  unfold hiLe at h
  have hb := rng_ok hp t
  split at h
  · rename_i x hx
    rw [ilt_iff] at h
    have := hb.2 x hx
    have : ¬ ((n : Nat) : Int) < x := by simpa using h
    omega
  · cases h
theorem isEmpty_filter {p : Out → Bool} {l : List Out} (h : (l.filter p).isEmpty = false) : ∃ o ∈ l, p o = true := by
  cases hf : l.filter p with
  | nil => rw [hf] at h; cases h
  | cons x xs =>
    have : x ∈ l.filter p := by rw [hf]; simp
    exact ⟨x, (List.mem_filter.1 this).1, (List.mem_filter.1 this).2⟩
theorem orElseL_some {a b : Option (List Out)} {l : List Out} (h : orElseL a b = some l) : a = some l ∨ b = some l := by
  cases a with
  | none => exact .inr h
  | some x => exact .inl h
theorem lockM_none {nx id : Nat} (h : id < nx) : id ∈ lockM .none nx := List.mem_range.2 h
theorem lockM_map {nx id W : Nat} (h : id < nx) (hne : id ≠ W) : id ∈ lockM (.map W) nx := List.mem_filter.2 ⟨List.mem_range.2 h, by
  cases hb : Nat.beq id W
  · rfl
  · exact absurd (Nat.eq_of_beq_eq_true hb) hne⟩
theorem finishL_ok {C : Cfg} {c : Code} {st : St} {outs outs2 : List Out} {k : Nat} {τ : Tmp} {md : Mod} {tmI : Tr SV} {memK : Mem} (h : finishL k τ md st tmI memK outs2 = some outs) {ρ : Env} {β : Bet} {lk : List Nat} {nt : Nat} {a : Act} {w : World}
    (hp : PcH ρ st.pc) (ha : ActR ρ β nt st a) (hm : MemRel ρ β st.mem w) (hmemK : memAt k md st.mem = some memK) (hτ : st.tm.get τ = some (.int .i64 (.lit (.ofNat 0))))
    (htm : ∀ n s, tmI.get n = some s → frSV k (qNum k) s = true) (htr : TmRel ρ β tmI a)
    (hRun : ∀ (σ : Env) (a : Act) (w : World), PcH σ (stAt k τ st tmI memK).pc → ActR σ β nt (stAt k τ st tmI memK) a → MemRel σ β memK w → NoStuck σ outs2 → c.wp C.P (Post σ β (lockM md st.mem.nx ++ lk) nt w outs2) a w) :
    (Code.loop c).wp C.P (Post ρ β lk nt w outs) a w := by
  obtain ⟨v0, hv0, r0⟩ := ha.tm.get τ _ hτ
  have hat : a.tmps[τ]? = some (.int .i64 ((0 : Nat) : Int)) := by rw [hv0, r0.1]; rfl
  have hlt : τ < nt := by rw [← ha.nt]; exact (Array.getElem?_eq_some_iff.1 hv0).1
  unfold finishL at h
  simp only at h
  split at h
  · cases h
  · rename_i len hlen
    split at h
    · cases h
    · rename_i i hi
      obtain ⟨hchk, h⟩ := bif_some h
      simp only [Bool.and_eq_true] at hchk
      obtain ⟨⟨⟨⟨⟨q1, q2⟩, q3⟩, q4⟩, q5⟩, q7⟩ := hchk
      have hmax : len.ev ρ ≤ 9223372036854775807 := hiLe_ok hp q4
      have hok : ∀ o ∈ outs2, okRound k τ i len tmI md memK o = true := fun o ho => List.all_eq_true.1 q5 o ho
      split at h
      · rename_i l fs hj
        split at h
        · rename_i memF hmemF
          simp only [Option.some.injEq] at h
          subst h
          clear q7
          generalize hc : (bif (outs2.filter (isEarly k len)).isEmpty then B.lit true else contB ((B.ltI (.var k) (.lit 0), false) :: numPc st.pc) (outs2.filter isNorm)) = cB
          have hpcF : (∀ j : Nat, j < (len.ev ρ).toNat → cB.ev (ρ.at k j) = true) → PcH ρ (bif (outs2.filter (isEarly k len)).isEmpty then st.pc else addPc (mkAll k len cB) true st.pc) := by
            intro hall
            cases (outs2.filter (isEarly k len)).isEmpty
            · refine addPc_ok _ true ?_ hp
              rw [mkAll_ev]
              simp only [B.ev, List.all_eq_true, List.mem_range]
              exact hall
            · exact hp
          have hnoE : md.isNone = false → ∀ o ∈ outs2, isEarly k len o = false := by
            intro hmd o ho
            have := hok o ho
            cases he : isEarly k len o
            · rfl
            · simp only [okRound, Bool.and_eq_true] at this
              have h2 := this.2
              unfold isEarly at he
              split at he
              · rename_i hx; rw [hx] at h2; simp [hmd] at h2
              · rename_i j hx
                rw [hx] at h2
                have hf : hasFact o.st.pc (.ltI (.var k) len) false = false := by simpa using he
                simp [hf, hmd] at h2
              · cases he
          have final : ∀ (S : LoopSem ρ β (lockM md st.mem.nx ++ lk) k st.mem memK memF md outs2 cB (len.ev ρ).toNat) (_ : S.At 0 w) (_ : ∀ j w o, o ∈ outs2 → isEarly k len o = true → PcH (S.σ j w) o.st.pc → j < (len.ev ρ).toNat →
              ∃ o' ∈ ((⟨.exit i, ⟨tmI, memF, (bif (outs2.filter (isEarly k len)).isEmpty then st.pc else addPc (mkAll k len cB) true st.pc), st.fid⟩⟩ : Out) :: (outs2.filter (isEarly k len)).map (earlyOut k st len cB (outs2.filter isNorm) ((B.ltI (.var k) (.lit 0), false) :: numPc st.pc))),
                o'.ex = o.ex ∧ PcH ρ o'.st.pc ∧ o'.st.mem = st.mem ∧ ∀ n s, o'.st.tm.get n = some s → o.st.tm.get n = some s ∧ frSV k (qNum k) s = true ∧ under β.length s = true),
              (Code.loop c).wp C.P (Post ρ β lk nt w ((⟨.exit i, ⟨tmI, memF, (bif (outs2.filter (isEarly k len)).isEmpty then st.pc else addPc (mkAll k len cB) true st.pc), st.fid⟩⟩ : Out) :: (outs2.filter (isEarly k len)).map (earlyOut k st len cB (outs2.filter isNorm) ((B.ltI (.var k) (.lit 0), false) :: numPc st.pc)))) a w := by
            intro S hA hE
            refine wp_loop_rounds ((len.ev ρ).toNat + 1) (loop_sem (C := C) (τ := τ) (i := i) (tmI := tmI) (fun i hi => List.mem_append_right _ hi) S hp hRun hlt htm q1 q2 hmax hok (.head _) hpcF hE (len.ev ρ).toNat 0 (by omega) a w (Stp.refl _ _ _) htr hat ha.nt ha.df hA (fun q hq => by omega))
          cases md with
          | bad => simp [memAt] at hmemK
          | none =>
            simp only [memAt, Option.some.injEq] at hmemK
            simp only [memEnd, Option.some.injEq] at hmemF
            subst hmemK; subst hmemF
            have hcn : ∀ (σ : Env) (o : Out), o ∈ outs2 → isNorm o = true → PcH σ o.st.pc → cB.ev σ = true := by
              intro σ o ho hn hpo
              rw [← hc]
              cases (outs2.filter (isEarly k len)).isEmpty
              · exact contB_ok (List.mem_filter.2 ⟨ho, hn⟩) hpo
              · rfl
            refine final (semNone q3 hcn (fun id hid => List.mem_append_left _ (lockM_none hid))) hm ?_
            intro j w' o ho he hpo hjM
            have hmem := List.mem_filter.2 ⟨ho, he⟩
            refine ⟨_, .tail _ (List.mem_map_of_mem hmem), rfl, ?_, rfl, ?_⟩
            · simp only [earlyOut]
              cases hx : (outs2.filter isNorm).all (fun n => excl (factsOf ((B.ltI (.var k) (.lit 0), false) :: numPc st.pc) o.st.pc) (factsOf ((B.ltI (.var k) (.lit 0), false) :: numPc st.pc) n.st.pc))
              · exact hp
              · refine addPc_ok _ false ?_ hp
                rw [mkAll_ev]
                have hne : (outs2.filter (isEarly k len)).isEmpty = false := by
                  cases hq : outs2.filter (isEarly k len) with
                  | nil => rw [hq] at hmem; cases hmem
                  | cons _ _ => rfl
                rw [hne] at hc
                have hcf : cB.ev (ρ.at k j) = false := by
                  rw [← hc]
                  exact contB_no (factsOf_ok hpo) hx
                simp only [B.ev]
                cases hall : (List.range (len.ev ρ).toNat).all fun j => cB.ev (ρ.at k j)
                · rfl
                · have := List.all_eq_true.1 hall j (by simpa using hjM)
                  rw [hcf] at this; cases this
            · intro n s hn
              simp only [earlyOut] at hn
              obtain ⟨x, y, hx, _, hf⟩ := Tr.get_zip hn
              obtain ⟨h1, h2⟩ := bif_some hf
              cases h2
              rw [Bool.and_eq_true, hm.nx] at h1
              exact ⟨hx, h1.1, h1.2⟩
          | map W =>
            simp only [memAt] at hmemK
            split at hmemK
            · rename_i A hA
              simp only [Option.some.injEq] at hmemK
              simp only [memEnd, hA] at hmemF
              obtain ⟨g1, hmemF⟩ := bif_some hmemF
              rw [Bool.and_eq_true] at g1
              split at hmemF
              · rename_i D hD
                obtain ⟨g2, hmemF⟩ := bif_some hmemF
                simp only [Option.some.injEq] at hmemF
                rw [Bool.and_eq_true] at g2
                obtain ⟨s1, s2, s3, s4, s5, s6⟩ := mapped_static hD
                obtain ⟨e, he, hobj⟩ := hm.obj W _ hA
                obtain ⟨o1, o2, o3, o4, o5, o6, arr, el, fr, hh, hfr, hrr⟩ := hobj
                have hll := Nat.eq_of_beq_eq_true g1.2
                have hnoE' := hnoE rfl
                have hct : cB = .lit true := by
                  rw [← hc]
                  cases hem : (outs2.filter (isEarly k len)).isEmpty
                  · obtain ⟨o, ho, he⟩ := isEmpty_filter hem
                    rw [hnoE' o ho] at he; cases he
                  · rfl
                subst hct
                have ctx : MapCtx ρ β k st.mem memK memF W A D e len := ⟨hA, he, hm.nx, hm.apart, hm.dom, fun id o ho => hm.id_lt ho, hmemK.symm, hmemF.symm, q3, o1, o2, o3, o4, o5, g1.1, o6.1, o6.2, g2.1, g2.2, s1, s2, s3, s4, s5, fun t cs hr => by rw [s6 t cs hr, hll, o4]⟩
                refine final (semMap ctx hD hll hj (fun id hid hne => List.mem_append_left _ (lockM_map hid hne))) ⟨hm.lt, fun id o _ ho => hm.obj id o ho, arr, el, fr, hh, hfr, fun i hi f s hs => hrr i hi f s (by simpa using hs)⟩ ?_
                intro j w' o ho he _ _
                rw [hnoE' o ho] at he; cases he
              · cases hmemF
            · cases hmemK
          | acc W x =>
            simp only [memAt] at hmemK
            split at hmemK
            · rename_i wr cs hA
              simp only [Option.some.injEq] at hmemK
              simp only [memEnd, hA] at hmemF
              split at hmemF
              · rename_i wr' cs' b hcs
                cases hcs
                split at hmemF
                · rename_i a0 p1 ha0 hp1 hp0
                  simp only [Option.some.injEq] at hmemF
                  obtain ⟨e, he, hobj⟩ := hm.obj W _ hA
                  have hobj' := hobj
                  obtain ⟨o1, o2, o3, arr, el, fr, hh, hfr, hrr⟩ := hobj
                  have hnoE' := hnoE rfl
                  have hct : cB = .lit true := by
                    rw [← hc]
                    cases hem : (outs2.filter (isEarly k len)).isEmpty
                    · obtain ⟨o, ho, he⟩ := isEmpty_filter hem
                      rw [hnoE' o ho] at he; cases he
                    · rfl
                  subst hct
                  have ctx : AccCtx ρ β k st.mem memK memF W x wr cs a0 p1 e len := ⟨hA, ha0, he, hm.nx, hm.apart, hm.dom, fun id o ho => hm.id_lt ho, hmemK.symm, hmemF.symm, q3⟩
                  refine final (semAcc ctx hj hp1 hp0 (fun id hid hne => List.mem_append_left _ (lockM_map hid hne))) ⟨hm.lt, fun id o _ ho => hm.obj id o ho, o1, o2, o3, arr, el, fr, hh, hfr, ?_⟩ ?_
                  · have hself : cs = cs.set x (.bool a0) := by
                      refine (List.ext_getElem? fun f => ?_)
                      rw [List.getElem?_set]
                      by_cases e2 : x = f
                      · subst e2
                        rw [if_pos rfl, if_pos (List.getElem?_eq_some_iff.1 ha0).1, ha0]
                      · rw [if_neg e2]
                    rw [hself] at hrr
                    refine relL_set hrr (fun f c v _ _ _ r => r) (fun v r => ?_)
                    rw [show v = .bool _ from r]
                    simp [SV.rel, B.ev, accB]
                  · intro j w' o ho he _ _
                    rw [hnoE' o ho] at he; cases he
                · cases hmemF
              · cases hmemF
            · cases hmemK
        · cases h
      · cases h
theorem genericL_ok {C : Cfg} {run : List Nat → St → Option (List Out)} {c : Code} {st : St} {outs : List Out} (h : genericL C run c st = some outs) {ρ : Env} {β : Bet} {lk : List Nat} {nt : Nat} {a : Act} {w : World}
    (hp : PcH ρ st.pc) (ha : ActR ρ β nt st a) (hm : MemRel ρ β st.mem w)
    (hrun : ∀ L st' outs', run L st' = some outs' → ∀ (σ : Env) (a : Act) (w : World), PcH σ st'.pc → ActR σ β nt st' a → MemRel σ β st'.mem w → NoStuck σ outs' → c.wp C.P (Post σ β (L ++ lk) nt w outs') a w) :
    (Code.loop c).wp C.P (Post ρ β lk nt w outs) a w := by
  unfold genericL at h
  obtain ⟨_, h⟩ := bif_some h
  split at h
  · cases h
  · rename_i τ hτv
    split at h
    · rename_i hτ
      simp only at h
      have htm : ∀ n s, (Tr.less (frSV (kNum st.fid) (qNum (kNum st.fid))) st.tm (setsOf c .nil)).get n = some s → frSV (kNum st.fid) (qNum (kNum st.fid)) s = true := fun n s hn => (Tr.get_less hn).2
      have htr : TmRel ρ β (Tr.less (frSV (kNum st.fid) (qNum (kNum st.fid))) st.tm (setsOf c .nil)) a := ⟨fun n s hn => ha.tm.get n s (Tr.get_less hn).1⟩
      rcases orElseL_some h with h | h
      · cases hw : C.mrg (st.fid % 65536 + 400000) <;> rw [hw] at h
        · simp only [cond_false] at h
          split at h
          · cases h
          · rename_i outs2 hr2
            exact finishL_ok h hp ha hm rfl hτ htm htr (hrun _ _ _ hr2)
        · cases h
      · split at h
        · cases h
        · rename_i outs1 _
          split at h
          · cases h
          · rename_i memK hmemK
            split at h
            · cases h
            · rename_i outs2 hr2
              exact finishL_ok h hp ha hm hmemK hτ htm htr (hrun _ _ _ hr2)
    · cases h
end Go.SX
