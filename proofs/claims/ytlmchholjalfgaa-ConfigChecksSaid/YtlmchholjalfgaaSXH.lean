/- SX, part 12: the main theorem. -/
import Derived.Test.YtlmchholjalfgaaSXG
import Derived.ChangeKeysEq
import Derived.ProofKit
import Derived.OpenShut
import Derived.Test.YtlmchholjalfgaaSXA
namespace Go.SX
open Go
variable {D : List Deferred}

theorem wp_skipR {P : Program} {o : Oper} {a : Act} {w w' : World} {K : Act → World → Prop} {Q : Exit → Act → World → Prop} (hr : (execOp a.eval o).run P w = .ok .skip w') (h : K (a.put o.dst undef) w') : o.wp P a w K Q := by
  unfold Oper.wp; rw [hr]; exact h
theorem wp_enter {P : Program} {o : Oper} {a : Act} {w w' : World} {K : Act → World → Prop} {Q : Exit → Act → World → Prop} {f : FuncId} {args : Array Value} (hr : (execOp a.eval o).run P w = .ok (.enter f args) w')
    (h : Calls P f args w' fun | .returned v, w'' => K (a.put o.dst v) w'' | .panicked chain, w'' => Q (.panic chain) a w'' | .outgrown, _ => LetsOut Q) : o.wp P a w K Q := by
  unfold Oper.wp; rw [hr]; exact h
theorem eachV_some {f : SV × Mem → Option (List Out)} : ∀ {l : List (SV × Mem)} {outs : List Out}, eachV f l = some outs → ∀ x ∈ l, ∃ r, f x = some r ∧ ∀ y ∈ r, y ∈ outs
  | [], _, _, x, hx => by cases hx
  | z :: l, outs, h, x, hx => by
    obtain ⟨a, b, h1, h2, rfl⟩ := app_some h
    cases hx with
    | head => exact ⟨a, h1, fun y hy => List.mem_append_left _ hy⟩
    | tail _ hx => obtain ⟨q, hq, hm⟩ := eachV_some h2 x hx; exact ⟨q, hq, fun y hy => List.mem_append_right _ (hm y hy)⟩
theorem eachK_some {f : Option SV × Mem → Option (List Out)} : ∀ {l : List (Option SV × Mem)} {outs : List Out}, eachK f l = some outs → ∀ x ∈ l, ∃ r, f x = some r ∧ ∀ y ∈ r, y ∈ outs
  | [], _, _, x, hx => by cases hx
  | z :: l, outs, h, x, hx => by
    obtain ⟨a, b, h1, h2, rfl⟩ := app_some h
    cases hx with
    | head => exact ⟨a, h1, fun y hy => List.mem_append_left _ hy⟩
    | tail _ hx => obtain ⟨q, hq, hm⟩ := eachK_some h2 x hx; exact ⟨q, hq, fun y hy => List.mem_append_right _ (hm y hy)⟩
theorem runAll_some {run : St → Option (List Out)} : ∀ {l : List St} {outs : List Out}, runAll run l = some outs → ∀ x ∈ l, ∃ r, run x = some r ∧ ∀ y ∈ r, y ∈ outs
  | [], _, _, x, hx => by cases hx
  | z :: l, outs, h, x, hx => by
    obtain ⟨a, b, h1, h2, rfl⟩ := app_some h
    cases hx with
    | head => exact ⟨a, h1, fun y hy => List.mem_append_left _ hy⟩
    | tail _ hx => obtain ⟨q, hq, hm⟩ := runAll_some h2 x hx; exact ⟨q, hq, fun y hy => List.mem_append_right _ (hm y hy)⟩
theorem normsOf_mem : ∀ {l : List Out} {o : Out}, o ∈ l → o.ex = .norm → o.st ∈ normsOf l
  | x :: l, o, h, hx => by
    rw [List.mem_cons] at h
    simp only [normsOf]
    rcases h with rfl | h
    · rw [hx]; exact .head _
    · have := normsOf_mem h hx
      split
      · exact .tail _ this
      · exact this
theorem othersOf_mem : ∀ {l : List Out} {o : Out}, o ∈ l → o.ex ≠ .norm → o ∈ othersOf l
  | x :: l, o, h, hx => by
    rw [List.mem_cons] at h
    simp only [othersOf]
    rcases h with rfl | h
    · split
      · rename_i he; exact absurd he hx
      · exact .head _
    · have := othersOf_mem h hx
      split
      · exact this
      · exact .tail _ this
theorem loopX_ok {P : Program} {ρ : Env} {lk : List Nat} {nt : Nat} {c : Code} {run : St → Option (List Out)} {st0 : St} {β0 : Bet} {w0 : World} (hm0 : MemRel ρ β0 st0.mem w0)
    (hrun : ∀ st outs, run st = some outs → ∀ β a w, PcH ρ st.pc → ActR ρ β nt D st a → MemRel ρ β st.mem w → NoStuck ρ outs → c.wp P (Post ρ β lk nt D w outs) a w) :
    ∀ (k : Nat) (sts : List St) (outs : List Out), loopX run (fewM lk st0.tm st0.mem) k sts = some outs → NoStuck ρ outs → ∀ st ∈ sts, ∀ β a w, Stp β0 lk w0 β w → PcH ρ st.pc → ActR ρ β nt D st a → MemRel ρ β st.mem w →
      Code.rounds P c (Post ρ β0 lk nt D w0 outs) k a w := by
  intro k
  induction k with
  | zero =>
    intro sts outs h hns st hst β a w hs hp ha hm
    simp only [loopX, Option.some.injEq] at h
    rw [← h] at hns
    exact (hns _ (List.mem_map_of_mem hst) 41 rfl hp).elim
  | succ k ih =>
    intro sts outs h hns st hst β a w hs hp ha hm
    simp only [loopX] at h
    split at h
    · rename_i l hl
      -- each end is told, or goes on
      generalize hl' : (bif manyN l then fewM lk st0.tm st0.mem l else l) = l' at h
      have main : (∀ o ∈ l', o.ex ≠ .norm → o ∈ outs) ∧ (∀ o ∈ l', o.ex = .norm → ∃ ns o2, o.st ∈ ns ∧ loopX run (fewM lk st0.tm st0.mem) k ns = some o2 ∧ ∀ x ∈ o2, x ∈ outs) := by
        split at h
        · rename_i hnil
          cases h
          refine ⟨fun o ho hx => othersOf_mem ho hx, fun o ho hx => ?_⟩
          have := normsOf_mem ho hx
          rw [hnil] at this; cases this
        · obtain ⟨o1, o2, e1, e2, rfl⟩ := app_some h
          cases e1
          exact ⟨fun o ho hx => List.mem_append_left _ (othersOf_mem ho hx), fun o ho hx => ⟨_, o2, normsOf_mem ho hx, e2, fun x hx => List.mem_append_right _ hx⟩⟩
      have hn2 : NoStuck ρ l' := fun o ho j hj hpc => hns o (main.1 o ho (by rw [hj]; simp)) j hj hpc
      obtain ⟨r, hr, hsub⟩ := runAll_some hl st hst
      have hnl : NoStuck ρ l := by
        cases hm2 : manyN l
        · rw [hm2] at hl'; rw [show l' = l from hl'.symm] at hn2; exact hn2
        · rw [hm2] at hl'; rw [← show fewM lk st0.tm st0.mem l = l' from hl'] at hn2; exact fewM_stuck hn2
      rw [rounds_succ]
      refine Code.wp_mono (fun e a1 w1 hq => ?_) (hrun st r hr β a w hp ha hm fun x hx => hnl x (hsub x hx))
      have hq : Post ρ β0 lk nt D w0 l' e a1 w1 := by
        have hq := Post.mono hsub (Post.from hs hq)
        cases hm2 : manyN l
        · rw [hm2] at hl'; rw [show l' = l from hl'.symm]; exact hq
        · rw [hm2] at hl'; rw [← show fewM lk st0.tm st0.mem l = l' from hl']; exact Post.fewM (st := st0) hm0 hq
      obtain ⟨o, ho, hpc, hex, β1, hs1, ha1, hm1⟩ := hq
      cases hoe : o.ex with
      | norm =>
        rw [hoe] at hex
        cases e <;> simp only [ExR] at hex
        obtain ⟨ns, o2, hmem, hgo, hsub2⟩ := main.2 o ho hoe
        exact rounds_mono (fun e a w hq => Post.mono hsub2 hq) (ih ns o2 hgo (fun x hx => hns x (hsub2 x hx)) o.st hmem β1 a1 w1 hs1 hpc ha1 hm1)
      | exit i =>
        have hP : Post ρ β0 lk nt D w0 outs e a1 w1 := ⟨o, main.1 o ho (by rw [hoe]; simp), hpc, hex, β1, hs1, ha1, hm1⟩
        rw [hoe] at hex
        cases e <;> simp only [ExR] at hex
        exact hP
      | ret =>
        have hP : Post ρ β0 lk nt D w0 outs e a1 w1 := ⟨o, main.1 o ho (by rw [hoe]; simp), hpc, hex, β1, hs1, ha1, hm1⟩
        rw [hoe] at hex
        cases e <;> simp only [ExR] at hex
        exact hP
      | panic s =>
        have hP : Post ρ β0 lk nt D w0 outs e a1 w1 := ⟨o, main.1 o ho (by rw [hoe]; simp), hpc, hex, β1, hs1, ha1, hm1⟩
        rw [hoe] at hex
        cases e <;> simp only [ExR] at hex
        exact hP
      | stuck j => exact (hn2 o ho j hoe hpc).elim
    · cases h
theorem stepOp_ok {C : Cfg} (hC : C.Types) {ρ : Env} (hH : HookOk C ρ) {run : List Nat → Nat → Task → St → Option (List Out)} {lk : List Nat} {nt : Nat} {all : List Oper} {o : Oper} {st : St} {next again : St → Option (List Out)} {outs : List Out}
    (h : stepOp C run lk nt all o st next again = some outs) {β : Bet} {a : Act} {w : World} (hp : PcH ρ st.pc) (ha : ActR ρ β nt D st a) (hm : MemRel ρ β st.mem w) (hns : NoStuck ρ outs) {K : Act → World → Prop} {Q : Exit → Act → World → Prop} (hQ : ∀ c w', Post ρ β lk nt D w outs (.panic c) a w' → Q (.panic c) a w')
    (hrun : RunOk C ρ run)
    (hnext : ∀ st' outs', next st' = some outs' → ∀ β' a' w', PcH ρ st'.pc → ActR ρ β' nt D st' a' → MemRel ρ β' st'.mem w' → NoStuck ρ outs' → Stp β lk w β' w' → (∀ x ∈ outs', x ∈ outs) → K a' w')
    (hagain : ∀ st' outs', again st' = some outs' → PcH ρ st'.pc → ActR ρ β nt D st' a → MemRel ρ β st'.mem w → NoStuck ρ outs' → (∀ x ∈ outs', x ∈ outs) → OpT C.P all.toArray o K Q a w) :
    OpT C.P all.toArray o K Q a w := by
  have nostuck : ∀ k, outs = [⟨.stuck k, st⟩] → False := fun k ho => by
    rw [ho] at hns; exact hns _ (.head _) k rfl hp
  have hw := wantX_yes (all := all) (o := o) hp ha
  have two : ∀ b, app (again (st.know b true)) (again (st.know b false)) = some outs → OpT C.P all.toArray o K Q a w := by
    intro b happ
    obtain ⟨o1, o2, e1, e2, rfl⟩ := app_some happ
    cases hb : b.ev ρ
    · exact hagain _ o2 e2 (addPc_ok b false hb hp) (ha.know b false) hm hns.right (fun x hx => List.mem_append_right _ hx)
    · exact hagain _ o1 e1 (addPc_ok b true hb hp) (ha.know b true) hm hns.left (fun x hx => List.mem_append_left _ hx)
  have yes : o.wp C.P a w K Q → Region.wanted o (yielded all.toArray a.tmps) = true → OpT C.P all.toArray o K Q a w := fun h1 h2 =>
    ⟨fun _ => .inl h1, fun h3 => by rw [h2] at h3; cases h3⟩
  have after : ∀ (id : Nat) (args : List SV) (couts : List COut), calleeX st.tm o.op = some (id, args) →
      bindC (afterC nt st o.dst next) couts = some outs →
      (NoStuckC ρ couts → ∀ vs, relL ρ β args vs → (∃ fn body, C.P.funcs[id]? = some fn ∧ (fn.name == "runtime.NumGoroutine") = false ∧ fn.body = some body) ∧ Calls C.P id vs.toArray w (CPost ρ β lk w couts)) →
      o.wp C.P a w K Q := by
    intro id args couts hcal hb hcalls
    obtain ⟨vs, hr, henter⟩ := callee_ok (C := C) ha.tm hcal
    have hnc : NoStuckC ρ couts := fun c hc k hk => by
      obtain ⟨r, hr, hm⟩ := bindC_some hb c hc
      simp only [afterC, hk] at hr
      cases hr
      exact hns _ (hm _ (.head _)) k rfl
    obtain ⟨⟨fn, body, h1, h2, h3⟩, hc⟩ := hcalls hnc vs hr
    refine wp_enter (henter fn body w h1 h2 h3) (Calls.mono hc fun e w' hq => ?_)
    obtain ⟨c, hcm, hpc, β', hs, hm', he⟩ := hq
    obtain ⟨r, hr', hmem⟩ := bindC_some hb c hcm
    cases hce : c.ex with
    | stuck k => exact (hnc c hcm k hce hpc).elim
    | panic v =>
      simp only [afterC, hce] at hr'
      cases hr'
      rw [hce] at he
      cases e <;> simp only [EndR] at he
      obtain ⟨u, hu, hch⟩ := he
      cases hun : under 0 v
      · rw [hun] at hmem
        exact (hns _ (hmem _ (.head _)) 32 rfl hpc).elim
      · rw [hun] at hmem
        exact hQ _ _ ⟨_, hmem _ (.head _), hpc, ⟨u, rel_any hun hu, hch⟩, β', hs, ⟨(ha.stp hs).tm, ha.nt, ha.df⟩, hm'⟩
    | ret v =>
      rw [hce] at he
      cases e <;> simp only [EndR] at he
      rename_i u
      simp only [afterC, hce] at hr'
      have ha' : ActR ρ β' nt D (St.put nt { st with mem := c.mem, pc := c.pc } o.dst v) (a.put o.dst u) := by
        have h0 : ActR ρ β' nt D { st with mem := c.mem, pc := c.pc } a := ⟨(ha.stp hs).tm, ha.nt, ha.df⟩
        exact h0.put o.dst he
      exact hnext _ r hr' β' (a.put o.dst u) w' (by rw [St.put_pc]; exact hpc) ha' (by rw [St.put_mem]; exact hm') (fun x hx => hns x (hmem x hx)) hs hmem
  unfold stepOp at h
  split at h
  · cases h; exact (nostuck 35 rfl).elim
  · rename_i b _; exact two _ h
  · rename_i hwx
    refine ⟨(fun h1 => by rw [hw.2 hwx] at h1; cases h1), fun _ => ?_⟩
    exact hnext _ outs h β _ w (by rw [St.put_pc]; exact hp) (ha.put o.dst (undefX_rel ρ β)) (by rw [St.put_mem]; exact hm) hns (Stp.refl _ _ _) (fun _ hx => hx)
  · rename_i hwx
    have hwy := hw.1 hwx
    split at h
    · rename_i id args hcal
      refine yes ?_ hwy
      split at h
      · rename_i fn hfn
        obtain ⟨hf1, hf2⟩ := hC.fn id fn hfn
        split at h
        · rename_i body hbody
          split at h
          · rename_i couts hk
            exact after id args _ hcal h fun hnc vs hr => ⟨⟨fn, body, hf1, hf2, hbody⟩,
              (hH id args st.mem st.pc lk couts hk β w vs hp hr hm (fun o ho k hx hpc => hnc o (aliveC_mem ho hpc) k hx hpc)).mono fun e w' ⟨o, ho, hpc, r⟩ => ⟨o, aliveC_mem ho hpc, hpc, r⟩⟩
          · split at h
            · rename_i couts h1
              refine after id args _ hcal h fun hnc' vs hr => ⟨⟨fn, body, hf1, hf2, hbody⟩, ?_⟩
              exact (callB_ok hC hrun h1 hf1 hbody hp hr hm (joined_stuck hnc')).mono fun e w' hq => (joined_post hnc' hp hm hq).unlock (lockC_sub C id st.mem lk)
            · cases h
        · split at h
          · rename_i s hx
            obtain ⟨vs, hr, hrun1⟩ := callee_run (C := C) ha.tm hcal
            obtain ⟨v, hv, hrun2⟩ := extX_ok hC hp hx hr
            exact wp_value (by rw [hrun1, hrun2]) (hnext _ outs h β (a.put o.dst v) w (by rw [St.put_pc]; exact hp) (ha.put o.dst hv) (by rw [St.put_mem]; exact hm) hns (Stp.refl _ _ _) (fun _ hx => hx))
          · cases h; exact (nostuck 36 rfl).elim
      · cases h; exact (nostuck 36 rfl).elim
    · split at h
      · rename_i x hox
        split at h
        · rename_i t s hx
          cases hu : under 0 s
          · rw [hu] at h; cases h; exact (nostuck 76 rfl).elim
          · rw [hu] at h
            cases h
            have hev := evX_ok ha.tm hx
            have hev0 : SV.rel ρ [] (.ifc t s) (a.eval x) := rel_any (s := .ifc t s) (by simpa [under] using hu) hev
            obtain ⟨u, hu1, hu2⟩ := hev
            refine yes ?_ hwy
            have hr : (execOp a.eval o).run C.P w = .halt (.panic (a.eval x)) w := by
              obtain ⟨dst, op, type, pos, after, guard⟩ := o
              simp only at hox
              subst hox
              simp [execOp, Instr.panic, hu2, goPanic]
            unfold Oper.wp
            rw [hr]
            exact hQ _ _ ⟨_, .head _, hp, ⟨_, hev0, [], rfl, fun _ h => by cases h⟩, β, Stp.refl _ _ _, ha, hm⟩
        · cases h; exact (nostuck 76 rfl).elim
      · split at h
        · rename_i s m hop
          obtain ⟨w', β', hs, hm', v, hr, r⟩ := (opM_ok hC (lk := lk) hm ha.tm o).1 s m hop
          refine yes (wp_value hr ?_) hwy
          have ha' : ActR ρ β' nt D (St.put nt { st with mem := m } o.dst s) (a.put o.dst v) := by
            have h0 : ActR ρ β' nt D { st with mem := m } a := ⟨(ha.stp hs).tm, ha.nt, ha.df⟩
            exact h0.put o.dst r
          exact hnext _ outs h β' (a.put o.dst v) w' (by rw [St.put_pc]; exact hp) ha' (by rw [St.put_mem]; exact hm') hns hs (fun _ hx => hx)
        · rename_i m hop
          obtain ⟨w', β', hs, hm', hr⟩ := (opM_ok hC (lk := lk) hm ha.tm o).2 m hop
          refine yes (wp_skipR hr ?_) hwy
          have ha' : ActR ρ β' nt D (St.put nt { st with mem := m } o.dst undefX) (a.put o.dst undef) := by
            have h0 : ActR ρ β' nt D { st with mem := m } a := ⟨(ha.stp hs).tm, ha.nt, ha.df⟩
            exact h0.put o.dst (undefX_rel ρ β')
          exact hnext _ outs h β' (a.put o.dst undef) w' (by rw [St.put_pc]; exact hp) ha' (by rw [St.put_mem]; exact hm') hns hs (fun _ hx => hx)
        · split at h
          · rename_i l hop
            obtain ⟨x, hx, w', β', hs, hm', v, hr, r⟩ := opN_ok hC (lk := lk) hp hm ha.tm o hop
            obtain ⟨o1, ho1, hsub⟩ := eachV_some h x hx
            refine yes (wp_value hr ?_) hwy
            have ha' : ActR ρ β' nt D (St.put nt { st with mem := x.2 } o.dst x.1) (a.put o.dst v) := by
              have h0 : ActR ρ β' nt D { st with mem := x.2 } a := ⟨(ha.stp hs).tm, ha.nt, ha.df⟩
              exact h0.put o.dst r
            exact hnext _ o1 ho1 β' (a.put o.dst v) w' (by rw [St.put_pc]; exact hp) ha' (by rw [St.put_mem]; exact hm') (fun y hy => hns y (hsub y hy)) hs hsub
          split at h
          · rename_i l hop
            obtain ⟨x, hx, w', β', hs, hm', hv⟩ := opK_ok hC (lk := lk) hm ha.tm o hop
            obtain ⟨o1, ho1, hsub⟩ := eachK_some h x hx
            obtain ⟨xv, xm⟩ := x
            have h0 : ActR ρ β' nt D { st with mem := xm } a := ⟨(ha.stp hs).tm, ha.nt, ha.df⟩
            cases xv with
            | some s =>
              obtain ⟨v, hr, r⟩ := hv
              exact yes (wp_value hr (hnext _ o1 ho1 β' (a.put o.dst v) w' (by rw [St.put_pc]; exact hp) (h0.put o.dst r) (by rw [St.put_mem]; exact hm') (fun y hy => hns y (hsub y hy)) hs hsub)) hwy
            | none => exact yes (wp_skipR hv (hnext _ o1 ho1 β' (a.put o.dst undef) w' (by rw [St.put_pc]; exact hp) (h0.put o.dst (undefX_rel ρ β')) (by rw [St.put_mem]; exact hm') (fun y hy => hns y (hsub y hy)) hs hsub)) hwy
          split at h
          · rename_i s m hop
            obtain ⟨w', β', hs, hm', v, hr, r⟩ := opA_ok hC (lk := lk) hp hm ha.tm o hop
            refine yes (wp_value hr ?_) hwy
            have ha' : ActR ρ β' nt D (St.put nt { st with mem := m } o.dst s) (a.put o.dst v) := by
              have h0 : ActR ρ β' nt D { st with mem := m } a := ⟨(ha.stp hs).tm, ha.nt, ha.df⟩
              exact h0.put o.dst r
            exact hnext _ outs h β' (a.put o.dst v) w' (by rw [St.put_pc]; exact hp) ha' (by rw [St.put_mem]; exact hm') hns hs (fun _ hx => hx)
          · rename_i b hop; exact two _ h
          · split at h
            · rename_i s hop
              obtain ⟨v, r, hr⟩ := opP_ok hC hp hm.o ha.tm hop
              refine yes (wp_value (hr w (Same.refl _ _ _)) ?_) hwy
              exact hnext _ outs h β _ w (by rw [St.put_pc]; exact hp) (ha.put o.dst r) (by rw [St.put_mem]; exact hm) hns (Stp.refl _ _ _) (fun _ hx => hx)
            · rename_i b hop; exact two _ h
            · cases h; exact (nostuck _ rfl).elim

/-- an operation that may be taken first -/
theorem takeX_ok {C : Cfg} (hC : C.Types) {ρ : Env} {β : Bet} {nt : Nat} {all : List Oper} {listed : List Bool} {st : St} {K : List Nat} {i : Nat} {s : SV} {a : Act} {w : World}
    (h : takeX C all listed st K i = some s) (hp : PcH ρ st.pc) (ha : ActR ρ β nt D st a) (hm : MemRel ρ β st.mem w) :
    ∃ o v, all[i]? = some o ∧ s.rel ρ β v ∧ Region.noSelect all.toArray = true ∧ Region.free .any all.toArray listed.toArray i = true ∧ YieldsIf C.P all.toArray (SW β w K) o v a := by
  unfold takeX at h
  split at h
  · cases h
  · rename_i o ho
    have hw := wantX_yes (all := all) (o := o) hp ha
    split at h
    · rename_i hwx
      cases hc : noSelL all && freeGo all listed i o all 0
      · rw [hc] at h; cases h
      · rw [hc] at h; cases h
        rw [Bool.and_eq_true] at hc
        exact ⟨o, undef, ho, undefX_rel ρ β, noSelL_ok hc.1, free_ok ho hc.2, .inr ⟨hw.2 hwx, rfl⟩⟩
    · rename_i hwx
      split at h
      · split at h
        · rename_i s' hop
          cases hc : noSelL all && freeGo all listed i o all 0
          · rw [hc] at h; cases h
          · rw [hc] at h; cases h
            rw [Bool.and_eq_true] at hc
            obtain ⟨v, r, hrun⟩ := opP_ok hC hp (hm.o.only K) ha.tm hop
            exact ⟨o, v, ho, r, noSelL_ok hc.1, free_ok ho hc.2, .inl ⟨hw.1 hwx, fun w' hS => hrun w' (hS.same st.mem)⟩⟩
        · cases h
      · cases h
    · cases h
theorem firstTake_some {C : Cfg} {all : List Oper} {listed : List Bool} {st : St} {K : List Nat} {i : Nat} {s : SV} : ∀ {rs : List Nat}, firstTake C all listed st K rs = some (i, s) → i ∈ rs ∧ takeX C all listed st K i = some s
  | [], h => by cases h
  | r :: rs, h => by
    simp only [firstTake] at h
    split at h
    · rename_i s' hs; cases h; exact ⟨.head _, hs⟩
    · obtain ⟨h1, h2⟩ := firstTake_some h; exact ⟨.tail _ h1, h2⟩
theorem settleL_mem {C : Cfg} {all : List Oper} {nt : Nat} {K : List Nat} : ∀ {l : List Fr} {x : Fr}, x ∈ l → ∀ y ∈ settleX C all nt K (all.length + 64) x, y ∈ settleL C all nt K l
  | z :: l, x, h, y, hy => by
    cases h with
    | head => exact List.mem_append_left _ hy
    | tail _ h => exact List.mem_append_right _ (settleL_mem h y hy)
def PanNil (all : List Oper) (l : List Out) : Prop := ∀ o ∈ l, ∀ s, o.ex = .panic s → ∀ oi ∈ all, ∀ d, oi.dst = some d → o.st.tm.get d = none
theorem settleX_ok {C : Cfg} (hC : C.Types) {ρ : Env} {β : Bet} {lk : List Nat} {nt : Nat} {all : List Oper} {K : List Nat} {w w0 : World} {β0 : Bet} {outs : List Out} (hcl : PanNil all outs) : ∀ (m : Nat) (x : Fr) (a : Act), PcH ρ x.st.pc → ActR ρ β nt D x.st a → MemRel ρ β x.st.mem w →
    (∀ y ∈ settleX C all nt K m x, ∀ a', PcH ρ y.st.pc → ActR ρ β nt D y.st a' → MemRel ρ β y.st.mem w → wpAnyH C.P .any all.toArray (Post ρ β0 lk nt D w0 outs) (SW β w K) y.k y.listed.toArray a' w) →
    wpAnyH C.P .any all.toArray (Post ρ β0 lk nt D w0 outs) (SW β w K) x.k x.listed.toArray a w := by
  intro m
  induction m with
  | zero => intro x a hp ha hm h; exact h x (.head _) a hp ha hm
  | succ m ih =>
    intro x a hp ha hm h
    obtain ⟨k, listed, st⟩ := x
    simp only [settleX] at h
    split at h
    · exact h _ (.head _) a hp ha hm
    · rename_i hne
      generalize hrs : readyL all listed = rs at h hne
      have hrd : Region.ready .any all.toArray listed.toArray = rs := by rw [← hrs]; exact (readyL_eq all listed).symm
      cases k with
      | zero => exact h _ (.head _) a hp ha hm
      | succ k =>
        simp only at h
        split at h
        · rename_i i s hft
          obtain ⟨hi, htake⟩ := firstTake_some hft
          obtain ⟨o, v, ho, r, hsel, hfree, hy⟩ := takeX_ok hC (w := w) htake hp ha hm
          have hdst : dstOf all i = o.dst := by simp [dstOf, ho]
          rw [hdst] at h
          have := ih ⟨k, setT listed i, st.put nt o.dst s⟩ (a.put o.dst v) (by simp only [St.put_pc]; exact hp) (ha.put o.dst r) (by simp only [St.put_mem]; exact hm) h
          simp only at this
          rw [setT_eq] at this
          refine wpAnyH_take (i := i) (oi := o) (v := v) (by simpa using ho) hsel hfree (by rw [hrd]; simpa using hi) ?_ hy (SW.refl _ _ _) this
          rintro c a' w' ⟨x, hx, hpc, hex, β1, hs1, ha1, hm1⟩
          have hxn : ∃ s, x.ex = .panic s := by cases hxe : x.ex <;> rw [hxe] at hex <;> first | exact ⟨_, rfl⟩ | exact hex.elim
          obtain ⟨s1, hs1'⟩ := hxn
          refine ⟨x, hx, hpc, hex, β1, hs1, ⟨⟨fun t s ht => ?_⟩, ?_, ?_⟩, hm1⟩
          · obtain ⟨u, hu, r⟩ := ha1.tm.get t s ht
            refine ⟨u, ?_, r⟩
            cases hd : o.dst with
            | none => simpa [Act.put, hd] using hu
            | some d =>
              have hne : t ≠ d := fun e => by
                have := hcl x hx s1 hs1' o (List.mem_of_getElem? ho) d hd
                rw [← e, ht] at this; cases this
              rw [hd] at hu
              simpa [Act.put, Array.getElem?_setIfInBounds, Ne.symm hne] using hu
          · have := ha1.nt; cases hd : o.dst <;> simpa [Act.put, hd] using this
          · have := ha1.df; cases hd : o.dst <;> simpa [Act.put, hd] using this
        · split at h
          · rename_i b hb
            cases hbv : (sp C st b).ev ρ
            · exact ih ⟨k + 1, listed, st.know (sp C st b) false⟩ a (addPc_ok _ false hbv hp) (ha.know _ false) hm fun y hy => h y (List.mem_append_right _ hy)
            · exact ih ⟨k + 1, listed, st.know (sp C st b) true⟩ a (addPc_ok _ true hbv hp) (ha.know _ true) hm fun y hy => h y (List.mem_append_left _ hy)
          · exact h _ (.head _) a hp ha hm
theorem oneR_some {all : List Oper} {one : Nat → St → Option (List Out)} {x : Fr} {k : Nat} : ∀ {rs : List Nat} {o : List Out} {f : List Fr}, oneR all one x k rs = some (o, f) → ∀ i ∈ rs, ∃ r, one i x.st = some r ∧ (∀ y ∈ othersOf r, clrO all y ∈ o) ∧ ∀ st ∈ normsOf r, (⟨k, setT x.listed i, st⟩ : Fr) ∈ f
  | [], _, _, _, i, hi => by cases hi
  | j :: rs, o, f, h, i, hi => by
    simp only [oneR] at h
    split at h
    · rename_i r o' f' h1 h2
      cases h
      cases hi with
      | head => exact ⟨r, h1, fun y hy => List.mem_append_left _ (List.mem_map_of_mem hy), fun st hst => List.mem_append_left _ (List.mem_map_of_mem (f := fun st => (⟨k, setT x.listed j, st⟩ : Fr)) hst)⟩
      | tail _ hi =>
        obtain ⟨q, hq, h3, h4⟩ := oneR_some h2 i hi
        exact ⟨q, hq, fun y hy => List.mem_append_right _ (h3 y hy), fun st hst => List.mem_append_right _ (h4 st hst)⟩
    · cases h
theorem levelF_some {all : List Oper} {one : Nat → St → Option (List Out)} : ∀ {l : List Fr} {o : List Out} {f : List Fr}, levelF all one l = some (o, f) → ∀ x ∈ l, ∃ o' f', stepF all one x = some (o', f') ∧ (∀ y ∈ o', y ∈ o) ∧ ∀ y ∈ f', y ∈ f
  | [], _, _, _, x, hx => by cases hx
  | z :: l, o, f, h, x, hx => by
    simp only [levelF] at h
    split at h
    · rename_i a b c d h1 h2
      cases h
      cases hx with
      | head => exact ⟨a, b, h1, fun y hy => List.mem_append_left _ hy, fun y hy => List.mem_append_left _ hy⟩
      | tail _ hx =>
        obtain ⟨o', f', h3, h4, h5⟩ := levelF_some h2 x hx
        exact ⟨o', f', h3, fun y hy => List.mem_append_right _ (h4 y hy), fun y hy => List.mem_append_right _ (h5 y hy)⟩
    · cases h
theorem clrO_ex (all : List Oper) (o : Out) : (clrO all o).ex = o.ex := by unfold clrO; split <;> simp_all
theorem clrO_pc (all : List Oper) (o : Out) : (clrO all o).st.pc = o.st.pc := by unfold clrO; split <;> rfl
theorem clrO_nil {all : List Oper} {o : Out} {s : SV} (h : o.ex = .panic s) : ∀ oi ∈ all, ∀ d, oi.dst = some d → (clrO all o).st.tm.get d = none := fun oi hi d hd => by unfold clrO; rw [h]; exact delAll_dst hd hi
theorem clrO_post {all : List Oper} {ρ : Env} {β : Bet} {lk : List Nat} {nt : Nat} {w w' : World} {outs : List Out} {o : Out} {e : Exit} {a : Act} (hm : clrO all o ∈ outs) (hp : PcH ρ o.st.pc) (hx : ExR ρ o.ex e) {β' : Bet} (hs : Stp β lk w β' w') (ha : ActR ρ β' nt D o.st a) (hmr : MemRel ρ β' o.st.mem w') :
    Post ρ β lk nt D w outs e a w' := by
  refine ⟨_, hm, by rw [clrO_pc]; exact hp, by rw [clrO_ex]; exact hx, β', hs, ?_, ?_⟩
  · unfold clrO; split
    · exact ⟨⟨fun t s h => ha.tm.get t s (delAll_sub h)⟩, ha.nt, ha.df⟩
    · exact ha
  · unfold clrO; split <;> exact hmr
theorem PanNil.append {all : List Oper} {a b : List Out} (h1 : PanNil all a) (h2 : PanNil all b) : PanNil all (a ++ b) := fun o ho => (List.mem_append.1 ho).elim (h1 o) (h2 o)
theorem oneR_nil {all : List Oper} {one : Nat → St → Option (List Out)} {x : Fr} {k : Nat} : ∀ {rs : List Nat} {o : List Out} {f : List Fr}, oneR all one x k rs = some (o, f) → PanNil all o
  | [], _, _, h => by cases h; intro o ho; cases ho
  | j :: rs, o, f, h => by
    simp only [oneR] at h
    split at h
    · rename_i r o' f' h1 h2
      cases h
      refine PanNil.append (fun o ho s hs => ?_) (oneR_nil h2)
      obtain ⟨y, _, rfl⟩ := List.mem_map.1 ho
      rw [clrO_ex] at hs
      exact clrO_nil hs
    · cases h
theorem stepF_nil {all : List Oper} {one : Nat → St → Option (List Out)} {x : Fr} {o : List Out} {f : List Fr} (h : stepF all one x = some (o, f)) : PanNil all o := by
  unfold stepF at h
  split at h
  · cases h; intro o ho s hs; simp at ho; subst ho; cases hs
  · split at h
    · cases h; intro o ho s hs; simp at ho; subst ho; cases hs
    · exact oneR_nil h
theorem levelF_nil {all : List Oper} {one : Nat → St → Option (List Out)} : ∀ {l : List Fr} {o : List Out} {f : List Fr}, levelF all one l = some (o, f) → PanNil all o
  | [], _, _, h => by cases h; intro o ho; cases ho
  | z :: l, o, f, h => by
    simp only [levelF] at h
    split at h
    · rename_i a b c d h1 h2
      cases h
      exact PanNil.append (stepF_nil h1) (levelF_nil h2)
    · cases h
theorem drwL_nil {C : Cfg} {all : List Oper} {nt : Nat} {K : List Nat} {one : Nat → St → Option (List Out)} : ∀ (m : Nat) (l : List Fr) (outs : List Out), drwL C all nt K one m l = some outs → PanNil all outs
  | 0, l, outs, h => by
    simp only [drwL, Option.some.injEq] at h
    subst h
    intro o ho s hs
    obtain ⟨x, _, rfl⟩ := List.mem_map.1 ho
    cases hs
  | m + 1, l, outs, h => by
    simp only [drwL] at h
    split at h
    · rename_i o ho; cases h; exact levelF_nil ho
    · rename_i o f _ ho
      obtain ⟨o1, o2, e1, e2, rfl⟩ := app_some h
      cases e1
      exact PanNil.append (levelF_nil ho) (drwL_nil m _ _ e2)
    · cases h
theorem drwL_ok {C : Cfg} (hC : C.Types) {ρ : Env} {lk : List Nat} {nt : Nat} {all : List Oper} {K : List Nat} (hK : ∀ id ∈ K, id ∈ lk) {one : Nat → St → Option (List Out)}
    (hone : ∀ i st r, one i st = some r → ∀ β a w, PcH ρ st.pc → ActR ρ β nt D st a → MemRel ρ β st.mem w → NoStuck ρ r → ∀ Q', (∀ e a' w', e ≠ .normal → Post ρ β lk nt D w r e a' w' → Q' e a' w') → wpOp C.P all.toArray Q' i (fun a' w' => Post ρ β lk nt D w r .normal a' w') a w) :
    ∀ (m : Nat) (l : List Fr) (outs : List Out), drwL C all nt K one m l = some outs → NoStuck ρ outs → ∀ x ∈ l, ∀ β a w, PcH ρ x.st.pc → ActR ρ β nt D x.st a → MemRel ρ β x.st.mem w →
      wpAnyH C.P .any all.toArray (Post ρ β lk nt D w outs) (SW β w K) x.k x.listed.toArray a w := by
  intro m
  induction m with
  | zero =>
    intro l outs h hns x hx β a w hp ha hm
    simp only [drwL, Option.some.injEq] at h
    rw [← h] at hns
    exact (hns _ (List.mem_map_of_mem hx) 37 rfl hp).elim
  | succ m ih =>
    intro l outs h hns x hx β a w hp ha hm
    have hcl := drwL_nil _ _ _ h
    simp only [drwL] at h
    have main : ∃ o f, levelF all one (dedupF (settleL C all nt K l)) = some (o, f) ∧ (∀ y ∈ o, y ∈ outs) ∧ (∀ y ∈ f, ∃ o2, drwL C all nt K one m f = some o2 ∧ ∀ z ∈ o2, z ∈ outs) := by
      split at h
      · rename_i o ho
        cases h
        exact ⟨_, _, ho, fun y hy => hy, fun y hy => by cases hy⟩
      · rename_i o f _ ho
        obtain ⟨o1, o2, e1, e2, rfl⟩ := app_some h
        cases e1
        exact ⟨_, _, ho, fun y hy => List.mem_append_left _ hy, fun y _ => ⟨o2, e2, fun z hz => List.mem_append_right _ hz⟩⟩
      · cases h
    obtain ⟨o, f, hlev, hsub, hgo⟩ := main
    refine settleX_ok hC hcl (all.length + 64) x a hp ha hm fun y hy a hp ha hm => ?_
    obtain ⟨o', f', hstep, hs1, hs2⟩ := levelF_some hlev y (dedupF_mem (settleL_mem hx y hy))
    obtain ⟨k, listed, st⟩ := y
    simp only [stepF] at hstep
    split at hstep
    · rename_i hrs
      cases hstep
      exact wpAnyH_done (by rw [← readyL_eq]; exact hrs) ⟨_, hsub _ (hs1 _ (.head _)), hp, trivial, β, Stp.refl _ _ _, ha, hm⟩ k
    · rename_i hne
      generalize hrs : readyL all listed = rs at hstep hne
      have hrd : Region.ready .any all.toArray listed.toArray = rs := by rw [← hrs]; exact (readyL_eq all listed).symm
      cases k with
      | zero =>
        simp only [Option.some.injEq, Prod.mk.injEq] at hstep
        obtain ⟨rfl, rfl⟩ := hstep
        exact (hns _ (hsub _ (hs1 _ (.head _))) 37 rfl hp).elim
      | succ k =>
        simp only at hstep
        refine wpAnyH_all hrd (fun e => hne e) fun i hi => ?_
        obtain ⟨r, hr, h1, h2⟩ := oneR_some hstep i hi
        have hnr : NoStuck ρ r := fun o ho j hj hpc => hns _ (hsub _ (hs1 _ (h1 _ (othersOf_mem ho (by rw [hj]; simp))))) j (by rw [clrO_ex]; exact hj) (by rw [clrO_pc]; exact hpc)
        have hw := hone i st r hr β a w hp ha hm hnr (Post ρ β lk nt D w outs) fun e a' w' hne ⟨o1, ho1, hpc, hex, β1, hst, ha1, hm1⟩ =>
          clrO_post (hsub _ (hs1 _ (h1 _ (othersOf_mem ho1 fun hn => by rw [hn] at hex; cases e <;> simp_all [ExR])))) hpc hex hst ha1 hm1
        have conv : ∀ a' w', Post ρ β lk nt D w r .normal a' w' → SW β w K w' ∧ wpAnyH C.P .any all.toArray (Post ρ β lk nt D w outs) (SW β w K) k (listed.toArray.setIfInBounds i true) a' w' := by
          rintro a' w' ⟨o1, ho1, hpc, hex, β1, hst, ha1, hm1⟩
          have hnorm : o1.ex = .norm := by cases hoe : o1.ex <;> rw [hoe] at hex <;> first | rfl | exact hex.elim
          have hf := hs2 _ (h2 _ (normsOf_mem ho1 hnorm))
          obtain ⟨o2, hd, hsub2⟩ := hgo _ hf
          have := ih f o2 hd (fun z hz => hns z (hsub2 z hz)) _ hf β1 a' w' hpc ha1 hm1
          simp only [setT_eq] at this
          exact ⟨SW.of_stp hst hK, wpAnyH_mono (fun e a w hq => (Post.from hst hq).mono hsub2) (fun w'' hS => SW.back hst hK hS) this⟩
        cases hoi : all.toArray[i]? with
        | none => simp only [wpOp, hoi] at hw ⊢; exact conv _ _ hw
        | some o => exact (OpT.op hoi).1 (((OpT.op hoi).2 hw).mono (fun _ _ hk => conv _ _ hk) (fun _ _ _ h => h))

theorem exec_sound {C : Cfg} (hC : C.Types) (hHA : ∀ ρ, HookOk C ρ) : ∀ (n : Nat) (lk : List Nat) (nt : Nat) (t : Task) (st : St) (outs : List Out), exec C n lk nt t st = some outs → taskOk lk t →
    ∀ (ρ : Env) (D : List Deferred) (β : Bet) (a : Act) (w : World), PcH ρ st.pc → ActR ρ β nt D st a → MemRel ρ β st.mem w → NoStuck ρ outs → taskWp C.P n β (Post ρ β lk nt D w outs) t a w := by
  intro n
  induction n with
  | zero => intro lk nt t st outs h; simp [exec] at h
  | succ n ihA =>
    intro lk nt t st outs h htk ρ D β a w hp ha hm hns
    have hH := hHA ρ
    have ih := fun lk nt t st outs h htk β a w => ihA lk nt t st outs h htk ρ D β a w
    have single : ∀ (x : XE) (e : Exit), ExR ρ x e → outs = [⟨x, st⟩] → Post ρ β lk nt D w outs e a w := fun x e hx ho => by
      rw [ho]; exact ⟨_, .head _, hp, hx, β, Stp.refl _ _ _, ha, hm⟩
    have nostuck : ∀ k, outs = [⟨.stuck k, st⟩] → False := fun k ho => by
      rw [ho] at hns; exact hns _ (.head _) k rfl hp
    -- two ways, by a truth
    have two : ∀ {outs : List Out} (hns : NoStuck ρ outs) (b : B) (t' : Task) (l r : Option (List Out)), app l r = some outs →
        (b.ev ρ = true → ∀ o1, l = some o1 → NoStuck ρ o1 → taskWp C.P (n + 1) β (Post ρ β lk nt D w o1) t' a w) →
        (b.ev ρ = false → ∀ o2, r = some o2 → NoStuck ρ o2 → taskWp C.P (n + 1) β (Post ρ β lk nt D w o2) t' a w) → taskWp C.P (n + 1) β (Post ρ β lk nt D w outs) t' a w := by
      intro outs hns b t' l r happ h1 h2
      obtain ⟨o1, o2, e1, e2, rfl⟩ := app_some happ
      cases hb : b.ev ρ
      · exact taskWp_mono (fun e a w => Post.mono fun o ho => List.mem_append_right _ ho) (h2 hb o2 e2 hns.right)
      · exact taskWp_mono (fun e a w => Post.mono fun o ho => List.mem_append_left _ ho) (h1 hb o1 e1 hns.left)
    -- one thing, then another
    have thenN : ∀ (c : Code) (K : Act → World → Prop) (f : St → Option (List Out)), bindN (exec C n lk nt (.code c) st) f = some outs →
        (∀ st' outs' β' a' w', f st' = some outs' → PcH ρ st'.pc → ActR ρ β' nt D st' a' → MemRel ρ β' st'.mem w' → NoStuck ρ outs' → Stp β lk w β' w' → (∀ o ∈ outs', o ∈ outs) → K a' w') →
        c.wp C.P (Exit.then K (Post ρ β lk nt D w outs)) a w := by
      intro c K f hb hK
      unfold bindN at hb
      cases h1 : exec C n lk nt (.code c) st with
      | none => simp [h1] at hb
      | some outs1 =>
        simp only [h1] at hb
        have hn1 : NoStuck ρ outs1 := fun o ho k hk => by
          obtain ⟨r, hr, hm⟩ := bindL_some hb o ho
          rw [hk] at hr
          cases hr
          exact hns o (hm o (.head _)) k hk
        refine Code.wp_mono (fun e a1 w1 hq => ?_) (ih lk nt (.code c) _ _ h1 trivial β a w hp ha hm hn1)
        obtain ⟨o, ho, hpc, hex, β1, hs, ha1, hm1⟩ := hq
        obtain ⟨r, hr, hmem⟩ := bindL_some hb o ho
        cases hoe : o.ex with
        | norm =>
          rw [hoe] at hex hr
          cases e <;> simp only [ExR] at hex
          exact hK o.st r β1 a1 w1 hr hpc ha1 hm1 (fun x hx => hns x (hmem x hx)) hs hmem
        | exit i =>
          rw [hoe] at hr
          cases hr
          have hP : Post ρ β lk nt D w outs e a1 w1 := ⟨o, hmem o (.head _), hpc, hex, β1, hs, ha1, hm1⟩
          rw [hoe] at hex
          cases e <;> simp only [ExR] at hex
          exact hP
        | ret =>
          rw [hoe] at hr
          cases hr
          have hP : Post ρ β lk nt D w outs e a1 w1 := ⟨o, hmem o (.head _), hpc, hex, β1, hs, ha1, hm1⟩
          rw [hoe] at hex
          cases e <;> simp only [ExR] at hex
          exact hP
        | panic s =>
          rw [hoe] at hr
          cases hr
          have hP : Post ρ β lk nt D w outs e a1 w1 := ⟨o, hmem o (.head _), hpc, hex, β1, hs, ha1, hm1⟩
          rw [hoe] at hex
          cases e <;> simp only [ExR] at hex
          exact hP
        | stuck k => exact (hn1 o ho k hoe hpc).elim
    -- a callee
    have hrun : RunOk C ρ (exec C n) := fun lk' nt' t' st' outs' h' htk' D' β' a' w' hp' ha' hm' hn' => ihA lk' nt' t' st' outs' h' htk' ρ D' β' a' w' hp' ha' hm' hn'
    cases t with
    | drw all listed k K =>
      have htk : ∀ id ∈ K, id ∈ lk := htk
      simp only [exec] at h
      simp only [taskWp]
      exact drwL_ok hC htk (fun i st' r hr β' a' w' hp' ha' hm' hn' => by
        have := ih lk nt (.one all i) st' r hr trivial β' a' w' hp' ha' hm' hn'
        simpa only [taskWp] using this) _ _ outs h hns ⟨k, listed, st⟩ (.head _) β a w hp ha hm
    | one all i =>
      simp only [exec] at h
      split at h
      · cases h; exact (nostuck 38 rfl).elim
      · rename_i o ho
        have ho' : all.toArray[i]? = some o := by simpa using ho
        simp only [taskWp]
        intro Q' hQ'
        refine (OpT.op ho').1 (stepOp_ok hC hH h hp ha hm hns (fun c w' hq => hQ' _ _ _ (by simp) hq) hrun (fun st' outs' h' β' a' w' hp' ha' hm' hn' hs hsub => ?_) (fun st' outs' h' hp' ha' hm' hn' hsub => ?_))
        · cases h'
          exact ⟨_, hsub _ (.head _), hp', trivial, β', hs, ha', hm'⟩
        · have := ih lk nt (.one all i) st' outs' h' trivial β a w hp' ha' hm' hn'
          simp only [taskWp] at this
          exact ((OpT.op ho').2 (this Q' fun e a' w' he hx => hQ' e a' w' he (Post.mono hsub hx))).mono (fun _ _ hk => Post.mono hsub hk) (fun _ _ _ h => h)
    | code c =>
      simp only [taskWp]
      cases c <;> simp only [exec] at h
      case skip => cases h; exact wp_skip (single .norm .normal trivial rfl)
      case label l => cases h; exact wp_label (single .norm .normal trivial rfl)
      case exit id => cases h; exact wp_exit (single (.exit id) (.exit id) rfl rfl)
      case ret => cases h; exact wp_ret (single .ret .ret trivial rfl)
      case goto l => cases h; exact (nostuck 34 rfl).elim
      case refuse l => cases h; exact (nostuck 34 rfl).elim
      case scope l => cases h; exact (nostuck 34 rfl).elim
      case rangeFunc => cases h; exact (nostuck 34 rfl).elim
      case loop c =>
        split at h
        · rename_i outs' hg
          cases h
          exact genericL_ok hg hp ha hm (fun L st' outs' h' σ a' w' hp' ha' hm' hn' => ihA (L ++ lk) nt (.code c) st' outs' h' trivial σ D β a' w' hp' ha' hm' hn')
        · exact wp_loop_rounds _ (loopX_ok hm (fun st' outs' h' β' a' w' hp' ha' hm' hn' => ih lk nt (.code c) st' outs' h' trivial β' a' w' hp' ha' hm' hn') _ [st] outs h hns st (.head _) β a w (Stp.refl _ _ _) hp ha hm)
      case seq x y =>
        refine wp_seq (thenN x _ _ h fun st' outs' β' a' w' hf hp' ha' hm' hn' hs hsub => ?_)
        exact Code.wp_mono (fun e a w hq => (Post.from hs hq).mono hsub) (ih lk nt (.code y) st' outs' hf trivial β' a' w' hp' ha' hm' hn')
      case block id c =>
        cases h1 : exec C n lk nt (.code c) st with
        | none => simp [h1] at h
        | some outs1 =>
          simp only [h1, Option.some.injEq] at h
          subst h
          have hns := hns.ofIf
          refine Code.wp_mono (fun e a1 w1 hq => Post.joinIf hp hm _ hq) ?_
          have hn1 : NoStuck ρ outs1 := fun o ho k hk hpc => hns (blockX id o) (List.mem_map_of_mem ho) k (by simp [blockX, hk]) (by simpa [blockX, hk] using hpc)
          refine wp_block (Code.wp_mono (fun e a1 w1 hq => ?_) (ih lk nt (.code c) _ _ h1 trivial β a w hp ha hm hn1))
          obtain ⟨o, ho, hpc, hex, β1, hs, ha1, hm1⟩ := hq
          have mk : ∀ e', ExR ρ (blockX id o).ex e' → (blockX id o).st = o.st → Post ρ β lk nt D w (outs1.map (blockX id)) e' a1 w1 := fun e' he hst =>
            ⟨blockX id o, List.mem_map_of_mem ho, by rw [hst]; exact hpc, he, β1, hs, by rw [hst]; exact ha1, by rw [hst]; exact hm1⟩
          cases hoe : o.ex with
          | norm =>
            rw [hoe] at hex
            cases e <;> simp only [ExR] at hex
            exact mk _ (by simp [blockX, hoe, ExR]) (by simp [blockX, hoe])
          | ret =>
            rw [hoe] at hex
            cases e <;> simp only [ExR] at hex
            exact mk _ (by simp [blockX, hoe, ExR]) (by simp [blockX, hoe])
          | panic s =>
            rw [hoe] at hex
            cases e <;> simp only [ExR] at hex
            exact mk _ (by simp only [blockX, hoe, ExR]; exact hex) (by simp [blockX, hoe])
          | stuck k => exact (hn1 o ho k hoe hpc).elim
          | exit i =>
            rw [hoe] at hex
            cases e <;> simp only [ExR] at hex
            rename_i j
            subst hex
            simp only [Exit.inBlock]
            cases hb : Nat.beq i id
            · have : i ≠ id := fun e => by rw [e] at hb; simp at hb
              rw [if_neg this]
              exact mk _ (by simp [blockX, hoe, hb, ExR]) (by simp [blockX, hoe, hb])
            · have := Nat.eq_of_beq_eq_true hb
              rw [if_pos this]
              exact mk _ (by simp [blockX, hoe, hb, ExR]) (by simp [blockX, hoe, hb])
      case region id ops d =>
        cases d
        · simp only at h
          cases hex : exec C n lk nt (.ops ops.toList ops.toList) st with
          | none => simp only [hex] at h; cases h
          | some outs0 =>
          simp only [hex, Option.some.injEq] at h
          subst h
          refine Code.wp_mono (fun e a1 w1 hq => Post.joinIf hp hm _ hq) (wp_region_list ?_)
          have := ih lk nt (.ops ops.toList ops.toList) st outs0 hex trivial β a w hp ha hm hns.ofIf
          simpa [taskWp] using this
        · simp only at h
          cases hex : exec C n (lockK C ops.toList nt st ++ lk) nt (.drw ops.toList (List.replicate ops.toList.length false) ops.toList.length (lockK C ops.toList nt st)) st with
          | none => simp only [hex] at h; cases h
          | some outs0 =>
          simp only [hex, Option.some.injEq] at h
          subst h
          have hns0 : NoStuck ρ outs0 := by
            cases hj : C.mrg (st.fid % 65536 + 600000) <;> rw [hj] at hns
            · exact joinL_stuck hns
            · exact fewL_stuck hns
          have := ih _ nt _ st outs0 hex (fun id hid => List.mem_append_left _ hid) β a { w with drawn := w.drawn + 1 } hp ha (hm.drew _) hns0
          refine wp_region_held (S := SW β { w with drawn := w.drawn + 1 } (lockK C ops.toList nt st)) hC.mixed ?_
          simp only [taskWp] at this
          have hmono : ∀ (e : Exit) (a : Act) (w' : World), Post ρ β (lockK C ops.toList nt st ++ lk) nt D { w with drawn := w.drawn + 1 } outs0 e a w' → Post ρ β lk nt D w (bif !(C.mrg (st.fid % 65536 + 600000)) then joinL false lk st.tm st.mem st.pc outs0 else fewL lk st.tm st.mem outs0) e a w' := fun e a w' ⟨o, ho, h0, h1, β', h2, h3⟩ => by
            have s1 := (Stp.drew β lk w (w.drawn + 1)).trans (h2.unlock fun id hid => List.mem_append_right _ hid)
            cases C.mrg (st.fid % 65536 + 600000)
            · exact Post.joinL hp hm ⟨o, ho, h0, h1, β', s1, h3⟩
            · exact Post.fewL hm ⟨o, ho, h0, h1, β', s1, h3⟩
          have h2 := wpAnyH_mono hmono (fun _ h => h) this
          rw [Array.toArray_toList, Array.length_toList] at h2
          have hl : (List.replicate ops.size false).toArray = Array.replicate ops.size false := by simp
          rw [hl] at h2
          exact h2
      case cond x c1 c2 =>
        split at h
        · rename_i b0 hb0
          have hx : a.eval x = .bool (b0.ev ρ) := evX_ok ha.tm hb0
          have hsb := simpY_ev hp (C.mrg 900000) b0
          split at h
          · rename_i hs
            rw [hs] at hsb
            refine wp_cond_true (by rw [hx, ← hsb]; rfl) ?_
            exact ih lk nt (.code c1) st outs h trivial β a w hp ha hm hns
          · rename_i hs
            rw [hs] at hsb
            refine wp_cond_false (by rw [hx, ← hsb]; rfl) ?_
            exact ih lk nt (.code c2) st outs h trivial β a w hp ha hm hns
          · rename_i hs1 hs2
            generalize simpY (C.mrg 900000) st.pc b0 = b1 at h hsb
            have ev : ∀ u, b1.ev ρ = u → a.eval x = .bool u := fun u hu => by rw [hx, ← hsb, hu]
            cases hcb : C.jc (st.fid % 65536) || B.beq (atomB b1) b1
            · rw [hcb] at h
              simp only [cond_false] at h
              have := two hns (atomB b1) (.code (.cond x c1 c2)) _ _ h (fun hb o1 e1 hn1 => ?_) (fun hb o2 e2 hn2 => ?_)
              · exact this
              · have := ih lk nt (.code (.cond x c1 c2)) _ o1 e1 trivial β a w (addPc_ok _ true hb hp) (ha.know _ true) hm hn1
                simpa only [taskWp] using this
              · have := ih lk nt (.code (.cond x c1 c2)) _ o2 e2 trivial β a w (addPc_ok _ false hb hp) (ha.know _ false) hm hn2
                simpa only [taskWp] using this
            rw [hcb] at h
            simp only [cond_true] at h
            unfold joinN at h
            split at h
            · rename_i l hl
              cases h
              have hns := hns.ofIf
              refine Code.wp_mono (fun e a1 w1 hq => Post.joinIf hp hm _ hq) ?_
              refine two hns b1 (.code (.cond x c1 c2)) _ _ hl (fun hb o1 e1 hn1 => ?_) (fun hb o2 e2 hn2 => ?_)
              · exact wp_cond_true (ev _ hb) (ih lk nt (.code c1) _ o1 e1 trivial β a w (addPc_ok b1 true hb hp) (ha.know b1 true) hm hn1)
              · exact wp_cond_false (ev _ hb) (ih lk nt (.code c2) _ o2 e2 trivial β a w (addPc_ok b1 false hb hp) (ha.know b1 false) hm hn2)
            · cases h
        · cases h; exact (nostuck 33 rfl).elim
    | ops all rest =>
      cases rest with
      | nil => simp only [exec] at h; cases h; exact single .norm .normal trivial rfl
      | cons o rest =>
        simp only [exec] at h
        refine OpT.list.1 (stepOp_ok hC hH h hp ha hm hns (fun c w' hq => hq) hrun (fun st' outs' h' β' a' w' hp' ha' hm' hn' hs hsub => ?_) (fun st' outs' h' hp' ha' hm' hn' hsub => ?_))
        · exact wpList_mono (fun e a w hq => (Post.from hs hq).mono hsub) (ih lk nt (.ops all rest) st' outs' h' trivial β' a' w' hp' ha' hm' hn')
        · have := ih lk nt (.ops all (o :: rest)) st' outs' h' trivial β a w hp' ha' hm' hn'
          exact (OpT.list.2 this).mono (fun _ _ hk => wpList_mono (fun e a w => Post.mono hsub) hk) (fun e a w => Post.mono hsub)
theorem exec_run {C : Cfg} (hC : C.Types) (hHA : ∀ ρ, HookOk C ρ) (ρ : Env) (n : Nat) : RunOk C ρ (exec C n) := fun lk nt t st outs h htk D β a w hp ha hm hn => exec_sound hC hHA n lk nt t st outs h htk ρ D β a w hp ha hm hn
end Go.SX

namespace Go.SX
open Go

def mkTr {α : Type} : List α → Nat → Tr α → Tr α
  | [], _, t => t
  | x :: xs, i, t => mkTr xs (i + 1) (t.put i x)
theorem mkTr_get {α : Type} : ∀ (l : List α) (i : Nat) (t : Tr α) (k : Nat), (mkTr l i t).get k = if i ≤ k ∧ k < i + l.length then l[k - i]? else t.get k
  | [], i, t, k => by simp only [mkTr, List.length_nil]; rw [if_neg (by omega)]
  | s :: ss, i, t, k => by
    simp only [mkTr, mkTr_get ss (i + 1), Tr.get_put, List.length_cons]
    by_cases e : k = i
    · subst e
      rw [if_neg (by omega), if_pos rfl, if_pos (by omega)]
      simp
    · by_cases c : i + 1 ≤ k ∧ k < i + 1 + ss.length
      · rw [if_pos c, if_pos (by omega), show k - i = (k - (i + 1)) + 1 by omega]
        simp
      · rw [if_neg c, if_neg e, if_neg (by omega)]
theorem mkTr_some {α : Type} {l : List α} {k : Nat} {x : α} (h : (mkTr l 0 .nil).get k = some x) : l[k]? = some x := by
  rw [mkTr_get] at h
  split at h
  · simpa using h
  · simp [Tr.get] at h
def tiAt (P : Program) (t : Nat) : Option TI := match P.info? t, P.underlying t with
  | some j, some d => some ⟨d, j.size, j.zero⟩
  | _, _ => none
def tiTr (P : Program) : Tr (Option TI) := mkTr ((List.range P.types.size).map (tiAt P)) 0 .nil
def fnAt (x : Func) : Option Func := bif x.name == "runtime.NumGoroutine" then none else some x
def fnTr (P : Program) : Tr (Option Func) := mkTr (P.funcs.toList.map fnAt) 0 .nil
def getO {α : Type} (t : Tr (Option α)) (k : Nat) : Option α := match t.get k with
  | some r => r
  | none => none
theorem tiTr_ok {P : Program} {t : Nat} {i : TI} (h : getO (tiTr P) t = some i) : ∃ j, P.info? t = some j ∧ j.size = i.size ∧ j.zero = i.zero ∧ P.underlying t = some i.und := by
  unfold getO at h
  split at h
  · rename_i r hr
    subst h
    have := mkTr_some hr
    rw [List.getElem?_map] at this
    cases hx : (List.range P.types.size)[t]? with
    | none => simp [hx] at this
    | some u =>
      have hu : u = t := by
        have h1 := (List.getElem?_eq_some_iff.1 hx).2
        simpa using h1.symm
      subst hu
      simp only [hx, Option.map_some, Option.some.injEq] at this
      unfold tiAt at this
      split at this
      · rename_i j d h1 h2; cases this; exact ⟨j, h1, rfl, rfl, h2⟩
      · cases this
  · cases h
theorem fnTr_ok {P : Program} {f : Nat} {x : Func} (h : getO (fnTr P) f = some x) : P.funcs[f]? = some x ∧ (x.name == "runtime.NumGoroutine") = false := by
  unfold getO at h
  split at h
  · rename_i r hr
    subst h
    have := mkTr_some hr
    rw [List.getElem?_map] at this
    cases hx : P.funcs.toList[f]? with
    | none => simp [hx] at this
    | some u =>
      simp only [hx, Option.map_some, Option.some.injEq] at this
      unfold fnAt at this
      cases hn : u.name == "runtime.NumGoroutine"
      · rw [hn] at this; cases this; exact ⟨by rw [← Array.getElem?_toList]; exact hx, hn⟩
      · rw [hn] at this; cases this
  · cases h

/-! flat structs -/
def repK : Nat → List CK → List CK
  | 0, _ => []
  | n + 1, l => l ++ repK n l
mutual
def flatK (P : Program) : Nat → TypeId → Option (List CK)
  | 0, _ => none
  | d + 1, t => (match P.underlying t with
    | some .bool => some [.b]
    | some (.int k) => some [.i k]
    | some .string => some [.s]
    | some (.struct fs) => bif P.stoodInHeld t then none else flatF P d fs.toList 0
    | some (.array n e) => (match P.info? e, flatK P d e with
      | some i, some ks => bif Nat.beq i.size ks.length then some (repK n ks) else none
      | _, _ => none)
    | _ => none)
def flatF (P : Program) : Nat → List Field → Nat → Option (List CK)
  | _, [], _ => some []
  | 0, _ :: _, _ => none
  | d + 1, f :: fs, off => bif f.name == "_" then none else bif !(Nat.beq f.offset off) then none else
    (match P.info? f.type, flatK P d f.type with
    | some i, some ks => bif Nat.beq i.size ks.length then (match flatF P d fs (off + ks.length) with | some r => some (ks ++ r) | none => none) else none
    | _, _ => none)
end
theorem kOfL_length : ∀ {ks : List CK} {l : List Value}, kOfL ks l → l.length = ks.length
  | [], _, h => by rw [h]; rfl
  | _ :: _, _, h => by obtain ⟨v, vs, rfl, _, h2⟩ := h; simp [kOfL_length h2]
theorem kOfL_append : ∀ {ks ls : List CK} {l : List Value}, kOfL (ks ++ ls) l → ∃ a b, l = a ++ b ∧ kOfL ks a ∧ kOfL ls b
  | [], _, l, h => ⟨[], l, rfl, rfl, h⟩
  | k :: ks, ls, l, h => by
    obtain ⟨v, vs, rfl, h1, h2⟩ := h
    obtain ⟨a, b, rfl, h3, h4⟩ := kOfL_append h2
    exact ⟨v :: a, b, rfl, ⟨v, a, rfl, h1, h3⟩, h4⟩
theorem vEqL_append : ∀ {a b c d : List Value}, a.length = c.length → vEqL (a ++ b) (c ++ d) = (vEqL a c && vEqL b d)
  | [], b, [], d, _ => by simp [vEqL]
  | x :: a, b, y :: c, d, h => by simp [vEqL, vEqL_append (a := a) (b := b) (c := c) (d := d) (by simpa using h), Bool.and_assoc]
  | [], _, _ :: _, _, h => by simp at h
  | _ :: _, _, [], _, h => by simp at h
/-- the value of a type, out of its cells -/
def valOf (d : TypeDesc) (l : List Value) : Value := if isAggD d then .agg l.toArray else l.headD undef
theorem part_of {P : Program} {t : TypeId} {d : TypeDesc} {i : TypeInfo} (hu : P.underlying t = some d) (hi : P.info? t = some i) {pre l post : List Value} (hs : i.size = l.length) (hl : isAggD d = false → ∃ v, l = [v])
    (w : World) : (part t (pre ++ l ++ post).toArray pre.length).run P w = .ok (valOf d l) w := by
  cases ha : isAggD d
  · obtain ⟨v, rfl⟩ := hl ha
    simp [part, run_isAgg' hu, ha, valOf]
  · simp only [part, Sem.run_bind, run_isAgg' hu, ha, Result.andThen_ok, if_true, run_sizeOf' hi, Sem.run_pure, valOf]
    congr 2
    rw [← Array.toList_inj]
    simp [hs]
theorem flatK_single {P : Program} {d : Nat} {t : TypeId} {ks : List CK} {td : TypeDesc} (h : flatK P (d + 1) t = some ks) (hu : P.underlying t = some td) (ha : isAggD td = false) : ∃ k, ks = [k] := by
  simp only [flatK, hu] at h
  cases td <;> simp [isAggD] at ha <;> simp at h
  · exact ⟨_, h.symm⟩
  · exact ⟨_, h.symm⟩
  · exact ⟨_, h.symm⟩
theorem flatK_und {P : Program} {d : Nat} {t : TypeId} {ks : List CK} (h : flatK P (d + 1) t = some ks) : ∃ td, P.underlying t = some td := by
  simp only [flatK] at h
  cases hu : P.underlying t with
  | none => simp [hu] at h
  | some td => exact ⟨td, rfl⟩
theorem flat_eq {P : Program} (w : World) : ∀ (d : Nat),
    (∀ (t : TypeId) (ks : List CK) (td : TypeDesc), flatK P d t = some ks → P.underlying t = some td → ∀ (D : Nat), d ≤ D → ∀ (l m : List Value), kOfL ks l → kOfL ks m →
      (Op.equalIn D t (valOf td l) (valOf td m)).run P w = .ok (vEqL l m) w) ∧
    (∀ (fs : List Field) (off : Nat) (ks : List CK), flatF P d fs off = some ks → ∀ (D : Nat), d ≤ D → ∀ (px py l m : List Value), px.length = off → py.length = off → kOfL ks l → kOfL ks m →
      (Op.eqFields D (px ++ l).toArray (py ++ m).toArray fs).run P w = .ok (vEqL l m) w) := by
  intro d
  induction d with
  | zero =>
    refine ⟨fun t ks td h => by simp [flatK] at h, fun fs off ks h D _ px py l m _ _ hl hm => ?_⟩
    cases fs with
    | nil =>
      simp only [flatF, Option.some.injEq] at h
      subst h
      rw [show l = [] from hl, show m = [] from hm]
      rfl
    | cons f fs => simp [flatF] at h
  | succ d ih =>
    obtain ⟨ihK, ihF⟩ := ih
    refine ⟨fun t ks td h hu D hD l m hl hm => ?_, fun fs off ks h D hD px py l m hpx hpy hl hm => ?_⟩
    · obtain ⟨D, rfl⟩ : ∃ D', D = D' + 1 := ⟨D - 1, by omega⟩
      simp only [flatK, hu] at h
      cases td <;> simp only [reduceCtorEq, Option.some.injEq] at h
      case bool =>
        subst h
        obtain ⟨_, _, rfl, ⟨a, rfl⟩, h2⟩ := hl
        obtain ⟨_, _, rfl, ⟨b, rfl⟩, h3⟩ := hm
        rw [show _ = [] from h2, show _ = [] from h3]
        simp [valOf, isAggD, run_equalIn_bool w D t a b hu, vEqL, vEq]
      case int k =>
        subst h
        obtain ⟨_, _, rfl, ⟨a, rfl⟩, h2⟩ := hl
        obtain ⟨_, _, rfl, ⟨b, rfl⟩, h3⟩ := hm
        rw [show _ = [] from h2, show _ = [] from h3]
        simp [valOf, isAggD, run_equalIn_int w D t k k a b hu, vEqL, vEq]
      case string =>
        subst h
        obtain ⟨_, _, rfl, ⟨a, rfl⟩, h2⟩ := hl
        obtain ⟨_, _, rfl, ⟨b, rfl⟩, h3⟩ := hm
        rw [show _ = [] from h2, show _ = [] from h3]
        simp [valOf, isAggD, run_equalIn_string w D t a b hu, vEqL, vEq]
      case array n e =>
        split at h
        · rename_i i ks' hi hk
          cases hb : Nat.beq i.size ks'.length
          · rw [hb] at h; cases h
          · rw [hb] at h
            simp only [cond_true, Option.some.injEq] at h
            subst h
            have hsz := Nat.eq_of_beq_eq_true hb
            have hc : P.cellsOf e = ks'.length := by simp [Program.cellsOf, hi, hsz]
            simp only [valOf, isAggD, if_true]
            rw [run_equalIn_array w D _ _ hu hi]
            cases d with
            | zero => simp [flatK] at hk
            | succ d =>
              obtain ⟨te, hte⟩ := flatK_und hk
              have key : ∀ (n k : Nat) (px py l m : List Value), px.length = k * ks'.length → py.length = k * ks'.length → kOfL (repK n ks') l → kOfL (repK n ks') m →
                  (Op.eqItems D e (P.cellsOf e) (px ++ l).toArray (py ++ m).toArray (List.range' k n)).run P w = .ok (vEqL l m) w := by
                intro n
                induction n with
                | zero =>
                  intro k px py l m _ _ hl hm
                  rw [show l = [] from hl, show m = [] from hm]
                  rfl
                | succ n ihn =>
                  intro k px py l m hpx hpy hl hm
                  obtain ⟨l1, l2, rfl, a1, a2⟩ := kOfL_append hl
                  obtain ⟨m1, m2, rfl, b1, b2⟩ := kOfL_append hm
                  have e1 := kOfL_length a1
                  have e2 := kOfL_length b1
                  have one : isAggD te = false → (∃ v, l1 = [v]) ∧ ∃ v, m1 = [v] := fun ha => by
                    obtain ⟨k, rfl⟩ := flatK_single hk hte ha
                    obtain ⟨v, vs, rfl, _, h⟩ := a1
                    obtain ⟨u, us, rfl, _, g⟩ := b1
                    rw [show vs = [] from h, show us = [] from g]
                    exact ⟨⟨v, rfl⟩, u, rfl⟩
                  have p1 := part_of hte hi (pre := px) (l := l1) (post := l2) (by rw [hsz, e1]) (fun h => (one h).1) w
                  have p2 := part_of hte hi (pre := py) (l := m1) (post := m2) (by rw [hsz, e2]) (fun h => (one h).2) w
                  rw [List.append_assoc, hpx] at p1
                  rw [List.append_assoc, hpy] at p2
                  have p3 := ihK e ks' te hk hte D (by omega) l1 m1 a1 b1
                  have p4 := ihn (k + 1) (px ++ l1) (py ++ m1) l2 m2 (by rw [List.length_append, hpx, e1, Nat.succ_mul]) (by rw [List.length_append, hpy, e2, Nat.succ_mul]) a2 b2
                  rw [List.append_assoc, List.append_assoc] at p4
                  rw [vEqL_append (by omega)]
                  simp only [List.range'_succ, Op.eqItems, Sem.run_bind, hc]
                  rw [hc] at p4
                  simp only [p1, p2, p3, Result.andThen_ok, Sem.run_ite, p4, Sem.run_pure]
                  cases vEqL l1 m1 <;> rfl
              have := key n 0 [] [] l m (by simp) (by simp) hl hm
              simpa [List.range_eq_range'] using this
        · cases h
      case struct fs =>
        cases hs : P.stoodInHeld t
        · rw [hs] at h
          simp only [cond_false] at h
          have hf : P.fieldsOf t = fs := by simp [Program.fieldsOf, hu]
          simp only [valOf, isAggD, if_true]
          rw [run_equalIn_struct w D t _ _ (by rw [hf]; exact hu) hs, hf]
          have := ihF fs.toList 0 ks h D (by omega) [] [] l m rfl rfl hl hm
          simpa using this
        · rw [hs] at h; cases h
    · cases fs with
      | nil =>
        simp only [flatF, Option.some.injEq] at h
        subst h
        rw [show l = [] from hl, show m = [] from hm]
        rfl
      | cons f fs =>
        simp only [flatF] at h
        cases hn : f.name == "_"
        case true => rw [hn] at h; cases h
        cases ho : !(Nat.beq f.offset off)
        case true => rw [hn, ho] at h; cases h
        rw [hn, ho] at h
        simp only [cond_false] at h
        split at h
        · rename_i i ks1 hi hk
          cases hb : Nat.beq i.size ks1.length
          · rw [hb] at h; cases h
          · rw [hb] at h
            simp only [cond_true] at h
            split at h
            · rename_i ks2 hr
              cases h
              have hsz := Nat.eq_of_beq_eq_true hb
              have ho : f.offset = off := Nat.eq_of_beq_eq_true (by simpa using ho)
              have hn' : f.name ≠ "_" := by simpa using hn
              cases d with
              | zero => simp [flatK] at hk
              | succ d =>
                obtain ⟨te, hte⟩ := flatK_und hk
                obtain ⟨l1, l2, rfl, a1, a2⟩ := kOfL_append hl
                obtain ⟨m1, m2, rfl, b1, b2⟩ := kOfL_append hm
                have e1 := kOfL_length a1
                have e2 := kOfL_length b1
                have one : isAggD te = false → (∃ v, l1 = [v]) ∧ ∃ v, m1 = [v] := fun ha => by
                  obtain ⟨k, rfl⟩ := flatK_single hk hte ha
                  obtain ⟨v, vs, rfl, _, h⟩ := a1
                  obtain ⟨u, us, rfl, _, g⟩ := b1
                  rw [show vs = [] from h, show us = [] from g]
                  exact ⟨⟨v, rfl⟩, u, rfl⟩
                have p1 := part_of hte hi (pre := px) (l := l1) (post := l2) (by rw [hsz, e1]) (fun h => (one h).1) w
                have p2 := part_of hte hi (pre := py) (l := m1) (post := m2) (by rw [hsz, e2]) (fun h => (one h).2) w
                rw [List.append_assoc, hpx] at p1
                rw [List.append_assoc, hpy] at p2
                have p3 := ihK f.type ks1 te hk hte D (by omega) l1 m1 a1 b1
                have p4 := ihF fs (off + ks1.length) ks2 hr D (by omega) (px ++ l1) (py ++ m1) l2 m2 (by rw [List.length_append, hpx, e1]) (by rw [List.length_append, hpy, e2]) a2 b2
                rw [List.append_assoc, List.append_assoc] at p4
                rw [vEqL_append (by omega)]
                simp only [Op.eqFields, if_pos hn', Sem.run_bind, ho, p1, p2, p3, p4, Result.andThen_ok, Sem.run_ite, Sem.run_pure]
                cases vEqL l1 m1 <;> rfl
            · cases h
        · cases h
theorem eqOk_flat {P : Program} {t : TypeId} {ks : List CK} {fs : Array Field} (h : flatK P 300 t = some ks) (hu : P.underlying t = some (.struct fs)) (hg : P.eqGuardType P.depth t = false) : EqOk P t ks :=
  ⟨hg, fun w xs ys hx hy => by
    have := (flat_eq w 300).1 t ks (.struct fs) h hu 10000 (by omega) xs.toList ys.toList hx hy
    simpa [valOf, isAggD] using this⟩
theorem eqOk_flatA {P : Program} {t : TypeId} {ks : List CK} {n : Nat} {e : TypeId} (h : flatK P 300 t = some ks) (hu : P.underlying t = some (.array n e)) (hg : P.eqGuardType P.depth t = false) : EqOk P t ks :=
  ⟨hg, fun w xs ys hx hy => by
    have := (flat_eq w 300).1 t ks (.array n e) h hu 10000 (by omega) xs.toList ys.toList hx hy
    simpa [valOf, isAggD] using this⟩
/-- a table of such types -/
def eqAt (P : Program) (t : TypeId) : Option (List CK) := bif P.eqGuardType P.depth t then none else
  (match P.underlying t with
  | some (.struct _) => flatK P 300 t
  | some (.array _ _) => flatK P 300 t
  | _ => none)
theorem eqAt_ok {P : Program} {t : TypeId} {ks : List CK} (h : eqAt P t = some ks) : EqOk P t ks := by
  unfold eqAt at h
  cases hg : P.eqGuardType P.depth t
  · rw [hg] at h
    simp only [cond_false] at h
    split at h
    · rename_i fs hu; exact eqOk_flat h hu hg
    · rename_i n e hu; exact eqOk_flatA h hu hg
    · cases h
  · rw [hg] at h; cases h
def bytAt (P : Program) (t : TypeId) : Option Nat := match P.info? t with | some i => some i.bytes | none => none
theorem bytAt_ok {P : Program} {t : TypeId} {n : Nat} (h : bytAt P t = some n) : ∃ j, P.info? t = some j ∧ j.bytes = n := by
  unfold bytAt at h
  split at h
  · rename_i i hi; cases h; exact ⟨i, hi, rfl⟩
  · cases h
end Go.SX

namespace Go.SX
open Go

inductive FK where
  | c (k : CK)
  | sl (ks : List CK)
  | st
def allC : List FK → Option (List CK)
  | [] => some []
  | .c k :: r => (match allC r with | some l => some (k :: l) | none => none)
  | .sl _ :: _ => none
  | .st :: _ => none
def repF : Nat → List FK → List FK
  | 0, _ => []
  | n + 1, l => l ++ repF n l
mutual
def flatS (P : Program) : Nat → TypeId → Option (List FK)
  | 0, _ => none
  | d + 1, t => (match P.underlying t with
    | some .bool => some [.c .b]
    | some (.int k) => some [.c (.i k)]
    | some .string => some [.st]
    | some (.slice e) => (match flatS P d e with
      | some fs => (match allC fs with
        | some ks => bif Nat.beq (P.cellsOf e) ks.length && Nat.blt 0 ks.length then some [.sl ks] else none
        | none => none)
      | none => none)
    | some (.struct fs) => (match flatSF P d fs.toList 0 with
      | some ks => bif Nat.beq (P.cellsOf t) ks.length then some ks else none
      | none => none)
    | some (.array n e) => (match flatS P d e with
      | some ks => bif Nat.beq (P.cellsOf e) ks.length && Nat.beq (P.cellsOf t) (n * ks.length) then some (repF n ks) else none
      | none => none)
    | _ => none)
def flatSF (P : Program) : Nat → List Field → Nat → Option (List FK)
  | _, [], _ => some []
  | 0, _ :: _, _ => none
  | d + 1, f :: fs, off => bif !(Nat.beq f.offset off) then none else
    (match flatS P d f.type with
    | some ks => bif Nat.beq (P.cellsOf f.type) ks.length then (match flatSF P d fs (off + ks.length) with | some r => some (ks ++ r) | none => none) else none
    | none => none)
end
def cellR : CK → Value → Prop
  | .b, v => ∃ b, v = .bool b
  | .i k, v => ∃ n, v = .int k n ∧ inK k n = true
  | .s, _ => False
/-- what a reading says of one cell -/
def rawR (w : World) (base : Nat) : FK → Value → Prop
  | .c k, v => cellR k v
  | .sl ks, v => v = .slice none 0 0 ∨ ∃ (a : Addr) (len cap : Nat), v = .slice (some a) len cap ∧ len ≤ cap ∧ cap ≤ maxLen ∧ 0 < ks.length ∧
      ∀ i, i < len → ∃ row, w.cells? base (a.add (i * ks.length)) ks.length = some row ∧ row.length = ks.length ∧ ∀ (f : Nat) (k : CK) (v : Value), ks[f]? = some k → row[f]? = some v → cellR k v
  | .st, v => ∃ b : ByteArray, v = .string b ∧ b.size ≤ maxLen
def rawL (w : World) (base : Nat) : List FK → List Value → Prop
  | [], l => l = []
  | k :: ks, l => ∃ v vs, l = v :: vs ∧ rawR w base k v ∧ rawL w base ks vs
theorem rawL_length {w : World} {base : Nat} : ∀ {ks : List FK} {l : List Value}, rawL w base ks l → l.length = ks.length
  | [], _, h => by rw [h]; rfl
  | _ :: _, _, h => by obtain ⟨v, vs, rfl, _, h2⟩ := h; simp [rawL_length h2]
theorem rawL_append {w : World} {base : Nat} : ∀ {ks ls : List FK} {a b : List Value}, rawL w base ks a → rawL w base ls b → rawL w base (ks ++ ls) (a ++ b)
  | [], _, a, b, h, h' => by rw [show a = [] from h]; exact h'
  | k :: ks, ls, a, b, h, h' => by
    obtain ⟨v, vs, rfl, h1, h2⟩ := h
    exact ⟨v, vs ++ b, rfl, h1, rawL_append h2 h'⟩
theorem rawL_allC {w : World} {base : Nat} : ∀ {fs : List FK} {ks : List CK} {l : List Value}, allC fs = some ks → rawL w base fs l → l.length = ks.length ∧ ∀ (f : Nat) (k : CK) (v : Value), ks[f]? = some k → l[f]? = some v → cellR k v
  | [], ks, l, h, hr => by cases h; rw [show l = [] from hr]; simp
  | .c k :: fs, ks, l, h, hr => by
    simp only [allC] at h
    split at h
    · rename_i ks' hks
      cases h
      obtain ⟨v, vs, rfl, h1, h2⟩ := hr
      obtain ⟨i1, i2⟩ := rawL_allC hks h2
      refine ⟨by simp [i1], fun f k' v' hf hv => ?_⟩
      cases f with
      | zero => simp at hf hv; subst hf; subst hv; exact h1
      | succ f => simp at hf hv; exact i2 f k' v' hf hv
    · cases h
  | .sl _ :: _, _, _, h, _ => by cases h
  | .st :: _, _, _, h, _ => by cases h
theorem inK_wf {k : IntKind} {n : Int} (h : (Lit.int k n).wf = true) : inK k n = true := by
  rw [inK_iff]
  cases k <;> simp [Lit.wf, IntKind.min, IntKind.max, IntKind.bits, IntKind.signed] at h <;> simp only [kLo, kHi] <;> omega
theorem repF_succ' (l : List FK) : ∀ n, repF (n + 1) l = repF n l ++ l
  | 0 => by simp [repF]
  | n + 1 => by
    have := repF_succ' l n
    simp only [repF] at this ⊢
    rw [List.append_assoc, ← this, ← List.append_assoc]
theorem trod_flat {H : Type} {enc : TypeId × Value → H} {P : Program} {w : World} {base : Nat} {sp : Nat → Bool} {held : Bool} : ∀ (d : Nat),
    (∀ (t : TypeId) (ks : List FK), flatS P d t = some ks → ∀ (fuel : Nat) (cs : List Value) (x : DataW H × List MemPlace), DataW.trod enc P w base sp held fuel t cs = some x → rawL w base ks cs) ∧
    (∀ (fs : List Field) (off : Nat) (ks : List FK), flatSF P d fs off = some ks → ∀ (fuel : Nat) (cs : List Value), off + ks.length ≤ cs.length →
      (∀ f ∈ fs, ∃ y, DataW.trod enc P w base sp held fuel f.type ((cs.drop f.offset).take (P.cellsOf f.type)) = some y) → rawL w base ks ((cs.drop off).take ks.length)) := by
  intro d
  induction d with
  | zero =>
    refine ⟨fun t ks h => by simp [flatS] at h, fun fs off ks h fuel cs _ _ => ?_⟩
    cases fs with
    | nil => simp only [flatSF, Option.some.injEq] at h; subst h; simp [rawL]
    | cons f fs => simp [flatSF] at h
  | succ d ih =>
    obtain ⟨ihS, ihF⟩ := ih
    refine ⟨fun t ks h fuel cs x hx => ?_, fun fs off ks h fuel cs hlen hall => ?_⟩
    · simp only [flatS] at h
      cases hu : P.underlying t with
      | none => simp [hu] at h
      | some td =>
        simp only [hu] at h
        cases td <;> simp only [reduceCtorEq, Option.some.injEq] at h
        case bool =>
          subst h
          obtain ⟨b, rfl, _⟩ := DataW.trod_bool hu hx
          exact ⟨_, [], rfl, ⟨_, rfl⟩, rfl⟩
        case int k =>
          subst h
          obtain ⟨n, rfl, _, hwf⟩ := DataW.trod_int hu hx
          exact ⟨_, [], rfl, ⟨n, rfl, inK_wf hwf⟩, rfl⟩
        case string =>
          subst h
          obtain ⟨b, rfl, _, hsz⟩ := DataW.trod_string hu hx
          exact ⟨_, [], rfl, ⟨b, rfl, hsz⟩, rfl⟩
        case slice e =>
          split at h
          · rename_i fs hfs
            split at h
            · rename_i ks' hks'
              cases hb : Nat.beq (P.cellsOf e) ks'.length && Nat.blt 0 ks'.length
              · rw [hb] at h; cases h
              · rw [hb] at h
                cases h
                rw [Bool.and_eq_true] at hb
                have hsz := Nat.eq_of_beq_eq_true hb.1
                have hpos : 0 < ks'.length := Nat.le_of_ble_eq_true hb.2
                rcases DataW.trod_slice hu hx with ⟨rfl, _⟩ | ⟨a, len, cap, elems, rest, n, _, rfl, _, _, hl, hm, hlen, hel, _, _⟩
                · exact ⟨_, [], rfl, .inl rfl, rfl⟩
                · refine ⟨_, [], rfl, .inr ⟨a, len, cap, rfl, hl, hm, hpos, fun i hi => ?_⟩, rfl⟩
                  have hy := hel i hi
                  rw [List.getElem?_eq_getElem (by omega), hsz] at hy
                  cases hrow : w.cells? base (a.add (i * ks'.length)) ks'.length with
                  | none => simp [hrow] at hy
                  | some row =>
                    simp only [hrow, Option.bind_some] at hy
                    obtain ⟨q1, q2⟩ := rawL_allC hks' (ihS e fs hfs n row _ hy)
                    exact ⟨row, rfl, q1, q2⟩
            · cases h
          · cases h
        case array n e =>
          split at h
          · rename_i ks' hks'
            cases hb : Nat.beq (P.cellsOf e) ks'.length && Nat.beq (P.cellsOf t) (n * ks'.length)
            · rw [hb] at h; cases h
            · rw [hb] at h
              cases h
              rw [Bool.and_eq_true] at hb
              have hsz := Nat.eq_of_beq_eq_true hb.1
              have hsz2 := Nat.eq_of_beq_eq_true hb.2
              obtain ⟨xs, m, _, _, hc, hxl, hall⟩ := DataW.trod_array hu hx
              have key : ∀ m, m ≤ n → rawL w base (repF m ks') (cs.take (m * ks'.length)) := by
                intro m
                induction m with
                | zero => intro _; simp [repF, rawL]
                | succ m ihm =>
                  intro hm'
                  rw [repF_succ', Nat.succ_mul, List.take_add]
                  refine rawL_append (ihm (by omega)) ?_
                  have hy := hall m (by omega)
                  rw [List.getElem?_eq_getElem (by omega), hsz] at hy
                  exact ihS e ks' hks' _ _ _ hy
              have := key n (Nat.le_refl _)
              rwa [List.take_of_length_le (by omega)] at this
          · cases h
        case struct fs =>
          split at h
          · rename_i ks' hks'
            cases hb : Nat.beq (P.cellsOf t) ks'.length
            · rw [hb] at h; cases h
            · rw [hb] at h
              cases h
              have hsz := Nat.eq_of_beq_eq_true hb
              obtain ⟨xs, m, _, _, hc, hxl, hall⟩ := DataW.trod_struct hu hx
              have := ihF fs.toList 0 ks hks' m cs (by omega) (fun f hf => by
                obtain ⟨i, hi⟩ := List.mem_iff_getElem?.1 hf
                have hlt := (List.getElem?_eq_some_iff.1 hi).1
                have := hall i f (by rw [← Array.getElem?_toList]; exact hi)
                rw [List.getElem?_eq_getElem (by simp at hlt; omega)] at this
                exact ⟨_, this⟩)
              rw [List.drop_zero, List.take_of_length_le (by omega)] at this
              exact this
          · cases h
    · cases fs with
      | nil => simp only [flatSF, Option.some.injEq] at h; subst h; simp [rawL]
      | cons f fs =>
        simp only [flatSF] at h
        cases ho : !(Nat.beq f.offset off)
        case true => rw [ho] at h; cases h
        rw [ho] at h
        simp only [cond_false] at h
        have ho : f.offset = off := Nat.eq_of_beq_eq_true (by simpa using ho)
        split at h
        · rename_i ks1 hk
          cases hb : Nat.beq (P.cellsOf f.type) ks1.length
          · rw [hb] at h; cases h
          · rw [hb] at h
            simp only [cond_true] at h
            split at h
            · rename_i ks2 hr
              cases h
              have hsz := Nat.eq_of_beq_eq_true hb
              obtain ⟨y, hy⟩ := hall f (by simp)
              rw [ho, hsz] at hy
              have h1 := ihS f.type ks1 hk fuel _ y hy
              have h2 := ihF fs (off + ks1.length) ks2 hr fuel cs (by simp at hlen; omega) (fun g hg => hall g (by simp [hg]))
              rw [List.length_append, List.take_add, List.drop_drop]
              exact rawL_append h1 h2
            · cases h
        · cases h
end Go.SX

namespace Go.SX
open Go

/-- what a reading and the value's form say of one cell -/
def goodR (w : World) : FK → Value → Prop
  | .c k, v => cellR k v
  | .sl ks, v => v = .slice none 0 0 ∨ ∃ (b off len cap : Nat) (arr : Array Value) (el : TypeId) (fr : Nat × Nat), v = .slice (some ⟨b, off, none⟩) len cap ∧ len ≤ cap ∧ cap ≤ 9223372036854775807 ∧ 0 < ks.length ∧
      w.heap[b]? = some (.cells arr el fr) ∧ ∀ i, i < len → ∀ (f : Nat) (k : CK), ks[f]? = some k → ∃ v, arr[off + i * ks.length + f]? = some v ∧ cellR k v
  | .st, v => ∃ b : ByteArray, v = .string b ∧ b.size ≤ 9223372036854775807
def goodL (w : World) : List FK → List Value → Prop
  | [], l => l = []
  | k :: ks, l => ∃ v vs, l = v :: vs ∧ goodR w k v ∧ goodL w ks vs
def formed (w : World) (v : Value) : Prop := ∀ (a : Addr) (len cap : Nat), v = .slice (some a) len cap → a.spot = none ∧ ∃ arr el fr, w.heap[a.block]? = some (.cells arr el fr)
theorem goodR_of {w : World} {base : Nat} {k : FK} {v : Value} (h : rawR w base k v) (hf : formed w v) : goodR w k v := by
  cases k with
  | c k => exact h
  | st => obtain ⟨b, h1, h2⟩ := h; exact ⟨b, h1, by unfold maxLen at h2; omega⟩
  | sl ks =>
    rcases h with h | ⟨a, len, cap, rfl, h1, h2, hp, h3⟩
    · exact .inl h
    · obtain ⟨hs, arr, el, fr, hh⟩ := hf a len cap rfl
      obtain ⟨b, off, sp⟩ := a
      simp only at hs hh
      subst hs
      refine .inr ⟨b, off, len, cap, arr, el, fr, rfl, h1, by unfold maxLen at h2; omega, hp, hh, fun i hi f k hk => ?_⟩
      obtain ⟨row, hr, hl, hc⟩ := h3 i hi
      have hf : f < ks.length := (List.getElem?_eq_some_iff.1 hk).1
      rw [add_off] at hr
      unfold World.cells? at hr
      split at hr
      · obtain ⟨y, hy⟩ : ∃ y, w.cell? ((⟨b, off + i * ks.length, none⟩ : Addr).add f) = some y ∧ row[f]? = some y := by
          have key : ∀ (l : List Nat) (r : List Value) (g : Nat → Option Value), l.mapM g = some r → ∀ (j x : Nat), l[j]? = some x → ∃ y, g x = some y ∧ r[j]? = some y := by
            intro l
            induction l with
            | nil => intro r g _ j x hj; simp at hj
            | cons a l ih =>
              intro r g h j x hj
              rw [List.mapM_cons] at h
              cases ha : g a with
              | none => simp [ha] at h
              | some z =>
                cases hl : l.mapM g with
                | none => simp [ha, hl] at h
                | some r' =>
                  simp [ha, hl] at h
                  subst h
                  cases j with
                  | zero => simp at hj; subst hj; exact ⟨z, ha, rfl⟩
                  | succ j => simp at hj; simpa using ih r' g hl j x hj
          exact key _ _ _ hr f f (by simp [hf])
        rw [add_off, cell?_heap hh] at hy
        exact ⟨y, hy.1, hc f k y hk hy.2⟩
      · cases hr
theorem goodL_of {w : World} {base : Nat} : ∀ {ks : List FK} {l : List Value}, rawL w base ks l → (∀ v ∈ l, formed w v) → goodL w ks l
  | [], _, h, _ => h
  | k :: ks, l, h, hf => by
    obtain ⟨v, vs, rfl, h1, h2⟩ := h
    exact ⟨v, vs, rfl, goodR_of h1 (hf v (by simp)), goodL_of h2 fun u hu => hf u (by simp [hu])⟩
theorem goodL_append {w : World} : ∀ {ks ls : List FK} {a b : List Value}, goodL w ks a → goodL w ls b → goodL w (ks ++ ls) (a ++ b)
  | [], _, a, b, h, h' => by rw [show a = [] from h]; exact h'
  | k :: ks, ls, a, b, h, h' => by
    obtain ⟨v, vs, rfl, h1, h2⟩ := h
    exact ⟨v, vs ++ b, rfl, h1, goodL_append h2 h'⟩
theorem goodL_length {w : World} : ∀ {ks : List FK} {l : List Value}, goodL w ks l → l.length = ks.length
  | [], _, h => by rw [h]; rfl
  | _ :: _, _, h => by obtain ⟨v, vs, rfl, _, h2⟩ := h; simp [goodL_length h2]
theorem formed_cell {P : Program} {w : World} {r : Reach} {base : Nat} {u : TypeId} {v : Value} (h : Cell.okWide P w r base u v) : formed w v := by
  rintro a len cap rfl
  unfold Cell.okWide at h
  cases hu : P.underlying u with
  | none => simp [hu, Cell.ok] at h
  | some td =>
    cases td <;> simp [hu, Cell.ok] at h
    obtain ⟨_, _, _, hs, row, n, hsh, _⟩ := h
    refine ⟨hs, ?_⟩
    unfold World.shape? at hsh
    split at hsh
    · rename_i c el fr hh; exact ⟨c, el, fr, hh⟩
    · cases hsh
theorem formed_value {P : Program} {w : World} {r : Reach} {base : Nat} {t : TypeId} {td : TypeDesc} {v : Value} (hu : P.underlying t = some td) (h : Value.okWide P w r base t v) :
    (isAggD td = true → ∃ cs, v = .agg cs) ∧ (isAggD td = false → v.cells = #[v]) ∧ ∀ c ∈ v.cells.toList, formed w c := by
  unfold Value.okWide at h
  rw [hu] at h
  have agg : ∀ cs, v = .agg cs → Row.okWide P w r base t cs → ∀ c ∈ v.cells.toList, formed w c := by
    rintro cs rfl ⟨ts, _, _, hall⟩ c hc
    obtain ⟨i, hi⟩ := List.mem_iff_getElem?.1 hc
    obtain ⟨u, _, hu⟩ := hall i c (by rw [← Array.getElem?_toList]; exact hi)
    exact formed_cell hu
  have one : Cell.okWide P w r base t v → v.cells = #[v] := by
    intro hc
    cases v <;> first | rfl | skip
    unfold Cell.okWide at hc
    rw [hu] at hc
    cases td <;> simp [Cell.ok, hu] at hc
  cases td <;> simp only at h <;> first
    | (obtain ⟨cs, rfl, _, hr⟩ := h
       exact ⟨fun _ => ⟨cs, rfl⟩, fun h => by simp [isAggD] at h, agg cs rfl hr⟩)
    | (refine ⟨fun h => by simp [isAggD] at h, fun _ => one h, fun c hc => ?_⟩
       rw [one h] at hc
       simp at hc
       subst hc
       exact formed_cell h)

/-! the parameters -/
def paramsS (P : Program) : List TypeId → Option (List (Bool × Nat) × List FK)
  | [] => some ([], [])
  | t :: ts => (match P.underlying t, flatS P 300 t, paramsS P ts with
    | some td, some ks, some (is, ls) => bif isAggD td || Nat.beq ks.length 1 then some ((isAggD td, ks.length) :: is, ks ++ ls) else none
    | _, _, _ => none)
def argsS : List (Bool × Nat) → List SV → List SV
  | [], _ => []
  | (true, n) :: r, l => .agg (l.take n) :: argsS r (l.drop n)
  | (false, n) :: r, l => l.headD .nils :: argsS r (l.drop n)
theorem open_args {H : Type} {enc : TypeId × Value → H} {P : Program} {w : World} {b : Nat} {sp : Nat → Bool} {held : Bool} {r : Reach} {base : Nat} :
    ∀ {ts : List TypeId} {vs : List Value} {ds : List (DataW H)} {ps : List MemPlace} {is : List (Bool × Nat)} {ks : List FK}, paramsS P ts = some (is, ks) → DataW.TrodAll enc P w b sp held ts vs ds ps →
      (∀ (j : Nat) t v, ts[j]? = some t → vs[j]? = some v → Value.okWide P w r base t v) →
      ∃ L, goodL w ks L ∧ ∀ (ρ : Env) (β : Bet) (S : List SV), relL ρ β S L → relL ρ β (argsS is S) vs
  | [], [], [], _, is, ks, h, _, _ => by
    simp only [paramsS, Option.some.injEq, Prod.mk.injEq] at h
    obtain ⟨rfl, rfl⟩ := h
    exact ⟨[], rfl, fun _ _ _ _ => rfl⟩
  | t :: ts, v :: vs, d :: ds, ps, is, ks, h, ht, hok => by
    simp only [paramsS] at h
    split at h
    · rename_i td k1 is' ls hu hk hps
      cases hb : isAggD td || Nat.beq k1.length 1
      · rw [hb] at h; cases h
      · rw [hb] at h
        cases h
        obtain ⟨p, q, ⟨fuel, hf⟩, htl, _⟩ := ht
        obtain ⟨L, hL, hrel⟩ := open_args hps htl (fun j t v h1 h2 => hok (j + 1) t v (by simpa using h1) (by simpa using h2))
        obtain ⟨f1, f2, f3⟩ := formed_value hu (hok 0 t v rfl rfl)
        have hg := goodL_of ((trod_flat 300).1 t k1 hk fuel _ _ hf) f3
        refine ⟨v.cells.toList ++ L, goodL_append hg hL, fun ρ β S hS => ?_⟩
        have hlen := goodL_length hg
        have h1 := relL_take k1.length hS
        have h2 := relL_drop k1.length hS
        rw [← hlen, List.take_left] at h1
        rw [← hlen, List.drop_left] at h2
        rw [hlen] at h1 h2
        cases ha : isAggD td
        · rw [ha] at hb
          have hk1 : k1.length = 1 := Nat.eq_of_beq_eq_true (by simpa using hb)
          refine ⟨v, vs, rfl, ?_, hrel ρ β _ h2⟩
          rw [f2 ha, hk1] at h1
          cases S with
          | nil => simp [relL] at h1
          | cons s S =>
            simp only [List.take_succ_cons, List.take_zero] at h1
            obtain ⟨u, us, hx, r1, _⟩ := h1
            simp at hx
            rw [hx.1]; exact r1
        · obtain ⟨cs, rfl⟩ := f1 ha
          exact ⟨.agg cs, vs, rfl, ⟨cs.toList, h1, by simp⟩, hrel ρ β _ h2⟩
    · cases h
  | [], _ :: _, _, _, _, _, _, h, _ => h.elim
  | [], [], _ :: _, _, _, _, _, h, _ => h.elim
  | _ :: _, [], _, _, _, _, _, h, _ => by simp [DataW.TrodAll] at h
  | _ :: _, _ :: _, [], _, _, _, _, h, _ => h.elim

/-! symbolic cells -/
def symL (R : Nat) : List FK → List Bool → Nat → Nat → List SV
  | [], _, _, _ => []
  | .c k :: fs, p, id, f => mkCell R (.lit 0) f k :: symL R fs p id (f + 1)
  | .st :: fs, p, id, f => .str (R + 1 + f) (.wrap .u64 (.cell R (.lit 0) f)) :: symL R fs p id (f + 1)
  | .sl _ :: fs, p, id, f => (match p with
    | true :: p => .slice id (.lit 0) 0 (.var id) none :: symL R fs p (id + 1) (f + 1)
    | _ :: p => .nils :: symL R fs p id (f + 1)
    | [] => .nils :: symL R fs [] id (f + 1))
def symM : List FK → List Bool → Mem → Mem
  | [], _, m => m
  | .c _ :: fs, p, m => symM fs p m
  | .st :: fs, p, m => symM fs p m
  | .sl ks :: fs, p, m => (match p with
    | true :: p => symM fs p (m.push (.arr ⟨false, m.nx, ks.length, ks, .var m.nx, none, 0, []⟩))
    | _ :: p => symM fs p m
    | [] => symM fs [] m)
def patOf : List FK → List Value → List Bool
  | [], _ => []
  | _ :: _, [] => []
  | .c _ :: fs, _ :: vs => patOf fs vs
  | .st :: fs, _ :: vs => patOf fs vs
  | .sl _ :: fs, .slice (some _) _ _ :: vs => true :: patOf fs vs
  | .sl _ :: fs, _ :: vs => false :: patOf fs vs
def blksOf : List FK → List Value → List Blk
  | [], _ => []
  | _ :: _, [] => []
  | .c _ :: fs, _ :: vs => blksOf fs vs
  | .st :: fs, _ :: vs => blksOf fs vs
  | .sl ks :: fs, .slice (some a) len _ :: vs => ⟨a.block, a.off, ks.length, len, true⟩ :: blksOf fs vs
  | .sl _ :: fs, _ :: vs => blksOf fs vs
def cellAt (w : World) (R : Nat) (bl : List Blk) (L : List Value) (r : Nat) (i : Int) (f : Nat) : Value :=
  if r = R then L.getD f undef else match bl[r]? with
    | some e => (w.cell? ⟨e.blk, e.base + i.toNat * e.stride + f, none⟩).getD undef
    | none => undef
/-- a byte of a string among the arguments -/
def byteAt (L : List Value) (k : Nat) (i : Int) : Int := match L.getD k undef with
  | .string b => (match b.data.toList[i.toNat]? with | some c => (c.toNat : Int) | none => 0)
  | _ => 0
def envOf (w : World) (R : Nat) (bl : List Blk) (L : List Value) : Env where
  v n := match bl[n]? with | some e => e.cnt | none => 0
  c r i f := if R < r then byteAt L (r - R - 1) i else iOf (cellAt w R bl L r i f)
  bv _ := false
  bc r i f := bOf (cellAt w R bl L r i f)
theorem mkCell_cellR {ρ : Env} {β : Bet} {r : Nat} {i : T} {f : Nat} {k : CK} {v : Value} (h : cellR k v) (h1 : ρ.c r (i.ev ρ) f = iOf v) (h2 : ρ.bc r (i.ev ρ) f = bOf v) : (mkCell r i f k).rel ρ β v := by
  cases k with
  | b => obtain ⟨b, rfl⟩ := h; simp [mkCell, SV.rel, B.ev, h2, bOf]
  | i k => obtain ⟨n, rfl, hn⟩ := h; simp [mkCell, SV.rel, T.ev, h1, iOf, hn]
  | s => exact h.elim
theorem symL_rel {w : World} {R : Nat} {bl : List Blk} {L : List Value} : ∀ {fs : List FK} {vs : List Value}, goodL w fs vs → ∀ (pre : List Value) (bpre bpost : List Blk), L = pre ++ vs → bl = bpre ++ blksOf fs vs ++ bpost →
    relL (envOf w R bl L) bl (symL R fs (patOf fs vs) bpre.length pre.length) vs
  | [], _, h, _, _, _, _, _ => h
  | .c k :: fs, _, h, pre, bpre, bpost, hL, hb => by
    obtain ⟨v, vs, rfl, h1, h2⟩ := h
    have hc : ∀ i, cellAt w R bl L R i pre.length = v := fun i => by simp [cellAt, hL]
    refine ⟨v, vs, rfl, mkCell_cellR h1 (by simp only [envOf, hc, Nat.lt_irrefl, if_false]) (by simp only [envOf, hc]), ?_⟩
    have := symL_rel (R := R) (bl := bl) (L := L) h2 (pre ++ [v]) bpre bpost (by simp [hL]) (by simpa [blksOf] using hb)
    simpa [patOf] using this
  | .st :: fs, _, h, pre, bpre, bpost, hL, hb => by
    obtain ⟨v, vs, rfl, ⟨b, rfl, hsz⟩, h2⟩ := h
    have hg : L.getD pre.length undef = .string b := by simp [hL]
    refine ⟨.string b, vs, rfl, ⟨b, rfl, ?_, hsz, fun j c hc => ?_⟩, ?_⟩
    · have : (T.cell R (.lit 0) pre.length).ev (envOf w R bl L) = (b.size : Int) := by
        simp only [T.ev, envOf, Nat.lt_irrefl, if_false, cellAt, if_true, hg, iOf]
      simp only [T.ev] at this ⊢
      rw [this]
      exact wrap_of_inK ((inK_iff _ _).2 ⟨by simp only [kLo]; omega, by simp only [kHi]; omega⟩)
    · simp only [envOf]
      rw [if_pos (by omega), show R + 1 + pre.length - R - 1 = pre.length by omega]
      simp only [byteAt, hg, Int.toNat_natCast, hc]
    · have := symL_rel (R := R) (bl := bl) (L := L) h2 (pre ++ [.string b]) bpre bpost (by simp [hL]) (by simpa [blksOf] using hb)
      simpa [patOf] using this
  | .sl ks :: fs, _, h, pre, bpre, bpost, hL, hb => by
    obtain ⟨v, vs, rfl, h1, h2⟩ := h
    rcases h1 with rfl | ⟨b, off, len, cap, arr, el, fr, rfl, hlc, hcm, hpos, hh, hrow⟩
    · refine ⟨_, vs, rfl, rfl, ?_⟩
      have := symL_rel (R := R) (bl := bl) (L := L) h2 (pre ++ [.slice none 0 0]) bpre bpost (by simp [hL]) (by simpa [blksOf] using hb)
      simpa [patOf] using this
    · have hbl : bl[bpre.length]? = some ⟨b, off, ks.length, len, true⟩ := by rw [hb]; simp [blksOf]
      refine ⟨_, vs, rfl, ⟨_, len, cap, hbl, by simp [T.ev], by simp only [T.ev, envOf, hbl], hlc, hcm, (fun t ht => by cases ht), by simp [T.ev]⟩, ?_⟩
      have := symL_rel (R := R) (bl := bl) (L := L) h2 (pre ++ [.slice (some ⟨b, off, none⟩) len cap]) (bpre ++ [⟨b, off, ks.length, len, true⟩]) bpost (by simp [hL]) (by simpa [blksOf] using hb)
      simpa [patOf] using this
theorem MemRel.pushRo {ρ : Env} {β : Bet} {m : Mem} {w : World} (h : MemRel ρ β m w) (hro : ∀ e ∈ β, e.ro = true) {e : Blk} (he : e.ro = true) (hlt : e.blk < w.heap.size) {o : SObj} (ho : objRel ρ (β ++ [e]) e w o) :
    MemRel ρ (β ++ [e]) (m.push o) w := by
  have hro' : ∀ x ∈ β ++ [e], x.ro = true := fun x hx => by
    rcases List.mem_append.1 hx with h1 | h1
    · exact hro x h1
    · simp at h1; subst h1; exact he
  refine ⟨by simp [Mem.push, h.nx], fun id o' ho' => ?_, fun x hx => ?_, fun i j x y hi hj _ _ => ⟨hro' x (List.mem_of_getElem? hi), hro' y (List.mem_of_getElem? hj)⟩, fun id hid => ?_⟩
  · simp only [Mem.push, Tr.get_put] at ho'
    by_cases hid : id = m.nx
    · rw [if_pos hid] at ho'; cases ho'
      exact ⟨e, by rw [hid, h.nx]; simp, ho⟩
    · rw [if_neg hid] at ho'
      obtain ⟨x, hx, r⟩ := h.obj id o' ho'
      exact ⟨x, by rw [List.getElem?_append_left (List.getElem?_eq_some_iff.1 hx).1]; exact hx, objRel_mono _ r⟩
  · rcases List.mem_append.1 hx with h1 | h1
    · exact h.lt x h1
    · simp at h1; subst h1; exact hlt
  · simp only [Mem.push] at hid ⊢
    rw [Tr.get_put, if_neg (by omega)]
    exact h.dom id (by omega)
theorem symM_rel {w : World} {R : Nat} {bl : List Blk} {L : List Value} (hR : bl.length ≤ R) : ∀ {fs : List FK} {vs : List Value}, goodL w fs vs → ∀ (bpre : List Blk) (m : Mem), bl = bpre ++ blksOf fs vs → (∀ e ∈ bpre, e.ro = true) →
    MemRel (envOf w R bl L) bpre m w → MemRel (envOf w R bl L) bl (symM fs (patOf fs vs) m) w ∧ ∀ e ∈ bl, e.ro = true
  | [], _, h, bpre, m, hb, hro, hm => by
    have : bl = bpre := by simpa [blksOf] using hb
    subst this
    exact ⟨by simpa [symM] using hm, hro⟩
  | .c k :: fs, _, h, bpre, m, hb, hro, hm => by
    obtain ⟨v, vs, rfl, h1, h2⟩ := h
    simpa [symM, patOf] using symM_rel hR h2 bpre m (by simpa [blksOf] using hb) hro hm
  | .st :: fs, _, h, bpre, m, hb, hro, hm => by
    obtain ⟨v, vs, rfl, h1, h2⟩ := h
    simpa [symM, patOf] using symM_rel hR h2 bpre m (by simpa [blksOf] using hb) hro hm
  | .sl ks :: fs, _, h, bpre, m, hb, hro, hm => by
    obtain ⟨v, vs, rfl, h1, h2⟩ := h
    rcases h1 with rfl | ⟨b, off, len, cap, arr, el, fr, rfl, hlc, hcm, hpos, hh, hrow⟩
    · simpa [symM, patOf] using symM_rel hR h2 bpre m (by simpa [blksOf] using hb) hro hm
    · have hbl : bl[bpre.length]? = some ⟨b, off, ks.length, len, true⟩ := by rw [hb]; simp [blksOf]
      have hlt : bpre.length < bl.length := (List.getElem?_eq_some_iff.1 hbl).1
      have hnx := hm.nx
      have hpush := hm.pushRo hro (e := ⟨b, off, ks.length, len, true⟩) rfl (by have := (Array.getElem?_eq_some_iff.1 hh).1; exact this) (o := .arr ⟨false, m.nx, ks.length, ks, .var m.nx, none, 0, []⟩) (by
        refine ⟨(fun h => by cases h), rfl, hpos, rfl, ?_, ⟨rfl, fun t cs h => by cases h⟩, arr, el, fr, hh, (fun h => by cases h), fun j hj f sv hs => ?_⟩
        · simp only [T.ev, envOf, hnx, hbl]
        · simp only [SArr.at, SArr.base, setAll, instG] at hs
          have hk : ∃ k, ks[f]? = some k ∧ sv = mkCell m.nx (.lit j) f k := by
            have : ∀ (ks : List CK) (n f : Nat), (baseRow m.nx (.lit j) ks n)[f]? = some sv → ∃ k, ks[f]? = some k ∧ sv = mkCell m.nx (.lit j) (n + f) k := by
              intro ks
              induction ks with
              | nil => intro n f h; simp [baseRow] at h
              | cons k ks ih =>
                intro n f h
                cases f with
                | zero => simp [baseRow] at h; exact ⟨k, rfl, h.symm⟩
                | succ f =>
                  simp [baseRow] at h
                  obtain ⟨k', hk', e⟩ := ih (n + 1) f h
                  exact ⟨k', by simpa using hk', by rw [e]; congr 1; omega⟩
            simpa using this ks 0 f hs
          obtain ⟨k, hk, rfl⟩ := hk
          obtain ⟨v, hv, hc⟩ := hrow j hj f k hk
          refine ⟨v, hv, mkCell_cellR hc ?_ ?_⟩ <;>
            · simp only [envOf, T.ev, cellAt, hnx]
              first
                | (rw [if_neg (by omega), if_neg (by omega), hbl]; simp only [Int.toNat_natCast, cell?_heap hh, hv, Option.getD_some]; done)
                | (rw [if_neg (by omega), hbl]; simp only [Int.toNat_natCast, cell?_heap hh, hv, Option.getD_some]; done))
      have := symM_rel hR (L := L) h2 (bpre ++ [⟨b, off, ks.length, len, true⟩]) _ (by simpa [blksOf] using hb) (fun e he => by
        rcases List.mem_append.1 he with h1 | h1
        · exact hro e h1
        · simp at h1; subst h1; rfl) hpush
      simpa [symM, patOf] using this
/-- how many slices there are, and all the ways in which they may be nil -/
def patsOf : List FK → List (List Bool)
  | [] => [[]]
  | .c _ :: fs => patsOf fs
  | .st :: fs => patsOf fs
  | .sl _ :: fs => (patsOf fs).flatMap fun p => [true :: p, false :: p]
theorem patOf_mem {w : World} : ∀ {fs : List FK} {vs : List Value}, goodL w fs vs → patOf fs vs ∈ patsOf fs
  | [], _, _ => by simp [patOf, patsOf]
  | .c k :: fs, _, h => by
    obtain ⟨v, vs, rfl, h1, h2⟩ := h
    simpa [patOf, patsOf] using patOf_mem h2
  | .st :: fs, _, h => by
    obtain ⟨v, vs, rfl, h1, h2⟩ := h
    simpa [patOf, patsOf] using patOf_mem h2
  | .sl ks :: fs, _, h => by
    obtain ⟨v, vs, rfl, h1, h2⟩ := h
    have := patOf_mem h2
    simp only [patsOf, List.mem_flatMap]
    refine ⟨_, this, ?_⟩
    rcases h1 with rfl | ⟨b, off, len, cap, arr, el, fr, rfl, _⟩ <;> simp [patOf]
end Go.SX

namespace Go.SX
open Go

def callX (C : Cfg) (fuel : Nat) (id : Nat) (args : List SV) (mem : Mem) (pc : PC) : Option (List COut) :=
  match C.fn id with
  | some fn => (match fn.body with
    | some body => callB C (exec C fuel) [] fn body args mem pc id
    | none => none)
  | none => none
theorem callX_ok {C : Cfg} (hC : C.Types) {ρ : Env} (hH : ∀ ρ, HookOk C ρ) {fuel id : Nat} {args : List SV} {mem : Mem} {pc : PC} {outs : List COut} (h : callX C fuel id args mem pc = some outs)
    {β : Bet} {w : World} {vs : List Value} (hp : PcH ρ pc) (hr : relL ρ β args vs) (hm : MemRel ρ β mem w) (hn : NoStuckC ρ outs) : Calls C.P id vs.toArray w (CPost ρ β [] w outs) := by
  unfold callX at h
  split at h
  · rename_i fn hfn
    obtain ⟨hf1, _⟩ := hC.fn id fn hfn
    split at h
    · rename_i body hbody
      exact callB_ok hC (exec_run hC hH ρ fuel) h hf1 hbody hp hr hm hn
    · cases h
  · cases h
def R0 : Nat := 1000000
def startPc : Nat → PC
  | 0 => []
  | n + 1 => (.ltI (.var n) (.lit 0), false) :: (.ltI (.lit 9223372036854775807) (.var n), false) :: startPc n
theorem startPc_ok {ρ : Env} : ∀ n, (∀ i, i < n → 0 ≤ ρ.v i ∧ ρ.v i ≤ 9223372036854775807) → PcH ρ (startPc n)
  | 0, _ => PcH.nil ρ
  | n + 1, h => by
    have := h n (by omega)
    refine PcH.cons ?_ (PcH.cons ?_ (startPc_ok n fun i hi => h i (by omega)))
    · exact decide_eq_false (by simp only [T.ev]; omega)
    · exact decide_eq_false (by simp only [T.ev]; omega)
theorem cnt_ok {w : World} : ∀ {fs : List FK} {vs : List Value}, goodL w fs vs → ∀ e ∈ blksOf fs vs, e.cnt ≤ 9223372036854775807
  | [], _, _, e, he => by simp [blksOf] at he
  | .c k :: fs, _, h, e, he => by
    obtain ⟨v, vs, rfl, h1, h2⟩ := h
    exact cnt_ok h2 e (by simpa [blksOf] using he)
  | .st :: fs, _, h, e, he => by
    obtain ⟨v, vs, rfl, h1, h2⟩ := h
    exact cnt_ok h2 e (by simpa [blksOf] using he)
  | .sl ks :: fs, _, h, e, he => by
    obtain ⟨v, vs, rfl, h1, h2⟩ := h
    rcases h1 with rfl | ⟨b, off, len, cap, arr, el, fr, rfl, hlc, hcm, _⟩
    · exact cnt_ok h2 e (by simpa [blksOf] using he)
    · simp [blksOf] at he
      rcases he with rfl | he
      · simp; omega
      · exact cnt_ok h2 e he
theorem blks_le {w : World} : ∀ {fs : List FK} {vs : List Value}, goodL w fs vs → (blksOf fs vs).length ≤ fs.length
  | [], _, _ => by simp [blksOf]
  | .c k :: fs, _, h => by
    obtain ⟨v, vs, rfl, h1, h2⟩ := h
    have := blks_le h2
    simp [blksOf]; omega
  | .st :: fs, _, h => by
    obtain ⟨v, vs, rfl, h1, h2⟩ := h
    have := blks_le h2
    simp [blksOf]; omega
  | .sl ks :: fs, _, h => by
    obtain ⟨v, vs, rfl, h1, h2⟩ := h
    have := blks_le h2
    rcases h1 with rfl | ⟨b, off, len, cap, arr, el, fr, rfl, hlc, hcm, _⟩ <;> simp [blksOf] <;> omega
theorem symM_nx : ∀ (fs : List FK) (w : World) (vs : List Value), goodL w fs vs → ∀ m, (symM fs (patOf fs vs) m).nx = m.nx + (blksOf fs vs).length
  | [], _, _, _, m => by simp [symM, blksOf]
  | .c k :: fs, w, _, h, m => by
    obtain ⟨v, vs, rfl, h1, h2⟩ := h
    have := symM_nx fs w vs h2 m
    simpa [symM, patOf, blksOf] using this
  | .st :: fs, w, _, h, m => by
    obtain ⟨v, vs, rfl, h1, h2⟩ := h
    have := symM_nx fs w vs h2 m
    simpa [symM, patOf, blksOf] using this
  | .sl ks :: fs, w, _, h, m => by
    obtain ⟨v, vs, rfl, h1, h2⟩ := h
    rcases h1 with rfl | ⟨b, off, len, cap, arr, el, fr, rfl, hlc, hcm, _⟩
    · have := symM_nx fs w vs h2 m
      simpa [symM, patOf, blksOf] using this
    · have := symM_nx fs w vs h2 (m.push (.arr ⟨false, m.nx, ks.length, ks, .var m.nx, none, 0, []⟩))
      simp only [symM, patOf, blksOf, List.length_cons]; rw [this]; simp only [Mem.push]; omega

/-- a law's run at one form of its arguments -/
def lawX (C : Cfg) (fuel id : Nat) (is : List (Bool × Nat)) (ks : List FK) (p : List Bool) : Option (List COut) :=
  let m := symM ks p ⟨.nil, 0⟩
  callX C fuel id (argsS is (symL R0 ks p 0 0)) m (startPc m.nx)
def goodOut (ρ : Env) (o : COut) : Prop := ∃ b, o.ex = .ret (.bool b) ∧ b.ev ρ = true
theorem law_calls {H : Type} {enc : TypeId × Value → H} {C : Cfg} (hC : C.Types) (hH : ∀ ρ, HookOk C ρ) {fuel id : Nat} {ts : List TypeId} {is : List (Bool × Nat)} {ks : List FK} (hps : paramsS C.P ts = some (is, ks)) (hks : ks.length ≤ R0)
    (hx : ∀ p ∈ patsOf ks, ∃ outs, lawX C fuel id is ks p = some outs ∧ ∀ ρ, ∀ o ∈ outs, PcH ρ o.pc → goodOut ρ o)
    {W : World} {base : Nat} {vs : List Value} {ds : List (DataW H)} {ps : List MemPlace} {b0 : Nat} {sp : Nat → Bool} {held : Bool} {r : Reach}
    (hok : ∀ (j : Nat) t v, ts[j]? = some t → vs[j]? = some v → Value.okWide C.P W r base t v) (ht : DataW.TrodAll enc C.P W b0 sp held ts vs ds ps) :
    Calls C.P id vs.toArray W fun e W' => e = .returned (.bool true) ∧ RowKit.Below W.heap.size W W' := by
  obtain ⟨L, hg, hargs⟩ := open_args hps ht hok
  have hbl := blks_le hg
  have hrel := symL_rel (R := R0) (bl := blksOf ks L) (L := L) hg [] [] [] rfl (by simp)
  have hm0 : MemRel (envOf W R0 (blksOf ks L) L) [] ⟨.nil, 0⟩ W := ⟨rfl, fun id o h => by simp [Tr.get] at h, fun e he => (by simp at he), fun i j e e' he => (by simp at he), fun id _ => by simp [Tr.get]⟩
  obtain ⟨hm, hro⟩ := symM_rel (R := R0) (bl := blksOf ks L) (L := L) (by omega) hg [] _ (by simp) (by simp) hm0
  obtain ⟨outs, ho, hgood⟩ := hx _ (patOf_mem hg)
  unfold lawX at ho
  have hnx : (symM ks (patOf ks L) ⟨.nil, 0⟩).nx = (blksOf ks L).length := by rw [symM_nx ks W L hg]; simp
  have hpc : PcH (envOf W R0 (blksOf ks L) L) (startPc (symM ks (patOf ks L) ⟨.nil, 0⟩).nx) := startPc_ok _ fun i hi => by
    rw [hnx] at hi
    simp only [envOf, List.getElem?_eq_getElem hi]
    have := cnt_ok hg _ (List.getElem_mem hi)
    omega
  refine (callX_ok hC hH ho hpc (hargs _ _ _ hrel) hm (fun o hoo k hk hp => ?_)).mono fun e W' ⟨o, hoo, hp, β', hs, hm', he⟩ => ?_
  · obtain ⟨b, hb, _⟩ := hgood _ o hoo hp
    rw [hb] at hk; cases hk
  · obtain ⟨b, hb, hv⟩ := hgood _ o hoo hp
    rw [hb] at he
    cases e <;> simp only [EndR] at he
    refine ⟨?_, hs.below hro⟩
    rw [show _ = Value.bool _ from he, hv]
/-- what the row asks, from that -/
theorem law_post {H : Type} {enc : TypeId × Value → H} {P : Program} {f : Func} {s : ChangeSpec} {tb : TypeId} {ds gs : List (DataW H)} {before : List MemPlace} {W W' : World} {args : Array Value} (hv : s.vars = []) (hres : f.resultTypes = #[tb])
    (htb : P.underlying tb = some .bool) (hl : laidOutB P = true) (hpar : f.params.toList.all (fun t => P.readableRec t && decide (t < P.types.size)) = true)
    (hs : s.fn H ds = { results := [.lit (.bool true)], args := ds }) (hW : DataW.Whole enc P f.params.toList s.vars false W args.toList ds gs before) (hb : RowKit.Below W.heap.size W W') :
    s.post enc P f false true false false W args (.bool true) W' := by
  have hlt := hW.lt
  obtain ⟨p, q, h1, h2, rfl, h3, h4⟩ := hW
  have hW' : DataW.Whole enc P f.params.toList s.vars false W args.toList ds gs (p ++ q) := ⟨p, q, h1, h2, rfl, h3, h4⟩
  rw [hv] at h2
  have hgs : gs = [] ∧ q = [] := by
    cases gs with
    | nil => exact ⟨rfl, h2⟩
    | cons g gs => exact h2.elim
  obtain ⟨rfl, rfl⟩ := hgs
  have hargs : ∀ (ts : List TypeId) (vs : List Value) (xs : List (DataW H)) (p : List MemPlace), ts.all (fun t => P.readableRec t && decide (t < P.types.size)) = true → DataW.TrodAll enc P W 0 (fun _ => true) true ts vs xs p →
      (∀ x ∈ p, x.block < W.heap.size) → DataW.TrodAll enc P W' 0 (fun b => decide (b < W.heap.size)) true ts vs xs p := by
    intro ts
    induction ts with
    | nil => intro vs xs p _ h _; cases vs <;> cases xs <;> first | exact h | exact h.elim
    | cons t ts ih =>
      intro vs xs p ha h hlt
      cases vs with
      | nil => cases xs <;> simp [DataW.TrodAll] at h
      | cons v vs =>
        cases xs with
        | nil => exact h.elim
        | cons x xs =>
          obtain ⟨p1, q1, t1, t2, rfl⟩ := h
          simp only [List.all_cons, Bool.and_eq_true, decide_eq_true_eq] at ha
          exact ⟨p1, q1, RowKit.Below.trod hl ha.1.1 ha.1.2 t1 hb fun y hy => hlt y (by simp [hy]), ih vs xs q1 (by simpa using ha.2) t2 (fun y hy => hlt y (by simp [hy])), rfl⟩
  refine ⟨ds, [], p ++ [], [], p, [], hW', ?_, ?_, ?_, hb.frame _, fun h => by cases h⟩
  · rw [hres, List.append_nil, hs]
    exact ⟨[], [], RowKit.shut_bool htb true, rfl, rfl⟩
  · rw [List.append_nil, hs]
    exact hargs _ _ _ _ hpar h1 fun x hx => hlt x (by simp [hx])
  · rw [List.append_nil, hs, hv]; rfl

/-! all of it as one truth -/
/-! numbers one behind the other -/
def edges (x : T) : B × Bool → List T
  | (.ltI a b, true) => bif T.beq a x then [b] else []
  | (.ltI a b, false) => bif T.beq b x then [a] else []
  | (.eqI a b, true) => (bif T.beq a x then [b] else []) ++ (bif T.beq b x then [a] else [])
  | _ => []
theorem edges_ok {ρ : Env} {x z : T} {p : B × Bool} (h : z ∈ edges x p) (hp : p.1.ev ρ = p.2) : x.ev ρ ≤ z.ev ρ := by
  unfold edges at h
  split at h
  · rename_i a b
    cases hb : T.beq a x <;> rw [hb] at h <;> simp at h
    subst h
    have := T.beq_eq hb
    subst this
    simp only [B.ev, decide_eq_true_eq] at hp
    omega
  · rename_i a b
    cases hb : T.beq b x <;> rw [hb] at h <;> simp at h
    subst h
    have := T.beq_eq hb
    subst this
    simp only [B.ev, decide_eq_false_iff_not] at hp
    omega
  · rename_i a b
    simp only [B.ev, beq_iff_eq] at hp
    rcases List.mem_append.1 h with h | h
    · cases hb : T.beq a x <;> rw [hb] at h <;> simp at h
      subst h
      have := T.beq_eq hb
      subst this
      omega
    · cases hb : T.beq b x <;> rw [hb] at h <;> simp at h
      subst h
      have := T.beq_eq hb
      subst this
      omega
  · cases h
def reach : Nat → PC → T → T → Bool
  | 0, _, x, y => T.beq x y
  | n + 1, pc, x, y => T.beq x y || pc.any fun p => (edges x p).any fun z => reach n pc z y
theorem reach_ok {ρ : Env} {pc : PC} (hp : PcH ρ pc) : ∀ {n : Nat} {x y : T}, reach n pc x y = true → x.ev ρ ≤ y.ev ρ
  | 0, x, y, h => by rw [T.beq_eq h]; exact Int.le_refl _
  | n + 1, x, y, h => by
    simp only [reach, Bool.or_eq_true] at h
    rcases h with h | h
    · rw [T.beq_eq h]; exact Int.le_refl _
    · obtain ⟨p, hpm, hq⟩ := List.any_eq_true.1 h
      obtain ⟨z, hz, hr⟩ := List.any_eq_true.1 hq
      exact Int.le_trans (edges_ok hz (hp p hpm)) (reach_ok hp hr)
def orderDead (pc : PC) : Bool := pc.any fun p => match p with
  | (.ltI u v, true) => reach 3 pc v u
  | (.eqI u v, false) => reach 3 pc u v && reach 3 pc v u
  | _ => false
theorem orderDead_ok {ρ : Env} {pc : PC} (h : orderDead pc = true) : ¬ PcH ρ pc := fun hp => by
  obtain ⟨p, hpm, hq⟩ := List.any_eq_true.1 h
  have h1 := hp p hpm
  split at hq
  · rename_i u v
    have := reach_ok hp hq
    simp only [B.ev, decide_eq_true_eq] at h1
    omega
  · rename_i u v
    rw [Bool.and_eq_true] at hq
    have a1 := reach_ok hp hq.1
    have a2 := reach_ok hp hq.2
    simp only [B.ev, beq_eq_false_iff_ne] at h1
    omega
  · cases hq
/-- by cases -/
def provedB : Nat → PC → B → Bool
  | 0, _, _ => false
  | n + 1, pc, b => (match simpB pc b with
    | .lit true => true
    | .lit false => deadPc pc || orderDead pc
    | b' => provedB n (addPc (atomB b') true pc) b' && provedB n (addPc (atomB b') false pc) b')
theorem provedB_ok {ρ : Env} : ∀ {n : Nat} {pc : PC} {b : B}, provedB n pc b = true → PcH ρ pc → b.ev ρ = true
  | 0, _, _, h, _ => by cases h
  | n + 1, pc, b, h, hp => by
    simp only [provedB] at h
    rw [← simpB_ev hp b]
    split at h
    · rename_i hs; rw [hs]; rfl
    · rw [Bool.or_eq_true] at h
      rcases h with h | h
      · exact (deadPc_ok h hp).elim
      · exact (orderDead_ok h hp).elim
    · rename_i h1 h2
      generalize simpB pc b = b' at h
      rw [Bool.and_eq_true] at h
      cases ha : (atomB b').ev ρ
      · exact provedB_ok h.2 (addPc_ok _ false ha hp)
      · exact provedB_ok h.1 (addPc_ok _ true ha hp)
/-- a variable that is known to be a number: the number put in its place -/
def subV (c x : B) : B := match c with
  | .eqI (.var k) t => bif okB k x then instB k t x else x
  | .eqI t (.var k) => bif okB k x then instB k t x else x
  | _ => x
theorem at_self {ρ : Env} {k : Nat} {j : Int} (h : ρ.v k = j) : ρ.at k j = ρ := by
  unfold Env.at
  congr 1
  funext m
  by_cases e : m = k
  · rw [if_pos e, e, h]
  · rw [if_neg e]
theorem subV_ev {ρ : Env} {c x : B} (h : c.ev ρ = true) : (subV c x).ev ρ = x.ev ρ := by
  unfold subV
  split
  · rename_i k t
    cases hk : okB k x
    · rfl
    · simp only [B.ev, T.ev, beq_iff_eq] at h
      rw [cond_true, instB_ev hk, at_self h]
  · rename_i t k _
    cases hk : okB k x
    · rfl
    · simp only [B.ev, T.ev, beq_iff_eq] at h
      rw [cond_true, instB_ev hk, at_self h.symm]
  · rfl
def orB (a b : Option B) : Option B := match a with | some x => some x | none => b
/-- what a variable is asked to be -/
def findEq (k : Nat) : B → Option B
  | .eqI (.var n) t => bif Nat.beq n k then some (.eqI (.var n) t) else none
  | .eqI t (.var n) => bif Nat.beq n k then some (.eqI t (.var n)) else none
  | .not a => findEq k a
  | .and a b => orB (findEq k a) (findEq k b)
  | .ite c a b => orB (findEq k c) (orB (findEq k a) (findEq k b))
  | .eqB a b => orB (findEq k a) (findEq k b)
  | _ => none
/-- by parts: what is joined by 'and' one by one, of all rows one row; K: a truth that is known -/
def partB : Nat → B → PC → B → Bool
  | 0, _, _, _ => false
  | n + 1, K, pc, b => (match simpB pc b with
    | .lit true => true
    | .lit false => (match K with | .lit false => true | _ => deadPc pc || orderDead pc)
    | .and x y => partB n K pc x && partB n K pc y
    | .ite c x y => (match mkAnd K (mkNot (.ite c x y)) with
      | .lit false => true
      | _ => partB n (cofB c true K) (addPc c true pc) (subV c x) && partB n (cofB c false K) (addPc c false pc) y)
    | .all k len x => (frPC k pc && frT k (qNum k) len && (let pc1 := addPc (.ltI (.var k) len) true (addPc (.ltI (.var k) (.lit 0)) false pc); let K1 := bif frB k (qNum k) K then K else .lit true;
      match findEq k x with
      | some c => partB n K1 (addPc c true pc1) (subV c (cofB c true x)) && partB n K1 (addPc c false pc1) (cofB c false x)
      | none => partB n K1 pc1 x)) || provedB n pc (.all k len x)
    | b' => (match mkAnd K (mkNot b') with
      | .lit false => true
      | _ => provedB 64 pc b'))
theorem known_not {ρ : Env} {K b : B} (hK : K.ev ρ = true) (h : mkAnd K (mkNot b) = .lit false) : b.ev ρ = true := by
  have := mkAnd_ev ρ K (mkNot b)
  rw [h, mkNot_ev, hK] at this
  simp only [B.ev] at this
  cases hb : b.ev ρ
  · rw [hb] at this; cases this
  · rfl
theorem partB_ok : ∀ {n : Nat} {ρ : Env} {K : B} {pc : PC} {b : B}, partB n K pc b = true → K.ev ρ = true → PcH ρ pc → b.ev ρ = true
  | 0, _, _, _, _, h, _, _ => by cases h
  | n + 1, ρ, K, pc, b, h, hK, hp => by
    simp only [partB] at h
    rw [← simpB_ev hp b]
    split at h
    · rename_i hs; rw [hs]; rfl
    · split at h
      · cases hK
      · rw [Bool.or_eq_true] at h
        rcases h with h | h
        · exact (deadPc_ok h hp).elim
        · exact (orderDead_ok h hp).elim
    · rename_i x y hs
      rw [Bool.and_eq_true] at h
      rw [hs]
      simp only [B.ev, partB_ok h.1 hK hp, partB_ok h.2 hK hp, Bool.and_true]
    · rename_i c x y hs
      rw [hs]
      split at h
      · rename_i hk; exact known_not hK hk
      · rw [Bool.and_eq_true] at h
        simp only [B.ev]
        cases hc : c.ev ρ
        · exact partB_ok h.2 (by rw [cofB_ev hc]; exact hK) (addPc_ok c false hc hp)
        · have := partB_ok h.1 (by rw [cofB_ev hc]; exact hK) (addPc_ok c true hc hp)
          rw [subV_ev hc] at this
          exact this
    · rename_i k len x hs
      rw [hs]
      rw [Bool.or_eq_true] at h
      rcases h with h | h
      · simp only [Bool.and_eq_true] at h
        obtain ⟨⟨h1, h2⟩, h3⟩ := h
        simp only [B.ev, List.all_eq_true, List.mem_range]
        intro j hj
        have hag := Env.at_agree ρ k (qNum k) (j : Int)
        have hK1 : (bif frB k (qNum k) K then K else B.lit true).ev (ρ.at k (j : Int)) = true := by
          cases hf : frB k (qNum k) K
          · rfl
          · rw [cond_true, ← frB_ev hf hag]; exact hK
        have hp1 : PcH (ρ.at k (j : Int)) (addPc (.ltI (.var k) len) true (addPc (.ltI (.var k) (.lit 0)) false pc)) := by
          refine addPc_ok _ true ?_ (addPc_ok _ false ?_ (frPC_ok rfl hag h1 hp))
          · have hv : (ρ.at k (j : Int)).v k = j := by simp [Env.at]
            simp only [B.ev, T.ev, decide_eq_true_eq, hv]
            rw [← frT_ev h2 hag]
            omega
          · have hv : (ρ.at k (j : Int)).v k = j := by simp [Env.at]
            simp only [B.ev, T.ev, decide_eq_false_iff_not, hv]
            omega
        split at h3
        · rename_i c _
          rw [Bool.and_eq_true] at h3
          cases hc : c.ev (ρ.at k (j : Int))
          · have := partB_ok h3.2 hK1 (addPc_ok c false hc hp1)
            rwa [cofB_ev hc] at this
          · have := partB_ok h3.1 hK1 (addPc_ok c true hc hp1)
            rw [subV_ev hc, cofB_ev hc] at this
            exact this
        · exact partB_ok h3 hK1 hp1
      · exact provedB_ok h hp
    · split at h
      · rename_i hk; exact known_not hK hk
      · exact provedB_ok h hp
def bigB : B → Bool
  | .eqI a b => !(plainT a && plainT b)
  | .ltI a b => !(plainT a && plainT b)
  | .not a => bigB a
  | .and _ _ => true
  | .eqB _ _ => true
  | .ite _ _ _ => true
  | _ => false
def goodB0 (o : COut) : Bool := (match o.ex with
  | .ret (.bool b) => (match simpB o.pc b with | .lit true => true | _ => false)
  | _ => false) || deadPc o.pc
/-- by cases: the truth, or that a fact can't be -/
def goodC (o : COut) : Bool := (match o.ex with
  | .ret (.bool b) => (match simpB o.pc b with | .lit false => false | b' => provedB 64 o.pc b')
  | _ => false) || o.pc.any fun x => bigB x.1 && provedB 64 (o.pc.filter fun y => !(pcItem x y)) (bif x.2 then mkNot x.1 else x.1)
/-- by cases over all that is known at once -/
def allB (pc : PC) (b : B) : B := mkNot (mkAnd (conj (pc.filter fun x => bigB x.1)) (mkNot b))
def goodD (o : COut) : Bool := match o.ex with
  | .ret (.bool b) => provedB 64 (o.pc.filter fun x => !(bigB x.1)) (allB o.pc b)
  | _ => false
def goodP (o : COut) : Bool := match o.ex with
  | .ret (.bool b) => partB 1000 (conj o.pc) o.pc b
  | _ => false
/-- all facts at once can't be -/
def deadB (pc : PC) : Bool := match conj pc with | .lit false => true | _ => false
theorem deadB_ok {ρ : Env} {pc : PC} (h : deadB pc = true) : ¬ PcH ρ pc := fun hp => by
  unfold deadB at h
  have := conj_ev hp
  split at h
  · rename_i hc; rw [hc] at this; cases this
  · cases h
/-- by the values of a byte -/
def goodY (o : COut) : Bool := match o.ex with
  | .ret (.bool b) => provedY 64 o.pc b
  | _ => false
def bigZ : B → Bool
  | .all _ _ _ => true
  | b => bigB b
/-- a fact that can't be, by parts -/
def goodZ (o : COut) : Bool := o.pc.any fun x => bigZ x.1 && (let r := o.pc.filter fun y => !(pcItem x y); partB 1000 (conj r) r (bif x.2 then mkNot x.1 else x.1))
theorem goodZ_ok {o : COut} (h : goodZ o = true) {ρ : Env} (hp : PcH ρ o.pc) : False := by
  obtain ⟨x, hx, hb⟩ := List.any_eq_true.1 h
  rw [Bool.and_eq_true] at hb
  have hr : PcH ρ (o.pc.filter fun y => !(pcItem x y)) := fun y hy => hp y (List.mem_filter.1 hy).1
  have h1 := partB_ok hb.2 (conj_ev hr) hr
  have h2 := hp x hx
  cases hv : x.2
  · rw [hv] at h1 h2; rw [cond_false, h2] at h1; cases h1
  · rw [hv] at h1 h2; rw [cond_true, mkNot_ev, h2] at h1; cases h1
def goodB1 (o : COut) : Bool := (goodB0 o || goodP o || deadB o.pc || goodD o || goodC o) || goodY o || goodZ o
theorem goodB0_ok {ρ : Env} {o : COut} (h : goodB0 o = true) (hp : PcH ρ o.pc) : goodOut ρ o := by
  unfold goodB0 at h
  rw [Bool.or_eq_true] at h
  rcases h with h | h
  · split at h
    · rename_i b hb
      refine ⟨b, hb, ?_⟩
      split at h
      · rename_i hs
        rw [← simpB_ev hp b, hs]; rfl
      · cases h
    · cases h
  · exact (deadPc_ok h hp).elim
theorem goodB1_ok {ρ : Env} {o : COut} (h : goodB1 o = true) (hp : PcH ρ o.pc) : goodOut ρ o := by
  unfold goodB1 at h
  rw [Bool.or_eq_true, Bool.or_eq_true] at h
  rcases h with (h | h) | h
  rotate_left
  rotate_left
  · exact (goodZ_ok h hp).elim
  rotate_left
  · unfold goodY at h
    split at h
    · rename_i b hb
      exact ⟨b, hb, provedY_ok h hp⟩
    · cases h
  rw [Bool.or_eq_true, Bool.or_eq_true, Bool.or_eq_true, Bool.or_eq_true] at h
  rcases h with (((h | h) | h) | h) | h
  · exact goodB0_ok h hp
  · unfold goodP at h
    split at h
    · rename_i b hb
      exact ⟨b, hb, partB_ok h (conj_ev hp) hp⟩
    · cases h
  · exact (deadB_ok h hp).elim
  · unfold goodD at h
    split at h
    · rename_i b hb
      refine ⟨b, hb, ?_⟩
      have h1 := provedB_ok h fun x hx => hp x (List.mem_filter.1 hx).1
      have h2 : (conj (o.pc.filter fun x => bigB x.1)).ev ρ = true := conj_ev fun x hx => hp x (List.mem_filter.1 hx).1
      simp only [allB, mkNot_ev, mkAnd_ev, h2] at h1
      simpa using h1
    · cases h
  · unfold goodC at h
    rw [Bool.or_eq_true] at h
    rcases h with h | h
    · split at h
      · rename_i b hb
        refine ⟨b, hb, ?_⟩
        rw [← simpB_ev hp b]
        split at h
        · cases h
        · exact provedB_ok h hp
      · cases h
    · obtain ⟨x, hx, hb⟩ := List.any_eq_true.1 h
      rw [Bool.and_eq_true] at hb
      have h1 := provedB_ok (ρ := ρ) hb.2 fun y hy => hp y (List.mem_filter.1 hy).1
      have h2 := hp x hx
      cases hv : x.2
      · rw [hv] at h1 h2; rw [cond_false, h2] at h1; cases h1
      · rw [hv] at h1 h2; rw [cond_true, mkNot_ev, h2] at h1; cases h1
/-- what is joined by 'and', each by the values of its byte -/
def conjY (pc : PC) : B → Bool
  | .and x y => conjY pc x && conjY pc y
  | .lit v => v
  | b => byteGood pc b
theorem conjY_ok {ρ : Env} {pc : PC} (hp : PcH ρ pc) : ∀ {b : B}, conjY pc b = true → b.ev ρ = true
  | .and x y, h => by
    simp only [conjY, Bool.and_eq_true] at h
    simp only [B.ev, conjY_ok hp h.1, conjY_ok hp h.2, Bool.and_true]
  | .lit v, h => h
  | .var _, h => byteGood_ok h hp
  | .cell _ _ _, h => byteGood_ok h hp
  | .eqI _ _, h => byteGood_ok h hp
  | .ltI _ _, h => byteGood_ok h hp
  | .eqB _ _, h => byteGood_ok h hp
  | .not _, h => byteGood_ok h hp
  | .ite _ _ _, h => byteGood_ok h hp
  | .all _ _ _, h => byteGood_ok h hp
def goodW (o : COut) : Bool := match o.ex with
  | .ret (.bool b) => (match b with | .and _ _ => conjY o.pc b | _ => false)
  | _ => false
def goodB (o : COut) : Bool := goodW o || goodB1 o
theorem goodB_ok {ρ : Env} {o : COut} (h : goodB o = true) (hp : PcH ρ o.pc) : goodOut ρ o := by
  unfold goodB at h
  rw [Bool.or_eq_true] at h
  rcases h with h | h
  · unfold goodW at h
    split at h
    · rename_i b hb
      split at h
      · exact ⟨_, hb, conjY_ok hp h⟩
      · cases h
    · cases h
  · exact goodB1_ok h hp
def lawGood (C : Cfg) (fuel id : Nat) (is : List (Bool × Nat)) (ks : List FK) (p : List Bool) : Bool := match lawX C fuel id is ks p with
  | some outs => outs.all goodB
  | none => false
def lawAll (C : Cfg) (fuel id : Nat) (ts : List TypeId) : Bool := match paramsS C.P ts with
  | some (is, ks) => Nat.ble ks.length R0 && (patsOf ks).all (lawGood C fuel id is ks)
  | none => false
theorem law_all {H : Type} {enc : TypeId × Value → H} {C : Cfg} (hC : C.Types) (hH : ∀ ρ, HookOk C ρ) {fuel id : Nat} {ts : List TypeId} (h : lawAll C fuel id ts = true)
    {W : World} {base : Nat} {args : Array Value} {ds : List (DataW H)} {ps : List MemPlace} {b0 : Nat} {sp : Nat → Bool} {held : Bool} {r : Reach}
    (hok : ∀ (j : Nat) t v, ts[j]? = some t → args[j]? = some v → Value.okWide C.P W r base t v) (ht : DataW.TrodAll enc C.P W b0 sp held ts args.toList ds ps) :
    Calls C.P id args W fun e W' => e = .returned (.bool true) ∧ RowKit.Below W.heap.size W W' := by
  unfold lawAll at h
  split at h
  · rename_i is ks hps
    rw [Bool.and_eq_true] at h
    have := law_calls hC hH (fuel := fuel) (id := id) hps (Nat.le_of_ble_eq_true h.1) (fun p hp => by
      have := List.all_eq_true.1 h.2 p hp
      unfold lawGood at this
      split at this
      · rename_i outs ho
        exact ⟨outs, ho, fun ρ o hoo hpc => goodB_ok (List.all_eq_true.1 this o hoo) hpc⟩
      · cases this) (vs := args.toList) (fun j t v h1 h2 => hok j t v h1 (by simpa using h2)) ht
    simpa using this
  · cases h
/-- the tables of a program -/
def mkCfg (P : Program) (hook : Nat → List SV → Mem → PC → List Nat → Option (List COut)) (mrg jn jc lp : Nat → Bool) : Cfg :=
  { P := P, ti := getO (tiTr P), fn := getO (fnTr P), eqk := eqAt P, byt := bytAt P, hook := hook, mrg := mrg, jn := jn, jc := jc, lp := lp }
theorem mkCfg_types (P : Program) (hook : Nat → List SV → Mem → PC → List Nat → Option (List COut)) (mrg jn jc lp : Nat → Bool) (h : P.follows .mixedOrders = true) : (mkCfg P hook mrg jn jc lp).Types :=
  ⟨fun _ _ h => tiTr_ok h, fun _ _ h => fnTr_ok h, fun _ _ h => eqAt_ok h, fun _ _ h => bytAt_ok h, h, (fun _ h => by cases h), (fun _ _ h => by cases h)⟩
/-- with the library's search of bytes -/
theorem Cfg.Types.withExt {C : Cfg} (h : C.Types) {l : List Nat} (hl : ∀ f ∈ l, ExtIdx C.P f) : ({ C with ext := fun i => memB i l } : Cfg).Types :=
  ⟨h.ti, h.fn, h.eqk, h.byt, h.mixed, fun f hf => hl f (memB_of hf), h.flt⟩
/-- with the library's functions of floats -/
def fltAt (l : List (Nat × Nat)) (i : Nat) : Nat := match l with
  | [] => 0
  | (f, k) :: r => bif Nat.beq f i then k else fltAt r i
theorem fltAt_mem {f k : Nat} : ∀ {l : List (Nat × Nat)}, fltAt l f = k + 1 → (f, k + 1) ∈ l
  | [], h => by cases h
  | (g, j) :: r, h => by
    simp only [fltAt] at h
    cases hb : Nat.beq g f
    · rw [hb] at h; exact .tail _ (fltAt_mem h)
    · rw [hb] at h
      have hb := Nat.eq_of_beq_eq_true hb
      simp only [cond_true] at h
      rw [hb, h]; exact .head _
theorem Cfg.Types.withFlt {C : Cfg} (h : C.Types) {l : List (Nat × Nat)} (hl : ∀ p ∈ l, ExtFlt C.P p.1 p.2) : ({ C with flt := fltAt l } : Cfg).Types :=
  ⟨h.ti, h.fn, h.eqk, h.byt, h.mixed, h.ext, fun _ _ hf => hl _ (fltAt_mem hf)⟩
def noHook : Nat → List SV → Mem → PC → List Nat → Option (List COut) := fun _ _ _ _ _ => none
theorem noHook_ok (P : Program) (mrg jn jc lp : Nat → Bool) (ρ : Env) : HookOk (mkCfg P noHook mrg jn jc lp) ρ := fun _ _ _ _ _ _ h => by cases h
theorem trodAll_len {H : Type} {enc : TypeId × Value → H} {P : Program} {w : World} {b0 : Nat} {sp : Nat → Bool} {held : Bool} : ∀ {ts : List TypeId} {vs : List Value} {ds : List (DataW H)} {ps : List MemPlace},
    DataW.TrodAll enc P w b0 sp held ts vs ds ps → ds.length = ts.length
  | [], [], [], _, _ => rfl
  | _ :: _, _ :: _, _ :: _, _, h => by
    obtain ⟨_, _, _, h, _⟩ := h
    simp [trodAll_len h]
  | [], [], _ :: _, _, h => h.elim
  | [], _ :: _, _, _, h => h.elim
  | _ :: _, [], _, _, h => by simp [DataW.TrodAll] at h
  | _ :: _, _ :: _, [], _, h => h.elim
/-- a type's zero -/
def zeroV (P : Program) (t : TypeId) : Value := match P.info? t with
  | some i => (match i.zero with | some z => z | none => undef)
  | none => undef
end Go.SX

namespace Go.SX
open Go

def InH (ρ : Env) (S : List SV) : Prop := ∀ k t, SV.int k t ∈ S → inK k (t.ev ρ) = true
theorem InH_of_rel {ρ : Env} {β : Bet} : ∀ {S : List SV} {L : List Value}, relL ρ β S L → InH ρ S
  | [], _, _, k, t, h => by cases h
  | s :: S, _, h, k, t, hm => by
    obtain ⟨v, vs, rfl, h1, h2⟩ := h
    rw [List.mem_cons] at hm
    rcases hm with rfl | hm
    · exact h1.2
    · exact InH_of_rel h2 k t hm
theorem law_callsI {H : Type} {enc : TypeId × Value → H} {C : Cfg} (hC : C.Types) (hH : ∀ ρ, HookOk C ρ) {fuel id : Nat} {ts : List TypeId} {is : List (Bool × Nat)} {ks : List FK} (hps : paramsS C.P ts = some (is, ks)) (hks : ks.length ≤ R0)
    (hx : ∀ p ∈ patsOf ks, ∃ outs, lawX C fuel id is ks p = some outs ∧ ∀ ρ, InH ρ (symL R0 ks p 0 0) → ∀ o ∈ outs, PcH ρ o.pc → goodOut ρ o)
    {W : World} {base : Nat} {vs : List Value} {ds : List (DataW H)} {ps : List MemPlace} {b0 : Nat} {sp : Nat → Bool} {held : Bool} {r : Reach}
    (hok : ∀ (j : Nat) t v, ts[j]? = some t → vs[j]? = some v → Value.okWide C.P W r base t v) (ht : DataW.TrodAll enc C.P W b0 sp held ts vs ds ps) :
    Calls C.P id vs.toArray W fun e W' => e = .returned (.bool true) ∧ RowKit.Below W.heap.size W W' := by
  obtain ⟨L, hg, hargs⟩ := open_args hps ht hok
  have hbl := blks_le hg
  have hrel := symL_rel (R := R0) (bl := blksOf ks L) (L := L) hg [] [] [] rfl (by simp)
  have hm0 : MemRel (envOf W R0 (blksOf ks L) L) [] ⟨.nil, 0⟩ W := ⟨rfl, fun id o h => by simp [Tr.get] at h, fun e he => (by simp at he), fun i j e e' he => (by simp at he), fun id _ => by simp [Tr.get]⟩
  obtain ⟨hm, hro⟩ := symM_rel (R := R0) (bl := blksOf ks L) (L := L) (by omega) hg [] _ (by simp) (by simp) hm0
  obtain ⟨outs, ho, hgood⟩ := hx _ (patOf_mem hg)
  have hin := InH_of_rel hrel
  unfold lawX at ho
  have hnx : (symM ks (patOf ks L) ⟨.nil, 0⟩).nx = (blksOf ks L).length := by rw [symM_nx ks W L hg]; simp
  have hpc : PcH (envOf W R0 (blksOf ks L) L) (startPc (symM ks (patOf ks L) ⟨.nil, 0⟩).nx) := startPc_ok _ fun i hi => by
    rw [hnx] at hi
    simp only [envOf, List.getElem?_eq_getElem hi]
    have := cnt_ok hg _ (List.getElem_mem hi)
    omega
  refine (callX_ok hC hH ho hpc (hargs _ _ _ hrel) hm (fun o hoo k hk hp => ?_)).mono fun e W' ⟨o, hoo, hp, β', hs, hm', he⟩ => ?_
  · obtain ⟨b, hb, _⟩ := hgood _ hin o hoo hp
    rw [hb] at hk; cases hk
  · obtain ⟨b, hb, hv⟩ := hgood _ hin o hoo hp
    rw [hb] at he
    cases e <;> simp only [EndR] at he
    refine ⟨?_, hs.below hro⟩
    rw [show _ = Value.bool _ from he, hv]

/-! what is left -/
def factIn (ρ : Env) : List SV → Prop → Prop
  | [], G => G
  | .int k t :: r, G => kLo k ≤ t.ev ρ → t.ev ρ ≤ kHi k → factIn ρ r G
  | _ :: r, G => factIn ρ r G
theorem factIn_ok {ρ : Env} {G : Prop} : ∀ {S : List SV}, InH ρ S → factIn ρ S G → G
  | [], _, h => h
  | s :: S, hi, h => by
    have hi' : InH ρ S := fun k t hm => hi k t (.tail _ hm)
    cases s <;> first
      | (have := (inK_iff _ _).1 (hi _ _ (.head _))
         exact factIn_ok hi' (h this.1 this.2))
      | exact factIn_ok hi' h
/-- a truth, as a statement -/
def B.pv (ρ : Env) : B → Prop
  | .lit b => b = true
  | .var n => ρ.bv n = true
  | .cell r i f => ρ.bc r (T.ev ρ i) f = true
  | .eqI a b => T.ev ρ a = T.ev ρ b
  | .ltI a b => T.ev ρ a < T.ev ρ b
  | .eqB a b => (B.pv ρ a ↔ B.pv ρ b)
  | .not a => ¬ B.pv ρ a
  | .and a b => B.pv ρ a ∧ B.pv ρ b
  | .ite c a b => (B.pv ρ c → B.pv ρ a) ∧ (¬ B.pv ρ c → B.pv ρ b)
  | .all k l b => B.ev ρ (.all k l b) = true
theorem B.pv_iff (ρ : Env) : ∀ b : B, B.ev ρ b = true ↔ B.pv ρ b
  | .lit b => Iff.rfl
  | .var n => Iff.rfl
  | .cell r i f => Iff.rfl
  | .eqI a b => by simp only [B.ev, B.pv, beq_iff_eq]
  | .ltI a b => by simp only [B.ev, B.pv, decide_eq_true_eq]
  | .eqB a b => by
    have h1 := B.pv_iff ρ a
    have h2 := B.pv_iff ρ b
    simp only [B.ev, B.pv, beq_iff_eq, ← h1, ← h2]
    exact Bool.eq_iff_iff
  | .not a => by
    have h1 := B.pv_iff ρ a
    simp only [B.ev, B.pv, ← h1, Bool.not_eq_true', Bool.not_eq_true]
  | .and a b => by
    have h1 := B.pv_iff ρ a
    have h2 := B.pv_iff ρ b
    simp only [B.ev, B.pv, ← h1, ← h2, Bool.and_eq_true]
  | .ite c a b => by
    have h0 := B.pv_iff ρ c
    have h1 := B.pv_iff ρ a
    have h2 := B.pv_iff ρ b
    simp only [B.ev, B.pv, ← h0, ← h1, ← h2]
    cases B.ev ρ c <;> simp
  | .all k l b => Iff.rfl
def factPc (ρ : Env) : PC → Prop → Prop
  | [], G => G
  | (b, true) :: r, G => B.pv ρ b → factPc ρ r G
  | (b, false) :: r, G => ¬ B.pv ρ b → factPc ρ r G
theorem factPc_ok {ρ : Env} {G : Prop} : ∀ {pc : PC}, PcH ρ pc → factPc ρ pc G → G
  | [], _, h => h
  | (b, true) :: _, hp, h => factPc_ok hp.tail (h ((B.pv_iff ρ b).1 hp.head))
  | (b, false) :: _, hp, h => factPc_ok hp.tail (h fun hc => by
    have h1 := hp.head
    rw [(B.pv_iff ρ b).2 hc] at h1
    cases h1)
def leftL : List COut → Option (List (PC × B))
  | [] => some []
  | o :: os => (match leftL os with
    | none => none
    | some l => bif goodB o then some l else (match o.ex with
      | .ret (.bool b) => some ((o.pc, simpB o.pc b) :: l)
      | _ => none))
def LeftH (ρ : Env) (S : List SV) : List (PC × B) → Prop
  | [] => True
  | (pc, b) :: r => factIn ρ S (factPc ρ pc (B.pv ρ b)) ∧ LeftH ρ S r
theorem leftL_ok {ρ : Env} {S : List SV} (hS : InH ρ S) : ∀ {os : List COut} {l : List (PC × B)}, leftL os = some l → LeftH ρ S l → ∀ o ∈ os, PcH ρ o.pc → goodOut ρ o
  | [], _, _, _, o, ho, _ => by cases ho
  | x :: os, l, h, hl, o, ho, hp => by
    simp only [leftL] at h
    split at h
    · cases h
    · rename_i l' hl'
      cases hg : goodB x
      · rw [hg] at h
        simp only [cond_false] at h
        split at h
        · rename_i b hb
          cases h
          rw [List.mem_cons] at ho
          rcases ho with rfl | ho
          · refine ⟨b, hb, ?_⟩
            rw [← simpB_ev hp b]
            exact (B.pv_iff ρ _).2 (factPc_ok hp (factIn_ok hS hl.1))
          · exact leftL_ok hS hl' hl.2 o ho hp
        · cases h
      · rw [hg] at h
        cases h
        rw [List.mem_cons] at ho
        rcases ho with rfl | ho
        · exact goodB_ok hg hp
        · exact leftL_ok hS hl' hl o ho hp
def lftBeq (a b : PC × B) : Bool := leq pcItem a.1 b.1 && B.beq a.2 b.2
theorem lftBeq_eq (a b : PC × B) (h : lftBeq a b = true) : a = b := by
  obtain ⟨a1, a2⟩ := a
  obtain ⟨b1, b2⟩ := b
  simp only [lftBeq, Bool.and_eq_true] at h
  rw [leq_eq pcItem_eq h.1, B.beq_eq h.2]
def leftOne (C : Cfg) (fuel id : Nat) (is : List (Bool × Nat)) (ks : List FK) (p : List Bool) (S : List SV) (l : List (PC × B)) : Bool := match lawX C fuel id is ks p with
  | some outs => (match leftL outs with | some l' => leq lftBeq l' l && leq SV.beq S (symL R0 ks p 0 0) | none => false)
  | none => false
def leftAll (C : Cfg) (fuel id : Nat) (is : List (Bool × Nat)) (ks : List FK) : List (List Bool) → List (List SV × List (PC × B)) → Bool
  | [], _ => true
  | p :: ps, (S, l) :: r => leftOne C fuel id is ks p S l && leftAll C fuel id is ks ps r
  | _, _ => false
def lawLeft (C : Cfg) (fuel id : Nat) (ts : List TypeId) (r : List (List SV × List (PC × B))) : Bool := match paramsS C.P ts with
  | some (is, ks) => Nat.ble ks.length R0 && leftAll C fuel id is ks (patsOf ks) r
  | none => false
def LeftsH (ρ : Env) : List (List SV × List (PC × B)) → Prop
  | [] => True
  | (S, l) :: r => LeftH ρ S l ∧ LeftsH ρ r
theorem leftAll_ok {C : Cfg} {fuel id : Nat} {is : List (Bool × Nat)} {ks : List FK} : ∀ {ps : List (List Bool)} {r : List (List SV × List (PC × B))}, leftAll C fuel id is ks ps r = true → (∀ ρ, LeftsH ρ r) →
    ∀ p ∈ ps, ∃ outs, lawX C fuel id is ks p = some outs ∧ ∀ ρ, InH ρ (symL R0 ks p 0 0) → ∀ o ∈ outs, PcH ρ o.pc → goodOut ρ o
  | [], _, _, _, p, hp => by cases hp
  | q :: ps, [], h, _, p, hp => by simp [leftAll] at h
  | q :: ps, (S, l) :: r, h, hr, p, hp => by
    simp only [leftAll, Bool.and_eq_true] at h
    rw [List.mem_cons] at hp
    rcases hp with rfl | hp
    · have h1 := h.1
      unfold leftOne at h1
      split at h1
      · rename_i outs ho
        split at h1
        · rename_i l' hl'
          rw [Bool.and_eq_true] at h1
          have e1 := leq_eq lftBeq_eq h1.1
          have e2 := leq_eq (fun _ _ => SV.beq_eq) h1.2
          subst e1; subst e2
          exact ⟨outs, ho, fun ρ hi => leftL_ok hi hl' (hr ρ).1⟩
        · cases h1
      · cases h1
    · exact leftAll_ok h.2 (fun ρ => (hr ρ).2) p hp
theorem law_left {H : Type} {enc : TypeId × Value → H} {C : Cfg} (hC : C.Types) (hH : ∀ ρ, HookOk C ρ) {fuel id : Nat} {ts : List TypeId} {l : List (List SV × List (PC × B))} (h : lawLeft C fuel id ts l = true) (hl : ∀ ρ, LeftsH ρ l)
    {W : World} {base : Nat} {args : Array Value} {ds : List (DataW H)} {ps : List MemPlace} {b0 : Nat} {sp : Nat → Bool} {held : Bool} {r : Reach}
    (hok : ∀ (j : Nat) t v, ts[j]? = some t → args[j]? = some v → Value.okWide C.P W r base t v) (ht : DataW.TrodAll enc C.P W b0 sp held ts args.toList ds ps) :
    Calls C.P id args W fun e W' => e = .returned (.bool true) ∧ RowKit.Below W.heap.size W W' := by
  unfold lawLeft at h
  split at h
  · rename_i is ks hps
    rw [Bool.and_eq_true] at h
    have := law_callsI hC hH (fuel := fuel) (id := id) hps (Nat.le_of_ble_eq_true h.1) (leftAll_ok h.2 hl) (vs := args.toList) (fun j t v h1 h2 => hok j t v h1 (by simpa using h2)) ht
    simpa using this
  · cases h
/-- the same, the program told apart -/
theorem law_left_of {H : Type} {enc : TypeId × Value → H} {C : Cfg} {P : Program} (hP : C.P = P) (hC : C.Types) (hH : ∀ ρ, HookOk C ρ) {fuel id : Nat} {ts : List TypeId} {l : List (List SV × List (PC × B))} (h : lawLeft C fuel id ts l = true) (hl : ∀ ρ, LeftsH ρ l)
    {W : World} {base : Nat} {args : Array Value} {ds : List (DataW H)} {ps : List MemPlace} {b0 : Nat} {sp : Nat → Bool} {held : Bool} {r : Reach} {us : List TypeId} (hu : us = ts)
    (hok : ∀ (j : Nat) t v, us[j]? = some t → args[j]? = some v → Value.okWide P W r base t v) (ht : DataW.TrodAll enc P W b0 sp held us args.toList ds ps) :
    Calls P id args W fun e W' => e = .returned (.bool true) ∧ RowKit.Below W.heap.size W W' := by
  subst hP; subst hu; exact law_left hC hH h hl hok ht
theorem law_all_of {H : Type} {enc : TypeId × Value → H} {C : Cfg} {P : Program} (hP : C.P = P) (hC : C.Types) (hH : ∀ ρ, HookOk C ρ) {fuel id : Nat} {ts : List TypeId} (h : lawAll C fuel id ts = true)
    {W : World} {base : Nat} {args : Array Value} {ds : List (DataW H)} {ps : List MemPlace} {b0 : Nat} {sp : Nat → Bool} {held : Bool} {r : Reach} {us : List TypeId} (hu : us = ts)
    (hok : ∀ (j : Nat) t v, us[j]? = some t → args[j]? = some v → Value.okWide P W r base t v) (ht : DataW.TrodAll enc P W b0 sp held us args.toList ds ps) :
    Calls P id args W fun e W' => e = .returned (.bool true) ∧ RowKit.Below W.heap.size W W' := by
  subst hP; subst hu; exact law_all hC hH h hok ht
/-! the wraps, for omega -/
def wrapF (k : IntKind) (n : Int) : Int := match k with
  | .i8 => (n + 128) % 256 - 128
  | .i16 => (n + 32768) % 65536 - 32768
  | .i32 => (n + 2147483648) % 4294967296 - 2147483648
  | .i64 => (n + 9223372036854775808) % 18446744073709551616 - 9223372036854775808
  | .u8 => n % 256
  | .u16 => n % 65536
  | .u32 => n % 4294967296
  | .u64 => n % 18446744073709551616
theorem wrap_form (k : IntKind) (n : Int) : k.wrap n = wrapF k n := by
  rw [wrap_eq]
  cases k <;> simp only [kLo, kHi, wrapF, Int.reduceSub, Int.reduceAdd] <;> omega
end Go.SX
