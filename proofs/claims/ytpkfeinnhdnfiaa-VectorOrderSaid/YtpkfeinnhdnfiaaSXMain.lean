/- SX, part 12: the main theorem. -/
import Derived.Test.YtpkfeinnhdnfiaaSXSound
import Derived.Test.YtpkfeinnhdnfiaaSXLoop5
namespace Go.SX
open Go

theorem wp_value {P : Program} {o : Oper} {a : Act} {w w' : World} {K : Act → World → Prop} {Q : Exit → Act → World → Prop} {v : Value} (hr : (execOp a.eval o).run P w = .ok (.value v) w') (h : K (a.put o.dst v) w') : o.wp P a w K Q := by
  unfold Oper.wp; rw [hr]; exact h
theorem wp_skipR {P : Program} {o : Oper} {a : Act} {w w' : World} {K : Act → World → Prop} {Q : Exit → Act → World → Prop} (hr : (execOp a.eval o).run P w = .ok .skip w') (h : K (a.put o.dst undef) w') : o.wp P a w K Q := by
  unfold Oper.wp; rw [hr]; exact h
theorem wp_enter {P : Program} {o : Oper} {a : Act} {w w' : World} {K : Act → World → Prop} {Q : Exit → Act → World → Prop} {f : FuncId} {args : Array Value} (hr : (execOp a.eval o).run P w = .ok (.enter f args) w')
    (h : Calls P f args w' fun | .returned v, w'' => K (a.put o.dst v) w'' | .panicked chain, w'' => Q (.panic chain) a w'' | .outgrown, _ => LetsOut Q) : o.wp P a w K Q := by
  unfold Oper.wp; rw [hr]; exact h
/-- from a body to a call -/
theorem calls_of_body {C : Cfg} (hC : C.Types) {ρ : Env} {β : Bet} {lk : List Nat} {fn : Func} {body : Code} {id : Nat} {vs : List Value} {w : World} {outs : List Out} {nt : Nat}
    (hf : C.P.funcs[id]? = some fn) (hb : fn.body = some body) (hn : NoStuckC ρ (outs.map (toC C fn)))
    (h : body.wp C.P (Post ρ β lk nt w outs) { tmps := vs.toArray ++ Array.replicate (fn.ntmps - vs.toArray.size) undef, defers := [] } w) :
    Calls C.P id vs.toArray w (CPost ρ β lk w (outs.map (toC C fn))) := by
  refine calls_of_wp hf hb (Code.wp_mono (fun e a w' hp => ?_) h)
  obtain ⟨o, ho, hpc, hex, β', hs, ha, hm⟩ := hp
  have key : ∀ l, resX C o.st fn.results.toList = some l → toC C fn o = ⟨o.st.pc, o.st.mem, .ret (oneX l)⟩ →
      a.defers = [] ∧ ∃ v, (results fn a.tmps).run C.P w' = .ok v w' ∧ CPost ρ β lk w (outs.map (toC C fn)) (.returned v) w' := by
    intro l hl ht
    obtain ⟨v, hv, r⟩ := run_results hC hpc ha hm hl
    exact ⟨ha.df, v, hv, toC C fn o, List.mem_map_of_mem ho, by rw [ht]; exact hpc, β', hs, by rw [ht]; exact hm, by rw [ht]; exact r⟩
  have bad : ∀ k, toC C fn o = ⟨o.st.pc, o.st.mem, .stuck k⟩ → False := fun k ht =>
    hn _ (List.mem_map_of_mem ho) k (by rw [ht]) (by rw [ht]; exact hpc)
  cases hoe : o.ex with
  | norm =>
    rw [hoe] at hex
    cases e <;> simp only [ExR] at hex
    cases hres : resX C o.st fn.results.toList with
    | none => exact (bad 30 (by simp only [toC, hoe, hres])).elim
    | some l => exact key l hres (by simp only [toC, hoe, hres])
  | ret =>
    rw [hoe] at hex
    cases e <;> simp only [ExR] at hex
    cases hres : resX C o.st fn.results.toList with
    | none => exact (bad 30 (by simp only [toC, hoe, hres])).elim
    | some l => exact key l hres (by simp only [toC, hoe, hres])
  | exit i => exact (bad 31 (by simp only [toC, hoe])).elim
  | stuck k => exact (bad k (by simp only [toC, hoe])).elim

theorem eachV_some {f : SV × Mem → Option (List Out)} : ∀ {l : List (SV × Mem)} {outs : List Out}, eachV f l = some outs → ∀ x ∈ l, ∃ r, f x = some r ∧ ∀ y ∈ r, y ∈ outs
  | [], _, _, x, hx => by cases hx
  | z :: l, outs, h, x, hx => by
    obtain ⟨a, b, h1, h2, rfl⟩ := app_some h
    cases hx with
    | head => exact ⟨a, h1, fun y hy => List.mem_append_left _ hy⟩
    | tail _ hx => obtain ⟨q, hq, hm⟩ := eachV_some h2 x hx; exact ⟨q, hq, fun y hy => List.mem_append_right _ (hm y hy)⟩
theorem loopX_ok {P : Program} {ρ : Env} {lk : List Nat} {nt : Nat} {c : Code} {run : St → Option (List Out)} {st0 : St} {β0 : Bet} {w0 : World} (hm0 : MemRel ρ β0 st0.mem w0)
    (hrun : ∀ st outs, run st = some outs → ∀ β a w, PcH ρ st.pc → ActR ρ β nt st a → MemRel ρ β st.mem w → NoStuck ρ outs → c.wp P (Post ρ β lk nt w outs) a w) :
    ∀ (k : Nat) (st : St) (outs : List Out), loopX run (fewM lk st0.tm st0.mem) k st = some outs → NoStuck ρ outs → ∀ β a w, Stp β0 lk w0 β w → PcH ρ st.pc → ActR ρ β nt st a → MemRel ρ β st.mem w →
      Code.rounds P c (Post ρ β0 lk nt w0 outs) k a w := by
  intro k
  induction k with
  | zero =>
    intro st outs h hns β a w hs hp ha hm
    simp only [loopX, Option.some.injEq] at h
    rw [← h] at hns
    exact (hns _ (.head _) 41 rfl hp).elim
  | succ k ih =>
    intro st outs h hns β a w hs hp ha hm
    simp only [loopX] at h
    split at h
    · rename_i l hl
      have hn2 : NoStuck ρ (fewM lk st0.tm st0.mem l) := fun o ho j hj hpc => by
        obtain ⟨r, hr, hmem⟩ := bindL_some h o ho
        rw [hj] at hr
        cases hr
        exact hns o (hmem o (.head _)) j hj hpc
      rw [rounds_succ]
      refine Code.wp_mono (fun e a1 w1 hq => ?_) (hrun st l hl β a w hp ha hm (fewM_stuck hn2))
      have hq := Post.fewM (st := st0) hm0 (Post.from hs hq)
      obtain ⟨o, ho, hpc, hex, β1, hs1, ha1, hm1⟩ := hq
      obtain ⟨r, hr, hmem⟩ := bindL_some h o ho
      cases hoe : o.ex with
      | norm =>
        rw [hoe] at hex hr
        cases e <;> simp only [ExR] at hex
        exact rounds_mono (fun e a w hq => Post.mono hmem hq) (ih o.st r hr (fun x hx => hns x (hmem x hx)) β1 a1 w1 hs1 hpc ha1 hm1)
      | exit i =>
        rw [hoe] at hr
        cases hr
        have hP : Post ρ β0 lk nt w0 outs e a1 w1 := ⟨o, hmem o (.head _), hpc, hex, β1, hs1, ha1, hm1⟩
        rw [hoe] at hex
        cases e <;> simp only [ExR] at hex
        exact hP
      | ret =>
        rw [hoe] at hr
        cases hr
        have hP : Post ρ β0 lk nt w0 outs e a1 w1 := ⟨o, hmem o (.head _), hpc, hex, β1, hs1, ha1, hm1⟩
        rw [hoe] at hex
        cases e <;> simp only [ExR] at hex
        exact hP
      | stuck j => exact (hn2 o ho j hoe hpc).elim
    · cases h
theorem stepOp_ok {C : Cfg} (hC : C.Types) {ρ : Env} (hH : HookOk C ρ) {run : List Nat → Nat → Code → St → Option (List Out)} {lk : List Nat} {nt : Nat} {all : List Oper} {o : Oper} {st : St} {next again : St → Option (List Out)} {outs : List Out}
    (h : stepOp C run lk nt all o st next again = some outs) {β : Bet} {a : Act} {w : World} (hp : PcH ρ st.pc) (ha : ActR ρ β nt st a) (hm : MemRel ρ β st.mem w) (hns : NoStuck ρ outs) {K : Act → World → Prop}
    (hrun : ∀ lk' nt' c st' outs', run lk' nt' c st' = some outs' → ∀ a' , PcH ρ st'.pc → ActR ρ β nt' st' a' → MemRel ρ β st'.mem w → NoStuck ρ outs' → c.wp C.P (Post ρ β lk' nt' w outs') a' w)
    (hnext : ∀ st' outs', next st' = some outs' → ∀ β' a' w', PcH ρ st'.pc → ActR ρ β' nt st' a' → MemRel ρ β' st'.mem w' → NoStuck ρ outs' → Stp β lk w β' w' → (∀ x ∈ outs', x ∈ outs) → K a' w')
    (hagain : ∀ st' outs', again st' = some outs' → PcH ρ st'.pc → ActR ρ β nt st' a → MemRel ρ β st'.mem w → NoStuck ρ outs' → (∀ x ∈ outs', x ∈ outs) → OpT C.P all.toArray o K (Post ρ β lk nt w outs) a w) :
    OpT C.P all.toArray o K (Post ρ β lk nt w outs) a w := by
  have nostuck : ∀ k, outs = [⟨.stuck k, st⟩] → False := fun k ho => by
    rw [ho] at hns; exact hns _ (.head _) k rfl hp
  have hw := wantX_yes (all := all) (o := o) hp ha
  have two : ∀ b, app (again (st.know b true)) (again (st.know b false)) = some outs → OpT C.P all.toArray o K (Post ρ β lk nt w outs) a w := by
    intro b happ
    obtain ⟨o1, o2, e1, e2, rfl⟩ := app_some happ
    cases hb : b.ev ρ
    · exact hagain _ o2 e2 (addPc_ok b false hb hp) (ha.know b false) hm hns.right (fun x hx => List.mem_append_right _ hx)
    · exact hagain _ o1 e1 (addPc_ok b true hb hp) (ha.know b true) hm hns.left (fun x hx => List.mem_append_left _ hx)
  have yes : o.wp C.P a w K (Post ρ β lk nt w outs) → Region.wanted o (yielded all.toArray a.tmps) = true → OpT C.P all.toArray o K (Post ρ β lk nt w outs) a w := fun h1 h2 =>
    ⟨fun _ => .inl h1, fun h3 => by rw [h2] at h3; cases h3⟩
  have after : ∀ (id : Nat) (args : List SV) (couts : List COut), calleeX st.tm o.op = some (id, args) →
      bindC (afterC nt st o.dst next) couts = some outs →
      (NoStuckC ρ couts → ∀ vs, relL ρ β args vs → (∃ fn body, C.P.funcs[id]? = some fn ∧ (fn.name == "runtime.NumGoroutine") = false ∧ fn.body = some body) ∧ Calls C.P id vs.toArray w (CPost ρ β lk w couts)) →
      o.wp C.P a w K (Post ρ β lk nt w outs) := by
    intro id args couts hcal hb hcalls
    obtain ⟨vs, hr, henter⟩ := callee_ok (C := C) ha.tm hcal
    have hnc : NoStuckC ρ couts := fun c hc k hk => by
      obtain ⟨r, hr, hm⟩ := bindC_some hb c hc
      simp only [afterC, hk] at hr
      cases hr
      exact hns _ (hm _ (.head _)) k rfl
    obtain ⟨⟨fn, body, h1, h2, h3⟩, hc⟩ := hcalls hnc vs hr
    refine wp_enter (henter fn body w h1 h2 h3) (Calls.mono hc fun e w' hq => ?_)
    obtain ⟨c, hcm, hpc, β', hs, hm', he⟩ := hq
    obtain ⟨r, hr', hmem⟩ := bindC_some hb c hcm
    cases hce : c.ex with
    | stuck k => exact (hnc c hcm k hce hpc).elim
    | panic v =>
      simp only [afterC, hce] at hr'
      cases hr'
      exact (hns _ (hmem _ (.head _)) 32 rfl hpc).elim
    | ret v =>
      rw [hce] at he
      cases e <;> simp only [EndR] at he
      rename_i u
      simp only [afterC, hce] at hr'
      have ha' : ActR ρ β' nt (St.put nt { st with mem := c.mem, pc := c.pc } o.dst v) (a.put o.dst u) := by
        have h0 : ActR ρ β' nt { st with mem := c.mem, pc := c.pc } a := ⟨(ha.stp hs).tm, ha.nt, ha.df⟩
        exact h0.put o.dst he
      exact hnext _ r hr' β' (a.put o.dst u) w' (by rw [St.put_pc]; exact hpc) ha' (by rw [St.put_mem]; exact hm') (fun x hx => hns x (hmem x hx)) hs hmem
  unfold stepOp at h
  split at h
  · cases h; exact (nostuck 35 rfl).elim
  · rename_i b _; exact two _ h
  · rename_i hwx
    refine ⟨(fun h1 => by rw [hw.2 hwx] at h1; cases h1), fun _ => ?_⟩
    exact hnext _ outs h β _ w (by rw [St.put_pc]; exact hp) (ha.put o.dst (undefX_rel ρ β)) (by rw [St.put_mem]; exact hm) hns (Stp.refl _ _ _) (fun _ hx => hx)
  · rename_i hwx
    have hwy := hw.1 hwx
    split at h
    · rename_i id args hcal
      refine yes ?_ hwy
      split at h
      · rename_i fn hfn
        obtain ⟨hf1, hf2⟩ := hC.fn id fn hfn
        split at h
        · rename_i body hbody
          split at h
          · rename_i couts hk
            exact after id args couts hcal h fun hnc vs hr => ⟨⟨fn, body, hf1, hf2, hbody⟩, hH id args st.mem st.pc lk couts hk β w vs hp hr hm hnc⟩
          · split at h
            · rename_i outs1 h1
              refine after id args _ hcal h fun hnc' vs hr => ⟨⟨fn, body, hf1, hf2, hbody⟩, ?_⟩
              have hnc : NoStuckC ρ (outs1.map (toC C fn)) := joined_stuck hnc'
              have hn1 : NoStuck ρ outs1 := fun x hx k hk hpc => hnc (toC C fn x) (List.mem_map_of_mem hx) k (by simp [toC, hk]) (by simpa [toC, hk] using hpc)
              exact (calls_of_body hC hf1 hbody hnc (hrun _ _ body _ outs1 h1 _ hp (init_act hr st.mem st.pc fn.ntmps) hm hn1)).mono fun e w' hq => (joined_post hnc' hp hm hq).unlock (lockC_sub C id st.mem lk)
            · cases h
        · cases h; exact (nostuck 36 rfl).elim
      · cases h; exact (nostuck 36 rfl).elim
    · split at h
      · rename_i s m hop
        obtain ⟨w', β', hs, hm', v, hr, r⟩ := (opM_ok hC (lk := lk) hm ha.tm o).1 s m hop
        refine yes (wp_value hr ?_) hwy
        have ha' : ActR ρ β' nt (St.put nt { st with mem := m } o.dst s) (a.put o.dst v) := by
          have h0 : ActR ρ β' nt { st with mem := m } a := ⟨(ha.stp hs).tm, ha.nt, ha.df⟩
          exact h0.put o.dst r
        exact hnext _ outs h β' (a.put o.dst v) w' (by rw [St.put_pc]; exact hp) ha' (by rw [St.put_mem]; exact hm') hns hs (fun _ hx => hx)
      · rename_i m hop
        obtain ⟨w', β', hs, hm', hr⟩ := (opM_ok hC (lk := lk) hm ha.tm o).2 m hop
        refine yes (wp_skipR hr ?_) hwy
        have ha' : ActR ρ β' nt (St.put nt { st with mem := m } o.dst undefX) (a.put o.dst undef) := by
          have h0 : ActR ρ β' nt { st with mem := m } a := ⟨(ha.stp hs).tm, ha.nt, ha.df⟩
          exact h0.put o.dst (undefX_rel ρ β')
        exact hnext _ outs h β' (a.put o.dst undef) w' (by rw [St.put_pc]; exact hp) ha' (by rw [St.put_mem]; exact hm') hns hs (fun _ hx => hx)
      · split at h
        · rename_i l hop
          obtain ⟨x, hx, w', β', hs, hm', v, hr, r⟩ := opN_ok hC (lk := lk) hp hm ha.tm o hop
          obtain ⟨o1, ho1, hsub⟩ := eachV_some h x hx
          refine yes (wp_value hr ?_) hwy
          have ha' : ActR ρ β' nt (St.put nt { st with mem := x.2 } o.dst x.1) (a.put o.dst v) := by
            have h0 : ActR ρ β' nt { st with mem := x.2 } a := ⟨(ha.stp hs).tm, ha.nt, ha.df⟩
            exact h0.put o.dst r
          exact hnext _ o1 ho1 β' (a.put o.dst v) w' (by rw [St.put_pc]; exact hp) ha' (by rw [St.put_mem]; exact hm') (fun y hy => hns y (hsub y hy)) hs hsub
        split at h
        · rename_i s m hop
          obtain ⟨w', β', hs, hm', v, hr, r⟩ := opA_ok hC (lk := lk) hp hm ha.tm o hop
          refine yes (wp_value hr ?_) hwy
          have ha' : ActR ρ β' nt (St.put nt { st with mem := m } o.dst s) (a.put o.dst v) := by
            have h0 : ActR ρ β' nt { st with mem := m } a := ⟨(ha.stp hs).tm, ha.nt, ha.df⟩
            exact h0.put o.dst r
          exact hnext _ outs h β' (a.put o.dst v) w' (by rw [St.put_pc]; exact hp) ha' (by rw [St.put_mem]; exact hm') hns hs (fun _ hx => hx)
        · rename_i b hop; exact two _ h
        · split at h
          · rename_i s hop
            obtain ⟨v, r, hr⟩ := opP_ok hC hp hm.o ha.tm hop
            refine yes (wp_value (hr w (Same.refl _ _ _)) ?_) hwy
            exact hnext _ outs h β _ w (by rw [St.put_pc]; exact hp) (ha.put o.dst r) (by rw [St.put_mem]; exact hm) hns (Stp.refl _ _ _) (fun _ hx => hx)
          · rename_i b hop; exact two _ h
          · cases h; exact (nostuck _ rfl).elim

/-- an operation that may be taken first -/
theorem takeX_ok {C : Cfg} (hC : C.Types) {ρ : Env} {β : Bet} {nt : Nat} {all : List Oper} {listed : List Bool} {st : St} {K : List Nat} {i : Nat} {s : SV} {a : Act} {w : World}
    (h : takeX C all listed st K i = some s) (hp : PcH ρ st.pc) (ha : ActR ρ β nt st a) (hm : MemRel ρ β st.mem w) :
    ∃ o v, all[i]? = some o ∧ s.rel ρ β v ∧ Region.noSelect all.toArray = true ∧ Region.free .any all.toArray listed.toArray i = true ∧ YieldsIf C.P all.toArray (SW β w K) o v a := by
  unfold takeX at h
  split at h
  · cases h
  · rename_i o ho
    have hw := wantX_yes (all := all) (o := o) hp ha
    split at h
    · rename_i hwx
      cases hc : noSelL all && freeGo all listed i o all 0
      · rw [hc] at h; cases h
      · rw [hc] at h; cases h
        rw [Bool.and_eq_true] at hc
        exact ⟨o, undef, ho, undefX_rel ρ β, noSelL_ok hc.1, free_ok ho hc.2, .inr ⟨hw.2 hwx, rfl⟩⟩
    · rename_i hwx
      split at h
      · split at h
        · rename_i s' hop
          cases hc : noSelL all && freeGo all listed i o all 0
          · rw [hc] at h; cases h
          · rw [hc] at h; cases h
            rw [Bool.and_eq_true] at hc
            obtain ⟨v, r, hrun⟩ := opP_ok hC hp (hm.o.only K) ha.tm hop
            exact ⟨o, v, ho, r, noSelL_ok hc.1, free_ok ho hc.2, .inl ⟨hw.1 hwx, fun w' hS => hrun w' (hS.same st.mem)⟩⟩
        · cases h
      · cases h
    · cases h
theorem firstTake_some {C : Cfg} {all : List Oper} {listed : List Bool} {st : St} {K : List Nat} {i : Nat} {s : SV} : ∀ {rs : List Nat}, firstTake C all listed st K rs = some (i, s) → i ∈ rs ∧ takeX C all listed st K i = some s
  | [], h => by cases h
  | r :: rs, h => by
    simp only [firstTake] at h
    split at h
    · rename_i s' hs; cases h; exact ⟨.head _, hs⟩
    · obtain ⟨h1, h2⟩ := firstTake_some h; exact ⟨.tail _ h1, h2⟩
theorem eachR_some {f : Nat → Option (List Out)} : ∀ {rs : List Nat} {outs : List Out}, eachR f rs = some outs → ∀ i ∈ rs, ∃ r, f i = some r ∧ ∀ x ∈ r, x ∈ outs
  | [], _, _, i, hi => by cases hi
  | r :: rs, outs, h, i, hi => by
    obtain ⟨a, b, h1, h2, rfl⟩ := app_some h
    cases hi with
    | head => exact ⟨a, h1, fun y hy => List.mem_append_left _ hy⟩
    | tail _ hi => obtain ⟨q, hq, hm⟩ := eachR_some h2 i hi; exact ⟨q, hq, fun y hy => List.mem_append_right _ (hm y hy)⟩

theorem exec_sound {C : Cfg} (hC : C.Types) (hHA : ∀ ρ, HookOk C ρ) : ∀ (n : Nat) (lk : List Nat) (nt : Nat) (t : Task) (st : St) (outs : List Out), exec C n lk nt t st = some outs → taskOk lk t →
    ∀ (ρ : Env) (β : Bet) (a : Act) (w : World), PcH ρ st.pc → ActR ρ β nt st a → MemRel ρ β st.mem w → NoStuck ρ outs → taskWp C.P n β (Post ρ β lk nt w outs) t a w := by
  intro n
  induction n with
  | zero => intro lk nt t st outs h; simp [exec] at h
  | succ n ihA =>
    intro lk nt t st outs h htk ρ β a w hp ha hm hns
    have hH := hHA ρ
    have ih := fun lk nt t st outs h htk β a w => ihA lk nt t st outs h htk ρ β a w
    have single : ∀ (x : XE) (e : Exit), ExR x e → outs = [⟨x, st⟩] → Post ρ β lk nt w outs e a w := fun x e hx ho => by
      rw [ho]; exact ⟨_, .head _, hp, hx, β, Stp.refl _ _ _, ha, hm⟩
    have nostuck : ∀ k, outs = [⟨.stuck k, st⟩] → False := fun k ho => by
      rw [ho] at hns; exact hns _ (.head _) k rfl hp
    -- two ways, by a truth
    have two : ∀ {outs : List Out} (hns : NoStuck ρ outs) (b : B) (t' : Task) (l r : Option (List Out)), app l r = some outs →
        (b.ev ρ = true → ∀ o1, l = some o1 → NoStuck ρ o1 → taskWp C.P (n + 1) β (Post ρ β lk nt w o1) t' a w) →
        (b.ev ρ = false → ∀ o2, r = some o2 → NoStuck ρ o2 → taskWp C.P (n + 1) β (Post ρ β lk nt w o2) t' a w) → taskWp C.P (n + 1) β (Post ρ β lk nt w outs) t' a w := by
      intro outs hns b t' l r happ h1 h2
      obtain ⟨o1, o2, e1, e2, rfl⟩ := app_some happ
      cases hb : b.ev ρ
      · exact taskWp_mono (fun e a w => Post.mono fun o ho => List.mem_append_right _ ho) (h2 hb o2 e2 hns.right)
      · exact taskWp_mono (fun e a w => Post.mono fun o ho => List.mem_append_left _ ho) (h1 hb o1 e1 hns.left)
    -- one thing, then another
    have thenN : ∀ (c : Code) (K : Act → World → Prop) (f : St → Option (List Out)), bindN (exec C n lk nt (.code c) st) f = some outs →
        (∀ st' outs' β' a' w', f st' = some outs' → PcH ρ st'.pc → ActR ρ β' nt st' a' → MemRel ρ β' st'.mem w' → NoStuck ρ outs' → Stp β lk w β' w' → (∀ o ∈ outs', o ∈ outs) → K a' w') →
        c.wp C.P (Exit.then K (Post ρ β lk nt w outs)) a w := by
      intro c K f hb hK
      unfold bindN at hb
      cases h1 : exec C n lk nt (.code c) st with
      | none => simp [h1] at hb
      | some outs1 =>
        simp only [h1] at hb
        have hn1 : NoStuck ρ outs1 := fun o ho k hk => by
          obtain ⟨r, hr, hm⟩ := bindL_some hb o ho
          rw [hk] at hr
          cases hr
          exact hns o (hm o (.head _)) k hk
        refine Code.wp_mono (fun e a1 w1 hq => ?_) (ih lk nt (.code c) _ _ h1 trivial β a w hp ha hm hn1)
        obtain ⟨o, ho, hpc, hex, β1, hs, ha1, hm1⟩ := hq
        obtain ⟨r, hr, hmem⟩ := bindL_some hb o ho
        cases hoe : o.ex with
        | norm =>
          rw [hoe] at hex hr
          cases e <;> simp only [ExR] at hex
          exact hK o.st r β1 a1 w1 hr hpc ha1 hm1 (fun x hx => hns x (hmem x hx)) hs hmem
        | exit i =>
          rw [hoe] at hr
          cases hr
          have hP : Post ρ β lk nt w outs e a1 w1 := ⟨o, hmem o (.head _), hpc, hex, β1, hs, ha1, hm1⟩
          rw [hoe] at hex
          cases e <;> simp only [ExR] at hex
          exact hP
        | ret =>
          rw [hoe] at hr
          cases hr
          have hP : Post ρ β lk nt w outs e a1 w1 := ⟨o, hmem o (.head _), hpc, hex, β1, hs, ha1, hm1⟩
          rw [hoe] at hex
          cases e <;> simp only [ExR] at hex
          exact hP
        | stuck k => exact (hn1 o ho k hoe hpc).elim
    -- a callee
    have hrun : ∀ lk' nt' c st' outs', exec C n lk' nt' (.code c) st' = some outs' → ∀ a' , PcH ρ st'.pc → ActR ρ β nt' st' a' → MemRel ρ β st'.mem w → NoStuck ρ outs' → c.wp C.P (Post ρ β lk' nt' w outs') a' w :=
      fun lk' nt' c st' outs' h' a' hp' ha' hm' hn' => ih lk' nt' (.code c) st' outs' h' trivial β a' w hp' ha' hm' hn'
    cases t with
    | drw all listed k K =>
      have htk : ∀ id ∈ K, id ∈ lk := htk
      simp only [exec] at h
      simp only [taskWp]
      split at h
      · rename_i hrs
        cases h
        exact wpAnyH_done (by rw [← readyL_eq]; exact hrs) (single .norm .normal trivial rfl) k
      · rename_i hne
        generalize hrs : readyL all listed = rs at h hne
        have hrd : Region.ready .any all.toArray listed.toArray = rs := by rw [← hrs]; exact (readyL_eq all listed).symm
        cases k with
        | zero => cases h; exact (nostuck 37 rfl).elim
        | succ k =>
          simp only at h
          split at h
          · rename_i i s hft
            obtain ⟨hi, htake⟩ := firstTake_some hft
            obtain ⟨o, v, ho, r, hsel, hfree, hy⟩ := takeX_ok hC (w := w) htake hp ha hm
            have hdst : dstOf all i = o.dst := by simp [dstOf, ho]
            rw [hdst] at h
            have := ih lk nt (.drw all (setT listed i) k K) _ outs h htk β (a.put o.dst v) w (by rw [St.put_pc]; exact hp) (ha.put o.dst r) (by rw [St.put_mem]; exact hm) hns
            simp only [taskWp] at this
            rw [setT_eq] at this
            refine wpAnyH_take (i := i) (oi := o) (v := v) (by simpa using ho) hsel hfree (by rw [hrd]; simpa using hi) ?_ hy (SW.refl _ _ _) this
            rintro c a' w' ⟨x, hx, hpc, hex, _⟩
            cases hxe : x.ex <;> rw [hxe] at hex <;> exact hex.elim
          · rename_i hft
            split at h
            · rename_i b hb
              refine two hns (sp C st b) (.drw all listed (k + 1) K) _ _ h (fun hb o1 e1 hn1 => ?_) (fun hb o2 e2 hn2 => ?_)
              · exact ih lk nt (.drw all listed (k + 1) K) _ o1 e1 htk β a w (addPc_ok _ true hb hp) (ha.know _ true) hm hn1
              · exact ih lk nt (.drw all listed (k + 1) K) _ o2 e2 htk β a w (addPc_ok _ false hb hp) (ha.know _ false) hm hn2
            refine wpAnyH_all hrd (fun e => hne e) fun i hi => ?_
            obtain ⟨r, hr, hmem⟩ := eachR_some h i hi
            have := ih lk nt (.dop all listed k K i) st r hr htk β a w hp ha hm (fun x hx => hns x (hmem x hx))
            simp only [taskWp, setT_eq] at this
            cases hoi : all.toArray[i]? with
            | none => simp only [wpOp, hoi] at this ⊢; exact ⟨this.1, wpAnyH_mono (fun e a w => Post.mono hmem) (fun _ h => h) this.2⟩
            | some o => exact (OpT.op hoi).1 (((OpT.op hoi).2 this).mono (fun _ _ hk => ⟨hk.1, wpAnyH_mono (fun e a w => Post.mono hmem) (fun _ h => h) hk.2⟩) (fun e a w => Post.mono hmem))
    | dop all listed k K i =>
      have htk : ∀ id ∈ K, id ∈ lk := htk
      simp only [exec] at h
      split at h
      · cases h; exact (nostuck 38 rfl).elim
      · rename_i o ho
        have ho' : all.toArray[i]? = some o := by simpa using ho
        simp only [taskWp]
        refine (OpT.op ho').1 (stepOp_ok hC hH h hp ha hm hns hrun (fun st' outs' h' β' a' w' hp' ha' hm' hn' hs hsub => ?_) (fun st' outs' h' hp' ha' hm' hn' hsub => ?_))
        · have := ih lk nt (.drw all (setT listed i) k K) st' outs' h' htk β' a' w' hp' ha' hm' hn'
          simp only [taskWp] at this
          exact ⟨SW.of_stp hs htk, wpAnyH_mono (fun e a w hq => (Post.from hs hq).mono hsub) (fun w'' hS => SW.back hs htk hS) this⟩
        · have := ih lk nt (.dop all listed k K i) st' outs' h' htk β a w hp' ha' hm' hn'
          simp only [taskWp] at this
          exact ((OpT.op ho').2 this).mono (fun _ _ hk => ⟨hk.1, wpAnyH_mono (fun e a w => Post.mono hsub) (fun _ h => h) hk.2⟩) (fun e a w => Post.mono hsub)
    | code c =>
      simp only [taskWp]
      cases c <;> simp only [exec] at h
      case skip => cases h; exact wp_skip (single .norm .normal trivial rfl)
      case label l => cases h; exact wp_label (single .norm .normal trivial rfl)
      case exit id => cases h; exact wp_exit (single (.exit id) (.exit id) rfl rfl)
      case ret => cases h; exact wp_ret (single .ret .ret trivial rfl)
      case goto l => cases h; exact (nostuck 34 rfl).elim
      case refuse l => cases h; exact (nostuck 34 rfl).elim
      case scope l => cases h; exact (nostuck 34 rfl).elim
      case rangeFunc => cases h; exact (nostuck 34 rfl).elim
      case loop c =>
        split at h
        · rename_i outs' hg
          cases h
          exact genericL_ok hg hp ha hm (fun L st' outs' h' σ a' w' hp' ha' hm' hn' => ihA (L ++ lk) nt (.code c) st' outs' h' trivial σ β a' w' hp' ha' hm' hn')
        · exact wp_loop_rounds _ (loopX_ok hm (fun st' outs' h' β' a' w' hp' ha' hm' hn' => ih lk nt (.code c) st' outs' h' trivial β' a' w' hp' ha' hm' hn') _ st outs h hns β a w (Stp.refl _ _ _) hp ha hm)
      case seq x y =>
        refine wp_seq (thenN x _ _ h fun st' outs' β' a' w' hf hp' ha' hm' hn' hs hsub => ?_)
        exact Code.wp_mono (fun e a w hq => (Post.from hs hq).mono hsub) (ih lk nt (.code y) st' outs' hf trivial β' a' w' hp' ha' hm' hn')
      case block id c =>
        cases h1 : exec C n lk nt (.code c) st with
        | none => simp [h1] at h
        | some outs1 =>
          simp only [h1, Option.some.injEq] at h
          subst h
          have hns := hns.ofIf
          refine Code.wp_mono (fun e a1 w1 hq => Post.joinIf hp hm _ hq) ?_
          have hn1 : NoStuck ρ outs1 := fun o ho k hk hpc => hns (blockX id o) (List.mem_map_of_mem ho) k (by simp [blockX, hk]) (by simpa [blockX, hk] using hpc)
          refine wp_block (Code.wp_mono (fun e a1 w1 hq => ?_) (ih lk nt (.code c) _ _ h1 trivial β a w hp ha hm hn1))
          obtain ⟨o, ho, hpc, hex, β1, hs, ha1, hm1⟩ := hq
          have mk : ∀ e', ExR (blockX id o).ex e' → (blockX id o).st = o.st → Post ρ β lk nt w (outs1.map (blockX id)) e' a1 w1 := fun e' he hst =>
            ⟨blockX id o, List.mem_map_of_mem ho, by rw [hst]; exact hpc, he, β1, hs, by rw [hst]; exact ha1, by rw [hst]; exact hm1⟩
          cases hoe : o.ex with
          | norm =>
            rw [hoe] at hex
            cases e <;> simp only [ExR] at hex
            exact mk _ (by simp [blockX, hoe, ExR]) (by simp [blockX, hoe])
          | ret =>
            rw [hoe] at hex
            cases e <;> simp only [ExR] at hex
            exact mk _ (by simp [blockX, hoe, ExR]) (by simp [blockX, hoe])
          | stuck k => exact (hn1 o ho k hoe hpc).elim
          | exit i =>
            rw [hoe] at hex
            cases e <;> simp only [ExR] at hex
            rename_i j
            subst hex
            simp only [Exit.inBlock]
            cases hb : Nat.beq i id
            · have : i ≠ id := fun e => by rw [e] at hb; simp at hb
              rw [if_neg this]
              exact mk _ (by simp [blockX, hoe, hb, ExR]) (by simp [blockX, hoe, hb])
            · have := Nat.eq_of_beq_eq_true hb
              rw [if_pos this]
              exact mk _ (by simp [blockX, hoe, hb, ExR]) (by simp [blockX, hoe, hb])
      case region id ops d =>
        cases d
        · simp only at h
          cases hex : exec C n lk nt (.ops ops.toList ops.toList) st with
          | none => simp only [hex] at h; cases h
          | some outs0 =>
          simp only [hex, Option.some.injEq] at h
          subst h
          refine Code.wp_mono (fun e a1 w1 hq => Post.joinIf hp hm _ hq) (wp_region_list ?_)
          have := ih lk nt (.ops ops.toList ops.toList) st outs0 hex trivial β a w hp ha hm hns.ofIf
          simpa [taskWp] using this
        · simp only at h
          cases hex : exec C n (lockK C ops.toList nt st ++ lk) nt (.drw ops.toList (List.replicate ops.toList.length false) ops.toList.length (lockK C ops.toList nt st)) st with
          | none => simp only [hex] at h; cases h
          | some outs0 =>
          simp only [hex, Option.some.injEq] at h
          subst h
          have hns0 : NoStuck ρ outs0 := by
            cases hj : C.mrg (st.fid % 65536 + 600000) <;> rw [hj] at hns
            · exact joinL_stuck hns
            · exact fewL_stuck hns
          have := ih _ nt _ st outs0 hex (fun id hid => List.mem_append_left _ hid) β a { w with drawn := w.drawn + 1 } hp ha (hm.drew _) hns0
          refine wp_region_held (S := SW β { w with drawn := w.drawn + 1 } (lockK C ops.toList nt st)) hC.mixed ?_
          simp only [taskWp] at this
          have hmono : ∀ (e : Exit) (a : Act) (w' : World), Post ρ β (lockK C ops.toList nt st ++ lk) nt { w with drawn := w.drawn + 1 } outs0 e a w' → Post ρ β lk nt w (bif !(C.mrg (st.fid % 65536 + 600000)) then joinL false lk st.tm st.mem st.pc outs0 else fewL lk st.tm st.mem outs0) e a w' := fun e a w' ⟨o, ho, h0, h1, β', h2, h3⟩ => by
            have s1 := (Stp.drew β lk w (w.drawn + 1)).trans (h2.unlock fun id hid => List.mem_append_right _ hid)
            cases C.mrg (st.fid % 65536 + 600000)
            · exact Post.joinL hp hm ⟨o, ho, h0, h1, β', s1, h3⟩
            · exact Post.fewL hm ⟨o, ho, h0, h1, β', s1, h3⟩
          have h2 := wpAnyH_mono hmono (fun _ h => h) this
          rw [Array.toArray_toList, Array.length_toList] at h2
          have hl : (List.replicate ops.size false).toArray = Array.replicate ops.size false := by simp
          rw [hl] at h2
          exact h2
      case cond x c1 c2 =>
        split at h
        · rename_i b0 hb0
          have hx : a.eval x = .bool (b0.ev ρ) := evX_ok ha.tm hb0
          have hsb := simpB_ev hp b0
          split at h
          · rename_i hs
            rw [hs] at hsb
            refine wp_cond_true (by rw [hx, ← hsb]; rfl) ?_
            exact ih lk nt (.code c1) st outs h trivial β a w hp ha hm hns
          · rename_i hs
            rw [hs] at hsb
            refine wp_cond_false (by rw [hx, ← hsb]; rfl) ?_
            exact ih lk nt (.code c2) st outs h trivial β a w hp ha hm hns
          · rename_i hs1 hs2
            generalize simpB st.pc b0 = b1 at h hsb
            have ev : ∀ u, b1.ev ρ = u → a.eval x = .bool u := fun u hu => by rw [hx, ← hsb, hu]
            cases hcb : C.jc (st.fid % 65536) || B.beq (atomB b1) b1
            · rw [hcb] at h
              simp only [cond_false] at h
              have := two hns (atomB b1) (.code (.cond x c1 c2)) _ _ h (fun hb o1 e1 hn1 => ?_) (fun hb o2 e2 hn2 => ?_)
              · exact this
              · have := ih lk nt (.code (.cond x c1 c2)) _ o1 e1 trivial β a w (addPc_ok _ true hb hp) (ha.know _ true) hm hn1
                simpa only [taskWp] using this
              · have := ih lk nt (.code (.cond x c1 c2)) _ o2 e2 trivial β a w (addPc_ok _ false hb hp) (ha.know _ false) hm hn2
                simpa only [taskWp] using this
            rw [hcb] at h
            simp only [cond_true] at h
            unfold joinN at h
            split at h
            · rename_i l hl
              cases h
              have hns := hns.ofIf
              refine Code.wp_mono (fun e a1 w1 hq => Post.joinIf hp hm _ hq) ?_
              refine two hns b1 (.code (.cond x c1 c2)) _ _ hl (fun hb o1 e1 hn1 => ?_) (fun hb o2 e2 hn2 => ?_)
              · exact wp_cond_true (ev _ hb) (ih lk nt (.code c1) _ o1 e1 trivial β a w (addPc_ok b1 true hb hp) (ha.know b1 true) hm hn1)
              · exact wp_cond_false (ev _ hb) (ih lk nt (.code c2) _ o2 e2 trivial β a w (addPc_ok b1 false hb hp) (ha.know b1 false) hm hn2)
            · cases h
        · cases h; exact (nostuck 33 rfl).elim
    | ops all rest =>
      cases rest with
      | nil => simp only [exec] at h; cases h; exact single .norm .normal trivial rfl
      | cons o rest =>
        simp only [exec] at h
        refine OpT.list.1 (stepOp_ok hC hH h hp ha hm hns hrun (fun st' outs' h' β' a' w' hp' ha' hm' hn' hs hsub => ?_) (fun st' outs' h' hp' ha' hm' hn' hsub => ?_))
        · exact wpList_mono (fun e a w hq => (Post.from hs hq).mono hsub) (ih lk nt (.ops all rest) st' outs' h' trivial β' a' w' hp' ha' hm' hn')
        · have := ih lk nt (.ops all (o :: rest)) st' outs' h' trivial β a w hp' ha' hm' hn'
          exact (OpT.list.2 this).mono (fun _ _ hk => wpList_mono (fun e a w => Post.mono hsub) hk) (fun e a w => Post.mono hsub)
end Go.SX
