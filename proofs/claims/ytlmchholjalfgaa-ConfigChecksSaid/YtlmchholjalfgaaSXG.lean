/- SX, part 11b: functions that defer a closure which recovers; a call's body is right. -/
import Derived.Test.YtlmchholjalfgaaSXF
import Derived.Recover
import Derived.LoopN
namespace Go.SX
open Go
variable {D : List Deferred}

theorem wp_value {P : Program} {o : Oper} {a : Act} {w w' : World} {K : Act → World → Prop} {Q : Exit → Act → World → Prop} {v : Value} (hr : (execOp a.eval o).run P w = .ok (.value v) w') (h : K (a.put o.dst v) w') : o.wp P a w K Q := by
  unfold Oper.wp; rw [hr]; exact h
theorem wp_deferR {P : Program} {o : Oper} {a : Act} {w w' : World} {K : Act → World → Prop} {Q : Exit → Act → World → Prop} {d : Deferred} (hr : (execOp a.eval o).run P w = .ok (.defer d) w') (h : K ({ a with defers := d :: a.defers }.put o.dst undef) w') : o.wp P a w K Q := by
  unfold Oper.wp; rw [hr]; exact h
/-- from a body to a call -/
theorem calls_of_body {C : Cfg} (hC : C.Types) {ρ : Env} {β : Bet} {lk : List Nat} {fn : Func} {body : Code} {id : Nat} {vs : List Value} {w : World} {outs : List Out} {nt : Nat}
    (hf : C.P.funcs[id]? = some fn) (hb : fn.body = some body) (hn : NoStuckC ρ (outs.map (toC C fn)))
    (h : body.wp C.P (Post ρ β lk nt [] w outs) { tmps := vs.toArray ++ Array.replicate (fn.ntmps - vs.toArray.size) undef, defers := [] } w) :
    Calls C.P id vs.toArray w (CPost ρ β lk w (outs.map (toC C fn))) := by
  refine calls_of_wp hf hb (Code.wp_mono (fun e a w' hp => ?_) h)
  obtain ⟨o, ho, hpc, hex, β', hs, ha, hm⟩ := hp
  have key : ∀ l, resX C o.st fn.results.toList = some l → toC C fn o = ⟨o.st.pc, o.st.mem, .ret (oneX l)⟩ →
      a.defers = [] ∧ ∃ v, (results fn a.tmps).run C.P w' = .ok v w' ∧ CPost ρ β lk w (outs.map (toC C fn)) (.returned v) w' := by
    intro l hl ht
    obtain ⟨v, hv, r⟩ := run_results hC hpc ha hm hl
    exact ⟨ha.df, v, hv, toC C fn o, List.mem_map_of_mem ho, by rw [ht]; exact hpc, β', hs, by rw [ht]; exact hm, by rw [ht]; exact r⟩
  have bad : ∀ k, toC C fn o = ⟨o.st.pc, o.st.mem, .stuck k⟩ → False := fun k ht =>
    hn _ (List.mem_map_of_mem ho) k (by rw [ht]) (by rw [ht]; exact hpc)
  cases hoe : o.ex with
  | norm =>
    rw [hoe] at hex
    cases e <;> simp only [ExR] at hex
    cases hres : resX C o.st fn.results.toList with
    | none => exact (bad 30 (by simp only [toC, hoe, hres])).elim
    | some l => exact key l hres (by simp only [toC, hoe, hres])
  | ret =>
    rw [hoe] at hex
    cases e <;> simp only [ExR] at hex
    cases hres : resX C o.st fn.results.toList with
    | none => exact (bad 30 (by simp only [toC, hoe, hres])).elim
    | some l => exact key l hres (by simp only [toC, hoe, hres])
  | panic s =>
    rw [hoe] at hex
    cases e <;> simp only [ExR] at hex
    obtain ⟨v, hv, hch⟩ := hex
    exact ⟨ha.df, toC C fn o, List.mem_map_of_mem ho, by simp only [toC, hoe]; exact hpc, β', hs, by simp only [toC, hoe]; exact hm, by simp only [toC, hoe]; exact ⟨v, SV.rel_mono (β := []) β' s v hv, hch⟩⟩
  | exit i => exact (bad 31 (by simp only [toC, hoe])).elim
  | stuck k => exact (bad k (by simp only [toC, hoe])).elim

/-! one operation, the rest of its region by wp -/
theorem upon_mono {P : Program} {o : Oper} {a : Act} {K K' : Act → World → Prop} {Q Q' : Exit → Act → World → Prop} (hk : ∀ a w, K a w → K' a w) (hq : ∀ e a w, Q e a w → Q' e a w) {r : Result Next} (h : o.upon P a K Q r) : o.upon P a K' Q' r := by
  cases r with
  | ok x w' =>
    cases x <;> simp only [Oper.upon] at h ⊢ <;> first
      | exact h
      | exact hk _ _ h
      | (refine Calls.mono h fun e w'' he => ?_
         cases e with
         | returned v => exact hk _ _ he
         | panicked c => exact hq _ _ _ he
         | outgrown => obtain ⟨a0, w0, h0⟩ := he; exact ⟨a0, w0, hq _ _ _ h0⟩)
      | (exact Rows.mono h fun v w'' he => hk _ _ he)
  | halt x w' => cases x <;> simp only [Oper.upon] at h ⊢ <;> first | exact h | exact hq _ _ _ h
theorem wpOpsS_of_list {P : Program} {ops : Array Oper} {Qp : Exit → Act → World → Prop} {Q : Exit → Act → List Frame → World → Prop} {cs : List Frame} (hno : ¬ LetsOut Qp) (hQ : ∀ e a w, Qp e a w → Q e a cs w) :
    ∀ (rest : List Oper) (k : Nat), (∀ j, rest[j]? = ops[k + j]?) → ∀ (a : Act) (w : World), wpList P ops Qp rest a w → wpOpsS P ops Q (List.range' k rest.length) a cs w := by
  intro rest
  induction rest with
  | nil => intro k _ a w h; exact hQ _ _ _ h
  | cons o rest ih =>
    intro k hk a w h
    have h0 : ops[k]? = some o := by have := hk 0; simpa using this.symm
    have hs : ∀ j, rest[j]? = ops[k + 1 + j]? := fun j => by have := hk (j + 1); rw [show k + 1 + j = k + (j + 1) by omega]; simpa using this
    simp only [List.length_cons, List.range'_succ, wpOpsS, h0]
    simp only [wpList] at h
    by_cases hw : Region.wanted o (yielded ops a.tmps) = true
    · rw [if_pos hw] at h ⊢
      rcases h with h | ⟨_, h⟩
      · unfold Oper.wp at h
        generalize (execOp a.eval o).run P w = r at h ⊢
        split
        · exact h.elim
        · exact upon_mono (fun a w hh => ih (k + 1) hs a w hh) (fun e a w hh => hQ e a w hh) h
      · exact (hno h).elim
    · rw [if_neg hw] at h ⊢
      exact ih (k + 1) hs _ w h
theorem post_letsOut {ρ : Env} {β : Bet} {lk : List Nat} {nt : Nat} {w : World} {outs : List Out} : ¬ LetsOut (Post ρ β lk nt D w outs) := by
  rintro ⟨a, w', o, _, _, hex, _⟩
  cases hoe : o.ex <;> rw [hoe] at hex <;> exact hex.elim
theorem callsD_mono {P : Program} {f : FuncId} {args : Array Value} {u : FrameMode} {w : World} {R R' : Ending → FrameMode → World → Prop} (h : CallsD P f args u w R) (hR : ∀ e u' w', R e u' w' → R' e u' w') : CallsD P f args u w R' :=
  fun c cs hc => let ⟨e, u', w', fr, h1, h2⟩ := h c cs hc; ⟨e, u', w', fr, hR _ _ _ h1, h2⟩
/-- what the executor's runs are to show -/
def RunOk (C : Cfg) (ρ : Env) (run : List Nat → Nat → Task → St → Option (List Out)) : Prop :=
  ∀ lk nt t st outs, run lk nt t st = some outs → taskOk lk t → ∀ (D : List Deferred) (β : Bet) (a : Act) (w : World), PcH ρ st.pc → ActR ρ β nt D st a → MemRel ρ β st.mem w → NoStuck ρ outs → taskWp C.P 0 β (Post ρ β lk nt D w outs) t a w
/-- how the frame stands that the closure is called from, and what the closure's recover yields -/
def Mode (ρ : Env) (rv : SV) (u : FrameMode) : Prop := (rv = .raw .nilIface ∧ u = .returning) ∨ ∃ v chain, u = .panicking chain ∧ rv.rel ρ [] v ∧ Chain v chain
/-- what the closure leaves -/
def DPost (ρ : Env) (β : Bet) (lk : List Nat) (w : World) (outs : List Out) (e : Ending) (u' : FrameMode) (w' : World) : Prop :=
  ∃ o ∈ outs, PcH ρ o.st.pc ∧ ∃ β', Stp β lk w β' w' ∧ MemRel ρ β' o.st.mem w' ∧ match e with
    | .returned _ => (o.ex = .norm ∨ o.ex = .ret) ∧ settle u' = .returning
    | .panicked chain => ∃ s v chain', o.ex = .panic s ∧ s.rel ρ [] v ∧ raised u' chain = .panicking chain' ∧ Chain v chain'
    | .outgrown => False
theorem bindN_stuck {ρ : Env} {l : List Out} {f : St → Option (List Out)} {outs : List Out} (h : bindN (some l) f = some outs) (hn : NoStuck ρ outs) : NoStuck ρ l := fun o ho k hk => by
  obtain ⟨r, hr, hm⟩ := bindL_some h o ho
  rw [hk] at hr
  cases hr
  exact hn o (hm o (.head _)) k hk
theorem closeX_ok {C : Cfg} (hC : C.Types) {ρ : Env} {run : List Nat → Nat → Task → St → Option (List Out)} (hrun : RunOk C ρ run) {lk : List Nat} {fid g : Nat} {caps : List SV} {rv : SV} {mem : Mem} {pc : PC} {outs : List Out}
    (h : closeX C run lk fid g caps rv mem pc = some outs) {β : Bet} {w : World} {vs : List Value} {u : FrameMode} (hp : PcH ρ pc) (hr : relL ρ β caps vs) (hm : MemRel ρ β mem w) (hu : Mode ρ rv u) (hn : NoStuck ρ outs) (hxi : ∀ o ∈ outs, ∀ i, o.ex = .exit i → ¬ PcH ρ o.st.pc) :
    (∃ gf body, C.P.funcs[g]? = some gf ∧ (gf.name == "runtime.NumGoroutine") = false ∧ gf.body = some body) ∧ CallsD C.P g vs.toArray u w (DPost ρ β lk w outs) := by
  unfold closeX at h
  split at h
  · rename_i gf hgf
    obtain ⟨hf1, hf2⟩ := hC.fn g gf hgf
    split at h
    · rename_i r ops R hbody hres
      split at h
      · rename_i rc rest hops
        split at h
        · rename_i c d hop hdst hguard
          split at h
          · rename_i hcal hargs
            refine ⟨⟨gf, _, hf1, hf2, hbody⟩, ?_⟩
            have hops' : ops = (rc :: rest).toArray := by rw [← hops, Array.toArray_toList]
            have hres' : gf.results = #[] := by rw [← Array.toList_inj]; simpa using hres
            -- the frame behind the recover
            have hst0 := init_act (id := enterF fid g) hr mem pc gf.ntmps
            cases h1 : run lk (caps.length + (gf.ntmps - caps.length)) (.ops (rc :: rest) rest) (St.put (caps.length + (gf.ntmps - caps.length)) ⟨initTm caps 0 .nil, mem, pc, enterF fid g⟩ (some d) rv) with
            | none => rw [h1] at h; cases h
            | some outs0 =>
            rw [h1] at h
            have hn0 : NoStuck ρ outs0 := bindN_stuck h hn
            refine callsD_of_wpS hf1 hbody fun c0 cs hc0 => ?_
            -- the recover itself
            have hrec : ∃ (v : Value) (u' : FrameMode), rv.rel ρ β v ∧ settle u' = .returning ∧ (∀ chain v', Chain v' chain → ∃ chain', raised u' chain = .panicking chain' ∧ Chain v' chain') ∧
                ((recoverD (c0 :: cs) = none ∧ v = .nilIface ∧ u' = c0.mode) ∨ recoverD (c0 :: cs) = some (v, { c0 with mode := u' } :: cs)) := by
              rcases hu with ⟨rfl, rfl⟩ | ⟨v, chain, rfl, hv, older, rfl, hgo⟩
              · refine ⟨.nilIface, .returning, ⟨rfl, rfl⟩, rfl, fun chain v' hch => ⟨chain, rfl, hch⟩, .inl ⟨by simp [recoverD, hc0], rfl, hc0.symm⟩⟩
              · have hdrop : ∀ (l : List PanicEntry), (∀ x ∈ l, x.goexit = false) → l.dropWhile (fun x => !x.goexit) = [] := by
                  intro l
                  induction l with
                  | nil => intro _; rfl
                  | cons x l ihl => intro hl; rw [List.dropWhile_cons]; simp [hl x (.head _), ihl fun y hy => hl y (.tail _ hy)]
                refine ⟨v, .panicking ({ v, recovered := true } :: older), SV.rel_mono (β := []) β rv v hv, by simp only [settle, hdrop older hgo], fun chain v' ⟨old2, hch, hg2⟩ => ⟨_, rfl, old2 ++ ({ v, recovered := true } :: older), by rw [hch]; rfl, fun x hx => ?_⟩, .inr (by simp [recoverD, hc0])⟩
                rcases List.mem_append.1 hx with hx | hx
                · exact hg2 x hx
                · rcases List.mem_cons.1 hx with rfl | hx
                  · rfl
                  · exact hgo x hx
            obtain ⟨v, u', hrv, hset, hraise, hrecD⟩ := hrec
            have hact := hst0.put (some d) hrv
            have hw1 := hrun _ _ _ _ _ h1 trivial [] β _ w (by rw [St.put_pc]; exact hp) hact (by rw [St.put_mem]; exact hm) hn0
            simp only [taskWp] at hw1
            refine wpS_seq (wpS_region ?_)
            have hsz : ops.size = rest.length + 1 := by rw [hops']; simp
            rw [hsz, List.range_eq_range', List.range'_succ]
            have h0 : ops[0]? = some rc := by rw [hops']; rfl
            have hex : (execOp (Act.eval { tmps := vs.toArray ++ Array.replicate (gf.ntmps - vs.toArray.size) undef, defers := [] }) rc).run C.P w = .ok .recover w := by
              obtain ⟨dst, op, type, pos, after, guard⟩ := rc
              simp only at hop
              subst hop
              have : c.args = #[] := by rw [← Array.toList_inj]; simpa using hargs
              simp [execOp, resolve, hcal, invoke, builtin, this]
            have hwant : Region.wanted rc (yielded ops ({ tmps := vs.toArray ++ Array.replicate (gf.ntmps - vs.toArray.size) undef, defers := [] } : Act).tmps) = true := by simp [Region.wanted, hguard]
            have hcs : ∃ cs1, cs1 = { c0 with mode := u' } :: cs := ⟨_, rfl⟩
            obtain ⟨cs1, hcs1⟩ := hcs
            have tail : wpOpsS C.P ops (Exit.thenS (R.wpS C.P (bodyPostS C.P gf c0 cs (DPost ρ β lk w outs))) (bodyPostS C.P gf c0 cs (DPost ρ β lk w outs))) (List.range' 1 rest.length)
                (Act.put { tmps := vs.toArray ++ Array.replicate (gf.ntmps - vs.toArray.size) undef, defers := [] } rc.dst v) cs1 w := by
              rw [hdst]
              refine wpOpsS_of_list post_letsOut ?_ rest 1 (fun j => by rw [hops']; simp [Nat.add_comm]) _ w (by rw [hops']; exact hw1)
              -- the ends
              have fin : ∀ (e : Exit) (a1 : Act) (w1 : World), (∃ o ∈ outs, PcH ρ o.st.pc ∧ ExR ρ o.ex e ∧ a1.defers = [] ∧ ∃ β', Stp β lk w β' w1 ∧ MemRel ρ β' o.st.mem w1) → bodyPostS C.P gf c0 cs (DPost ρ β lk w outs) e a1 cs1 w1 := by
                rintro e a1 w1 ⟨o, ho, hpc, hx, hd, β', hs, hm'⟩
                have hres2 : ∃ v, (results gf a1.tmps).run C.P w1 = .ok v w1 := ⟨_, by simp [results, hres']; rfl⟩
                cases hoe : o.ex with
                | norm =>
                  rw [hoe] at hx
                  cases e <;> simp only [ExR] at hx
                  obtain ⟨z, hz⟩ := hres2
                  exact ⟨hd, u', hcs1, z, hz, o, ho, hpc, β', hs, hm', .inl hoe, hset⟩
                | ret =>
                  rw [hoe] at hx
                  cases e <;> simp only [ExR] at hx
                  obtain ⟨z, hz⟩ := hres2
                  exact ⟨hd, u', hcs1, z, hz, o, ho, hpc, β', hs, hm', .inr hoe, hset⟩
                | panic s =>
                  rw [hoe] at hx
                  cases e <;> simp only [ExR] at hx
                  obtain ⟨z, hz, hch⟩ := hx
                  obtain ⟨chain', hr', hch'⟩ := hraise _ _ hch
                  exact ⟨hd, u', hcs1, o, ho, hpc, β', hs, hm', s, z, chain', hoe, hz, hr', hch'⟩
                | exit i =>
                  exact (hxi o ho i hoe hpc).elim
                | stuck k => rw [hoe] at hx; cases e <;> exact hx.elim
              rintro e a1 w1 ⟨o, ho, hpc, hx, β1, hs, ha1, hm1⟩
              obtain ⟨q, hq, hsub⟩ := bindL_some h o ho
              cases hoe : o.ex with
              | norm =>
                rw [hoe] at hx hq
                cases e <;> simp only [ExR] at hx
                simp only [Exit.thenS]
                refine wpS_of_wp (Code.wp_mono (fun e a2 w2 hq2 => ?_) (hrun _ _ _ _ _ hq trivial [] β1 a1 w1 hpc ha1 hm1 fun x hx => hn x (hsub x hx)))
                obtain ⟨o2, ho2, hpc2, hx2, β2, hs2, ha2, hm2⟩ := hq2
                exact fin e a2 w2 ⟨o2, hsub _ ho2, hpc2, hx2, ha2.df, β2, hs.trans hs2, hm2⟩
              | ret =>
                rw [hoe] at hx hq
                cases hq
                have := fin e a1 w1 ⟨o, hsub _ (.head _), hpc, by rw [hoe]; exact hx, ha1.df, β1, hs, hm1⟩
                cases e <;> simp only [ExR] at hx
                exact this
              | panic s =>
                rw [hoe] at hx hq
                cases hq
                have := fin e a1 w1 ⟨o, hsub _ (.head _), hpc, by rw [hoe]; exact hx, ha1.df, β1, hs, hm1⟩
                cases e <;> simp only [ExR] at hx
                exact this
              | exit i =>
                rw [hoe] at hq
                cases hq
                exact (hxi o (hsub _ (.head _)) i hoe hpc).elim
              | stuck k => exact (hn0 o ho k hoe hpc).elim
            simp only [wpOpsS, h0, hwant, if_true, hex]
            rcases hrecD with ⟨h2, rfl, h3⟩ | h2
            · rw [h2]
              have : cs1 = c0 :: cs := by rw [hcs1, h3]
              rw [← this]; exact tail
            · rw [h2, ← hcs1]; exact tail
          · cases h
        · cases h
      · cases h
    · cases h
  · cases h
theorem bindD_some {f : Out → Option (List COut)} : ∀ {l : List Out} {outs : List COut}, bindD f l = some outs → ∀ o ∈ l, ∃ r, f o = some r ∧ ∀ x ∈ r, x ∈ outs
  | [], _, _, o, ho => by cases ho
  | x :: l, outs, h, o, ho => by
    simp only [bindD] at h
    split at h
    · rename_i a b h1 h2
      cases h
      cases ho with
      | head => exact ⟨a, h1, fun y hy => List.mem_append_left _ hy⟩
      | tail _ ho => obtain ⟨r, hr, hm⟩ := bindD_some h2 o ho; exact ⟨r, hr, fun y hy => List.mem_append_right _ (hm y hy)⟩
    · cases h
theorem defOf_some {body A R : Code} {t : Tmp} {g : Nat} {caps : List Operand} (h : defOf body = some (A, t, g, caps, R)) :
    ∃ (r : Nat) (ops : Array Oper) (mf df : Oper) (c : Call) (cap : Array Operand), body = .seq A (.seq (.region r ops false) R) ∧ ops.toList = [mf, df] ∧ mf.op = .makeFunc (.func g) #[] cap ∧ cap.toList = caps ∧ mf.dst = some t ∧ mf.guard = none ∧
      df.op = .defer c ∧ df.dst = none ∧ df.guard = none ∧ c.callee = .value (.tmp t) ∧ c.args = #[] := by
  unfold defOf at h
  split at h
  · rename_i A' r ops R'
    split at h
    · rename_i mf df hops
      split at h
      · rename_i g' first cap t1 c h1 h2 h3 h4 h5 h6
        split at h
        · rename_i t2 k1 k2 k3
          cases hb : Nat.beq t1 t2
          · rw [hb] at h; cases h
          · rw [hb] at h
            cases h
            have := Nat.eq_of_beq_eq_true hb
            subst this
            have hfirst : first = #[] := by rw [← Array.toList_inj]; simpa using k3
            exact ⟨r, ops, mf, df, c, cap, rfl, hops, by rw [h1, hfirst], rfl, h2, h3, h4, h5, h6, k1, by rw [← Array.toList_inj]; simpa using k2⟩
        · cases h
      · cases h
    · cases h
  · cases h
theorem invoke_enter {P : Program} {g : Nat} {vs : List Value} {w : World} (h : ∃ gf body, P.funcs[g]? = some gf ∧ (gf.name == "runtime.NumGoroutine") = false ∧ gf.body = some body) :
    (invoke (.fn (.func g) vs.toArray) #[]).run P w = .ok (.enter g vs.toArray) w := by
  obtain ⟨gf, body, h1, h2, h3⟩ := h
  have h2' : gf.name ≠ "runtime.NumGoroutine" := by simpa using h2
  simp [invoke, callFunc, h1, h2', h3]
theorem callB_ok {C : Cfg} (hC : C.Types) {ρ : Env} {run : List Nat → Nat → Task → St → Option (List Out)} (hrun : RunOk C ρ run) {lk : List Nat} {fn : Func} {body : Code} {id fid : Nat} {args : List SV} {mem : Mem} {pc : PC} {couts : List COut}
    (h : callB C run lk fn body args mem pc fid = some couts) (hf : C.P.funcs[id]? = some fn) (hb : fn.body = some body) {β : Bet} {w : World} {vs : List Value} (hp : PcH ρ pc) (hr : relL ρ β args vs) (hm : MemRel ρ β mem w) (hn : NoStuckC ρ couts) :
    Calls C.P id vs.toArray w (CPost ρ β lk w couts) := by
  unfold callB at h
  split at h
  · split at h
    · rename_i outs h1
      cases h
      have hn1 : NoStuck ρ outs := fun x hx k hk hpc => hn (toC C fn x) (List.mem_map_of_mem hx) k (by simp [toC, hk]) (by simpa [toC, hk] using hpc)
      have := hrun _ _ _ _ _ h1 trivial [] β _ w hp (init_act hr mem pc fn.ntmps) hm hn1
      exact calls_of_body hC hf hb hn this
    · cases h
  · rename_i A t g caps R hdef
    obtain ⟨r, ops, mf, df, c, cap, rfl, hops, m1, m2, m3, m4, d1, d2, d3, c1, c2⟩ := defOf_some hdef
    split at h
    · rename_i outsA hA
      have hnA : NoStuck ρ outsA := fun o ho k hk hpc => by
        obtain ⟨q, hq, hsub⟩ := bindD_some h o ho
        simp only [afterA, hk, Option.some.injEq] at hq
        subst hq
        exact hn _ (hsub _ (.head _)) k rfl hpc
      refine calls_of_wp_defers hf hb (wp_seq (Code.wp_mono (fun e a1 w1 hq => ?_) (hrun _ _ _ _ _ hA trivial [] β _ w hp (init_act hr mem pc fn.ntmps) hm hnA)))
      obtain ⟨o, ho, hpc, hx, β1, hs1, ha1, hm1⟩ := hq
      obtain ⟨q, hq, hsub⟩ := bindD_some h o ho
      have bad : ∀ k, q = [⟨o.st.pc, o.st.mem, .stuck k⟩] → False := fun k hk => by
        subst hk; exact hn _ (hsub _ (.head _)) k rfl hpc
      cases hoe : o.ex with
      | exit i => simp only [afterA, hoe, Option.some.injEq] at hq; exact (bad 75 hq.symm).elim
      | ret => simp only [afterA, hoe, Option.some.injEq] at hq; exact (bad 75 hq.symm).elim
      | panic s => simp only [afterA, hoe, Option.some.injEq] at hq; exact (bad 75 hq.symm).elim
      | stuck k => exact (hnA o ho k hoe hpc).elim
      | norm =>
        rw [hoe] at hx
        cases e <;> simp only [ExR] at hx
        simp only [Exit.then]
        simp only [afterA, hoe] at hq
        split at hq
        · rename_i cs hcs
          cases hlt : Nat.blt t (args.length + (fn.ntmps - args.length))
          · rw [hlt] at hq; simp only [cond_false, Option.some.injEq] at hq; exact (bad 77 hq.symm).elim
          rw [hlt] at hq
          simp only [cond_true] at hq
          have hlt : t < args.length + (fn.ntmps - args.length) := Nat.le_of_ble_eq_true hlt
          split at hq
          · rename_i outsR hR
            have hcaps := evXL_ok ha1.tm hcs
            generalize hl : caps.map a1.eval = l at hcaps
            have hmk : (execOp a1.eval mf).run C.P w1 = .ok (.value (.func (.func g) #[] l.toArray)) w1 := by
              obtain ⟨dst, op, type, pos, after, guard⟩ := mf
              simp only at m1
              subst m1
              have : cap.map a1.eval = l.toArray := by rw [← hl, ← m2, ← Array.toList_inj]; simp
              simp [execOp, Instr.makeFunc, this]
            have ha2 := ha1.put (some t) (s := .fn g cs) (v := .func (.func g) #[] l.toArray) ⟨l, hcaps, rfl⟩
            have hev : (a1.put (some t) (.func (.func g) #[] l.toArray)).eval (.tmp t) = .func (.func g) #[] l.toArray := by
              have : t < a1.tmps.size := by rw [ha1.nt]; exact hlt
              simp [Act.put, Act.eval, this]
            have hdf : (execOp (a1.put (some t) (.func (.func g) #[] l.toArray)).eval df).run C.P w1 = .ok (.defer ⟨.fn (.func g) l.toArray, #[]⟩) w1 := by
              obtain ⟨dst, op, type, pos, after, guard⟩ := df
              simp only at d1
              subst d1
              simp [execOp, resolve, c1, c2, hev, Deferred.ofValue]
            refine wp_seq (wp_region_list ?_)
            rw [hops]
            have hw1 : Region.wanted mf (yielded ops a1.tmps) = true := by simp [Region.wanted, m4]
            refine wpList_step fun K hK => ?_
            rw [if_pos hw1]
            refine wp_value hmk (hK _ _ ?_)
            rw [m3]
            refine wpList_step fun K hK => ?_
            rw [if_pos (by simp [Region.wanted, d3])]
            refine wp_deferR hdf (hK _ _ ?_)
            rw [d2]
            simp only [Act.put, wpList, Exit.then]
            have hd0 : a1.defers = [] := ha1.df
            rw [hd0]
            have hnR : NoStuck ρ outsR := fun o2 ho2 k hk hpc2 => by
              obtain ⟨q2, hq2, hsub2⟩ := bindD_some hq o2 ho2
              simp only [afterR, hk, Option.some.injEq] at hq2
              subst hq2
              exact hn _ (hsub _ (hsub2 _ (.head _))) k rfl hpc2
            have ha3 : ActR ρ β1 (args.length + (fn.ntmps - args.length)) [⟨.fn (.func g) l.toArray, #[]⟩] (o.st.put (args.length + (fn.ntmps - args.length)) (some t) (.fn g cs)) { tmps := a1.tmps.setIfInBounds t (.func (.func g) #[] l.toArray), defers := [⟨.fn (.func g) l.toArray, #[]⟩] } :=
              ⟨⟨ha2.tm.get⟩, ha2.nt, rfl⟩
            refine Code.wp_mono (fun e a2 w2 hq2 => ?_) (hrun _ _ _ _ _ hR trivial _ β1 _ w1 (by rw [St.put_pc]; exact hpc) ha3 (by rw [St.put_mem]; exact hm1) hnR)
            obtain ⟨o2, ho2, hpc2, hx2, β2, hs2, ha4, hm2⟩ := hq2
            obtain ⟨q2, hq2, hsub2⟩ := bindD_some hq o2 ho2
            have hcap2 : relL ρ β2 cs l := by obtain ⟨γ, rfl, _⟩ := hs2.ext; exact relL_mono γ cs l hcaps
            have close : ∀ (rv : SV) (u : FrameMode), Mode ρ rv u → u ≠ .run → closeE C fn run lk fid g cs rv o2 = some q2 → Leaves C.P fn a2.tmps (CPost ρ β lk w couts) a2.defers u w2 := by
              intro rv u hmode hune hcl
              rw [ha4.df]
              unfold closeE at hcl
              split at hcl
              · rename_i outsG hG
                cases hcl
                have mem3 : ∀ o3 ∈ outsG, endD C fn o2.st.tm o3 ∈ couts := fun o3 ho3 => hsub _ (hsub2 _ (List.mem_map_of_mem ho3))
                have hnG : NoStuck ρ outsG := fun o3 ho3 k hk hpc3 => hn _ (mem3 o3 ho3) k (by simp [endD, hk]) (by simpa [endD, hk] using hpc3)
                have hxG : ∀ o3 ∈ outsG, ∀ i, o3.ex = .exit i → ¬ PcH ρ o3.st.pc := fun o3 ho3 i hk hpc3 => hn _ (mem3 o3 ho3) 72 (by simp [endD, hk]) (by simpa [endD, hk] using hpc3)
                obtain ⟨henter, hD⟩ := closeX_ok hC hrun hG hpc2 hcap2 hm2 hmode hnG hxG
                refine ⟨hune, .func g, l.toArray, g, l.toArray, rfl, invoke_enter henter, callsD_mono hD ?_⟩
                rintro e' u' w3 ⟨o3, ho3, hpc3, β3, hs3, hm3, hend⟩
                have hact : ActR ρ β3 (args.length + (fn.ntmps - args.length)) [⟨.fn (.func g) l.toArray, #[]⟩] ⟨o2.st.tm, o3.st.mem, o3.st.pc, 0⟩ a2 := ⟨(ha4.stp hs3).tm, ha4.nt, ha4.df⟩
                cases e' with
                | returned z =>
                  obtain ⟨hex, hset⟩ := hend
                  show Leaves C.P fn a2.tmps (CPost ρ β lk w couts) [] (settle u') w3
                  rw [hset]
                  have hcase : endD C fn o2.st.tm o3 = (match resX C ⟨o2.st.tm, o3.st.mem, o3.st.pc, 0⟩ fn.results.toList with | some l => ⟨o3.st.pc, o3.st.mem, .ret (oneX l)⟩ | none => ⟨o3.st.pc, o3.st.mem, .stuck 71⟩) := by
                    unfold endD
                    rcases hex with hex | hex <;> rw [hex] <;> rfl
                  cases hres : resX C ⟨o2.st.tm, o3.st.mem, o3.st.pc, 0⟩ fn.results.toList with
                  | none =>
                    rw [hres] at hcase
                    exact (hn _ (mem3 o3 ho3) 71 (by rw [hcase]) (by rw [hcase]; exact hpc3)).elim
                  | some lr =>
                    rw [hres] at hcase
                    obtain ⟨v, hv, rr⟩ := run_results (st := ⟨o2.st.tm, o3.st.mem, o3.st.pc, 0⟩) hC hpc3 hact hm3 hres
                    exact ⟨v, hv, _, mem3 o3 ho3, by rw [hcase]; exact hpc3, β3, (hs1.trans hs2).trans hs3, by rw [hcase]; exact hm3, by rw [hcase]; exact rr⟩
                | panicked chain =>
                  obtain ⟨s, v, chain', hex, hv, hra, hch⟩ := hend
                  show Leaves C.P fn a2.tmps (CPost ρ β lk w couts) [] (raised u' chain) w3
                  rw [hra]
                  have hcase : endD C fn o2.st.tm o3 = ⟨o3.st.pc, o3.st.mem, .panic s⟩ := by simp only [endD, hex]
                  exact ⟨_, mem3 o3 ho3, by rw [hcase]; exact hpc3, β3, (hs1.trans hs2).trans hs3, by rw [hcase]; exact hm3, by rw [hcase]; exact ⟨v, SV.rel_mono (β := []) β3 s v hv, hch⟩⟩
                | outgrown => exact hend.elim
              · cases hcl
            cases hoe2 : o2.ex with
            | norm =>
              rw [hoe2] at hx2
              cases e <;> simp only [ExR] at hx2
              exact close _ _ (.inl ⟨rfl, rfl⟩) (by simp) (by simpa [afterR, hoe2] using hq2)
            | ret =>
              rw [hoe2] at hx2
              cases e <;> simp only [ExR] at hx2
              exact close _ _ (.inl ⟨rfl, rfl⟩) (by simp) (by simpa [afterR, hoe2] using hq2)
            | panic s =>
              rw [hoe2] at hx2
              cases e <;> simp only [ExR] at hx2
              obtain ⟨v, hv, hch⟩ := hx2
              exact close s _ (.inr ⟨v, _, rfl, hv, hch⟩) (by simp) (by simpa [afterR, hoe2] using hq2)
            | exit i =>
              simp only [afterR, hoe2, Option.some.injEq] at hq2
              subst hq2
              exact (hn _ (hsub _ (hsub2 _ (.head _))) 73 rfl hpc2).elim
            | stuck k => exact (hnR o2 ho2 k hoe2 hpc2).elim
          · cases hq
        · simp only [Option.some.injEq] at hq; exact (bad 74 hq.symm).elim
    · cases h
end Go.SX

namespace Go.SX
open Go
variable {D : List Deferred}

theorem frPC_ok {k q : Nat} {ρ σ : Env} (hq : q = qNum k) (g : Agree k q ρ σ) : ∀ {pc : PC}, frPC k pc = true → PcH ρ pc → PcH σ pc
  | [], _, _ => PcH.nil σ
  | (b, v) :: r, h, hp => by
    simp only [frPC, Bool.and_eq_true] at h
    subst hq
    exact PcH.cons (by rw [← frB_ev h.1 g]; exact hp.head) (frPC_ok rfl g h.2 hp.tail)
theorem hasFact_ok {ρ : Env} {pc : PC} {b : B} {v : Bool} (h : hasFact pc b v = true) (hp : PcH ρ pc) : b.ev ρ = v := by
  obtain ⟨p, hm, he⟩ := List.any_eq_true.1 h
  have := pcItem_eq _ _ he
  have h2 := hp p hm
  rw [this] at h2; exact h2
theorem Tr.sub_get {α : Type} {f : α → α → Bool} (hf : ∀ a b, f a b = true → a = b) : ∀ {a b : Tr α}, Tr.sub f a b = true → ∀ {n : Nat} {x : α}, a.get n = some x → b.get n = some x
  | .nil, _, _, n, x, h => by simp [Tr.get] at h
  | .node a l r, .nil, hs, n, x, h => by
    simp only [Tr.sub, Bool.and_eq_true] at hs
    obtain ⟨⟨h1, h2⟩, h3⟩ := hs
    cases n with
    | zero => simp only [Tr.get] at h; subst h; cases h1
    | succ n =>
      simp only [Tr.get] at h
      cases hb : Nat.beq (n % 2) 0
      · rw [hb] at h; have := Tr.sub_get hf h3 h; simp [Tr.get] at this
      · rw [hb] at h; have := Tr.sub_get hf h2 h; simp [Tr.get] at this
  | .node a l r, .node b m s, hs, n, x, h => by
    simp only [Tr.sub, Bool.and_eq_true] at hs
    obtain ⟨⟨h1, h2⟩, h3⟩ := hs
    cases n with
    | zero =>
      simp only [Tr.get] at h ⊢
      subst h
      cases b with
      | none => cases h1
      | some y => rw [hf _ _ h1]
    | succ n =>
      simp only [Tr.get] at h ⊢
      cases hb : Nat.beq (n % 2) 0
      · rw [hb] at h; exact Tr.sub_get hf h3 h
      · rw [hb] at h; exact Tr.sub_get hf h2 h
theorem sameAt_none {md : Mod} {a b : Mem} (h : md.isNone = true) : sameAt md a b = true := by cases md <;> first | rfl | cases h
/-- the loop, whatever it is that a round changes -/
structure LoopSem (ρ : Env) (β : Bet) (lk : List Nat) (k : Nat) (mem0 memK memF : Mem) (md : Mod) (outs : List Out) (c : B) (M : Nat) where
  σ : Nat → World → Env
  At : Nat → World → Prop
  agree : ∀ j w, Agree k (qNum k) ρ (σ j w)
  var : ∀ j w, (σ j w).v k = j
  over : ∀ j w, At j w → MemRel (σ j w) β memK w
  next : ∀ j w w' β' o, At j w → Stp β lk w β' w' → o ∈ outs → isNorm o = true → PcH (σ j w) o.st.pc → MemRel (σ j w) β' o.st.mem w' → At (j + 1) w'
  stay : ∀ j w w' β' m, At j w → Stp β lk w β' w' → sameAt md memK m = true → MemRel (σ j w) β' m w' → At j w'
  fin : ∀ w, At M w → MemRel ρ β memF w
  cont : ∀ j w o, o ∈ outs → isNorm o = true → PcH (σ j w) o.st.pc → c.ev (ρ.at k j) = true
  back : md.isNone = true → ∀ j w, At j w → MemRel ρ β mem0 w
theorem loop_sem {C : Cfg} {ρ : Env} {β : Bet} {lk lkL : List Nat} (hlk : ∀ i ∈ lk, i ∈ lkL) {nt : Nat} {code : Code} {w0 : World} {k : Nat} {τ : Tmp} {i : Nat} {len : T} {tmI : Tr SV} {md : Mod} {st : St} {memK memF : Mem} {outs fin : List Out} {c : B} {pcF : PC}
    (S : LoopSem ρ β lkL k st.mem memK memF md outs c (len.ev ρ).toNat)
    (hp : PcH ρ st.pc)
    (hrun : ∀ (σ : Env) (a : Act) (w : World), PcH σ (stAt k τ st tmI memK).pc → ActR σ β nt D (stAt k τ st tmI memK) a → MemRel σ β memK w → NoStuck σ outs → code.wp C.P (Post σ β lkL nt D w outs) a w)
    (hτ : τ < nt) (htm : ∀ n s, tmI.get n = some s → frSV k (qNum k) s = true) (hfl : frT k (qNum k) len = true) (hfp : frPC k st.pc = true) (hmax : len.ev ρ ≤ 9223372036854775807)
    (hok : ∀ o ∈ outs, okRound k τ i len tmI md memK o = true)
    (hout : (⟨.exit i, ⟨tmI, memF, pcF, st.fid⟩⟩ : Out) ∈ fin) (hpcF : (∀ j : Nat, j < (len.ev ρ).toNat → c.ev (ρ.at k j) = true) → PcH ρ pcF)
    (hearly : ∀ j w o, o ∈ outs → isEarly k len o = true → PcH (S.σ j w) o.st.pc → j < (len.ev ρ).toNat → ∃ o' ∈ fin, o'.ex = o.ex ∧ PcH ρ o'.st.pc ∧ o'.st.mem = st.mem ∧
      ∀ n s, o'.st.tm.get n = some s → o.st.tm.get n = some s ∧ frSV k (qNum k) s = true ∧ under β.length s = true) :
    ∀ (m j : Nat), j + m = (len.ev ρ).toNat → ∀ (a : Act) (w : World), Stp β lk w0 β w → TmRel ρ β tmI a → a.tmps[τ]? = some (.int .i64 j) → a.tmps.size = nt → a.defers = D → S.At j w →
      (∀ q : Nat, q < j → c.ev (ρ.at k q) = true) → Code.rounds C.P code (Post ρ β lk nt D w0 fin) (m + 1) a w := by
  have step : ∀ (m j : Nat), j + m = (len.ev ρ).toNat → ∀ (a : Act) (w : World), Stp β lk w0 β w → TmRel ρ β tmI a → a.tmps[τ]? = some (.int .i64 j) → a.tmps.size = nt → a.defers = D → S.At j w →
      (∀ q : Nat, q < j → c.ev (ρ.at k q) = true) →
      (∀ (a' : Act) (w' : World), j < (len.ev ρ).toNat → Stp β lk w0 β w' → TmRel ρ β tmI a' → a'.tmps[τ]? = some (.int .i64 ((j + 1 : Nat) : Int)) → a'.tmps.size = nt → a'.defers = D → S.At (j + 1) w' →
        (∀ q : Nat, q < j + 1 → c.ev (ρ.at k q) = true) → Code.rounds C.P code (Post ρ β lk nt D w0 fin) m a' w') →
      Code.rounds C.P code (Post ρ β lk nt D w0 fin) (m + 1) a w := by
    intro m j hj a w hs htr hat hsz hdf hA hcont hnext
    have hag := S.agree j w
    have hvk := S.var j w
    have hm := S.over j w hA
    have hlen : len.ev (S.σ j w) = len.ev ρ := (frT_ev hfl hag).symm
    have hjM : (j : Int) ≤ 9223372036854775807 := by omega
    rw [rounds_succ]
    have hpc2 : PcH (S.σ j w) (stAt k τ st tmI memK).pc := by
      refine PcH.cons ?_ (numPc_ok (frPC_ok rfl hag hfp hp))
      simp only [B.ev, T.ev, hvk]
      exact decide_eq_false (by omega)
    have hact : ActR (S.σ j w) β nt D (stAt k τ st tmI memK) a := by
      refine ⟨⟨fun n s hn => ?_⟩, hsz, hdf⟩
      simp only [stAt, Tr.get_put] at hn
      by_cases e : n = τ
      · rw [if_pos e] at hn
        cases hn
        subst e
        refine ⟨_, hat, ?_, ?_⟩
        · simp only [T.ev, hvk]
        · simp only [T.ev, hvk]
          rw [inK_iff]; simp only [kLo, kHi]; omega
      · rw [if_neg e] at hn
        obtain ⟨v, hv, r⟩ := htr.get n s hn
        exact ⟨v, hv, frSV_rel hag s v (htm n s hn) r⟩
    have hns : NoStuck (S.σ j w) outs := fun o ho q hq _ => by
      have := hok o ho
      simp only [okRound, hq, Bool.and_false, Bool.false_eq_true] at this
    refine Code.wp_mono (fun e a' w' hq => ?_) (hrun (S.σ j w) a w hpc2 hact hm hns)
    obtain ⟨o, ho, hpc, hex, β', hs', ha', hm'⟩ := hq
    have hk := hok o ho
    obtain ⟨γ, hγ, hγ2⟩ := hs'.ext
    subst hγ
    have hsβ : Stp β lk w β w' := ⟨⟨[], by simp, by simp⟩, hs'.os, hs'.tape, hs'.output, hs'.size, hs'.keep, fun id hid => hs'.lock id (hlk id hid)⟩
    have hs0 := hs.trans hsβ
    simp only [okRound, Bool.and_eq_true] at hk
    obtain ⟨hk1, hk2⟩ := hk
    have htr' : TmRel ρ β tmI a' := by
      refine ⟨fun n s hn => ?_⟩
      have hn' := Tr.sub_get (fun _ _ => SV.beq_eq) hk1 hn
      obtain ⟨v, hv, r⟩ := ha'.tm.get n s hn'
      obtain ⟨u, _, r0⟩ := htr.get n s hn
      exact ⟨v, hv, SV.rel_down s u v r0 (frSV_rel hag.symm s v (htm n s hn) r)⟩
    have early : isEarly k len o = true → md.isNone = true → hasFact o.st.pc (.ltI (.var k) len) true = true → sameAt md memK o.st.mem = true → Post ρ β lk nt D w0 fin e a' w' := by
      intro he hnone hf hsame
      have hlt := hasFact_ok hf hpc
      simp only [B.ev, T.ev, hvk, hlen] at hlt
      have hlt := of_decide_eq_true hlt
      obtain ⟨o', ho', h1, h2, h3, h4⟩ := hearly j w o ho he hpc (by omega)
      refine ⟨o', ho', h2, by rw [h1]; exact ExR.env hex fun s hs => by simp [isEarly, hs] at he, β, hs0, ⟨⟨fun n s hn => ?_⟩, ha'.nt, ha'.df⟩, by rw [h3]; exact S.back hnone j w' (S.stay j w w' _ _ hA hs' hsame hm')⟩
      obtain ⟨g1, g2, g3⟩ := h4 n s hn
      obtain ⟨v, hv, r⟩ := ha'.tm.get n s g1
      exact ⟨v, hv, under_rel s v g3 (frSV_rel hag.symm s v g2 r)⟩
    cases hoe : o.ex with
    | norm =>
      rw [hoe] at hex hk2
      cases e <;> simp only [ExR] at hex
      simp only [Bool.and_eq_true] at hk2
      obtain ⟨hup, hf⟩ := hk2
      have hlt := hasFact_ok hf hpc
      simp only [B.ev, T.ev, hvk, hlen] at hlt
      have hlt := of_decide_eq_true hlt
      have hnorm : isNorm o = true := by simp [isNorm, hoe]
      refine hnext a' w' (by omega) hs0 htr' ?_ ha'.nt ha'.df (S.next j w w' _ o hA hs' ho hnorm hpc hm') (fun q hq => ?_)
      · unfold stepsUp at hup
        split at hup
        · rename_i t ht
          obtain ⟨v, hv, r⟩ := ha'.tm.get τ _ ht
          rw [Bool.or_eq_true] at hup
          rcases hup with hup | hup
          · rw [hv, r.1, T.beq_eq hup]
            simp only [T.ev, TOp.ev, hvk]
            rw [wrap_of_inK (k := .i64) (by rw [inK_iff]; simp only [kLo, kHi]; omega)]
            rfl
          · rw [hv, r.1, T.beq_eq hup]
            simp only [T.ev, TOp.ev, hvk]
            rfl
        · cases hup
      · rcases Nat.lt_succ_iff_lt_or_eq.1 hq with hq | rfl
        · exact hcont q hq
        · exact S.cont q w o ho hnorm hpc
    | ret =>
      rw [hoe] at hex hk2
      cases e <;> simp only [ExR] at hex
      simp only [Bool.and_eq_true] at hk2
      exact early (by simp [isEarly, hoe]) hk2.1 hk2.2 (sameAt_none hk2.1)
    | panic q => rw [hoe] at hk2; cases hk2
    | stuck q => rw [hoe] at hk2; cases hk2
    | exit i' =>
      rw [hoe] at hex hk2
      cases e <;> simp only [ExR] at hex
      rename_i i2
      cases hf : hasFact o.st.pc (.ltI (.var k) len) false
      · simp only [hf, cond_false, Bool.and_eq_true] at hk2
        exact early (by simp [isEarly, hoe, hf]) hk2.1 hk2.2 (sameAt_none hk2.1)
      · simp only [hf, cond_true, Bool.and_eq_true] at hk2
        have hge := hasFact_ok hf hpc
        simp only [B.ev, T.ev, hvk, hlen] at hge
        have hge := of_decide_eq_false hge
        have hjm : j = (len.ev ρ).toNat := by omega
        have hA' := S.stay j w w' _ _ hA hs' hk2.2 hm'
        rw [hjm] at hA'
        refine ⟨_, hout, hpcF (fun q hq => hcont q (by omega)), ?_, β, hs0, ⟨htr', ha'.nt, ha'.df⟩, S.fin w' hA'⟩
        rw [Nat.eq_of_beq_eq_true hk2.1]; exact hex
  intro m
  induction m with
  | zero =>
    intro j hj a w hs htr hat hsz hdf hA hcont
    exact step 0 j hj a w hs htr hat hsz hdf hA hcont (fun _ _ h => by omega)
  | succ m ihm =>
    intro j hj a w hs htr hat hsz hdf hA hcont
    exact step (m + 1) j hj a w hs htr hat hsz hdf hA hcont (fun a' w' _ h2 h3 h4 h5 h6 h7 h8 => ihm (j + 1) (by omega) a' w' h2 h3 h4 h5 h6 h7 h8)
end Go.SX

namespace Go.SX
open Go

theorem kindL_get : ∀ {ks : List CK} {ss : List SV}, kindL ks ss = true → ∀ {f : Nat} {s : SV}, ss[f]? = some s → ∃ k, ks[f]? = some k ∧ kindOf k s = true
  | [], [], _, f, s, h => by simp at h
  | k :: ks, x :: ss, hk, f, s, h => by
    simp only [kindL, Bool.and_eq_true] at hk
    cases f with
    | zero => simp at h; subst h; exact ⟨k, rfl, hk.1⟩
    | succ f => simp at h; simpa using kindL_get hk.2 h
  | [], _ :: _, hk, _, _, _ => by cases hk
  | _ :: _, [], hk, _, _, _ => by cases hk
theorem kindOf_inst {k : CK} {s : SV} {g : Nat} {i : T} (h : kindOf k s = true) : kindOf k (instSV g i s) = true := by
  cases k <;> cases s <;> first | exact h | (cases h)
theorem baseRow_get (r : Nat) (i : T) : ∀ (ks : List CK) (n f : Nat) (s : SV), (baseRow r i ks n)[f]? = some s → ∃ k, ks[f]? = some k ∧ s = mkCell r i (n + f) k
  | [], _, _, _, h => by simp [baseRow] at h
  | k :: ks, n, 0, s, h => by simp [baseRow] at h; exact ⟨k, rfl, h.symm⟩
  | k :: ks, n, f + 1, s, h => by
    simp [baseRow] at h
    obtain ⟨k', hk', e⟩ := baseRow_get r i ks (n + 1) f s h
    exact ⟨k', by simpa using hk', by rw [e]; congr 1; omega⟩
/-- a cell of a base row: a template's, or an unknown one -/
theorem base_get {A : SArr} {i : T} {f : Nat} {s : SV} (h : (A.base i)[f]? = some s) :
    (∃ x, (f, x) ∈ A.gen ∧ s = instSV A.gk i x ∧ ∀ i' : T, (A.base i')[f]? = some (instSV A.gk i' x)) ∨ ∃ k, A.ks[f]? = some k ∧ s = mkCell A.r i f k ∧ ∀ i' : T, (A.base i')[f]? = some (mkCell A.r i' f k) := by
  unfold SArr.base at h ⊢
  have key : ∀ (g : List (Nat × SV)), (setAll (instG A.gk i g) (baseRow A.r i A.ks 0))[f]? = some s →
      (∃ x, (f, x) ∈ g ∧ s = instSV A.gk i x ∧ ∀ i' : T, (setAll (instG A.gk i' g) (baseRow A.r i' A.ks 0))[f]? = some (instSV A.gk i' x)) ∨
      ∃ k, A.ks[f]? = some k ∧ s = mkCell A.r i f k ∧ ∀ i' : T, (setAll (instG A.gk i' g) (baseRow A.r i' A.ks 0))[f]? = some (mkCell A.r i' f k) := by
    intro g
    induction g with
    | nil =>
      intro h
      simp only [instG, setAll] at h ⊢
      obtain ⟨k, hk, e⟩ := baseRow_get A.r i A.ks 0 f s h
      refine .inr ⟨k, hk, by simpa using e, fun i' => ?_⟩
      have hlt : f < (baseRow A.r i' A.ks 0).length := by rw [baseRow_length]; exact (List.getElem?_eq_some_iff.1 hk).1
      obtain ⟨k', hk', e'⟩ := baseRow_get A.r i' A.ks 0 f _ (List.getElem?_eq_getElem hlt)
      rw [hk] at hk'; cases hk'
      rw [List.getElem?_eq_getElem hlt, e']; simp
    | cons p g ih =>
      obtain ⟨f0, x⟩ := p
      intro h
      simp only [instG, setAll, List.getElem?_set] at h ⊢
      by_cases e : f0 = f
      · subst e
        simp only [if_true] at h ⊢
        split at h
        · rename_i hlt
          cases h
          refine .inl ⟨x, by simp, rfl, fun i' => ?_⟩
          rw [setAll_length, baseRow_length] at hlt ⊢
          rw [if_pos hlt]
        · cases h
      · rw [if_neg e] at h
        rcases ih h with ⟨y, hy, h1, h2⟩ | ⟨k, hk, h1, h2⟩
        · exact .inl ⟨y, by simp [hy], h1, fun i' => by rw [if_neg e]; exact h2 i'⟩
        · exact .inr ⟨k, hk, h1, fun i' => by rw [if_neg e]; exact h2 i'⟩
  exact key A.gen h
theorem kindG_mem {ks : List CK} : ∀ {g : List (Nat × SV)}, kindG ks g = true → ∀ {f : Nat} {x : SV}, (f, x) ∈ g → ∀ {k : CK}, ks[f]? = some k → kindOf k x = true
  | (f0, x0) :: g, h, f, x, hm, k, hk => by
    simp only [kindG, Bool.and_eq_true] at h
    cases hm with
    | head => have := h.1; rw [hk] at this; exact this
    | tail _ hm => exact kindG_mem h.2 hm hk
theorem kind_base {A : SArr} (h : kindG A.ks A.gen = true) {i : T} {f : Nat} {s : SV} (hs : (A.base i)[f]? = some s) : ∃ k, A.ks[f]? = some k ∧ kindOf k s = true := by
  have hlt : f < A.ks.length := by have := (List.getElem?_eq_some_iff.1 hs).1; rwa [SArr.base_length] at this
  have hk : A.ks[f]? = some A.ks[f] := List.getElem?_eq_getElem hlt
  refine ⟨_, hk, ?_⟩
  rcases base_get hs with ⟨x, hx, rfl, _⟩ | ⟨k, hk', rfl, _⟩
  · exact kindOf_inst (kindG_mem h hx hk)
  · rw [hk] at hk'; cases hk'
    cases A.ks[f] <;> simp [mkCell, kindOf]
theorem kind_at {ρ : Env} {A : SArr} (h : kindA A = true) {j f : Nat} {s : SV} (hs : (A.at ρ j)[f]? = some s) : ∃ k, A.ks[f]? = some k ∧ kindOf k s = true := by
  unfold kindA at h
  rw [Bool.and_eq_true] at h
  unfold SArr.at at hs
  split at hs
  · rename_i t cs hA
    split at hs
    · have h2 := h.2; rw [hA] at h2; exact kindL_get h2 hs
    · exact kind_base h.1 hs
  · exact kind_base h.1 hs
theorem at_length {ρ : Env} {A : SArr} (hks : A.ks.length = A.stride) (hrow : ∀ t cs, A.row = some (t, cs) → cs.length = A.stride) (j : Nat) : (A.at ρ j).length = A.stride := by
  unfold SArr.at
  split
  · rename_i t cs hA
    split
    · exact hrow t cs hA
    · rw [SArr.base_length, hks]
  · rw [SArr.base_length, hks]

/-! what mentions nothing of the number -/
theorem frGen_mem {k q : Nat} : ∀ {g : List (Nat × SV)}, frGen k q g = true → ∀ {f : Nat} {x : SV}, (f, x) ∈ g → frSV k q x = true
  | (_, _) :: g, h, f, x, hm => by
    simp only [frGen, Bool.and_eq_true] at h
    cases hm with
    | head => exact h.1
    | tail _ hm => exact frGen_mem h.2 hm
theorem genOk_mem {k : Nat} : ∀ {g : List (Nat × SV)}, genOk k g = true → ∀ {f : Nat} {x : SV}, (f, x) ∈ g → okSV k x = true
  | (_, _) :: g, h, f, x, hm => by
    simp only [genOk, Bool.and_eq_true] at h
    cases hm with
    | head => exact h.1
    | tail _ hm => exact genOk_mem h.2 hm
theorem frL_get {k q : Nat} : ∀ {ss : List SV}, frL k q ss = true → ∀ {f : Nat} {s : SV}, ss[f]? = some s → frSV k q s = true
  | x :: ss, h, f, s, hs => by
    simp only [frL, Bool.and_eq_true] at h
    cases f with
    | zero => simp at hs; subst hs; exact h.1
    | succ f => simp at hs; exact frL_get h.2 hs
theorem mkCell_fr {k q r : Nat} {ρ σ : Env} {β : Bet} (g : Agree k q ρ σ) (hr : r ≠ q) {i : Int} {f : Nat} {c : CK} {v : Value} (h : (mkCell r (.lit i) f c).rel ρ β v) : (mkCell r (.lit i) f c).rel σ β v := by
  cases c
  · simp only [mkCell, SV.rel, B.ev, T.ev] at h ⊢; rw [← g.bc r hr]; exact h
  · simp only [mkCell, SV.rel, T.ev] at h ⊢; rw [← g.c r hr]; exact h
  · exact h
theorem base_fr {k q : Nat} {ρ σ : Env} {β : Bet} (g : Agree k q ρ σ) {A : SArr} (hg : genOk A.gk A.gen = true) (hr : A.r ≠ q) (hf : (bif Nat.beq A.gk k then frGen noN q A.gen else frGen k q A.gen) = true) {j : Int} {f : Nat} {s : SV} {v : Value}
    (hs : (A.base (.lit j))[f]? = some s) (h : s.rel ρ β v) : s.rel σ β v := by
  rcases base_get hs with ⟨x, hx, rfl, _⟩ | ⟨c, _, rfl, _⟩
  · have hok := genOk_mem hg hx
    rw [instSV_rel hok] at h ⊢
    simp only [T.ev] at h ⊢
    cases hb : Nat.beq A.gk k
    · rw [hb] at hf; exact frSV_rel (g.at A.gk j) x v (frGen_mem hf hx) h
    · rw [hb] at hf
      have := Nat.eq_of_beq_eq_true hb
      rw [this] at h ⊢
      exact frSV_rel (g.at_self noN j) x v (frGen_mem hf hx) h
  · exact mkCell_fr g hr h
theorem at_fr {k q : Nat} {ρ σ : Env} {A : SArr} (g : Agree k q ρ σ) (hf : frObj k q (.arr A) = true) (j : Nat) : A.at σ j = A.at ρ j := by
  simp only [frObj, Bool.and_eq_true] at hf
  unfold SArr.at
  split
  · rename_i t cs hA
    have := hf.1.2
    rw [hA] at this
    simp only [Bool.and_eq_true] at this
    rw [frT_ev this.1 g]
  · rfl
theorem at_fr_rel {k q : Nat} {ρ σ : Env} {β : Bet} {A : SArr} (g : Agree k q ρ σ) (hg : genOk A.gk A.gen = true) (hf : frObj k q (.arr A) = true) {j f : Nat} {s : SV} {v : Value} (hs : (A.at ρ j)[f]? = some s) (h : s.rel ρ β v) : s.rel σ β v := by
  simp only [frObj, Bool.and_eq_true] at hf
  have hr := neB_ok hf.1.1.1
  unfold SArr.at at hs
  split at hs
  · rename_i t cs hA
    have h2 := hf.1.2
    rw [hA] at h2
    simp only [Bool.and_eq_true] at h2
    split at hs
    · exact frSV_rel g s v (frL_get h2.2 hs) h
    · exact base_fr g hg hr hf.2 hs h
  · exact base_fr g hg hr hf.2 hs h
theorem objRel_fr {k q : Nat} {ρ σ : Env} {β : Bet} {e : Blk} {w : World} {o : SObj} (g : Agree k q ρ σ) (hf : frObj k q o = true) (h : objRel ρ β e w o) : objRel σ β e w o := by
  cases o with
  | cells wr cs =>
    obtain ⟨h0, h1, h2, arr, el, fr, h3, h4, h5⟩ := h
    exact ⟨h0, h1, h2, arr, el, fr, h3, h4, frL_rel g _ _ hf h5⟩
  | buf el sz cs =>
    obtain ⟨h0, h1, h2, arr, h3, h4, vs, rest, h5, h6⟩ := h
    exact ⟨h0, h1, h2, arr, h3, h4, vs, rest, h5, frL_rel g _ _ hf h6⟩
  | mp k es =>
    obtain ⟨h0, h1, h2, arr, h3, h4⟩ := h
    exact ⟨h0, h1, h2, arr, h3, mpRel_imp' (fun p hp v q => frSV_rel g _ _ (List.all_eq_true.1 hf p hp) q) h4⟩
  | mq ks vs =>
    obtain ⟨h0, h1, h2, arr, h3, h4, h5, h6⟩ := h
    exact ⟨h0, h1, h2, arr, h3, h4, h5, frL_rel g _ _ hf h6⟩
  | glob g cs => exact h
  | rop el cs r o len =>
    simp only [frObj, Bool.and_eq_true] at hf
    obtain ⟨h0, h1, h2, arr, h3, h4, vs, bs, rest, h5, h6, h7, h8⟩ := h
    exact ⟨h0, h1, h2, arr, h3, h4, vs, bs, rest, h5, frL_rel g _ _ hf.1.1 h6, by rw [← frT_ev hf.2 g]; exact h7, fun j v hv => by rw [← g.c _ (neB_ok hf.1.2)]; exact h8 j v hv⟩
  | pre cs =>
    obtain ⟨h0, h1, h2, arr, el, fr, h3, vs, rest, h5, h6⟩ := h
    exact ⟨h0, h1, h2, arr, el, fr, h3, vs, rest, h5, frL_rel g _ _ hf h6⟩
  | it mid n seen last => exact h
  | arr A =>
    obtain ⟨h0, h1, h2, h2', h2a, h2b, arr, el, fr, h3, h4, h5⟩ := h
    have hl : frT k q A.len = true := by simp only [frObj, Bool.and_eq_true] at hf; exact hf.1.1.2
    refine ⟨h0, h1, h2, h2', by rw [← frT_ev hl g]; exact h2a, h2b, arr, el, fr, h3, h4, fun j hj f sv hs => ?_⟩
    rw [at_fr g hf] at hs
    obtain ⟨v, hv, r⟩ := h5 j hj f sv hs
    exact ⟨v, hv, at_fr_rel g h2b.1 hf hs r⟩
theorem frMem_get {k : Nat} {m : Mem} : ∀ {n : Nat}, frMem k m n = true → ∀ id, id < n → ∀ o, m.tr.get id = some o → frObj k (qNum k) o = true
  | 0, _, id, h, _, _ => by omega
  | n + 1, hf, id, h, o, ho => by
    simp only [frMem, Bool.and_eq_true] at hf
    rcases Nat.lt_succ_iff_lt_or_eq.1 h with h | rfl
    · exact frMem_get hf.2 id h o ho
    · have := hf.1; rw [ho] at this; exact this
theorem MemRel.id_lt {ρ : Env} {β : Bet} {m : Mem} {w : World} (h : MemRel ρ β m w) {id : Nat} {o : SObj} (ho : m.tr.get id = some o) : id < m.nx := by
  obtain ⟨e, he, _⟩ := h.obj id o ho
  rw [h.nx]; exact (List.getElem?_eq_some_iff.1 he).1
theorem MemRel.fr {k : Nat} {ρ σ : Env} {β : Bet} {m : Mem} {w : World} (g : Agree k (qNum k) ρ σ) (hf : frMem k m m.nx = true) (h : MemRel ρ β m w) : MemRel σ β m w :=
  ⟨h.nx, fun id o ho => let ⟨e, he, r⟩ := h.obj id o ho; ⟨e, he, objRel_fr g (frMem_get hf id (h.id_lt ho) o ho) r⟩, h.lt, h.apart, h.dom⟩
/-- one block, behind a step that left it as it was told -/
theorem obj_back {k : Nat} {ρ σ : Env} {β γ : Bet} {e : Blk} {w w' : World} {o : SObj} (g : Agree k (qNum k) ρ σ) (hf : frObj k (qNum k) o = true) (h0 : objRel ρ β e w o) (h : objRel σ (β ++ γ) e w' o) : objRel ρ β e w' o :=
  objRel_down h0 (objRel_fr g.symm hf h)
theorem MemRel.keep {ρ : Env} {β β' : Bet} {lk : List Nat} {m0 : Mem} {w w' : World} (h : MemRel ρ β m0 w) (hs : Stp β lk w β' w') (hall : ∀ id, id < m0.nx → id ∈ lk) : MemRel ρ β m0 w' := by
  refine ⟨h.nx, fun id o ho => ?_, fun e he => Nat.lt_of_lt_of_le (h.lt e he) hs.size, h.apart, h.dom⟩
  obtain ⟨e, he, r⟩ := h.obj id o ho
  exact ⟨e, he, objRel_heap r (hs.lock id (hall id (h.id_lt ho)) e he)⟩
theorem contB_ok {ρ : Env} {pc0 : PC} : ∀ {l : List Out} {o : Out}, o ∈ l → PcH ρ o.st.pc → (contB pc0 l).ev ρ = true
  | x :: l, o, h, hp => by
    simp only [contB, mkOr_ev, Bool.or_eq_true]
    cases h with
    | head => exact .inl (by rw [conjS_ev]; exact conj_ev (factsOf_ok hp))
    | tail _ h => exact .inr (contB_ok h hp)
theorem contB_no {ρ : Env} {pc0 : PC} {f : PC} (hf : PcH ρ f) : ∀ {l : List Out}, (l.all fun n => excl f (factsOf pc0 n.st.pc)) = true → (contB pc0 l).ev ρ = false
  | [], _ => rfl
  | x :: l, h => by
    simp only [List.all_cons, Bool.and_eq_true] at h
    simp only [contB, mkOr_ev, conjS_ev, contB_no hf h.2, Bool.or_false]
    cases hc : (conj (factsOf pc0 x.st.pc)).ev ρ
    · rfl
    · exact (excl_ok h.1 hf (conj_pc hc)).elim
theorem joinP_mem {k : Nat} {md : Mod} {memK : Mem} {pc0 : PC} : ∀ {l : List Out} {r : List SV} {fs : List PC}, joinP k md memK pc0 l = some (r, fs) → ∀ o ∈ l, ∃ p, payload k md memK o = some p ∧ factsOf pc0 o.st.pc ∈ fs
  | [], _, _, h => by simp [joinP] at h
  | [o], r, fs, h => by
    simp only [joinP] at h
    split at h
    · rename_i p hp
      cases h
      intro x hx; simp at hx; subst hx; exact ⟨_, hp, by simp⟩
    · cases h
  | o :: o' :: os, r, fs, h => by
    simp only [joinP] at h
    split at h
    · rename_i p r' fs' hp hj
      obtain ⟨h1, h2⟩ := bif_some h
      split at h2
      · rename_i u hu
        cases h2
        intro x hx
        cases hx with
        | head => exact ⟨p, hp, .head _⟩
        | tail _ hx => obtain ⟨y, hy, hm⟩ := joinP_mem hj x hx; exact ⟨y, hy, .tail _ hm⟩
      · cases h2
    · cases h
theorem joinP_rel {σ : Env} {β : Bet} {k : Nat} {md : Mod} {memK : Mem} {pc0 : PC} : ∀ {l : List Out} {r : List SV} {fs : List PC}, joinP k md memK pc0 l = some (r, fs) → ∀ o ∈ l, PcH σ o.st.pc → ∀ p, payload k md memK o = some p →
    p.length = r.length ∧ ∀ (f : Nat) (z : SV), r[f]? = some z → ∃ x, p[f]? = some x ∧ ∀ v, x.rel σ β v → z.rel σ β v
  | [], _, _, h => by simp [joinP] at h
  | [o], r, fs, h => by
    simp only [joinP] at h
    split at h
    · rename_i p hp
      cases h
      intro x hx _ p' hp'
      simp at hx; subst hx
      rw [hp] at hp'; cases hp'
      exact ⟨rfl, fun f z hz => ⟨z, hz, fun _ h => h⟩⟩
    · cases h
  | o :: o' :: os, r, fs, h => by
    simp only [joinP] at h
    split at h
    · rename_i p r' fs' hp hj
      obtain ⟨h1, h2⟩ := bif_some h
      split at h2
      · rename_i u hu
        cases h2
        obtain ⟨l1, l2, l3⟩ := iteL_get hu
        intro x hx hpc p' hp'
        cases hx with
        | head =>
          rw [hp] at hp'; cases hp'
          have hc := conj_ev (factsOf_ok (pc0 := pc0) hpc)
          refine ⟨l1.symm, fun f z hz => ?_⟩
          obtain ⟨a, b, ha, _, hi⟩ := l3 f z hz
          exact ⟨a, ha, fun v r => iteSV_rel hi (by rw [hc]; exact r)⟩
        | tail _ hx =>
          obtain ⟨k1, k2⟩ := joinP_rel (σ := σ) (β := β) hj x hx hpc p' hp'
          obtain ⟨_, _, hm⟩ := joinP_mem hj x hx
          have hc : (conj (factsOf pc0 o.st.pc)).ev σ = false := by
            cases hc : (conj (factsOf pc0 o.st.pc)).ev σ
            · rfl
            · exact (excl_ok (List.all_eq_true.1 h1 _ hm) (conj_pc hc) (factsOf_ok hpc)).elim
          refine ⟨k1.trans l2.symm, fun f z hz => ?_⟩
          obtain ⟨a, b, _, hb, hi⟩ := l3 f z hz
          obtain ⟨y, hy, hr⟩ := k2 f b hb
          exact ⟨y, hy, fun v r => iteSV_rel hi (by rw [hc]; exact hr v r)⟩
      · cases h2
    · cases h

/-- nothing is changed -/
def semNone {ρ : Env} {β : Bet} {lk : List Nat} {k : Nat} {mem0 : Mem} {outs : List Out} {c : B} {M : Nat} (hf : frMem k mem0 mem0.nx = true)
    (hc : ∀ (σ : Env) (o : Out), o ∈ outs → isNorm o = true → PcH σ o.st.pc → c.ev σ = true) (hall : ∀ id, id < mem0.nx → id ∈ lk) : LoopSem ρ β lk k mem0 mem0 mem0 .none outs c M where
  σ j _ := ρ.at k j
  At _ w := MemRel ρ β mem0 w
  agree j _ := Env.at_agree ρ k _ j
  var j _ := by simp [Env.at]
  over j w h := h.fr (Env.at_agree ρ k _ j) hf
  next j w w' β' o h hs ho hn hp hm := h.keep hs hall
  stay j w w' β' m h hs hsame hm := h.keep hs hall
  fin w h := h
  cont j w o ho hn hp := hc _ o ho hn hp
  back _ _ _ h := h
end Go.SX

namespace Go.SX
open Go

theorem genFrom_get {r k : Nat} : ∀ {g : List SV} {ks : List CK} {n : Nat}, ∀ {f : Nat} {x : SV}, (f, x) ∈ genFrom r k g ks n → n ≤ f ∧ g[f - n]? = some x
  | [], _, _, f, x, h => by simp [genFrom] at h
  | _ :: _, [], _, f, x, h => by simp [genFrom] at h
  | s :: ss, q :: ks, n, f, x, h => by
    simp only [genFrom] at h
    cases hb : SV.beq s (mkCell r (.var k) n q)
    · rw [hb] at h
      simp only [cond_false, List.mem_cons, Prod.mk.injEq] at h
      rcases h with ⟨rfl, rfl⟩ | h
      · simp
      · obtain ⟨h1, h2⟩ := genFrom_get h
        refine ⟨by omega, ?_⟩
        rw [show f - n = (f - (n + 1)) + 1 by omega]; simpa using h2
    · rw [hb] at h
      obtain ⟨h1, h2⟩ := genFrom_get (by simpa using h)
      refine ⟨by omega, ?_⟩
      rw [show f - n = (f - (n + 1)) + 1 by omega]; simpa using h2
theorem genFrom_none {r k : Nat} : ∀ {g : List SV} {ks : List CK} {n : Nat}, ∀ {f : Nat} {s : SV} {c : CK}, g[f]? = some s → ks[f]? = some c → (∀ x, (n + f, x) ∉ genFrom r k g ks n) → s = mkCell r (.var k) (n + f) c
  | [], _, _, f, s, c, h, _, _ => by simp at h
  | _ :: _, [], _, f, s, c, _, h, _ => by simp at h
  | s0 :: ss, q :: ks, n, f, s, c, hs, hc, hn => by
    simp only [genFrom] at hn
    cases hb : SV.beq s0 (mkCell r (.var k) n q)
    · rw [hb] at hn
      cases f with
      | zero => simp at hs hc; exact (hn s0 (by simp)).elim
      | succ f =>
        simp at hs hc
        have := genFrom_none hs hc (n := n + 1) (fun x hx => hn x (by simp only [cond_false, List.mem_cons]; exact .inr (by rw [show n + (f + 1) = n + 1 + f by omega]; exact hx)))
        rw [this]; congr 1; omega
    · rw [hb] at hn
      cases f with
      | zero => simp at hs hc; subst hs; subst hc; exact SV.beq_eq hb
      | succ f =>
        simp at hs hc
        have := genFrom_none hs hc (n := n + 1) (fun x hx => hn x (by simp only [cond_true]; rw [show n + (f + 1) = n + 1 + f by omega]; exact hx))
        rw [this]; congr 1; omega
theorem genFrom_uniq {r k : Nat} : ∀ {g : List SV} {ks : List CK} {n f : Nat} {x y : SV}, (f, x) ∈ genFrom r k g ks n → (f, y) ∈ genFrom r k g ks n → x = y := by
  intro g ks n f x y hx hy
  have h1 := (genFrom_get hx).2
  have h2 := (genFrom_get hy).2
  rw [h1] at h2; cases h2; rfl
/-- a base row's cell of a block whose template is made so -/
theorem base_gen {D : SArr} {i : T} {f : Nat} {s : SV} (h : (D.base i)[f]? = some s) : (∃ x, (f, x) ∈ D.gen ∧ s = instSV D.gk i x) ∨ ((∀ x, (f, x) ∉ D.gen) ∧ ∃ c, D.ks[f]? = some c ∧ s = mkCell D.r i f c) := by
  unfold SArr.base at h
  have key : ∀ (g : List (Nat × SV)), (setAll (instG D.gk i g) (baseRow D.r i D.ks 0))[f]? = some s →
      (∃ x, (f, x) ∈ g ∧ s = instSV D.gk i x) ∨ ((∀ x, (f, x) ∉ g) ∧ ∃ c, D.ks[f]? = some c ∧ s = mkCell D.r i f c) := by
    intro g
    induction g with
    | nil =>
      intro h
      simp only [instG, setAll] at h
      obtain ⟨c, hc, e⟩ := baseRow_get D.r i D.ks 0 f s h
      exact .inr ⟨by simp, c, hc, by simpa using e⟩
    | cons p g ih =>
      obtain ⟨f0, x⟩ := p
      intro h
      simp only [instG, setAll, List.getElem?_set] at h
      by_cases e : f0 = f
      · subst e
        simp only [if_true] at h
        split at h
        · cases h; exact .inl ⟨x, by simp, rfl⟩
        · cases h
      · rw [if_neg e] at h
        rcases ih h with ⟨y, hy, h1⟩ | ⟨h1, h2⟩
        · exact .inl ⟨y, by simp [hy], h1⟩
        · exact .inr ⟨fun y hy => (by
            rcases List.mem_cons.1 hy with hy | hy
            · simp only [Prod.mk.injEq] at hy; exact e hy.1.symm
            · exact h1 y hy), h2⟩
  exact key D.gen h
theorem mapped_row {k : Nat} {A D : SArr} {l : List SV} (hmap : mapped k A l = some D) (hlen' : ∀ f, f < A.ks.length → f < l.length) (hfA : frObj k (qNum k) (.arr A) = true) (hgA : genOk A.gk A.gen = true) {ρ σ : Env} {β : Bet} {j : Nat}
    (g : Agree k (qNum k) ρ σ) (hv : σ.v k = j) (hb : σ.bv (qNum k) = false)
    (hold : ∀ (f : Nat) (s : SV), (A.at ρ j)[f]? = some s → ∃ v, s.rel ρ β v ∧ iOf v = σ.c (qNum k) j f ∧ bOf v = σ.bc (qNum k) j f) :
    ∀ (f : Nat) (s : SV), (D.at ρ j)[f]? = some s → ∃ x, l[f]? = some x ∧ ∀ v, x.rel σ β v → s.rel ρ β v := by
  unfold mapped at hmap
  split at hmap
  · cases hmap
  · rename_i gl hgl
    cases hok : genOk k (genFrom A.r k gl A.ks 0)
    · simp [hok] at hmap
    simp only [hok, Bool.not_true, cond_false] at hmap
    -- what is in place of the rows' cells is what they are
    have sub : ∀ (rc : List SV) (τ : Env) (t : T), Agree k (qNum k) τ σ → t.ev τ = j → (∀ (f : Nat) (s : SV), rc[f]? = some s → ∃ v, s.rel τ β v ∧ iOf v = σ.c (qNum k) j f ∧ bOf v = σ.bc (qNum k) j f) →
        SubR ⟨k, qNum k, t, tiL rc, biL rc, .lit false⟩ τ σ := by
      intro rc τ t ha ht hr
      refine ⟨ha, by rw [hv, ht], fun f x hx => ?_, fun f x hx => ?_, hb⟩
      · simp only [tiL] at hx
        split at hx
        · rename_i q t' hs
          cases hx
          obtain ⟨v, r, h1, _⟩ := hr f _ hs
          rw [hv, ← h1, r.1]; rfl
        · cases hx
      · simp only [biL] at hx
        split at hx
        · rename_i b' hs
          cases hx
          obtain ⟨v, r, _, h2⟩ := hr f _ hs
          rw [hv, ← h2, show v = .bool _ from r]; rfl
        · cases hx
    have hag2 : Agree k (qNum k) (ρ.at k j) σ := (Env.at_agree ρ k _ j).symm.trans g
    -- the base row
    have hbase : (∀ t cs, A.row = some (t, cs) → t.ev ρ ≠ j) → ∀ (gn : List (Nat × SV)), gn = genFrom A.r k gl A.ks 0 → ∀ (f : Nat) (s : SV), (SArr.base { A with gk := k, gen := gn } (.lit j))[f]? = some s → ∃ x, l[f]? = some x ∧ ∀ v, x.rel σ β v → s.rel ρ β v := by
      intro hno gn hgn f s hs
      have hAt : A.at ρ j = A.base (.lit j) := by
        unfold SArr.at
        split
        · rename_i t cs hA
          rw [if_neg (hno t cs hA)]
        · rfl
      have hS := sub (A.base (.var k)) (ρ.at k j) (.var k) hag2 (by simp [T.ev, Env.at]) (fun f s hs => by
        have hfA' := hfA
        simp only [frObj, Bool.and_eq_true] at hfA'
        rcases base_get hs with ⟨x, hx, rfl, hall⟩ | ⟨c, hc, rfl, hall⟩
        · obtain ⟨v, r, h1, h2⟩ := hold f _ (by rw [hAt]; exact hall (.lit j))
          have hokx := genOk_mem hgA hx
          refine ⟨v, ?_, h1, h2⟩
          rw [instSV_rel hokx] at r ⊢
          simp only [T.ev] at r ⊢
          have e : (ρ.at k (j : Int)).v k = j := by simp [Env.at]
          rw [e]
          cases hq : Nat.beq A.gk k
          · have hx' := frGen_mem (by have := hfA'.2; rw [hq] at this; exact this) hx
            exact frSV_rel ((Env.at_agree ρ k (qNum k) j).at A.gk j) x v hx' r
          · have hx' := Nat.eq_of_beq_eq_true hq
            rw [hx'] at r ⊢
            have : (ρ.at k (j : Int)).at k j = ρ.at k j := by
              unfold Env.at; congr 1; funext n; by_cases hn : n = k <;> simp [hn]
            rw [this]; exact r
        · obtain ⟨v, r, h1, h2⟩ := hold f _ (by rw [hAt]; exact hall (.lit j))
          refine ⟨v, ?_, h1, h2⟩
          cases c
          · simp only [mkCell, SV.rel, B.ev, T.ev] at r ⊢
            rw [r]; simp [Env.at]
          · simp only [mkCell, SV.rel, T.ev] at r ⊢
            rw [r.1]; simpa [Env.at] using r.2
          · exact r)
      obtain ⟨hgl1, hgl2⟩ := subL_get hgl
      rcases base_gen hs with ⟨x, hx, rfl⟩ | ⟨hn, c, hc, rfl⟩
      · simp only at hx
        rw [hgn] at hx
        obtain ⟨_, hx'⟩ := genFrom_get hx
        obtain ⟨y, hy, hyx⟩ := hgl2 f x (by simpa using hx')
        refine ⟨y, hy, fun v r => ?_⟩
        have hokx := genOk_mem hok hx
        simp only
        rw [instSV_rel hokx]
        exact subSV_rel hS hyx r
      · simp only at hn hc
        have hlt : f < l.length := hlen' f (List.getElem?_eq_some_iff.1 hc).1
        obtain ⟨s', hs'⟩ : ∃ s', gl[f]? = some s' := ⟨_, List.getElem?_eq_getElem (by omega)⟩
        obtain ⟨y, hy, hyx⟩ := hgl2 f s' hs'
        have he := genFrom_none hs' hc (n := 0) (fun x hx => hn x (by rw [hgn]; simpa using hx))
        rw [Nat.zero_add] at he
        refine ⟨y, hy, fun v r => ?_⟩
        have := subSV_rel hS hyx r
        rw [he] at this
        cases c
        · simp only [mkCell, SV.rel, B.ev, T.ev] at this ⊢
          rw [this]; simp [Env.at]
        · simp only [mkCell, SV.rel, T.ev] at this ⊢
          rw [this.1]; simpa [Env.at] using this.2
        · exact this
    split at hmap
    · rename_i hA
      cases hmap
      intro f s hs
      have : SArr.at { A with gk := k, gen := genFrom A.r k gl A.ks 0 } ρ j = SArr.base { A with gk := k, gen := genFrom A.r k gl A.ks 0 } (.lit j) := by
        unfold SArr.at; simp only [hA]
      rw [this] at hs
      exact hbase (fun t cs h => by rw [hA] at h; cases h) _ rfl f s hs
    · rename_i t rc hA
      split at hmap
      · rename_i rc' hrc'
        cases hmap
        intro f s hs
        simp only [SArr.at] at hs
        by_cases ht : t.ev ρ = j
        · rw [if_pos ht] at hs
          have hAt : A.at ρ j = rc := by unfold SArr.at; simp only [hA]; rw [if_pos ht]
          have hS := sub rc ρ t g ht (fun f s hs => hold f s (by rw [hAt]; exact hs))
          obtain ⟨x, hx, hxs⟩ := (subL_get hrc').2 f s hs
          exact ⟨x, hx, fun v r => subSV_rel hS hxs r⟩
        · rw [if_neg ht] at hs
          exact hbase (fun t' cs' h => by rw [hA] at h; cases h; exact ht) _ rfl f s hs
      · cases hmap

/-- rows below j as D says, the others as A does -/
def mapRel (ρ : Env) (β : Bet) (e : Blk) (A D : SArr) (w : World) (j : Nat) : Prop := ∃ arr el fr, w.heap[e.blk]? = some (.cells arr el fr) ∧ (e.ro = false → fr = (0, 0)) ∧
  ∀ i, i < e.cnt → ∀ (f : Nat) (s : SV), ((if i < j then D else A).at ρ i)[f]? = some s → ∃ v, arr[e.base + i * e.stride + f]? = some v ∧ s.rel ρ β v
structure MapCtx (ρ : Env) (β : Bet) (k : Nat) (mem0 memK memF : Mem) (W : Nat) (A D : SArr) (e : Blk) (len : T) : Prop where
  get : mem0.tr.get W = some (.arr A)
  blk : β[W]? = some e
  nx : mem0.nx = β.length
  apart : ∀ (i j : Nat) (e e' : Blk), β[i]? = some e → β[j]? = some e' → i ≠ j → e.blk = e'.blk → e.ro = true ∧ e'.ro = true
  dom : ∀ id, mem0.nx ≤ id → mem0.tr.get id = none
  inb : ∀ id o, mem0.tr.get id = some o → id < mem0.nx
  memK : memK = mem0.set W (.arr (A.fresh k))
  memF : memF = mem0.set W (.arr D)
  fr : frMem k mem0 mem0.nx = true
  wr : A.wr = true → e.ro = false
  stride : e.stride = A.stride
  pos : 0 < A.stride
  ks : A.ks.length = A.stride
  cnt : A.len.ev ρ = e.cnt
  len : T.beq A.len len = true
  okA : genOk A.gk A.gen = true
  rowA : ∀ t cs, A.row = some (t, cs) → cs.length = A.stride
  kindA : kindA A = true
  kindD : Go.SX.kindA D = true
  dWr : D.wr = A.wr
  dStride : D.stride = A.stride
  dKs : D.ks = A.ks
  dLen : D.len = A.len
  dOk : genOk D.gk D.gen = true
  dRow : ∀ t cs, D.row = some (t, cs) → cs.length = A.stride
structure MapAt (ρ : Env) (β : Bet) (mem0 : Mem) (W : Nat) (A D : SArr) (e : Blk) (j : Nat) (w : World) : Prop where
  lt : ∀ x ∈ β, x.blk < w.heap.size
  other : ∀ id o, id ≠ W → mem0.tr.get id = some o → ∃ x, β[id]? = some x ∧ objRel ρ β x w o
  rows : mapRel ρ β e A D w j
def mapEnv (ρ : Env) (k : Nat) (e : Blk) (j : Nat) (w : World) : Env :=
  ρ.snap k (qNum k) j (fun i f => iOf ((w.cell? ⟨e.blk, e.base + i.toNat * e.stride + f, none⟩).getD undef)) (fun i f => bOf ((w.cell? ⟨e.blk, e.base + i.toNat * e.stride + f, none⟩).getD undef)) false
theorem MapCtx.len_at {ρ : Env} {β : Bet} {k : Nat} {mem0 memK memF : Mem} {W : Nat} {A D : SArr} {e : Blk} {len : T} (h : MapCtx ρ β k mem0 memK memF W A D e len) (i j : Nat) : ((if i < j then D else A).at ρ i).length = A.stride := by
  split
  · rw [← h.dStride]; exact at_length (by rw [h.dKs, h.dStride, h.ks]) (by rw [h.dStride]; exact h.dRow) i
  · exact at_length h.ks h.rowA i
/-- a cell of the block: of its kind, and what the environment says -/
theorem MapCtx.cell {ρ : Env} {β : Bet} {k : Nat} {mem0 memK memF : Mem} {W : Nat} {A D : SArr} {e : Blk} {len : T} (h : MapCtx ρ β k mem0 memK memF W A D e len) {j : Nat} {w : World} (hr : mapRel ρ β e A D w j) {i : Nat} (hi : i < e.cnt) {f : Nat} {c : CK}
    (hc : A.ks[f]? = some c) : ∃ s v, ((if i < j then D else A).at ρ i)[f]? = some s ∧ w.cell? ⟨e.blk, e.base + i * e.stride + f, none⟩ = some v ∧ s.rel ρ β v ∧
      ∀ (σ : Env) (γ : Bet) (v' : Value), σ.c (qNum k) i f = iOf v → σ.bc (qNum k) i f = bOf v → ((mkCell (qNum k) (.lit i) f c).rel σ γ v' ↔ v' = v) := by
  obtain ⟨arr, el, fr, hh, _, hrr⟩ := hr
  have hlt : f < ((if i < j then D else A).at ρ i).length := by rw [h.len_at, ← h.ks]; exact (List.getElem?_eq_some_iff.1 hc).1
  obtain ⟨v, hv, r⟩ := hrr i hi f _ (List.getElem?_eq_getElem hlt)
  refine ⟨_, v, List.getElem?_eq_getElem hlt, by rw [cell?_heap hh]; exact hv, r, fun σ γ v' h1 h2 => ?_⟩
  have hk : ∃ c', A.ks[f]? = some c' ∧ kindOf c' (((if i < j then D else A).at ρ i)[f]) = true := by
    by_cases hij : i < j
    · simp only [if_pos hij] at hlt ⊢
      have := kind_at (ρ := ρ) h.kindD (j := i) (List.getElem?_eq_getElem hlt)
      rwa [h.dKs] at this
    · simp only [if_neg hij] at hlt ⊢
      exact kind_at (ρ := ρ) h.kindA (j := i) (List.getElem?_eq_getElem hlt)
  obtain ⟨c', hc', hkk⟩ := hk
  rw [hc] at hc'; cases hc'
  generalize ((if i < j then D else A).at ρ i)[f] = s at r hkk
  cases c with
  | b =>
    cases s <;> simp only [kindOf, Bool.false_eq_true] at hkk
    simp only [mkCell, SV.rel, B.ev, T.ev]
    rw [h2, show v = .bool _ from r]; rfl
  | i q =>
    cases s <;> simp only [kindOf, Bool.false_eq_true] at hkk
    simp only [mkCell, SV.rel, T.ev]
    rw [h1, r.1, kindNo_inj hkk]
    constructor
    · exact fun h => h.1
    · exact fun h => ⟨h, r.2⟩
  | s =>
    cases s <;> simp only [kindOf, Bool.false_eq_true] at hkk
    simp only [mkCell, SV.rel]
    rw [show v = .slice none 0 0 from r]
theorem MapCtx.envc {ρ : Env} {k : Nat} {e : Blk} {j : Nat} {w : World} {i f : Nat} {v : Value} (hv : w.cell? ⟨e.blk, e.base + i * e.stride + f, none⟩ = some v) :
    (mapEnv ρ k e j w).c (qNum k) i f = iOf v ∧ (mapEnv ρ k e j w).bc (qNum k) i f = bOf v := by
  simp [mapEnv, Env.snap, hv]
theorem MapCtx.over {ρ : Env} {β : Bet} {k : Nat} {mem0 memK memF : Mem} {W : Nat} {A D : SArr} {e : Blk} {len : T} (h : MapCtx ρ β k mem0 memK memF W A D e len) {j : Nat} {w : World} (ha : MapAt ρ β mem0 W A D e j w) :
    MemRel (mapEnv ρ k e j w) β memK w := by
  have g : Agree k (qNum k) ρ (mapEnv ρ k e j w) := Env.snap_agree _ _ _ _ _ _ _
  have hW : W < mem0.nx := h.inb W _ h.get
  have hfA := frMem_get h.fr W hW _ h.get
  rw [h.memK]
  refine ⟨h.nx, fun id o ho => ?_, ha.lt, h.apart, fun id hid => ?_⟩
  · simp only [Mem.set, Tr.get_put] at ho
    by_cases e1 : id = W
    · rw [if_pos e1] at ho
      cases ho
      rw [e1]
      refine ⟨e, h.blk, h.wr, h.stride, h.pos, h.ks, ?_, ⟨rfl, fun t cs hr => by cases hr⟩, ?_⟩
      · rw [← frT_ev (by simp only [frObj, Bool.and_eq_true] at hfA; exact hfA.1.1.2) g]; exact h.cnt
      · have hrows := ha.rows
        obtain ⟨arr, el, fr, hh, hfr, hrr⟩ := ha.rows
        refine ⟨arr, el, fr, hh, hfr, fun i hi f s hs => ?_⟩
        simp only [SArr.at, SArr.fresh] at hs
        obtain ⟨c, hc, rfl⟩ := baseRow_get (qNum k) (.lit i) A.ks 0 f s (by simpa [SArr.base, instG, setAll] using hs)
        obtain ⟨s0, v, _, hv, _, himp⟩ := h.cell hrows hi hc
        obtain ⟨e1, e2⟩ := MapCtx.envc (ρ := ρ) (k := k) (j := j) hv
        refine ⟨v, by rw [cell?_heap hh] at hv; exact hv, ?_⟩
        rw [Nat.zero_add]
        exact (himp _ _ v e1 e2).2 rfl
    · rw [if_neg e1] at ho
      obtain ⟨x, hx, r⟩ := ha.other id o e1 ho
      exact ⟨x, hx, objRel_fr g (frMem_get h.fr id (h.inb id o ho) o ho) r⟩
  · simp only [Mem.set] at hid ⊢
    rw [Tr.get_put, if_neg (by omega)]
    exact h.dom id hid
/-- the other rows are as they were -/
theorem MapCtx.rest {ρ : Env} {β γ : Bet} {k : Nat} {mem0 memK memF : Mem} {W : Nat} {A D : SArr} {e : Blk} {len : T} (h : MapCtx ρ β k mem0 memK memF W A D e len) {j : Nat} {w : World} (ha : MapAt ρ β mem0 W A D e j w) {arr' : Array Value} {i : Nat} (hi : i < e.cnt)
    (hr : ∀ (f : Nat) (s : SV), ((A.fresh k).base (.lit i))[f]? = some s → ∃ v, arr'[e.base + i * e.stride + f]? = some v ∧ s.rel (mapEnv ρ k e j w) γ v) :
    ∀ (f : Nat) (s : SV), ((if i < j then D else A).at ρ i)[f]? = some s → ∃ v, arr'[e.base + i * e.stride + f]? = some v ∧ s.rel ρ β v := by
  intro f s hs
  have hf : f < A.ks.length := by have := (List.getElem?_eq_some_iff.1 hs).1; rw [h.len_at, ← h.ks] at this; exact this
  have hc : A.ks[f]? = some A.ks[f] := List.getElem?_eq_getElem hf
  obtain ⟨s0, v, hs0, hv, r, himp⟩ := h.cell ha.rows hi hc
  rw [hs] at hs0; cases hs0
  have hlt : f < ((A.fresh k).base (.lit i)).length := by rw [SArr.base_length]; exact hf
  obtain ⟨v', hv', r'⟩ := hr f _ (List.getElem?_eq_getElem hlt)
  have hcell : ((A.fresh k).base (.lit i))[f] = mkCell (qNum k) (.lit i) f A.ks[f] := by
    obtain ⟨c, hc2, e2⟩ := baseRow_get (qNum k) (.lit i) A.ks 0 f (((A.fresh k).base (.lit i))[f]) (List.getElem?_eq_getElem hlt)
    rw [hc] at hc2; cases hc2
    rw [e2, Nat.zero_add]
  rw [hcell] at r'
  obtain ⟨e1, e2⟩ := MapCtx.envc (ρ := ρ) (k := k) (j := j) hv
  have := (himp _ _ v' e1 e2).1 r'
  subst this
  exact ⟨_, hv', r⟩
theorem MapCtx.others {ρ : Env} {β β' : Bet} {lk : List Nat} {k : Nat} {mem0 memK memF : Mem} {W : Nat} {A D : SArr} {e : Blk} {len : T} (h : MapCtx ρ β k mem0 memK memF W A D e len) {j : Nat} {w w' : World} (ha : MapAt ρ β mem0 W A D e j w)
    (hs : Stp β lk w β' w') (hall : ∀ id, id < mem0.nx → id ≠ W → id ∈ lk) :
    (∀ x ∈ β, x.blk < w'.heap.size) ∧ ∀ id o, id ≠ W → mem0.tr.get id = some o → ∃ x, β[id]? = some x ∧ objRel ρ β x w' o := by
  refine ⟨fun x hx => Nat.lt_of_lt_of_le (ha.lt x hx) hs.size, fun id o hne ho => ?_⟩
  obtain ⟨x, hx, r⟩ := ha.other id o hne ho
  exact ⟨x, hx, objRel_heap r (hs.lock id (hall id (h.inb id o ho) hne) x hx)⟩
def semMap {ρ : Env} {β : Bet} {lk : List Nat} {k : Nat} {mem0 memK memF : Mem} {outs : List Out} {W : Nat} {A D : SArr} {e : Blk} {len : T} {pc1 : PC} {l : List SV} {fs : List PC} (h : MapCtx ρ β k mem0 memK memF W A D e len)
    (hmap : mapped k A l = some D) (hll : l.length = A.ks.length) (hj : joinP k (.map W) memK pc1 (outs.filter isNorm) = some (l, fs)) (hall : ∀ id, id < mem0.nx → id ≠ W → id ∈ lk) : LoopSem ρ β lk k mem0 memK memF (.map W) outs (.lit true) (len.ev ρ).toNat where
  σ j w := mapEnv ρ k e j w
  At j w := MapAt ρ β mem0 W A D e j w
  agree j w := Env.snap_agree _ _ _ _ _ _ _
  var j w := by simp [mapEnv, Env.snap]
  over j w ha := h.over ha
  next j w w' β' o ha hs ho hn hp hm := by
    obtain ⟨γ, rfl, hγ⟩ := hs.ext
    have g : Agree k (qNum k) ρ (mapEnv ρ k e j w) := Env.snap_agree _ _ _ _ _ _ _
    have hW : W < mem0.nx := h.inb W _ h.get
    have hfA := frMem_get h.fr W hW _ h.get
    have homem := List.mem_filter.2 ⟨ho, hn⟩
    obtain ⟨p, hpay, _⟩ := joinP_mem hj o homem
    obtain ⟨hpl, hprel⟩ := joinP_rel (σ := mapEnv ρ k e j w) (β := β) hj o homem hp p hpay
    have hnxK : memK.nx = mem0.nx := by rw [h.memK]; rfl
    have hgetK : memK.tr.get W = some (.arr (A.fresh k)) := by rw [h.memK]; simp [Mem.set, Tr.get_put]
    have hpay0 := hpay
    simp only [payload] at hpay
    simp only [hgetK] at hpay
    split at hpay
    · rename_i Ax Dx hAx hDx
      cases hAx
      obtain ⟨hsa, hpay⟩ := bif_some hpay
      have hDe := sameArr_ok hsa
      obtain ⟨k1, k2⟩ := h.others ha hs hall
      refine ⟨k1, k2, ?_⟩
      obtain ⟨e', he', hobj⟩ := hm.obj W _ hDx
      rw [List.getElem?_append_left (List.getElem?_eq_some_iff.1 h.blk).1, h.blk] at he'
      cases he'
      rw [hDe] at hobj
      obtain ⟨_, _, _, _, _, _, arr', el', fr', hh', hfr', hrr'⟩ := hobj
      refine ⟨arr', el', fr', hh', hfr', fun i hi f s hs' => ?_⟩
      -- the row that is changed, and the others
      have hcases : (Dx.row = none ∧ p = (A.fresh k).base (.var k)) ∨ ∃ t cs, Dx.row = some (t, cs) ∧ T.beq t (.var k) = true ∧ underL memK.nx cs = true ∧ p = cs := by
        split at hpay
        · rename_i hrow; cases hpay; exact .inl ⟨hrow, rfl⟩
        · rename_i t cs hrow
          obtain ⟨h1, h2⟩ := bif_some hpay
          cases h2
          rw [Bool.and_eq_true] at h1
          exact .inr ⟨t, _, hrow, h1.1, h1.2, rfl⟩
      have hother : i ≠ j → ∀ (f : Nat) (s : SV), ((A.fresh k).base (.lit i))[f]? = some s → ∃ v, arr'[e.base + i * e.stride + f]? = some v ∧ s.rel (mapEnv ρ k e j w) (β ++ γ) v := by
        intro hne f s hs
        refine hrr' i hi f s ?_
        rcases hcases with ⟨hrow, _⟩ | ⟨t, cs, hrow, ht, _, _⟩
        · simp only [SArr.at, hrow]; exact hs
        · simp only [SArr.at, hrow]
          rw [if_neg (by rw [T.beq_eq ht]; simp only [T.ev, mapEnv, Env.snap, if_true]; omega)]
          exact hs
      by_cases hij : i = j
      · -- the row of this round
        subst hij
        rw [if_pos (Nat.lt_succ_self _)] at hs'
        have hold : ∀ (f : Nat) (s : SV), (A.at ρ i)[f]? = some s → ∃ v, s.rel ρ β v ∧ iOf v = (mapEnv ρ k e i w).c (qNum k) i f ∧ bOf v = (mapEnv ρ k e i w).bc (qNum k) i f := by
          intro f s hs
          obtain ⟨arr, el, fr, hh, _, hrr⟩ := ha.rows
          obtain ⟨v, hv, r⟩ := hrr i hi f s (by rw [if_neg (Nat.lt_irrefl _)]; exact hs)
          obtain ⟨e1, e2⟩ := MapCtx.envc (ρ := ρ) (k := k) (j := i) (w := w) (e := e) (i := i) (f := f) (v := v) (by rw [cell?_heap hh]; exact hv)
          exact ⟨v, r, e1.symm, e2.symm⟩
        obtain ⟨x, hx, himp⟩ := mapped_row hmap (fun f hf => by omega) hfA h.okA g (by simp [mapEnv, Env.snap]) (by simp [mapEnv, Env.snap]) hold f s hs'
        obtain ⟨y, hy, hyr⟩ := hprel f x hx
        have hval : ∃ v, arr'[e.base + i * e.stride + f]? = some v ∧ y.rel (mapEnv ρ k e i w) β v := by
          rcases hcases with ⟨hrow, hp⟩ | ⟨t, cs, hrow, ht, hu, hp⟩
          · rw [hp] at hy
            have hlt : f < A.ks.length := by have := (List.getElem?_eq_some_iff.1 hy).1; rwa [SArr.base_length] at this
            have hlt2 : f < ((A.fresh k).base (.lit i)).length := by rw [SArr.base_length]; exact hlt
            obtain ⟨v, hv, r⟩ := hrr' i hi f _ (by simp only [SArr.at, hrow]; exact List.getElem?_eq_getElem hlt2)
            refine ⟨v, hv, ?_⟩
            obtain ⟨c, hc, rfl⟩ := baseRow_get (qNum k) (.var k) A.ks 0 f y (by simpa [SArr.base, SArr.fresh, instG, setAll] using hy)
            obtain ⟨c2, hc2, e2⟩ := baseRow_get (qNum k) (.lit i) A.ks 0 f (((A.fresh k).base (.lit i))[f]) (List.getElem?_eq_getElem hlt2)
            rw [hc] at hc2; cases hc2
            have e3 : ((A.fresh k).base (.lit i))[f] = mkCell (qNum k) (.lit i) (0 + f) c := e2
            have r' : (mkCell (qNum k) (.lit i) (0 + f) c).rel (mapEnv ρ k e i w) (β ++ γ) v := by rw [← e3]; exact r
            have hev : T.ev (mapEnv ρ k e i w) (.var k) = i := by simp [T.ev, mapEnv, Env.snap]
            cases c
            · simp only [mkCell, SV.rel, B.ev, T.ev] at r' hev ⊢; rw [hev]; exact r'
            · simp only [mkCell, SV.rel, T.ev] at r' hev ⊢; rw [hev]; exact r'
            · exact r'
          · rw [hp] at hy
            obtain ⟨v, hv, r⟩ := hrr' i hi f y (by
              simp only [SArr.at, hrow]
              rw [if_pos (by rw [T.beq_eq ht]; simp [T.ev, mapEnv, Env.snap])]; exact hy)
            exact ⟨v, hv, under_rel _ _ (underL_get (by rw [← h.nx, ← hnxK]; exact hu) f y hy) r⟩
        obtain ⟨v, hv, r⟩ := hval
        exact ⟨v, hv, himp v (hyr v r)⟩
      · refine h.rest ha hi (hother hij) f s ?_
        by_cases h1 : i < j
        · rw [if_pos h1]; rwa [if_pos (by omega)] at hs'
        · rw [if_neg h1]; rwa [if_neg (by omega)] at hs'
    · cases hpay
  stay j w w' β' m ha hs hsame hm := by
    obtain ⟨γ, rfl, hγ⟩ := hs.ext
    have hnxK : memK.nx = mem0.nx := by rw [h.memK]; rfl
    have hW : W < mem0.nx := h.inb W _ h.get
    have hgetK : memK.tr.get W = some (.arr (A.fresh k)) := by rw [h.memK]; simp [Mem.set, Tr.get_put]
    obtain ⟨k1, k2⟩ := h.others ha hs hall
    have hsame := oeq_eq (fun _ _ => SObj.beq_eq) hsame
    refine ⟨k1, k2, ?_⟩
    obtain ⟨e', he', hobj⟩ := hm.obj W _ (by rw [hsame]; exact hgetK)
    rw [List.getElem?_append_left (List.getElem?_eq_some_iff.1 h.blk).1, h.blk] at he'
    cases he'
    obtain ⟨_, _, _, _, _, _, arr', el', fr', hh', hfr', hrr'⟩ := hobj
    exact ⟨arr', el', fr', hh', hfr', fun i hi f s hs' => h.rest ha hi (fun f s hs => hrr' i hi f s (by simpa [SArr.at, SArr.fresh] using hs)) f s hs'⟩
  fin w ha := by
    rw [h.memF]
    refine ⟨h.nx, fun id o ho => ?_, ha.lt, h.apart, fun id hid => ?_⟩
    · simp only [Mem.set, Tr.get_put] at ho
      by_cases e1 : id = W
      · rw [if_pos e1] at ho
        cases ho
        rw [e1]
        obtain ⟨arr, el, fr, hh, hfr, hrr⟩ := ha.rows
        refine ⟨e, h.blk, (by rw [h.dWr]; exact h.wr), (by rw [h.dStride]; exact h.stride), (by rw [h.dStride]; exact h.pos), (by rw [h.dKs, h.dStride]; exact h.ks), (by rw [h.dLen]; exact h.cnt), ⟨h.dOk, by rw [h.dStride]; exact h.dRow⟩, arr, el, fr, hh, hfr, fun i hi f s hs => ?_⟩
        have hM : i < (len.ev ρ).toNat := by
          have := h.cnt
          rw [T.beq_eq h.len] at this; omega
        exact hrr i hi f s (by rw [if_pos hM]; exact hs)
      · rw [if_neg e1] at ho
        exact ha.other id o e1 ho
    · simp only [Mem.set] at hid ⊢
      have hW : W < mem0.nx := h.inb W _ h.get
      rw [Tr.get_put, if_neg (by omega)]
      exact h.dom id hid
  cont _ _ _ _ _ _ := rfl
  back hn := by cases hn
end Go.SX

namespace Go.SX
open Go

def accB (ρ : Env) (k : Nat) (a0 p : B) (j : Nat) : Bool := a0.ev ρ && (List.range j).all fun i => p.ev (ρ.at k i)
theorem accB_succ (ρ : Env) (k : Nat) (a0 p : B) (j : Nat) : accB ρ k a0 p (j + 1) = (accB ρ k a0 p j && p.ev (ρ.at k j)) := by
  simp [accB, List.range_succ, Bool.and_assoc]
structure AccCtx (ρ : Env) (β : Bet) (k : Nat) (mem0 memK memF : Mem) (W x : Nat) (wr : Bool) (cs : List SV) (a0 p : B) (e : Blk) (len : T) : Prop where
  get : mem0.tr.get W = some (.cells wr cs)
  at_ : cs[x]? = some (.bool a0)
  blk : β[W]? = some e
  nx : mem0.nx = β.length
  apart : ∀ (i j : Nat) (e e' : Blk), β[i]? = some e → β[j]? = some e' → i ≠ j → e.blk = e'.blk → e.ro = true ∧ e'.ro = true
  dom : ∀ id, mem0.nx ≤ id → mem0.tr.get id = none
  inb : ∀ id o, mem0.tr.get id = some o → id < mem0.nx
  memK : memK = mem0.set W (.cells wr (cs.set x (.bool (.var (qNum k)))))
  memF : memF = mem0.set W (.cells wr (cs.set x (.bool (mkAnd a0 (mkAll k len p)))))
  fr : frMem k mem0 mem0.nx = true
structure AccAt (ρ : Env) (β : Bet) (mem0 : Mem) (W x : Nat) (wr : Bool) (cs : List SV) (b : Bool) (e : Blk) (w : World) : Prop where
  lt : ∀ y ∈ β, y.blk < w.heap.size
  other : ∀ id o, id ≠ W → mem0.tr.get id = some o → ∃ y, β[id]? = some y ∧ objRel ρ β y w o
  own : objRel ρ β e w (.cells wr (cs.set x (.bool (.lit b))))
def accEnv (ρ : Env) (k j : Nat) (b : Bool) : Env := ρ.snap k (qNum k) j (ρ.c (qNum k)) (ρ.bc (qNum k)) b
theorem relL_set {ρ σ : Env} {β γ : Bet} {cs : List SV} {x : Nat} {s t : SV} {vs : List Value} (h : relL ρ β (cs.set x s) vs) (ho : ∀ f c v, f ≠ x → cs[f]? = some c → vs[f]? = some v → c.rel ρ β v → c.rel σ γ v) (hx : ∀ v, s.rel ρ β v → t.rel σ γ v) : relL σ γ (cs.set x t) vs := by
  have hl := relL_length h
  refine relL_of_get (by simpa using hl) fun f c hc => ?_
  simp only [List.getElem?_set] at hc
  by_cases e : x = f
  · subst e
    simp only [if_true] at hc
    split at hc
    · rename_i hlt
      cases hc
      obtain ⟨v, hv, r⟩ := relL_get h (i := x) (s := s) (by simp [hlt])
      exact ⟨v, hv, hx v r⟩
    · cases hc
  · rw [if_neg e] at hc
    obtain ⟨v, hv, r⟩ := relL_get h (i := f) (s := c) (by simp only [List.getElem?_set]; rw [if_neg e]; exact hc)
    exact ⟨v, hv, ho f c v (Ne.symm e) hc hv r⟩
theorem AccCtx.others {ρ : Env} {β β' : Bet} {lk : List Nat} {k : Nat} {mem0 memK memF : Mem} {W x : Nat} {wr : Bool} {cs : List SV} {a0 p : B} {e : Blk} {len : T} (h : AccCtx ρ β k mem0 memK memF W x wr cs a0 p e len) {b : Bool} {w w' : World} (ha : AccAt ρ β mem0 W x wr cs b e w)
    (hs : Stp β lk w β' w') (hall : ∀ id, id < mem0.nx → id ≠ W → id ∈ lk) :
    (∀ y ∈ β, y.blk < w'.heap.size) ∧ ∀ id o, id ≠ W → mem0.tr.get id = some o → ∃ y, β[id]? = some y ∧ objRel ρ β y w' o := by
  refine ⟨fun y hy => Nat.lt_of_lt_of_le (ha.lt y hy) hs.size, fun id o hne ho => ?_⟩
  obtain ⟨y, hy, r⟩ := ha.other id o hne ho
  exact ⟨y, hy, objRel_heap r (hs.lock id (hall id (h.inb id o ho) hne) y hy)⟩
/-- its own block: what it holds behind a step, as it was told -/
theorem AccCtx.back {ρ : Env} {β γ : Bet} {k : Nat} {mem0 memK memF : Mem} {W x : Nat} {wr : Bool} {cs : List SV} {a0 p : B} {e : Blk} {len : T} (h : AccCtx ρ β k mem0 memK memF W x wr cs a0 p e len) {j : Nat} {b b' : Bool} {w w' : World} (ha : AccAt ρ β mem0 W x wr cs b e w) {s : SV}
    (ho : objRel (accEnv ρ k j b) (β ++ γ) e w' (.cells wr (cs.set x s))) (hs : ∀ v, s.rel (accEnv ρ k j b) (β ++ γ) v → v = .bool b') : objRel ρ β e w' (.cells wr (cs.set x (.bool (.lit b')))) := by
  have g : Agree k (qNum k) ρ (accEnv ρ k j b) := Env.snap_agree _ _ _ _ _ _ _
  have hfr : frL k (qNum k) cs = true := by simpa [frObj] using frMem_get h.fr W (h.inb W _ h.get) _ h.get
  obtain ⟨h0, h1, h2, arr, el, fr, h3, h4, h5⟩ := ho
  obtain ⟨_, _, _, arr0, _, _, _, _, g5⟩ := ha.own
  refine ⟨h0, h1, h2, arr, el, fr, h3, h4, relL_set h5 (fun f c v hne hc hv r => ?_) (fun v r => hs v r)⟩
  obtain ⟨u, _, r0⟩ := relL_get g5 (i := f) (s := c) (by simp only [List.getElem?_set]; rw [if_neg (Ne.symm hne)]; exact hc)
  exact SV.rel_down c u v r0 (frSV_rel g.symm c v (frL_get hfr hc) r)
def semAcc {ρ : Env} {β : Bet} {lk : List Nat} {k : Nat} {mem0 memK memF : Mem} {outs : List Out} {W x : Nat} {wr : Bool} {cs : List SV} {a0 b p : B} {e : Blk} {len : T} {pc1 : PC} {fs : List PC} (h : AccCtx ρ β k mem0 memK memF W x wr cs a0 p e len)
    (hj : joinP k (.acc W x) memK pc1 (outs.filter isNorm) = some ([.bool b], fs))
    (hp1 : subB ⟨k, qNum k, .var k, fun _ => none, fun _ => none, .lit true⟩ b = some p) (hp0 : subB ⟨k, qNum k, .var k, fun _ => none, fun _ => none, .lit false⟩ b = some (.lit false)) (hall : ∀ id, id < mem0.nx → id ≠ W → id ∈ lk) :
    LoopSem ρ β lk k mem0 memK memF (.acc W x) outs (.lit true) (len.ev ρ).toNat where
  σ j w := accEnv ρ k j (accB ρ k a0 p j)
  At j w := AccAt ρ β mem0 W x wr cs (accB ρ k a0 p j) e w
  agree j w := Env.snap_agree _ _ _ _ _ _ _
  var j w := by simp [accEnv, Env.snap]
  over j w ha := by
    have g : Agree k (qNum k) ρ (accEnv ρ k j (accB ρ k a0 p j)) := Env.snap_agree _ _ _ _ _ _ _
    have hfr : frL k (qNum k) cs = true := by simpa [frObj] using frMem_get h.fr W (h.inb W _ h.get) _ h.get
    rw [h.memK]
    refine ⟨h.nx, fun id o ho => ?_, ha.lt, h.apart, fun id hid => ?_⟩
    · simp only [Mem.set, Tr.get_put] at ho
      by_cases e1 : id = W
      · rw [if_pos e1] at ho
        cases ho
        rw [e1]
        obtain ⟨h0, h1, h2, arr, el, fr, h3, h4, h5⟩ := ha.own
        refine ⟨e, h.blk, h0, h1, h2, arr, el, fr, h3, h4, relL_set h5 (fun f c v hne hc hv r => frSV_rel g c v (frL_get hfr hc) r) (fun v r => ?_)⟩
        rw [show v = .bool _ from r]
        simp [SV.rel, B.ev, accEnv, Env.snap]
      · rw [if_neg e1] at ho
        obtain ⟨y, hy, r⟩ := ha.other id o e1 ho
        exact ⟨y, hy, objRel_fr g (frMem_get h.fr id (h.inb id o ho) o ho) r⟩
    · simp only [Mem.set] at hid ⊢
      have := h.inb W _ h.get
      rw [Tr.get_put, if_neg (by omega)]
      exact h.dom id hid
  next j w w' β' o ha hs ho hn hp hm := by
    obtain ⟨γ, rfl, hγ⟩ := hs.ext
    have hnxK : memK.nx = mem0.nx := by rw [h.memK]; rfl
    have hgetK : memK.tr.get W = some (.cells wr (cs.set x (.bool (.var (qNum k))))) := by rw [h.memK]; simp [Mem.set, Tr.get_put]
    have homem := List.mem_filter.2 ⟨ho, hn⟩
    obtain ⟨pl, hpay, _⟩ := joinP_mem hj o homem
    obtain ⟨_, hprel⟩ := joinP_rel (σ := accEnv ρ k j (accB ρ k a0 p j)) (β := β) hj o homem hp pl hpay
    simp only [payload] at hpay
    simp only [hgetK] at hpay
    split at hpay
    · rename_i w1 c1 w2 ds hc1 hds
      cases hc1
      obtain ⟨h1, hpay2⟩ := bif_some hpay
      clear hpay
      simp only [Bool.and_eq_true, beq_iff_eq] at h1
      obtain ⟨hw, hbe⟩ := h1
      subst hw
      have hbe := beqL_eq hbe
      split at hpay2
      · rename_i b' hb'
        simp only [Option.some.injEq] at hpay2
        subst hpay2
        obtain ⟨k1, k2⟩ := h.others ha hs hall
        refine ⟨k1, k2, ?_⟩
        obtain ⟨e', he', hobj⟩ := hm.obj W _ hds
        rw [List.getElem?_append_left (List.getElem?_eq_some_iff.1 h.blk).1, h.blk] at he'
        cases he'
        have hds' : ds = cs.set x (.bool b') := by
          have : (ds.set x (.bool (.var (qNum k)))).set x (.bool b') = (cs.set x (.bool (.var (qNum k)))).set x (.bool b') := by rw [hbe]
          rw [List.set_set, List.set_set] at this
          rw [← this]
          refine (List.ext_getElem? fun f => ?_)
          rw [List.getElem?_set]
          by_cases e2 : x = f
          · subst e2
            rw [if_pos rfl]
            have := (List.getElem?_eq_some_iff.1 hb').1
            rw [if_pos this, hb']
          · rw [if_neg e2]
        rw [hds'] at hobj
        refine h.back ha hobj (fun v r => ?_)
        obtain ⟨y, hy, hyr⟩ := hprel 0 (.bool b) rfl
        cases hy
        have r2 := hyr (.bool (b'.ev (accEnv ρ k j (accB ρ k a0 p j)))) rfl
        have hbb : b'.ev (accEnv ρ k j (accB ρ k a0 p j)) = b.ev (accEnv ρ k j (accB ρ k a0 p j)) := by
          have : Value.bool (b'.ev (accEnv ρ k j (accB ρ k a0 p j))) = Value.bool (b.ev (accEnv ρ k j (accB ρ k a0 p j))) := r2
          exact Value.bool.inj this
        rw [show v = .bool _ from r, hbb, accB_succ]
        have hS : ∀ u : Bool, accB ρ k a0 p j = u → SubR ⟨k, qNum k, .var k, fun _ => none, fun _ => none, .lit u⟩ (ρ.at k j) (accEnv ρ k j (accB ρ k a0 p j)) := fun u hu =>
          ⟨(Env.at_agree ρ k _ j).symm.trans (Env.snap_agree _ _ _ _ _ _ _), by simp [accEnv, Env.snap, T.ev, Env.at], fun f y hy => (by cases hy), fun f y hy => (by cases hy), by simp [accEnv, Env.snap, B.ev, hu]⟩
        cases hu : accB ρ k a0 p j
        · have := subB_ev (hS false hu) hp0
          rw [hu] at this
          rw [← this]; simp [B.ev]
        · have := subB_ev (hS true hu) hp1
          rw [hu] at this
          rw [← this]; simp
      · cases hpay2
    · cases hpay
  stay j w w' β' m ha hs hsame hm := by
    obtain ⟨γ, rfl, hγ⟩ := hs.ext
    have hnxK : memK.nx = mem0.nx := by rw [h.memK]; rfl
    have hgetK : memK.tr.get W = some (.cells wr (cs.set x (.bool (.var (qNum k))))) := by rw [h.memK]; simp [Mem.set, Tr.get_put]
    obtain ⟨k1, k2⟩ := h.others ha hs hall
    have hsame := oeq_eq (fun _ _ => SObj.beq_eq) hsame
    refine ⟨k1, k2, ?_⟩
    obtain ⟨e', he', hobj⟩ := hm.obj W _ (by rw [hsame]; exact hgetK)
    rw [List.getElem?_append_left (List.getElem?_eq_some_iff.1 h.blk).1, h.blk] at he'
    cases he'
    exact h.back ha hobj (fun v r => by rw [show v = .bool _ from r]; simp [B.ev, accEnv, Env.snap])
  fin w ha := by
    rw [h.memF]
    refine ⟨h.nx, fun id o ho => ?_, ha.lt, h.apart, fun id hid => ?_⟩
    · simp only [Mem.set, Tr.get_put] at ho
      by_cases e1 : id = W
      · rw [if_pos e1] at ho
        cases ho
        rw [e1]
        obtain ⟨h0, h1, h2, arr, el, fr, h3, h4, h5⟩ := ha.own
        refine ⟨e, h.blk, h0, h1, h2, arr, el, fr, h3, h4, relL_set h5 (fun f c v hne hc hv r => r) (fun v r => ?_)⟩
        rw [show v = .bool _ from r]
        simp only [SV.rel, mkAnd_ev, mkAll_ev]
        rfl
      · rw [if_neg e1] at ho
        exact ha.other id o e1 ho
    · simp only [Mem.set] at hid ⊢
      have hW := h.inb W _ h.get
      rw [Tr.get_put, if_neg (by omega)]
      exact h.dom id hid
  cont _ _ _ _ _ _ := rfl
  back hn := by cases hn
end Go.SX

namespace Go.SX
open Go
variable {D : List Deferred}

theorem mapped_static {k : Nat} {A D : SArr} {l : List SV} (h : mapped k A l = some D) : D.wr = A.wr ∧ D.stride = A.stride ∧ D.ks = A.ks ∧ D.len = A.len ∧ genOk D.gk D.gen = true ∧ ∀ t cs, D.row = some (t, cs) → cs.length = l.length := by
  unfold mapped at h
  split at h
  · cases h
  · rename_i g hg
    cases hok : genOk k (genFrom A.r k g A.ks 0)
    · simp [hok] at h
    simp only [hok, Bool.not_true, cond_false] at h
    split at h
    · rename_i hA
      cases h
      exact ⟨rfl, rfl, rfl, rfl, hok, fun t cs hr => by simp only [hA] at hr; cases hr⟩
    · rename_i t rc hA
      split at h
      · rename_i rc' hrc
        cases h
        refine ⟨rfl, rfl, rfl, rfl, hok, fun t' cs hr => ?_⟩
        simp only [Option.some.injEq, Prod.mk.injEq] at hr
        rw [← hr.2]; exact (subL_get hrc).1
      · cases h
theorem hiLe_ok {ρ : Env} {pc : PC} (hp : PcH ρ pc) {t : T} {n : Nat} (h : hiLe (rng pc t) n = true) : t.ev ρ ≤ n := by
  unfold hiLe at h
  have hb := rng_ok hp t
  split at h
  · rename_i x hx
    rw [ilt_iff] at h
    have := hb.2 x hx
    have : ¬ ((n : Nat) : Int) < x := by simpa using h
    omega
  · cases h
theorem isEmpty_filter {p : Out → Bool} {l : List Out} (h : (l.filter p).isEmpty = false) : ∃ o ∈ l, p o = true := by
  cases hf : l.filter p with
  | nil => rw [hf] at h; cases h
  | cons x xs =>
    have : x ∈ l.filter p := by rw [hf]; simp
    exact ⟨x, (List.mem_filter.1 this).1, (List.mem_filter.1 this).2⟩
theorem orElseL_some {a b : Option (List Out)} {l : List Out} (h : orElseL a b = some l) : a = some l ∨ b = some l := by
  cases a with
  | none => exact .inr h
  | some x => exact .inl h
theorem lockM_none {nx id : Nat} (h : id < nx) : id ∈ lockM .none nx := List.mem_range.2 h
theorem lockM_map {nx id W : Nat} (h : id < nx) (hne : id ≠ W) : id ∈ lockM (.map W) nx := List.mem_filter.2 ⟨List.mem_range.2 h, by
  cases hb : Nat.beq id W
  · rfl
  · exact absurd (Nat.eq_of_beq_eq_true hb) hne⟩
theorem finishL_ok {C : Cfg} {c : Code} {st : St} {outs outs2 : List Out} {k : Nat} {τ : Tmp} {md : Mod} {tmI : Tr SV} {memK : Mem} (h : finishL k τ md st tmI memK outs2 = some outs) {ρ : Env} {β : Bet} {lk : List Nat} {nt : Nat} {a : Act} {w : World}
    (hp : PcH ρ st.pc) (ha : ActR ρ β nt D st a) (hm : MemRel ρ β st.mem w) (hmemK : memAt k md st.mem = some memK) (hτ : st.tm.get τ = some (.int .i64 (.lit (.ofNat 0))))
    (htm : ∀ n s, tmI.get n = some s → frSV k (qNum k) s = true) (htr : TmRel ρ β tmI a)
    (hRun : ∀ (σ : Env) (a : Act) (w : World), PcH σ (stAt k τ st tmI memK).pc → ActR σ β nt D (stAt k τ st tmI memK) a → MemRel σ β memK w → NoStuck σ outs2 → c.wp C.P (Post σ β (lockM md st.mem.nx ++ lk) nt D w outs2) a w) :
    (Code.loop c).wp C.P (Post ρ β lk nt D w outs) a w := by
  obtain ⟨v0, hv0, r0⟩ := ha.tm.get τ _ hτ
  have hat : a.tmps[τ]? = some (.int .i64 ((0 : Nat) : Int)) := by rw [hv0, r0.1]; rfl
  have hlt : τ < nt := by rw [← ha.nt]; exact (Array.getElem?_eq_some_iff.1 hv0).1
  unfold finishL at h
  simp only at h
  split at h
  · cases h
  · rename_i len hlen
    split at h
    · cases h
    · rename_i i hi
      obtain ⟨hchk, h⟩ := bif_some h
      simp only [Bool.and_eq_true] at hchk
      obtain ⟨⟨⟨⟨⟨q1, q2⟩, q3⟩, q4⟩, q5⟩, q7⟩ := hchk
      have hmax : len.ev ρ ≤ 9223372036854775807 := hiLe_ok hp q4
      have hok : ∀ o ∈ outs2, okRound k τ i len tmI md memK o = true := fun o ho => List.all_eq_true.1 q5 o ho
      split at h
      · rename_i l fs hj
        split at h
        · rename_i memF hmemF
          simp only [Option.some.injEq] at h
          subst h
          clear q7
          generalize hc : (bif (outs2.filter (isEarly k len)).isEmpty then B.lit true else contB ((B.ltI (.var k) (.lit 0), false) :: numPc st.pc) (outs2.filter isNorm)) = cB
          have hpcF : (∀ j : Nat, j < (len.ev ρ).toNat → cB.ev (ρ.at k j) = true) → PcH ρ (bif (outs2.filter (isEarly k len)).isEmpty then st.pc else addPc (mkAll k len cB) true st.pc) := by
            intro hall
            cases (outs2.filter (isEarly k len)).isEmpty
            · refine addPc_ok _ true ?_ hp
              rw [mkAll_ev]
              simp only [B.ev, List.all_eq_true, List.mem_range]
              exact hall
            · exact hp
          have hnoE : md.isNone = false → ∀ o ∈ outs2, isEarly k len o = false := by
            intro hmd o ho
            have := hok o ho
            cases he : isEarly k len o
            · rfl
            · simp only [okRound, Bool.and_eq_true] at this
              have h2 := this.2
              unfold isEarly at he
              split at he
              · rename_i hx; rw [hx] at h2; simp [hmd] at h2
              · rename_i j hx
                rw [hx] at h2
                have hf : hasFact o.st.pc (.ltI (.var k) len) false = false := by simpa using he
                simp [hf, hmd] at h2
              · cases he
          have final : ∀ (S : LoopSem ρ β (lockM md st.mem.nx ++ lk) k st.mem memK memF md outs2 cB (len.ev ρ).toNat) (_ : S.At 0 w) (_ : ∀ j w o, o ∈ outs2 → isEarly k len o = true → PcH (S.σ j w) o.st.pc → j < (len.ev ρ).toNat →
              ∃ o' ∈ ((⟨.exit i, ⟨tmI, memF, (bif (outs2.filter (isEarly k len)).isEmpty then st.pc else addPc (mkAll k len cB) true st.pc), st.fid⟩⟩ : Out) :: (outs2.filter (isEarly k len)).map (earlyOut k st len cB (outs2.filter isNorm) ((B.ltI (.var k) (.lit 0), false) :: numPc st.pc))),
                o'.ex = o.ex ∧ PcH ρ o'.st.pc ∧ o'.st.mem = st.mem ∧ ∀ n s, o'.st.tm.get n = some s → o.st.tm.get n = some s ∧ frSV k (qNum k) s = true ∧ under β.length s = true),
              (Code.loop c).wp C.P (Post ρ β lk nt D w ((⟨.exit i, ⟨tmI, memF, (bif (outs2.filter (isEarly k len)).isEmpty then st.pc else addPc (mkAll k len cB) true st.pc), st.fid⟩⟩ : Out) :: (outs2.filter (isEarly k len)).map (earlyOut k st len cB (outs2.filter isNorm) ((B.ltI (.var k) (.lit 0), false) :: numPc st.pc)))) a w := by
            intro S hA hE
            refine wp_loop_rounds ((len.ev ρ).toNat + 1) (loop_sem (C := C) (τ := τ) (i := i) (tmI := tmI) (fun i hi => List.mem_append_right _ hi) S hp hRun hlt htm q1 q2 hmax hok (.head _) hpcF hE (len.ev ρ).toNat 0 (by omega) a w (Stp.refl _ _ _) htr hat ha.nt ha.df hA (fun q hq => by omega))
          cases md with
          | bad => simp [memAt] at hmemK
          | none =>
            simp only [memAt, Option.some.injEq] at hmemK
            simp only [memEnd, Option.some.injEq] at hmemF
            subst hmemK; subst hmemF
            have hcn : ∀ (σ : Env) (o : Out), o ∈ outs2 → isNorm o = true → PcH σ o.st.pc → cB.ev σ = true := by
              intro σ o ho hn hpo
              rw [← hc]
              cases (outs2.filter (isEarly k len)).isEmpty
              · exact contB_ok (List.mem_filter.2 ⟨ho, hn⟩) hpo
              · rfl
            refine final (semNone q3 hcn (fun id hid => List.mem_append_left _ (lockM_none hid))) hm ?_
            intro j w' o ho he hpo hjM
            have hmem := List.mem_filter.2 ⟨ho, he⟩
            refine ⟨_, .tail _ (List.mem_map_of_mem hmem), rfl, ?_, rfl, ?_⟩
            · simp only [earlyOut]
              cases hx : (outs2.filter isNorm).all (fun n => excl (factsOf ((B.ltI (.var k) (.lit 0), false) :: numPc st.pc) o.st.pc) (factsOf ((B.ltI (.var k) (.lit 0), false) :: numPc st.pc) n.st.pc))
              · exact hp
              · refine addPc_ok _ false ?_ hp
                rw [mkAll_ev]
                have hne : (outs2.filter (isEarly k len)).isEmpty = false := by
                  cases hq : outs2.filter (isEarly k len) with
                  | nil => rw [hq] at hmem; cases hmem
                  | cons _ _ => rfl
                rw [hne] at hc
                have hcf : cB.ev (ρ.at k j) = false := by
                  rw [← hc]
                  exact contB_no (factsOf_ok hpo) hx
                simp only [B.ev]
                cases hall : (List.range (len.ev ρ).toNat).all fun j => cB.ev (ρ.at k j)
                · rfl
                · have := List.all_eq_true.1 hall j (by simpa using hjM)
                  rw [hcf] at this; cases this
            · intro n s hn
              simp only [earlyOut] at hn
              obtain ⟨x, y, hx, _, hf⟩ := Tr.get_zip hn
              obtain ⟨h1, h2⟩ := bif_some hf
              cases h2
              rw [Bool.and_eq_true, hm.nx] at h1
              exact ⟨hx, h1.1, h1.2⟩
          | map W =>
            simp only [memAt] at hmemK
            split at hmemK
            · rename_i A hA
              simp only [Option.some.injEq] at hmemK
              simp only [memEnd, hA] at hmemF
              obtain ⟨g1, hmemF⟩ := bif_some hmemF
              rw [Bool.and_eq_true] at g1
              split at hmemF
              · rename_i D hD
                obtain ⟨g2, hmemF⟩ := bif_some hmemF
                simp only [Option.some.injEq] at hmemF
                rw [Bool.and_eq_true] at g2
                obtain ⟨s1, s2, s3, s4, s5, s6⟩ := mapped_static hD
                obtain ⟨e, he, hobj⟩ := hm.obj W _ hA
                obtain ⟨o1, o2, o3, o4, o5, o6, arr, el, fr, hh, hfr, hrr⟩ := hobj
                have hll := Nat.eq_of_beq_eq_true g1.2
                have hnoE' := hnoE rfl
                have hct : cB = .lit true := by
                  rw [← hc]
                  cases hem : (outs2.filter (isEarly k len)).isEmpty
                  · obtain ⟨o, ho, he⟩ := isEmpty_filter hem
                    rw [hnoE' o ho] at he; cases he
                  · rfl
                subst hct
                have ctx : MapCtx ρ β k st.mem memK memF W A D e len := ⟨hA, he, hm.nx, hm.apart, hm.dom, fun id o ho => hm.id_lt ho, hmemK.symm, hmemF.symm, q3, o1, o2, o3, o4, o5, g1.1, o6.1, o6.2, g2.1, g2.2, s1, s2, s3, s4, s5, fun t cs hr => by rw [s6 t cs hr, hll, o4]⟩
                refine final (semMap ctx hD hll hj (fun id hid hne => List.mem_append_left _ (lockM_map hid hne))) ⟨hm.lt, fun id o _ ho => hm.obj id o ho, arr, el, fr, hh, hfr, fun i hi f s hs => hrr i hi f s (by simpa using hs)⟩ ?_
                intro j w' o ho he _ _
                rw [hnoE' o ho] at he; cases he
              · cases hmemF
            · cases hmemK
          | acc W x =>
            simp only [memAt] at hmemK
            split at hmemK
            · rename_i wr cs hA
              simp only [Option.some.injEq] at hmemK
              simp only [memEnd, hA] at hmemF
              split at hmemF
              · rename_i wr' cs' b hcs
                cases hcs
                split at hmemF
                · rename_i a0 p1 ha0 hp1 hp0
                  simp only [Option.some.injEq] at hmemF
                  obtain ⟨e, he, hobj⟩ := hm.obj W _ hA
                  have hobj' := hobj
                  obtain ⟨o1, o2, o3, arr, el, fr, hh, hfr, hrr⟩ := hobj
                  have hnoE' := hnoE rfl
                  have hct : cB = .lit true := by
                    rw [← hc]
                    cases hem : (outs2.filter (isEarly k len)).isEmpty
                    · obtain ⟨o, ho, he⟩ := isEmpty_filter hem
                      rw [hnoE' o ho] at he; cases he
                    · rfl
                  subst hct
                  have ctx : AccCtx ρ β k st.mem memK memF W x wr cs a0 p1 e len := ⟨hA, ha0, he, hm.nx, hm.apart, hm.dom, fun id o ho => hm.id_lt ho, hmemK.symm, hmemF.symm, q3⟩
                  refine final (semAcc ctx hj hp1 hp0 (fun id hid hne => List.mem_append_left _ (lockM_map hid hne))) ⟨hm.lt, fun id o _ ho => hm.obj id o ho, o1, o2, o3, arr, el, fr, hh, hfr, ?_⟩ ?_
                  · have hself : cs = cs.set x (.bool a0) := by
                      refine (List.ext_getElem? fun f => ?_)
                      rw [List.getElem?_set]
                      by_cases e2 : x = f
                      · subst e2
                        rw [if_pos rfl, if_pos (List.getElem?_eq_some_iff.1 ha0).1, ha0]
                      · rw [if_neg e2]
                    rw [hself] at hrr
                    refine relL_set hrr (fun f c v _ _ _ r => r) (fun v r => ?_)
                    rw [show v = .bool _ from r]
                    simp [SV.rel, B.ev, accB]
                  · intro j w' o ho he _ _
                    rw [hnoE' o ho] at he; cases he
                · cases hmemF
              · cases hmemF
            · cases hmemK
        · cases h
      · cases h
theorem genericL_ok {C : Cfg} {run : List Nat → St → Option (List Out)} {c : Code} {st : St} {outs : List Out} (h : genericL C run c st = some outs) {ρ : Env} {β : Bet} {lk : List Nat} {nt : Nat} {a : Act} {w : World}
    (hp : PcH ρ st.pc) (ha : ActR ρ β nt D st a) (hm : MemRel ρ β st.mem w)
    (hrun : ∀ L st' outs', run L st' = some outs' → ∀ (σ : Env) (a : Act) (w : World), PcH σ st'.pc → ActR σ β nt D st' a → MemRel σ β st'.mem w → NoStuck σ outs' → c.wp C.P (Post σ β (L ++ lk) nt D w outs') a w) :
    (Code.loop c).wp C.P (Post ρ β lk nt D w outs) a w := by
  unfold genericL at h
  obtain ⟨_, h⟩ := bif_some h
  split at h
  · cases h
  · rename_i τ hτv
    split at h
    · rename_i hτ
      simp only at h
      have htm : ∀ n s, (Tr.less (frSV (kNum st.fid) (qNum (kNum st.fid))) st.tm (setsOf c .nil)).get n = some s → frSV (kNum st.fid) (qNum (kNum st.fid)) s = true := fun n s hn => (Tr.get_less hn).2
      have htr : TmRel ρ β (Tr.less (frSV (kNum st.fid) (qNum (kNum st.fid))) st.tm (setsOf c .nil)) a := ⟨fun n s hn => ha.tm.get n s (Tr.get_less hn).1⟩
      rcases orElseL_some h with h | h
      · cases hw : C.mrg (st.fid % 65536 + 400000) <;> rw [hw] at h
        · simp only [cond_false] at h
          split at h
          · cases h
          · rename_i outs2 hr2
            exact finishL_ok h hp ha hm rfl hτ htm htr (hrun _ _ _ hr2)
        · cases h
      · split at h
        · cases h
        · rename_i outs1 _
          split at h
          · cases h
          · rename_i memK hmemK
            split at h
            · cases h
            · rename_i outs2 hr2
              exact finishL_ok h hp ha hm hmemK hτ htm htr (hrun _ _ _ hr2)
    · cases h
end Go.SX
