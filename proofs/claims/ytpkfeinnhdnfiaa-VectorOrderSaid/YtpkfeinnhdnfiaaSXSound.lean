/- SX, part 11: the executor is right. -/
import Derived.Test.YtpkfeinnhdnfiaaSXExec
import Derived.LoopN
namespace Go.SX
open Go

def asB : Value → Option Bool
  | .bool b => some b
  | _ => none
theorem wantX_yes {ρ : Env} {β : Bet} {nt : Nat} {st : St} {a : Act} {all : List Oper} {o : Oper} (hp : PcH ρ st.pc) (ha : ActR ρ β nt st a) :
    (wantX all st o = .yes → Region.wanted o (yielded all.toArray a.tmps) = true) ∧ (wantX all st o = .no → Region.wanted o (yielded all.toArray a.tmps) = false) := by
  unfold wantX Region.wanted
  cases hg : o.guard with
  | none => exact ⟨fun _ => rfl, fun h => by cases h⟩
  | some g =>
    obtain ⟨j, want⟩ := g
    simp only
    cases hj : all[j]? with
    | none =>
      simp only
      refine ⟨fun h => (by cases h), fun _ => ?_⟩
      simp [yielded, hj]
    | some oj =>
      simp only
      cases hd : oj.dst with
      | none =>
        simp only
        refine ⟨fun h => (by cases h), fun _ => ?_⟩
        simp [yielded, hj, hd]
      | some d =>
        simp only
        cases hs : st.tm.get d with
        | none => exact ⟨fun h => (by cases h), fun h => (by cases h)⟩
        | some s =>
          obtain ⟨v, hv, r⟩ := ha.tm.get d s hs
          have hy : yielded all.toArray a.tmps j = asB v := by
            unfold yielded
            simp only [List.getElem?_toArray, hj, hd, Option.bind_some, hv]
            cases v <;> rfl
          cases s <;> (try simp only) <;> try (exact ⟨fun h => (by cases h), fun h => (by cases h)⟩)
          case bool b =>
            rw [show v = .bool (b.ev ρ) from r] at hy
            rw [hy, asB]
            have hsb := simpB_ev hp b
            split
            · rename_i u hu
              rw [hu] at hsb
              rw [← hsb]
              simp only [B.ev]
              cases hq : (u == want)
              · refine ⟨fun h => (by simp at h), fun _ => ?_⟩
                simpa using hq
              · refine ⟨fun _ => ?_, fun h => (by simp at h)⟩
                simpa using hq
            · exact ⟨fun h => (by cases h), fun h => (by cases h)⟩
          case tup vs =>
            cases vs with
            | nil =>
              simp only
              obtain ⟨l, hl, rfl⟩ := r
              refine ⟨fun h => (by cases h), fun _ => ?_⟩
              rw [hy]; rfl
            | cons x xs => exact ⟨fun h => (by cases h), fun h => (by cases h)⟩
theorem undefX_rel (ρ : Env) (β : Bet) : undefX.rel ρ β undef := ⟨[], rfl, rfl⟩

theorem callee_ok {C : Cfg} {ρ : Env} {β : Bet} {tm : Tr SV} {a : Act} (ht : TmRel ρ β tm a) {o : Oper} {id : Nat} {args : List SV} (h : calleeX tm o.op = some (id, args)) :
    ∃ vs, relL ρ β args vs ∧ ∀ (fn : Func) (body : Code) (w : World), C.P.funcs[id]? = some fn → (fn.name == "runtime.NumGoroutine") = false → fn.body = some body →
      (execOp a.eval o).run C.P w = .ok (.enter id vs.toArray) w := by
  obtain ⟨dst, op, type, pos, after, guard⟩ := o
  simp only [calleeX] at h
  split at h
  · rename_i c
    split at h
    · rename_i f hc
      split at h
      · rename_i id' caps as hf has
        cases h
        obtain ⟨l, hl, hv⟩ := evX_ok ht hf
        have h2 := evXL_ok ht has
        refine ⟨_, relL_append h2 hl, fun fn body w h1 hn hb => ?_⟩
        have h1' : fn.name ≠ "runtime.NumGoroutine" := by simpa using hn
        have harr : (c.args.map a.eval) = (c.args.toList.map a.eval).toArray := by rw [← Array.toList_inj]; simp
        simp [execOp, resolve, hc, hv, Deferred.ofValue, invoke, callFunc, h1, h1', hb, harr]
      · cases h
    · cases h
  · cases h

theorem initTm_get : ∀ (ss : List SV) (i : Nat) (t : Tr SV) (k : Nat), (initTm ss i t).get k = if i ≤ k ∧ k < i + ss.length then ss[k - i]? else t.get k
  | [], i, t, k => by simp only [initTm, List.length_nil]; rw [if_neg (by omega)]
  | s :: ss, i, t, k => by
    simp only [initTm, initTm_get ss (i + 1), Tr.get_put, List.length_cons]
    by_cases e : k = i
    · subst e
      rw [if_neg (by omega), if_pos rfl, if_pos (by omega)]
      simp
    · by_cases c : i + 1 ≤ k ∧ k < i + 1 + ss.length
      · rw [if_pos c, if_pos (by omega), show k - i = (k - (i + 1)) + 1 by omega]
        simp
      · rw [if_neg c, if_neg e, if_neg (by omega)]
theorem init_act {ρ : Env} {β : Bet} {args : List SV} {vs : List Value} (h : relL ρ β args vs) (mem : Mem) (pc : PC) (n : Nat) {id : Nat} :
    ActR ρ β (args.length + (n - args.length)) ⟨initTm args 0 .nil, mem, pc, id⟩ { tmps := vs.toArray ++ Array.replicate (n - vs.toArray.size) undef, defers := [] } := by
  have hl := relL_length h
  refine ⟨⟨fun t s hs => ?_⟩, by simp [hl], rfl⟩
  simp only [initTm_get] at hs
  split at hs
  · rename_i c
    obtain ⟨v, hv, r⟩ := relL_get h hs
    refine ⟨v, ?_, r⟩
    simp only [Nat.sub_zero] at hv
    have : t < vs.length := by omega
    rw [Array.getElem?_append_left (by simpa using this)]
    simpa using hv
  · simp [Tr.get] at hs
def resF (a : Act) : ResultVar → Sem Value
  | .tmp t => pure (a.tmps.getD t undef)
  | .cell x t => do loadVar t (← asAddr (a.tmps.getD x undef))
theorem run_resultsL {C : Cfg} (hC : C.Types) {ρ : Env} {β : Bet} {nt : Nat} {st : St} {a : Act} {w : World} (hp : PcH ρ st.pc) (ha : ActR ρ β nt st a) (hm : MemRel ρ β st.mem w) :
    ∀ {rs : List ResultVar} {l : List SV}, resX C st rs = some l → ∃ vs, relL ρ β l vs ∧ (rs.mapM (resF a)).run C.P w = .ok vs w
  | [], l, h => by cases h; exact ⟨[], rfl, rfl⟩
  | .tmp t :: rs, l, h => by
    simp only [resX] at h
    split at h
    · rename_i s ss h1 h2
      cases h
      obtain ⟨vs, r1, r2⟩ := run_resultsL hC hp ha hm h2
      obtain ⟨v, hv, r⟩ := ha.tm.get t s h1
      refine ⟨v :: vs, ⟨v, vs, rfl, r, r1⟩, ?_⟩
      simp [List.mapM_cons, r2, hv, resF]
    · cases h
  | .cell x t :: rs, l, h => by
    simp only [resX] at h
    split at h
    · rename_i p hpx
      split at h
      · rename_i s ss h1 h2
        cases h
        obtain ⟨vs, r1, r2⟩ := run_resultsL hC hp ha hm h2
        obtain ⟨v, hv, r⟩ := ha.tm.get x p hpx
        obtain ⟨u, ru, hrun⟩ := xLoad_ok hC hp hm.o r h1
        refine ⟨u :: vs, ⟨u, vs, rfl, ru, r1⟩, ?_⟩
        have h3 := hrun w (Same.refl _ _ _)
        have hptr : ∃ ad, v = .pointer (some ad) := by
          unfold xLoad at h1
          split at h1
          · obtain ⟨e, _, _, _, rfl⟩ := r; exact ⟨_, rfl⟩
          · cases h1
        obtain ⟨ad, rfl⟩ := hptr
        have h4 : (loadVar t ad).run C.P w = .ok u w := by simpa [Instr.loadAt, Instr.sureAddr] using h3
        simp [List.mapM_cons, r2, hv, resF, asAddr, h4]
      · cases h
    · cases h
theorem run_results {C : Cfg} (hC : C.Types) {ρ : Env} {β : Bet} {nt : Nat} {st : St} {a : Act} {w : World} (hp : PcH ρ st.pc) (ha : ActR ρ β nt st a) (hm : MemRel ρ β st.mem w) {fn : Func} {l : List SV}
    (h : resX C st fn.results.toList = some l) : ∃ v, (results fn a.tmps).run C.P w = .ok v w ∧ (oneX l).rel ρ β v := by
  obtain ⟨vs, r1, r2⟩ := run_resultsL hC hp ha hm h
  refine ⟨if h : vs.toArray.size = 1 then vs.toArray[0] else .tuple vs.toArray, ?_, ?_⟩
  · have : results fn a.tmps = (do let vs ← fn.results.mapM (resF a); pure (if h : vs.size = 1 then vs[0] else .tuple vs)) := rfl
    rw [this, Array.mapM_eq_mapM_toList]
    simp only [Sem.run_bind, Sem.run_map, r2, Result.andThen_ok, Sem.run_pure]
  · match l, r1 with
    | [], r1 => rw [show vs = [] from r1]; exact ⟨[], rfl, rfl⟩
    | [s], r1 => obtain ⟨u, rfl, r⟩ := relL_single r1; exact r
    | s :: t :: l, r1 =>
      have hl := relL_length r1
      have : ¬ vs.toArray.size = 1 := by simp at hl ⊢; omega
      rw [dif_neg this]
      exact ⟨vs, r1, rfl⟩

/-! monotony -/
theorem opwp_mono {P : Program} {o : Oper} {a : Act} {w : World} {K K' : Act → World → Prop} {Q Q' : Exit → Act → World → Prop} (hk : ∀ a w, K a w → K' a w) (hq : ∀ e a w, Q e a w → Q' e a w)
    (h : o.wp P a w K Q ∨ (o.asks P a w ∧ LetsOut Q)) : o.wp P a w K' Q' ∨ (o.asks P a w ∧ LetsOut Q') := by
  rcases h with h | ⟨h1, a0, w0, h2⟩
  · left
    unfold Oper.wp at *
    generalize (execOp a.eval o).run P w = r at *
    cases r with
    | ok x w' =>
      cases x <;> simp only [Oper.upon] at h ⊢ <;> first
        | exact h
        | exact hk _ _ h
        | (refine Calls.mono h fun e w'' he => ?_
           cases e with
           | returned v => exact hk _ _ he
           | panicked c => exact hq _ _ _ he
           | outgrown => obtain ⟨a0, w0, h0⟩ := he; exact ⟨a0, w0, hq _ _ _ h0⟩)
        | (exact Rows.mono h fun v w'' he => hk _ _ he)
    | halt x w' => cases x <;> simp only [Oper.upon] at h ⊢ <;> first | exact h | exact hq _ _ _ h
  · exact .inr ⟨h1, a0, w0, hq _ _ _ h2⟩
/-- what is shown of one operation of a region -/
def OpT (P : Program) (ops : Array Oper) (o : Oper) (K : Act → World → Prop) (Q : Exit → Act → World → Prop) (a : Act) (w : World) : Prop :=
  (Region.wanted o (yielded ops a.tmps) = true → o.wp P a w K Q ∨ (o.asks P a w ∧ LetsOut Q)) ∧ (Region.wanted o (yielded ops a.tmps) = false → K (a.put o.dst undef) w)
theorem OpT.mono {P : Program} {ops : Array Oper} {o : Oper} {a : Act} {w : World} {K K' : Act → World → Prop} {Q Q' : Exit → Act → World → Prop} (hk : ∀ a w, K a w → K' a w) (hq : ∀ e a w, Q e a w → Q' e a w)
    (h : OpT P ops o K Q a w) : OpT P ops o K' Q' a w := ⟨fun hw => opwp_mono hk hq (h.1 hw), fun hw => hk _ _ (h.2 hw)⟩
theorem OpT.list {P : Program} {ops : Array Oper} {o : Oper} {rest : List Oper} {a : Act} {w : World} {Q : Exit → Act → World → Prop} :
    OpT P ops o (wpList P ops Q rest) Q a w ↔ wpList P ops Q (o :: rest) a w := by
  simp only [wpList, OpT]
  cases hw : Region.wanted o (yielded ops a.tmps) <;> simp
theorem OpT.op {P : Program} {ops : Array Oper} {i : Nat} {o : Oper} (ho : ops[i]? = some o) {K : Act → World → Prop} {a : Act} {w : World} {Q : Exit → Act → World → Prop} :
    OpT P ops o K Q a w ↔ wpOp P ops Q i K a w := by
  simp only [wpOp, ho, OpT]
  cases hw : Region.wanted o (yielded ops a.tmps) <;> simp
theorem wpList_mono {P : Program} {ops : Array Oper} {Q Q' : Exit → Act → World → Prop} (hq : ∀ e a w, Q e a w → Q' e a w) : ∀ {rest : List Oper} {a : Act} {w : World}, wpList P ops Q rest a w → wpList P ops Q' rest a w := by
  intro rest
  induction rest with
  | nil => intro a w h; exact hq _ _ _ h
  | cons o rest ih => intro a w h; exact OpT.list.1 ((OpT.list.2 h).mono (fun _ _ => ih) hq)
theorem rounds_mono {P : Program} {c : Code} {Q Q' : Exit → Act → World → Prop} (hq : ∀ e a w, Q e a w → Q' e a w) : ∀ {n : Nat} {a : Act} {w : World}, Code.rounds P c Q n a w → Code.rounds P c Q' n a w
  | 0, _, _, h => h
  | n + 1, a, w, h => Code.wp_mono (fun e a' w' he => by
      cases e <;> first
        | exact rounds_mono hq he
        | exact hq _ _ _ he) h
theorem wpAnyH_mono {P : Program} {md : Region.Mode} {ops : Array Oper} {Q Q' : Exit → Act → World → Prop} {S S' : World → Prop} (hq : ∀ e a w, Q e a w → Q' e a w) (hS : ∀ w, S w → S' w) :
    ∀ {k : Nat} {l : Array Bool} {a : Act} {w : World}, wpAnyH P md ops Q S k l a w → wpAnyH P md ops Q' S' k l a w := by
  intro k
  induction k with
  | zero => intro l a w h; exact ⟨h.1, hq _ _ _ h.2⟩
  | succ k ih =>
    intro l a w h
    refine ⟨fun hr => hq _ _ _ (h.1 hr), fun i hi => ?_⟩
    have h1 := h.2 i hi
    cases ho : ops[i]? with
    | none => simp only [wpOp, ho] at h1 ⊢; exact ⟨hS _ h1.1, ih h1.2⟩
    | some o => exact (OpT.op ho).1 (((OpT.op ho).2 h1).mono (fun _ _ hk => ⟨hS _ hk.1, ih hk.2⟩) hq)

/-! regions that draw their order -/
theorem binds_any (e : Edge) : Region.binds .any e = bindsA e := by
  unfold Region.binds bindsA; cases e.ground <;> rfl
theorem edgesIn_eq (listed : List Bool) : ∀ es : List Edge, edgesIn listed es = es.all fun e => !Region.binds .any e || listed.toArray.getD e.on false
  | [] => rfl
  | e :: es => by
    simp only [edgesIn, List.all_cons, edgesIn_eq listed es, binds_any]
    cases bindsA e <;> simp
theorem readyGo_eq (all : List Oper) (listed : List Bool) : ∀ (os : List Oper) (i : Nat), (∀ j, os[j]? = all[i + j]?) →
    readyGo listed os i = (List.range' i os.length).filter fun i => !listed.toArray.getD i true && ((all.toArray[i]?).map (·.after.all fun e => !Region.binds .any e || listed.toArray.getD e.on false)).getD false
  | [], i, _ => by simp [readyGo]
  | o :: os, i, h => by
    have h0 : all[i]? = some o := by have := h 0; simpa using this.symm
    have hs : ∀ j, os[j]? = all[i + 1 + j]? := fun j => by have := h (j + 1); rw [show i + 1 + j = i + (j + 1) by omega]; simpa using this
    simp only [readyGo, List.length_cons, List.range'_succ, List.filter_cons, readyGo_eq all listed os (i + 1) hs]
    have hc : (!(listed.getD i true) && edgesIn listed o.after.toList) = (!listed.toArray.getD i true && ((all.toArray[i]?).map (·.after.all fun e => !Region.binds .any e || listed.toArray.getD e.on false)).getD false) := by
      simp only [List.getElem?_toArray, h0, Option.map_some, Option.getD_some, edgesIn_eq]
      simp
    rw [hc]
    generalize (!listed.toArray.getD i true && ((all.toArray[i]?).map (·.after.all fun e => !Region.binds .any e || listed.toArray.getD e.on false)).getD false) = c
    cases c <;> rfl
theorem readyL_eq (all : List Oper) (listed : List Bool) : readyL all listed = Region.ready .any all.toArray listed.toArray := by
  unfold readyL Region.ready
  rw [readyGo_eq all listed all 0 (fun j => by simp), List.range_eq_range']
  simp
theorem noSelL_mem (all : List Oper) (h : noSelL all = true) (o : Oper) (ho : o ∈ all) : notSel o.op = true := by
  induction all with
  | nil => cases ho
  | cons x os ih =>
    rw [noSelL, Bool.and_eq_true] at h
    rcases List.mem_cons.1 ho with e | e
    · rw [e]; exact h.1
    · exact ih h.2 e
theorem noSelL_ok {all : List Oper} (h : noSelL all = true) : Region.noSelect all.toArray = true := by
  unfold Region.noSelect
  rw [Array.all_eq_true_iff_forall_mem]
  intro o ho
  have := noSelL_mem all h o (by simpa using ho)
  cases hop : o.op <;> simp [hop, notSel] at this ⊢
theorem freeGo_ok (all : List Oper) (listed : List Bool) (i : Nat) (oi : Oper) : ∀ (os : List Oper) (j : Nat), (∀ k, os[k]? = all[j + k]?) → freeGo all listed i oi os j = true →
    ∀ k, j ≤ k → k < j + os.length → (k == i || listed.toArray.getD k true || match all.toArray[k]? with | some oj => oj.after.any (fun e => Region.binds .any e && e.on == i) || oi.apart all.toArray oj | none => true) = true
  | [], j, _, _, k, h1, h2 => by simp at h2; omega
  | o :: os, j, h, hf, k, h1, h2 => by
    have h0 : all[j]? = some o := by have := h 0; simpa using this.symm
    have hs : ∀ k, os[k]? = all[j + 1 + k]? := fun k => by have := h (k + 1); rw [show j + 1 + k = j + (k + 1) by omega]; simpa using this
    simp only [freeGo, Bool.and_eq_true] at hf
    by_cases e : k = j
    · subst e
      have := hf.1
      simp only [List.getElem?_toArray, h0, binds_any]
      simp only [Bool.or_eq_true] at this ⊢
      rcases this with ((h3 | h3) | h3) | h3
      · left; left; simpa using h3
      · left; right; simpa using h3
      · right; left
        rw [← Array.any_toList]
        simpa using h3
      · right; right; exact h3
    · exact freeGo_ok all listed i oi os (j + 1) hs hf.2 k (by omega) (by simp at h2; omega)
theorem free_ok {all : List Oper} {listed : List Bool} {i : Nat} {oi : Oper} (hi : all[i]? = some oi) (h : freeGo all listed i oi all 0 = true) : Region.free .any all.toArray listed.toArray i = true := by
  unfold Region.free
  simp only [List.getElem?_toArray, hi, List.all_eq_true, List.mem_range]
  intro k hk
  have := freeGo_ok all listed i oi all 0 (fun k => by simp) h k (by omega) (by simpa using hk)
  have hlt : k < all.length := by simpa using hk
  have hk' : all[k]? = some all[k] := List.getElem?_eq_getElem hlt
  simp only [List.getElem?_toArray, hk'] at this ⊢
  exact this
theorem setT_eq : ∀ (l : List Bool) (i : Nat), (setT l i).toArray = l.toArray.setIfInBounds i true
  | [], i => by simp [setT]
  | b :: l, 0 => by simp [setT]
  | b :: l, i + 1 => by
    have := setT_eq l i
    rw [← Array.toList_inj] at this ⊢
    simp only [Array.toList_setIfInBounds] at this ⊢
    simp only [setT, List.set_cons_succ, this]
theorem restrictTo_get (m : Mem) : ∀ (K : List Nat) (t : Tr SObj) (id : Nat) (o : SObj), (restrictTo m K t).get id = some o → (id ∈ K ∧ m.tr.get id = some o) ∨ t.get id = some o
  | [], t, id, o, h => .inr h
  | k :: K, t, id, o, h => by
    simp only [restrictTo] at h
    split at h
    · rename_i o' ho'
      rcases restrictTo_get m K _ id o h with ⟨h1, h2⟩ | h1
      · exact .inl ⟨.tail _ h1, h2⟩
      · rw [Tr.get_put] at h1
        by_cases e : id = k
        · rw [if_pos e] at h1; cases h1; subst e; exact .inl ⟨.head _, ho'⟩
        · rw [if_neg e] at h1; exact .inr h1
    · rcases restrictTo_get m K _ id o h with ⟨h1, h2⟩ | h1
      · exact .inl ⟨.tail _ h1, h2⟩
      · exact .inr h1
theorem only_get {m : Mem} {K : List Nat} {id : Nat} {o : SObj} (h : (m.only K).tr.get id = some o) : id ∈ K ∧ m.tr.get id = some o := by
  rcases restrictTo_get m K .nil id o h with h | h
  · exact h
  · simp [Tr.get] at h
theorem MemO.only {ρ : Env} {β : Bet} {m : Mem} {w : World} (h : MemO ρ β m w) (K : List Nat) : MemO ρ β (m.only K) w :=
  ⟨fun id o ho => h.obj id o (only_get ho).2, h.apart⟩
/-- the blocks of K are as they were -/
def SW (β : Bet) (w : World) (K : List Nat) (w' : World) : Prop := ∀ id ∈ K, ∀ e, β[id]? = some e → w'.heap[e.blk]? = w.heap[e.blk]?
theorem SW.refl (β : Bet) (w : World) (K : List Nat) : SW β w K w := fun _ _ _ _ => rfl
theorem SW.same {β : Bet} {w w' : World} {K : List Nat} (h : SW β w K w') (m : Mem) : Same β (m.only K) w w' := fun id _ e ho he => h id (only_get ho).1 e he
theorem SW.back {β β' : Bet} {lk : List Nat} {w w' w'' : World} {K : List Nat} (hs : Stp β lk w β' w') (hK : ∀ id ∈ K, id ∈ lk) (h : SW β' w' K w'') : SW β w K w'' := fun id hid e he => by
  obtain ⟨γ, rfl, _⟩ := hs.ext
  rw [h id hid e (by rw [List.getElem?_append_left (List.getElem?_eq_some_iff.1 he).1]; exact he), hs.lock id (hK id hid) e he]
theorem SW.of_stp {β β' : Bet} {lk : List Nat} {w w' : World} {K : List Nat} (hs : Stp β lk w β' w') (hK : ∀ id ∈ K, id ∈ lk) : SW β w K w' := fun id hid e he => hs.lock id (hK id hid) e he

/-! the great theorem -/
def taskWp (P : Program) (_n : Nat) (β : Bet) (Q : Exit → Act → World → Prop) (t : Task) (a : Act) (w : World) : Prop := match t with
  | .code c => c.wp P Q a w
  | .ops all rest => wpList P all.toArray Q rest a w
  | .drw all listed k K => wpAnyH P .any all.toArray Q (SW β w K) k listed.toArray a w
  | .dop all listed k K i => wpOp P all.toArray Q i (fun a' w' => SW β w K w' ∧ wpAnyH P .any all.toArray Q (SW β w K) k (setT listed i).toArray a' w') a w
def taskOk (lk : List Nat) : Task → Prop
  | .drw _ _ _ K => ∀ id ∈ K, id ∈ lk
  | .dop _ _ _ K _ => ∀ id ∈ K, id ∈ lk
  | _ => True
theorem taskWp_mono {P : Program} {n : Nat} {β : Bet} {Q Q' : Exit → Act → World → Prop} (hq : ∀ e a w, Q e a w → Q' e a w) {t : Task} {a : Act} {w : World} (h : taskWp P n β Q t a w) : taskWp P n β Q' t a w := by
  cases t with
  | code c => exact Code.wp_mono hq h
  | ops all rest => exact wpList_mono hq h
  | drw all listed k K => exact wpAnyH_mono hq (fun _ h => h) h
  | dop all listed k K i =>
    simp only [taskWp] at h ⊢
    cases ho : all.toArray[i]? with
    | none => simp only [wpOp, ho] at h ⊢; exact ⟨h.1, wpAnyH_mono hq (fun _ h => h) h.2⟩
    | some o => exact (OpT.op ho).1 (((OpT.op ho).2 h).mono (fun _ _ hk => ⟨hk.1, wpAnyH_mono hq (fun _ h => h) hk.2⟩) hq)
end Go.SX
