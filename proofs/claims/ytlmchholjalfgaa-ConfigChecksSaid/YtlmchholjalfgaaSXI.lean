/- SX, part 18: calls that were looked at once; a law's run in parts. -/
import Derived.Test.YtlmchholjalfgaaSXH
import Derived.Lib.LaidTab
namespace Go.SX
open Go

structure Memo where
  f : Nat
  args : List SV
  mem : Mem
  pc : PC
  outs : List COut
def memOf (nx : Nat) : List (Nat × SObj) → Mem
  | [] => ⟨.nil, nx⟩
  | (i, o) :: r => ⟨(memOf nx r).tr.put i o, nx⟩
def subPc (a b : PC) : Bool := a.all fun x => b.any (pcItem x)
theorem subPc_ok {ρ : Env} {a b : PC} (h : subPc a b = true) (hb : PcH ρ b) : PcH ρ a := fun x hx => by
  obtain ⟨y, hy, he⟩ := List.any_eq_true.1 (List.all_eq_true.1 h x hx)
  rw [pcItem_eq _ _ he]; exact hb y hy
def exBeq : CEnd → CEnd → Bool
  | .ret a, .ret b => SV.beq a b
  | _, _ => false
theorem exBeq_eq {a b : CEnd} (h : exBeq a b = true) : a = b := by
  cases a <;> cases b <;> simp [exBeq] at h
  rw [SV.beq_eq h]
/-- what is told of an end: the same, and no more facts -/
def coutSub (c e : COut) : Bool := exBeq c.ex e.ex && Mem.beq c.mem e.mem && subPc e.pc c.pc
def coutsSub : List COut → List COut → Bool
  | [], [] => true
  | c :: cs, e :: es => coutSub c e && coutsSub cs es
  | _, _ => false
theorem coutsSub_ok : ∀ {cs es : List COut}, coutsSub cs es = true → ∀ c ∈ cs, ∃ e ∈ es, coutSub c e = true
  | [], _, _, c, h => by cases h
  | x :: cs, [], h, _, _ => by simp [coutsSub] at h
  | x :: cs, e :: es, h, c, hc => by
    simp only [coutsSub, Bool.and_eq_true] at h
    rw [List.mem_cons] at hc
    rcases hc with rfl | hc
    · exact ⟨e, .head _, h.1⟩
    · obtain ⟨e', he', hs⟩ := coutsSub_ok h.2 c hc
      exact ⟨e', .tail _ he', hs⟩
/-- a call, some blocks locked -/
def callXL (C : Cfg) (lk : List Nat) (fuel : Nat) (id : Nat) (args : List SV) (mem : Mem) (pc : PC) : Option (List COut) :=
  match C.fn id with
  | some fn => (match fn.body with
    | some body => callB C (exec C fuel) lk fn body args mem pc id
    | none => none)
  | none => none
theorem callXL_ok {C : Cfg} (hC : C.Types) {ρ : Env} (hH : ∀ ρ, HookOk C ρ) {lk : List Nat} {fuel id : Nat} {args : List SV} {mem : Mem} {pc : PC} {outs : List COut} (h : callXL C lk fuel id args mem pc = some outs)
    {β : Bet} {w : World} {vs : List Value} (hp : PcH ρ pc) (hr : relL ρ β args vs) (hm : MemRel ρ β mem w) (hn : NoStuckC ρ outs) : Calls C.P id vs.toArray w (CPost ρ β lk w outs) := by
  unfold callXL at h
  split at h
  · rename_i fn hfn
    obtain ⟨hf1, _⟩ := hC.fn id fn hfn
    split at h
    · rename_i body hbody
      exact callB_ok hC (exec_run hC hH ρ fuel) h hf1 hbody hp hr hm hn
    · cases h
  · cases h
def callJ (C : Cfg) (fuel id : Nat) (args : List SV) (mem : Mem) (pc : PC) : Option (List COut) := match callXL C (List.range mem.nx) fuel id args mem pc with
  | some l => some (joined C id (List.range mem.nx) mem pc l)
  | none => none
def noStuckL (l : List COut) : Bool := l.all fun o => match o.ex with | .ret _ => true | _ => false
def Memo.ok (C : Cfg) (fuel : Nat) (e : Memo) : Bool := match callJ C fuel e.f e.args e.mem e.pc with
  | some l => coutsSub l e.outs && noStuckL l
  | none => false
def Memo.hit (e : Memo) (f : Nat) (args : List SV) (mem : Mem) (pc : PC) : Bool := Nat.beq e.f f && leq SV.beq args e.args && subPc e.pc pc && Mem.beq mem e.mem
def memoFind (f : Nat) (args : List SV) (mem : Mem) (pc : PC) : List Memo → Option (List COut)
  | [] => none
  | e :: r => bif Memo.hit e f args mem pc then some (e.outs.map fun o => ⟨o.pc ++ pc, o.mem, o.ex⟩) else memoFind f args mem pc r
def memoHook (l : List Memo) (f : Nat) (args : List SV) (mem : Mem) (pc : PC) (lk : List Nat) : Option (List COut) :=
  bif l.any (fun e => Nat.beq e.f f) && lk.all (fun i => Nat.blt i mem.nx) then memoFind f args mem pc l else none
theorem Memo.calls {C : Cfg} (hC : C.Types) (hH : ∀ ρ, HookOk C ρ) {fuel : Nat} {e : Memo} (h : Memo.ok C fuel e = true) {ρ : Env} {β : Bet} {w : World} {vs : List Value} {pc : PC} (hs : subPc e.pc pc = true)
    (hp : PcH ρ pc) (hr : relL ρ β e.args vs) (hm : MemRel ρ β e.mem w) : Calls C.P e.f vs.toArray w (CPost ρ β (List.range e.mem.nx) w (e.outs.map fun o => ⟨o.pc ++ pc, o.mem, o.ex⟩)) := by
  unfold Memo.ok callJ at h
  split at h
  · rename_i l hl
    split at hl
    · rename_i l0 hl0
      cases hl
      rw [Bool.and_eq_true] at h
      have hp0 := subPc_ok hs hp
      have hns : NoStuckC ρ (joined C e.f (List.range e.mem.nx) e.mem e.pc l0) := fun o ho k hk _ => by
        have := List.all_eq_true.1 h.2 o ho
        rw [hk] at this; cases this
      refine (callXL_ok hC hH hl0 hp0 hr hm (joined_stuck hns)).mono fun en w' hq => ?_
      obtain ⟨o, ho, hpc, β', hst, hm', he⟩ := joined_post (C := C) (id := e.f) hns hp0 hm hq
      obtain ⟨o', ho', hs'⟩ := coutsSub_ok h.1 o ho
      simp only [coutSub, Bool.and_eq_true] at hs'
      obtain ⟨⟨e1, e2⟩, e3⟩ := hs'
      refine ⟨_, List.mem_map_of_mem ho', ?_, β', hst, ?_, ?_⟩
      · intro x hx
        rcases List.mem_append.1 hx with hx | hx
        · exact subPc_ok e3 hpc x hx
        · exact hp x hx
      · simp only; rw [← Mem.beq_eq e2]; exact hm'
      · simp only; rw [← exBeq_eq e1]; exact he
    · cases hl
  · cases h
theorem memoHook_ok {C0 : Cfg} (hC : C0.Types) (hH : ∀ ρ, HookOk C0 ρ) {fuel : Nat} {l : List Memo} (h : ∀ e ∈ l, Memo.ok C0 fuel e = true) {C : Cfg} (hP : C.P = C0.P) (hk : C.hook = memoHook l) : ∀ ρ, HookOk C ρ := by
  intro ρ f args mem pc lk outs ho β w vs hp hr hm _
  rw [hk] at ho
  rw [hP]
  unfold memoHook at ho
  obtain ⟨hb, ho⟩ := bif_some ho
  rw [Bool.and_eq_true] at hb
  · have key : ∀ (l : List Memo), (∀ e ∈ l, Memo.ok C0 fuel e = true) → memoFind f args mem pc l = some outs → Calls C0.P f vs.toArray w (CPost ρ β lk w outs) := by
      intro l
      induction l with
      | nil => intro _ h; cases h
      | cons e r ih =>
        intro hl hf
        simp only [memoFind] at hf
        cases hh : Memo.hit e f args mem pc
        · rw [hh] at hf
          exact ih (fun x hx => hl x (.tail _ hx)) hf
        · rw [hh] at hf
          simp only [cond_true, Option.some.injEq] at hf
          subst hf
          simp only [Memo.hit, Bool.and_eq_true] at hh
          obtain ⟨⟨⟨h1, h2⟩, h3⟩, h4⟩ := hh
          have h1 := Nat.eq_of_beq_eq_true h1
          have h2 := leq_eq (fun _ _ => SV.beq_eq) h2
          have h4 := Mem.beq_eq h4
          subst h1; subst h2; subst h4
          refine (Memo.calls hC hH (hl e (.head _)) h3 hp hr hm).mono fun en w' ⟨o, ho, hpc, β', hst, r⟩ => ⟨o, ho, hpc, β', hst.unlock fun i hi => ?_, r⟩
          have := List.all_eq_true.1 hb.2 i hi
          rw [List.mem_range]
          exact Nat.le_of_ble_eq_true this
    exact key l h ho

/-! a law in parts -/
inductive Sp where
  | leaf
  | node (b : B) (y n : Sp)
def Sp.paths : Sp → PC → List PC
  | .leaf, acc => [acc]
  | .node b y n, acc => y.paths ((b, true) :: acc) ++ n.paths ((b, false) :: acc)
theorem Sp.cover {ρ : Env} : ∀ (t : Sp) (acc : PC), PcH ρ acc → ∃ e ∈ t.paths acc, PcH ρ e
  | .leaf, acc, h => ⟨acc, .head _, h⟩
  | .node b y n, acc, h => by
    cases hb : b.ev ρ
    · obtain ⟨e, he, hp⟩ := Sp.cover n _ (PcH.cons hb h)
      exact ⟨e, List.mem_append_right _ he, hp⟩
    · obtain ⟨e, he, hp⟩ := Sp.cover y _ (PcH.cons hb h)
      exact ⟨e, List.mem_append_left _ he, hp⟩
def addAll : PC → PC → PC
  | [], pc => pc
  | (b, v) :: r, pc => addPc b v (addAll r pc)
theorem addAll_ok {ρ : Env} : ∀ {fs pc : PC}, PcH ρ fs → PcH ρ pc → PcH ρ (addAll fs pc)
  | [], _, _, h => h
  | (b, v) :: _, _, hf, h => addPc_ok b v hf.head (addAll_ok hf.tail h)
/-- a law's run at one form of its arguments, some facts known -/
def lawXF (C : Cfg) (fuel id : Nat) (is : List (Bool × Nat)) (ks : List FK) (p : List Bool) (fs : PC) : Option (List COut) :=
  let m := symM ks p ⟨.nil, 0⟩
  callX C fuel id (argsS is (symL R0 ks p 0 0)) m (addAll fs (startPc m.nx))
def leafGood (C : Cfg) (fuel id : Nat) (ts : List TypeId) (x : List Bool × PC) : Bool := match paramsS C.P ts with
  | some (is, ks) => (match lawXF C fuel id is ks x.1 x.2 with
    | some outs => outs.all goodB
    | none => false)
  | none => false
def allLeaves : List (List Bool × Sp) → List (List Bool × PC)
  | [] => []
  | (p, t) :: r => (t.paths []).map (fun e => (p, e)) ++ allLeaves r
theorem mem_allLeaves : ∀ {l : List (List Bool × Sp)} {p : List Bool} {t : Sp} {e : PC}, (p, t) ∈ l → e ∈ t.paths [] → (p, e) ∈ allLeaves l
  | _ :: _, p, t, e, h, he => by
    simp only [allLeaves]
    rw [List.mem_cons] at h
    rcases h with h | h
    · cases h
      exact List.mem_append_left _ (List.mem_map_of_mem he)
    · exact List.mem_append_right _ (mem_allLeaves h he)
def patBeq : List (List Bool) → List (List Bool × Sp) → Bool
  | [], _ => true
  | p :: ps, l => l.any (fun x => leq (fun a b => a == b) p x.1) && patBeq ps l
theorem patBeq_ok : ∀ {ps : List (List Bool)} {l : List (List Bool × Sp)}, patBeq ps l = true → ∀ p ∈ ps, ∃ t, (p, t) ∈ l
  | [], _, _, p, h => by cases h
  | q :: ps, l, h, p, hp => by
    simp only [patBeq, Bool.and_eq_true] at h
    rw [List.mem_cons] at hp
    rcases hp with rfl | hp
    · obtain ⟨x, hx, he⟩ := List.any_eq_true.1 h.1
      obtain ⟨x1, x2⟩ := x
      have := leq_eq (f := fun (a b : Bool) => a == b) (fun a b h => by simpa using h) he
      simp only at this
      subst this
      exact ⟨x2, hx⟩
    · exact patBeq_ok h.2 p hp
def splitOk (P : Program) (ts : List TypeId) (l : List (List Bool × Sp)) : Bool := match paramsS P ts with
  | some (_, ks) => Nat.ble ks.length R0 && patBeq (patsOf ks) l
  | none => false
/-- one leaf: shown with some tables and memos -/
def LeafOk (P : Program) (id : Nat) (ts : List TypeId) (x : List Bool × PC) : Prop := ∃ (C : Cfg) (fuel : Nat), C.P = P ∧ C.Types ∧ (∀ ρ, HookOk C ρ) ∧ leafGood C fuel id ts x = true
theorem law_split_any {H : Type} {enc : TypeId × Value → H} {P : Program} {id : Nat} {ts : List TypeId} {l : List (List Bool × Sp)}
    (hl : splitOk P ts l = true) (h : ∀ x ∈ allLeaves l, LeafOk P id ts x)
    {W : World} {base : Nat} {args : Array Value} {ds : List (DataW H)} {ps : List MemPlace} {b0 : Nat} {sp : Nat → Bool} {held : Bool} {r : Reach} {us : List TypeId} (hu : us = ts)
    (hok : ∀ (j : Nat) t v, us[j]? = some t → args[j]? = some v → Value.okWide P W r base t v) (ht : DataW.TrodAll enc P W b0 sp held us args.toList ds ps) :
    Calls P id args W fun e W' => e = .returned (.bool true) ∧ RowKit.Below W.heap.size W W' := by
  subst hu
  unfold splitOk at hl
  split at hl
  · rename_i is ks hps
    rw [Bool.and_eq_true] at hl
    have hks := Nat.le_of_ble_eq_true hl.1
    obtain ⟨L, hg, hargs⟩ := open_args hps ht (vs := args.toList) (fun j t v h1 h2 => hok j t v h1 (by simpa using h2))
    have hbl := blks_le hg
    have hrel := symL_rel (R := R0) (bl := blksOf ks L) (L := L) hg [] [] [] rfl (by simp)
    have hm0 : MemRel (envOf W R0 (blksOf ks L) L) [] ⟨.nil, 0⟩ W := ⟨rfl, fun id o h => by simp [Tr.get] at h, fun e he => (by simp at he), fun i j e e' he => (by simp at he), fun id _ => by simp [Tr.get]⟩
    obtain ⟨hm, hro⟩ := symM_rel (R := R0) (bl := blksOf ks L) (L := L) (by omega) hg [] _ (by simp) (by simp) hm0
    have hnx : (symM ks (patOf ks L) ⟨.nil, 0⟩).nx = (blksOf ks L).length := by rw [symM_nx ks W L hg]; simp
    have hpc : PcH (envOf W R0 (blksOf ks L) L) (startPc (symM ks (patOf ks L) ⟨.nil, 0⟩).nx) := startPc_ok _ fun i hi => by
      rw [hnx] at hi
      simp only [envOf, List.getElem?_eq_getElem hi]
      have := cnt_ok hg _ (List.getElem_mem hi)
      omega
    obtain ⟨t, htl⟩ := patBeq_ok hl.2 _ (patOf_mem hg)
    obtain ⟨fs, hfs, hpf⟩ := Sp.cover (ρ := envOf W R0 (blksOf ks L) L) t [] (PcH.nil _)
    obtain ⟨C, fuel, hP, hC, hH, hleaf⟩ := h _ (mem_allLeaves htl hfs)
    subst hP
    unfold leafGood at hleaf
    simp only [hps] at hleaf
    split at hleaf
    · rename_i outs ho
      unfold lawXF at ho
      have hgood : ∀ o ∈ outs, PcH (envOf W R0 (blksOf ks L) L) o.pc → goodOut (envOf W R0 (blksOf ks L) L) o := fun o hoo hp => goodB_ok (List.all_eq_true.1 hleaf o hoo) hp
      have := (callX_ok hC hH ho (addAll_ok hpf hpc) (hargs _ _ _ hrel) hm (fun o hoo k hk hp => by
        obtain ⟨b, hb, _⟩ := hgood o hoo hp
        rw [hb] at hk; cases hk)).mono (R' := fun e W' => e = .returned (.bool true) ∧ RowKit.Below W.heap.size W W') fun e W' ⟨o, hoo, hp, β', hs, hm', he⟩ => by
          obtain ⟨b, hb, hv⟩ := hgood o hoo hp
          rw [hb] at he
          cases e <;> simp only [EndR] at he
          refine ⟨?_, hs.below hro⟩
          rw [show _ = Value.bool _ from he, hv]
      simpa using this
    · cases hleaf
  · cases hl
theorem law_split_of {H : Type} {enc : TypeId × Value → H} {C : Cfg} {P : Program} (hP : C.P = P) (hC : C.Types) (hH : ∀ ρ, HookOk C ρ) {fuel id : Nat} {ts : List TypeId} {l : List (List Bool × Sp)}
    (hl : splitOk P ts l = true) (h : ∀ x ∈ allLeaves l, leafGood C fuel id ts x = true)
    {W : World} {base : Nat} {args : Array Value} {ds : List (DataW H)} {ps : List MemPlace} {b0 : Nat} {sp : Nat → Bool} {held : Bool} {r : Reach} {us : List TypeId} (hu : us = ts)
    (hok : ∀ (j : Nat) t v, us[j]? = some t → args[j]? = some v → Value.okWide P W r base t v) (ht : DataW.TrodAll enc P W b0 sp held us args.toList ds ps) :
    Calls P id args W fun e W' => e = .returned (.bool true) ∧ RowKit.Below W.heap.size W W' :=
  law_split_any hl (fun x hx => ⟨C, fuel, hP, hC, hH, h x hx⟩) hu hok ht
end Go.SX

namespace Go.SX
open Go

def globsM : List (Nat × List (IntKind × Int)) → Mem → Mem
  | [], m => m
  | (g, cs) :: r, m => globsM r (m.push (.glob g cs))
/-- the tables lie where they were laid -/
def GlOk (gl : List (Nat × List (IntKind × Int))) (W : World) : Prop := ∀ x ∈ gl, (∀ p ∈ x.2, inK p.1 p.2 = true) ∧ ∃ arr el fr, W.heap[x.1]? = some (.cells arr el fr) ∧ arr.toList = x.2.map fun p => Value.int p.1 p.2
theorem globsM_rel {ρ : Env} {w : World} : ∀ {gl : List (Nat × List (IntKind × Int))} {β : Bet} {m : Mem}, MemRel ρ β m w → (∀ e ∈ β, e.ro = true) → GlOk gl w → ∃ γ, MemRel ρ (β ++ γ) (globsM gl m) w ∧ ∀ e ∈ β ++ γ, e.ro = true
  | [], β, m, hm, hro, _ => ⟨[], by simpa [globsM] using hm, by simpa using hro⟩
  | (g, cs) :: r, β, m, hm, hro, hg => by
    obtain ⟨h1, arr, el, fr, h2, h3⟩ := hg _ (.head _)
    have hm' := hm.pushRo hro (o := .glob g cs) (e := ⟨g, 0, 0, 0, true⟩) rfl (by simpa using (Array.getElem?_eq_some_iff.1 h2).1) ⟨rfl, rfl, rfl, rfl, h1, arr, el, fr, h2, h3⟩
    obtain ⟨γ, i1, i2⟩ := globsM_rel hm' (fun e he => by
      rcases List.mem_append.1 he with h | h
      · exact hro e h
      · simp at h; rw [h]) (fun x hx => hg x (.tail _ hx))
    exact ⟨⟨g, 0, 0, 0, true⟩ :: γ, by simpa [globsM] using i1, by simpa using i2⟩
def lawXG (C : Cfg) (gl : List (Nat × List (IntKind × Int))) (fuel id : Nat) (is : List (Bool × Nat)) (ks : List FK) (p : List Bool) (fs : PC) : Option (List COut) :=
  let m := symM ks p ⟨.nil, 0⟩
  callX C fuel id (argsS is (symL R0 ks p 0 0)) (globsM gl m) (addAll fs (startPc m.nx))
def leafGoodG (C : Cfg) (gl : List (Nat × List (IntKind × Int))) (fuel id : Nat) (ts : List TypeId) (x : List Bool × PC) : Bool := match paramsS C.P ts with
  | some (is, ks) => (match lawXG C gl fuel id is ks x.1 x.2 with
    | some outs => outs.all goodB
    | none => false)
  | none => false
def LeafOkG (P : Program) (gl : List (Nat × List (IntKind × Int))) (id : Nat) (ts : List TypeId) (x : List Bool × PC) : Prop := ∃ (C : Cfg) (fuel : Nat), C.P = P ∧ C.Types ∧ (∀ ρ, HookOk C ρ) ∧ leafGoodG C gl fuel id ts x = true
theorem law_split_anyG {H : Type} {enc : TypeId × Value → H} {P : Program} {gl : List (Nat × List (IntKind × Int))} {id : Nat} {ts : List TypeId} {l : List (List Bool × Sp)}
    (hl : splitOk P ts l = true) (h : ∀ x ∈ allLeaves l, LeafOkG P gl id ts x)
    {W : World} {base : Nat} {args : Array Value} {ds : List (DataW H)} {ps : List MemPlace} {b0 : Nat} {sp : Nat → Bool} {held : Bool} {r : Reach} {us : List TypeId} (hu : us = ts) (hG : GlOk gl W)
    (hok : ∀ (j : Nat) t v, us[j]? = some t → args[j]? = some v → Value.okWide P W r base t v) (ht : DataW.TrodAll enc P W b0 sp held us args.toList ds ps) :
    Calls P id args W fun e W' => e = .returned (.bool true) ∧ RowKit.Below W.heap.size W W' := by
  subst hu
  unfold splitOk at hl
  split at hl
  · rename_i is ks hps
    rw [Bool.and_eq_true] at hl
    have hks := Nat.le_of_ble_eq_true hl.1
    obtain ⟨L, hg, hargs⟩ := open_args hps ht (vs := args.toList) (fun j t v h1 h2 => hok j t v h1 (by simpa using h2))
    have hbl := blks_le hg
    have hrel := symL_rel (R := R0) (bl := blksOf ks L) (L := L) hg [] [] [] rfl (by simp)
    have hm0 : MemRel (envOf W R0 (blksOf ks L) L) [] ⟨.nil, 0⟩ W := ⟨rfl, fun id o h => by simp [Tr.get] at h, fun e he => (by simp at he), fun i j e e' he => (by simp at he), fun id _ => by simp [Tr.get]⟩
    obtain ⟨hm, hro⟩ := symM_rel (R := R0) (bl := blksOf ks L) (L := L) (by omega) hg [] _ (by simp) (by simp) hm0
    obtain ⟨γ, hmG, hroG⟩ := globsM_rel hm hro hG
    have hnx : (symM ks (patOf ks L) ⟨.nil, 0⟩).nx = (blksOf ks L).length := by rw [symM_nx ks W L hg]; simp
    have hpc : PcH (envOf W R0 (blksOf ks L) L) (startPc (symM ks (patOf ks L) ⟨.nil, 0⟩).nx) := startPc_ok _ fun i hi => by
      rw [hnx] at hi
      simp only [envOf, List.getElem?_eq_getElem hi]
      have := cnt_ok hg _ (List.getElem_mem hi)
      omega
    obtain ⟨t, htl⟩ := patBeq_ok hl.2 _ (patOf_mem hg)
    obtain ⟨fs, hfs, hpf⟩ := Sp.cover (ρ := envOf W R0 (blksOf ks L) L) t [] (PcH.nil _)
    obtain ⟨C, fuel, hP, hC, hH, hleaf⟩ := h _ (mem_allLeaves htl hfs)
    subst hP
    unfold leafGoodG at hleaf
    simp only [hps] at hleaf
    split at hleaf
    · rename_i outs ho
      unfold lawXG at ho
      have hgood : ∀ o ∈ outs, PcH (envOf W R0 (blksOf ks L) L) o.pc → goodOut (envOf W R0 (blksOf ks L) L) o := fun o hoo hp => goodB_ok (List.all_eq_true.1 hleaf o hoo) hp
      have := (callX_ok hC hH ho (addAll_ok hpf hpc) (relL_mono γ _ _ (hargs _ _ _ hrel)) hmG (fun o hoo k hk hp => by
        obtain ⟨b, hb, _⟩ := hgood o hoo hp
        rw [hb] at hk; cases hk)).mono (R' := fun e W' => e = .returned (.bool true) ∧ RowKit.Below W.heap.size W W') fun e W' ⟨o, hoo, hp, β', hs, hm', he⟩ => by
          obtain ⟨b, hb, hv⟩ := hgood o hoo hp
          rw [hb] at he
          cases e <;> simp only [EndR] at he
          refine ⟨?_, hs.below hroG⟩
          rw [show _ = Value.bool _ from he, hv]
      simpa using this
    · cases hleaf
  · cases hl
/-- a table, out of what the row's condition says -/
theorem glOk_of_var {P : Program} {W : World} {name : String} {g : Nat} {cs : List (IntKind × Int)} (hg : P.globalNamed name = some g) (hv : W.var? P name = some (cs.map fun p => Value.int p.1 p.2).toArray) (hk : (cs.all fun p => inK p.1 p.2) = true)
    {gl : List (Nat × List (IntKind × Int))} (h : GlOk gl W) : GlOk ((g, cs) :: gl) W := fun x hx => by
  rcases List.mem_cons.1 hx with rfl | hx
  · refine ⟨fun p hp => List.all_eq_true.1 hk p hp, ?_⟩
    have := hv
    simp only [World.var?, hg, Option.bind_some] at this
    split at this
    · rename_i arr el fr hh
      exact ⟨arr, el, fr, hh, by rw [Option.some.inj this]⟩
    · cases this
  · exact h x hx
theorem laid_var {P : Program} {W : World} : ∀ {laid : List (String × DataW Unit)} {ps : List MemPlace}, DataW.LaidVars P W laid ps → ∀ {name : String} {d : DataW Unit}, (name, d) ∈ laid →
    ∃ g t cs fuel p, P.globalNamed name = some g ∧ (P.globals[g]?).map (·.type) = some t ∧ W.var? P name = some cs ∧ DataW.trod (fun _ => ()) P W 0 (fun _ => true) false fuel t cs.toList = some (d, p)
  | [], _, _, name, d, hm => by cases hm
  | (n, d) :: r, ps, ⟨g, t, cs, fuel, p, q, h1, h2, h3, h4, h5, h6⟩, name, d', hm => by
    rw [List.mem_cons] at hm
    rcases hm with hm | hm
    · cases hm; exact ⟨g, t, cs, fuel, p, h1, h2, h3, h4⟩
    · exact laid_var h5 hm
/-- a table of the row's condition -/
theorem glOk_of_laid {P : Program} {W : World} {laid : List (String × DataW Unit)} (h : laidMet P laid W) {name : String} {k : IntKind} {zs : List Int} (hm : (name, Lib.tabData k zs) ∈ laid) {g : Nat} {t e : TypeId} {n : Nat}
    (hg : P.globalNamed name = some g) (hty : (P.globals[g]?).map (·.type) = some t) (ht : P.underlying t = some (.array n e)) (he : P.underlying e = some (.int k)) (hce : P.cellsOf e = 1) (hct : P.cellsOf t = n) (hk : (zs.all fun z => inK k z) = true)
    {gl : List (Nat × List (IntKind × Int))} (hr : GlOk gl W) : GlOk ((g, zs.map fun z => (k, z)) :: gl) W := by
  obtain ⟨ps, hl, _⟩ := h
  obtain ⟨g', t', cs, fuel, p, h1, h2, h3, h4⟩ := laid_var hl hm
  obtain rfl := Option.some.inj (hg.symm.trans h1)
  obtain rfl := Option.some.inj (hty.symm.trans h2)
  refine glOk_of_var hg ?_ ?_ hr
  · rw [h3]
    have := Lib.cells_of_tab ht he hce hct h4
    rw [List.map_map]
    congr 1
    rw [← Array.toList_inj, this]
    rfl
  · rw [List.all_map]
    exact hk
theorem glOk_nil (W : World) : GlOk [] W := fun _ h => by cases h
end Go.SX

namespace Go.SX
open Go

structure VMemo where
  f : Nat
  args : List SV
  outs : List (PC × SV)
  pans : List (PC × SV) := []
/-- its ends -/
def VMemo.ends (e : VMemo) : List (PC × CEnd) := e.outs.map (fun x => (x.1, CEnd.ret x.2)) ++ e.pans.map (fun x => (x.1, CEnd.panic x.2))
def vMem0 : Mem := ⟨.nil, 0⟩
def vOuts (C : Cfg) (fuel : Nat) (f : Nat) (args : List SV) : Option (List COut) := match callXL C [] fuel f args vMem0 [] with
  | some l => some (joined C f [] vMem0 [] l)
  | none => none
def vEnd : CEnd → CEnd → Bool
  | .ret v, .ret u => SV.beq v u && under 0 v
  | .panic v, .panic u => SV.beq v u && under 0 v
  | _, _ => false
def valOfE : CEnd → Option SV
  | .ret v => some v
  | .panic v => some v
  | .stuck _ => none
theorem vEnd_ok {a b : CEnd} (h : vEnd a b = true) : a = b ∧ ∃ v, valOfE b = some v ∧ under 0 v = true := by
  cases a <;> cases b <;> simp only [vEnd, Bool.and_eq_true, Bool.false_eq_true] at h
  · have := SV.beq_eq h.1
    subst this
    exact ⟨rfl, _, rfl, h.2⟩
  · have := SV.beq_eq h.1
    subst this
    exact ⟨rfl, _, rfl, h.2⟩
def vSub : List COut → List (PC × CEnd) → Bool
  | [], [] => true
  | c :: cs, e :: es => vEnd c.ex e.2 && subPc e.1 c.pc && vSub cs es
  | _, _ => false
theorem vSub_ok : ∀ {cs : List COut} {es : List (PC × CEnd)}, vSub cs es = true → ∀ c ∈ cs, ∃ e ∈ es, c.ex = e.2 ∧ (∃ v, valOfE e.2 = some v ∧ under 0 v = true) ∧ subPc e.1 c.pc = true
  | [], _, _, c, h => by cases h
  | x :: cs, [], h, _, _ => by simp [vSub] at h
  | x :: cs, e :: es, h, c, hc => by
    simp only [vSub, Bool.and_eq_true] at h
    rw [List.mem_cons] at hc
    rcases hc with rfl | hc
    · obtain ⟨⟨h1, h2⟩, _⟩ := h
      obtain ⟨k1, k2⟩ := vEnd_ok h1
      exact ⟨e, .head _, k1, k2, h2⟩
    · obtain ⟨e', he', hs⟩ := vSub_ok h.2 c hc
      exact ⟨e', .tail _ he', hs⟩
def VMemo.ok (C : Cfg) (fuel : Nat) (e : VMemo) : Bool := underL 0 e.args && (match vOuts C fuel e.f e.args with
  | some l => vSub l e.ends
  | none => false)
def vFind (f : Nat) (args : List SV) : List VMemo → Option (List (PC × CEnd))
  | [] => none
  | e :: r => bif Nat.beq e.f f && leq SV.beq args e.args then some e.ends else vFind f args r
/-- facts that are not there yet -/
def newPc (pc l : PC) : PC := l.filter fun y => !(pc.any (pcItem y))
def vHook (l : List VMemo) (f : Nat) (args : List SV) (mem : Mem) (pc : PC) (_ : List Nat) : Option (List COut) :=
  bif l.any (fun e => Nat.beq e.f f) then (match vFind f args l with
    | some outs => some (outs.map fun x => ⟨newPc pc x.1 ++ pc, mem, x.2⟩)
    | none => none) else none
theorem endR_any {ρ : Env} {β β' : Bet} {x : CEnd} {v : SV} {en : Ending} (hx : valOfE x = some v) (hu : under 0 v = true) (h : EndR ρ β' x en) : EndR ρ β x en := by
  cases x with
  | stuck k => cases hx
  | ret u =>
    cases hx
    cases en <;> simp only [EndR] at h ⊢
    exact rel_any (β := β') hu h
  | panic u =>
    cases hx
    cases en <;> simp only [EndR] at h ⊢
    obtain ⟨w, h1, h2⟩ := h
    exact ⟨w, rel_any (β := β') hu h1, h2⟩
theorem vFind_some {f : Nat} {args : List SV} : ∀ {l : List VMemo} {outs : List (PC × CEnd)}, vFind f args l = some outs → ∃ e ∈ l, e.f = f ∧ args = e.args ∧ outs = e.ends
  | e :: r, outs, h => by
    simp only [vFind] at h
    cases hc : Nat.beq e.f f && leq SV.beq args e.args
    · rw [hc] at h
      obtain ⟨e', he', hs⟩ := vFind_some (l := r) h
      exact ⟨e', .tail _ he', hs⟩
    · rw [hc] at h
      cases h
      rw [Bool.and_eq_true] at hc
      exact ⟨e, .head _, Nat.eq_of_beq_eq_true hc.1, leq_eq (fun _ _ => SV.beq_eq) hc.2, rfl⟩
theorem vHook_ok {C0 : Cfg} (hC : C0.Types) (hH : ∀ ρ, HookOk C0 ρ) {fuel : Nat} {l : List VMemo} (h : ∀ e ∈ l, VMemo.ok C0 fuel e = true) {C : Cfg} (hP : C.P = C0.P) (hk : C.hook = vHook l) : ∀ ρ, HookOk C ρ := by
  intro ρ f args mem pc lk outs ho β w vs hp hr hm _
  rw [hk] at ho
  unfold vHook at ho
  cases hany : l.any (fun e => Nat.beq e.f f)
  · rw [hany] at ho; cases ho
  rw [hany] at ho
  simp only [cond_true] at ho
  split at ho
  · rename_i os hos
    cases ho
    obtain ⟨e, he, rfl, rfl, rfl⟩ := vFind_some hos
    have hok := h e he
    simp only [VMemo.ok, Bool.and_eq_true] at hok
    obtain ⟨hu, hok⟩ := hok
    unfold vOuts at hok
    split at hok
    · rename_i l2 hl2
      split at hl2
      · rename_i l0 hl0
        cases hl2
        have hr0 : relL ρ [] e.args vs := underL_rel (β := []) (γ := β) _ _ hu hr
        have hm0 : MemRel ρ [] vMem0 w := ⟨rfl, fun id o h => (by simp [vMem0, Tr.get] at h), fun e he => (by cases he), fun i j e e' he => (by simp at he), fun id _ => (by simp [vMem0, Tr.get])⟩
        have hp0 : PcH ρ [] := fun x hx => by cases hx
        have hns : NoStuckC ρ (joined C0 e.f [] vMem0 [] l0) := fun o ho k hk _ => by
          obtain ⟨x, _, hx, ⟨v, hv, _⟩, _⟩ := vSub_ok hok o ho
          rw [← hx, hk] at hv; cases hv
        rw [hP]
        refine (callXL_ok hC hH hl0 hp0 hr0 hm0 (joined_stuck hns)).mono fun en w' hq => ?_
        obtain ⟨o, ho, hpc, β', hst, hm', hen⟩ := joined_post (C := C0) (id := e.f) hns hp0 hm0 hq
        obtain ⟨x, hx, hxe, ⟨v0, hxv, hxu⟩, hxs⟩ := vSub_ok hok o ho
        have hkeep : ∀ k, k < w.heap.size → w'.heap[k]? = w.heap[k]? := fun k hk => hst.keep k hk fun e he => by cases he
        refine ⟨_, List.mem_map_of_mem hx, ?_, β, ⟨⟨[], by simp, by simp⟩, hst.os, hst.tape, hst.output, hst.size, fun k hk _ => hkeep k hk, fun id _ e he => hkeep _ (hm.lt e (List.mem_of_getElem? he))⟩,
          ⟨hm.nx, fun id ob hob => ?_, fun e he => Nat.lt_of_lt_of_le (hm.lt e he) hst.size, hm.apart, hm.dom⟩, ?_⟩
        · intro y hy
          rcases List.mem_append.1 hy with hy | hy
          · exact subPc_ok hxs hpc y (List.mem_filter.1 hy).1
          · exact hp y hy
        · obtain ⟨eb, heb, r⟩ := hm.obj id ob hob
          exact ⟨eb, heb, objRel_heap r (hkeep _ (hm.lt eb (List.mem_of_getElem? heb)))⟩
        · rw [hxe] at hen
          exact endR_any hxv hxu hen
      · cases hl2
    · cases hok
  · cases ho
/-- memos, and ahead of all a hook of one's own -/
def memoHook2 (h0 : Nat → List SV → Mem → PC → List Nat → Option (List COut)) (l : List Memo) (f : Nat) (args : List SV) (mem : Mem) (pc : PC) (lk : List Nat) : Option (List COut) := match h0 f args mem pc lk with
  | some r => some r
  | none => memoHook l f args mem pc lk
theorem memoHook2_ok {C0 C : Cfg} (hC : C0.Types) (hH : ∀ ρ, HookOk C0 ρ) {h0 : Nat → List SV → Mem → PC → List Nat → Option (List COut)} (h0k : C0.hook = h0) {fuel : Nat} {l : List Memo} (h : ∀ e ∈ l, Memo.ok C0 fuel e = true) (hP : C.P = C0.P) (hk : C.hook = memoHook2 h0 l) : ∀ ρ, HookOk C ρ := by
  intro ρ f args mem pc lk outs ho β w vs hp hr hm hn
  rw [hk] at ho
  unfold memoHook2 at ho
  split at ho
  · rename_i r0 hr0
    cases ho
    have := hH ρ f args mem pc lk _ (by rw [h0k]; exact hr0) β w vs hp hr hm hn
    rw [hP]; exact this
  · exact memoHook_ok (C := { C with hook := memoHook l }) hC hH h hP rfl ρ f args mem pc lk outs ho β w vs hp hr hm hn
end Go.SX

namespace Go.SX
open Go

structure MemoW where
  f : Nat
  args : List SV
  mem : Mem
  pc : PC
  /-- the blocks that may be written -/
  free : List Nat
  outs : List COut
def lockW (nx : Nat) (free : List Nat) : List Nat := (List.range nx).filter fun i => !(memB i free)
def callW (C : Cfg) (fuel id : Nat) (args : List SV) (mem : Mem) (pc : PC) (free : List Nat) : Option (List COut) := match callXL C (lockW mem.nx free) fuel id args mem pc with
  | some l => some (joined C id (lockW mem.nx free) mem pc l)
  | none => none
def MemoW.ok (C : Cfg) (fuel : Nat) (e : MemoW) : Bool := match callW C fuel e.f e.args e.mem e.pc e.free with
  | some l => coutsSub l e.outs && noStuckL l
  | none => false
def MemoW.hit (e : MemoW) (f : Nat) (args : List SV) (mem : Mem) (pc : PC) (lk : List Nat) : Bool := Nat.beq e.f f && leq SV.beq args e.args && subPc e.pc pc && Mem.beq mem e.mem && lk.all (fun i => Nat.blt i mem.nx && !(memB i e.free))
def memoWFind (f : Nat) (args : List SV) (mem : Mem) (pc : PC) (lk : List Nat) : List MemoW → Option (List COut)
  | [] => none
  | e :: r => bif MemoW.hit e f args mem pc lk then some (e.outs.map fun o => ⟨o.pc ++ pc, o.mem, o.ex⟩) else memoWFind f args mem pc lk r
def memoWHook (l : List MemoW) (f : Nat) (args : List SV) (mem : Mem) (pc : PC) (lk : List Nat) : Option (List COut) :=
  bif l.any (fun e => Nat.beq e.f f) then memoWFind f args mem pc lk l else none
theorem MemoW.calls {C : Cfg} (hC : C.Types) (hH : ∀ ρ, HookOk C ρ) {fuel : Nat} {e : MemoW} (h : MemoW.ok C fuel e = true) {ρ : Env} {β : Bet} {w : World} {vs : List Value} {pc : PC} (hs : subPc e.pc pc = true)
    (hp : PcH ρ pc) (hr : relL ρ β e.args vs) (hm : MemRel ρ β e.mem w) : Calls C.P e.f vs.toArray w (CPost ρ β (lockW e.mem.nx e.free) w (e.outs.map fun o => ⟨o.pc ++ pc, o.mem, o.ex⟩)) := by
  unfold MemoW.ok callW at h
  split at h
  · rename_i l hl
    split at hl
    · rename_i l0 hl0
      cases hl
      rw [Bool.and_eq_true] at h
      have hp0 := subPc_ok hs hp
      have hns : NoStuckC ρ (joined C e.f (lockW e.mem.nx e.free) e.mem e.pc l0) := fun o ho k hk _ => by
        have := List.all_eq_true.1 h.2 o ho
        rw [hk] at this; cases this
      refine (callXL_ok hC hH hl0 hp0 hr hm (joined_stuck hns)).mono fun en w' hq => ?_
      obtain ⟨o, ho, hpc, β', hst, hm', he⟩ := joined_post (C := C) (id := e.f) hns hp0 hm hq
      obtain ⟨o', ho', hs'⟩ := coutsSub_ok h.1 o ho
      simp only [coutSub, Bool.and_eq_true] at hs'
      obtain ⟨⟨e1, e2⟩, e3⟩ := hs'
      refine ⟨_, List.mem_map_of_mem ho', ?_, β', hst, ?_, ?_⟩
      · intro x hx
        rcases List.mem_append.1 hx with hx | hx
        · exact subPc_ok e3 hpc x hx
        · exact hp x hx
      · simp only; rw [← Mem.beq_eq e2]; exact hm'
      · simp only; rw [← exBeq_eq e1]; exact he
    · cases hl
  · cases h
theorem memoWHook_ok {C0 : Cfg} (hC : C0.Types) (hH : ∀ ρ, HookOk C0 ρ) {fuel : Nat} {l : List MemoW} (h : ∀ e ∈ l, MemoW.ok C0 fuel e = true) {C : Cfg} (hP : C.P = C0.P) (hk : C.hook = memoWHook l) : ∀ ρ, HookOk C ρ := by
  intro ρ f args mem pc lk outs ho β w vs hp hr hm _
  rw [hk] at ho
  rw [hP]
  unfold memoWHook at ho
  obtain ⟨_, ho⟩ := bif_some ho
  · have key : ∀ (l : List MemoW), (∀ e ∈ l, MemoW.ok C0 fuel e = true) → memoWFind f args mem pc lk l = some outs → Calls C0.P f vs.toArray w (CPost ρ β lk w outs) := by
      intro l
      induction l with
      | nil => intro _ h; cases h
      | cons e r ih =>
        intro hl hf
        simp only [memoWFind] at hf
        cases hh : MemoW.hit e f args mem pc lk
        · rw [hh] at hf
          exact ih (fun x hx => hl x (.tail _ hx)) hf
        · rw [hh] at hf
          simp only [cond_true, Option.some.injEq] at hf
          subst hf
          simp only [MemoW.hit, Bool.and_eq_true] at hh
          obtain ⟨⟨⟨⟨h1, h2⟩, h3⟩, h4⟩, h5⟩ := hh
          have h1 := Nat.eq_of_beq_eq_true h1
          have h2 := leq_eq (fun _ _ => SV.beq_eq) h2
          have h4 := Mem.beq_eq h4
          subst h1; subst h2; subst h4
          refine (MemoW.calls hC hH (hl e (.head _)) h3 hp hr hm).mono fun en w' ⟨o, ho, hpc, β', hst, r⟩ => ⟨o, ho, hpc, β', hst.unlock fun i hi => ?_, r⟩
          have := List.all_eq_true.1 h5 i hi
          rw [Bool.and_eq_true] at this
          unfold lockW
          exact List.mem_filter.2 ⟨List.mem_range.2 (Nat.le_of_ble_eq_true this.1), this.2⟩
    exact key l h ho
/-- two hooks, one ahead of the other -/
def orHook (h0 h1 : Nat → List SV → Mem → PC → List Nat → Option (List COut)) (f : Nat) (args : List SV) (mem : Mem) (pc : PC) (lk : List Nat) : Option (List COut) := match h0 f args mem pc lk with
  | some r => some r
  | none => h1 f args mem pc lk
theorem orHook_ok {C0 C1 C : Cfg} (h0 : ∀ ρ, HookOk C0 ρ) (h1 : ∀ ρ, HookOk C1 ρ) (p0 : C.P = C0.P) (p1 : C.P = C1.P) (hk : C.hook = orHook C0.hook C1.hook) : ∀ ρ, HookOk C ρ := by
  intro ρ f args mem pc lk outs ho β w vs hp hr hm hn
  rw [hk] at ho
  unfold orHook at ho
  split at ho
  · rename_i r0 hr0
    cases ho
    rw [p0]; exact h0 ρ f args mem pc lk _ hr0 β w vs hp hr hm hn
  · rw [p1]; exact h1 ρ f args mem pc lk _ ho β w vs hp hr hm hn
end Go.SX
