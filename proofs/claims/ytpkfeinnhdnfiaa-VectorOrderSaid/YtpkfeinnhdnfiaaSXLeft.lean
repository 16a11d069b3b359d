/- SX, part 17: a law's ends that the executor alone does not close: told as facts on numbers and truths, to be shown by hand. -/
import Derived.Test.YtpkfeinnhdnfiaaSXLaw
namespace Go.SX
open Go

def InH (ρ : Env) (S : List SV) : Prop := ∀ k t, SV.int k t ∈ S → inK k (t.ev ρ) = true
theorem InH_of_rel {ρ : Env} {β : Bet} : ∀ {S : List SV} {L : List Value}, relL ρ β S L → InH ρ S
  | [], _, _, k, t, h => by cases h
  | s :: S, _, h, k, t, hm => by
    obtain ⟨v, vs, rfl, h1, h2⟩ := h
    rw [List.mem_cons] at hm
    rcases hm with rfl | hm
    · exact h1.2
    · exact InH_of_rel h2 k t hm
theorem law_callsI {H : Type} {enc : TypeId × Value → H} {C : Cfg} (hC : C.Types) (hH : ∀ ρ, HookOk C ρ) {fuel id : Nat} {ts : List TypeId} {is : List (Bool × Nat)} {ks : List FK} (hps : paramsS C.P ts = some (is, ks)) (hks : ks.length ≤ R0)
    (hx : ∀ p ∈ patsOf ks, ∃ outs, lawX C fuel id is ks p = some outs ∧ ∀ ρ, InH ρ (symL R0 ks p 0 0) → ∀ o ∈ outs, PcH ρ o.pc → goodOut ρ o)
    {W : World} {base : Nat} {vs : List Value} {ds : List (DataW H)} {ps : List MemPlace} {b0 : Nat} {sp : Nat → Bool} {held : Bool} {r : Reach}
    (hok : ∀ (j : Nat) t v, ts[j]? = some t → vs[j]? = some v → Value.okWide C.P W r base t v) (ht : DataW.TrodAll enc C.P W b0 sp held ts vs ds ps) :
    Calls C.P id vs.toArray W fun e W' => e = .returned (.bool true) ∧ RowKit.Below W.heap.size W W' := by
  obtain ⟨L, hg, hargs⟩ := open_args hps ht hok
  have hbl := blks_le hg
  have hrel := symL_rel (R := R0) (bl := blksOf ks L) (L := L) hg [] [] [] rfl (by simp)
  have hm0 : MemRel (envOf W R0 (blksOf ks L) L) [] ⟨.nil, 0⟩ W := ⟨rfl, fun id o h => by simp [Tr.get] at h, fun e he => (by simp at he), fun i j e e' he => (by simp at he), fun id _ => by simp [Tr.get]⟩
  obtain ⟨hm, hro⟩ := symM_rel (R := R0) (bl := blksOf ks L) (L := L) (by omega) hg [] _ (by simp) (by simp) hm0
  obtain ⟨outs, ho, hgood⟩ := hx _ (patOf_mem hg)
  have hin := InH_of_rel hrel
  unfold lawX at ho
  have hnx : (symM ks (patOf ks L) ⟨.nil, 0⟩).nx = (blksOf ks L).length := by rw [symM_nx ks W L hg]; simp
  have hpc : PcH (envOf W R0 (blksOf ks L) L) (startPc (symM ks (patOf ks L) ⟨.nil, 0⟩).nx) := startPc_ok _ fun i hi => by
    rw [hnx] at hi
    simp only [envOf, List.getElem?_eq_getElem hi]
    have := cnt_ok hg _ (List.getElem_mem hi)
    omega
  refine (callX_ok hC hH ho hpc (hargs _ _ _ hrel) hm (fun o hoo k hk hp => ?_)).mono fun e W' ⟨o, hoo, hp, β', hs, hm', he⟩ => ?_
  · obtain ⟨b, hb, _⟩ := hgood _ hin o hoo hp
    rw [hb] at hk; cases hk
  · obtain ⟨b, hb, hv⟩ := hgood _ hin o hoo hp
    rw [hb] at he
    cases e <;> simp only [EndR] at he
    refine ⟨?_, hs.below hro⟩
    rw [show _ = Value.bool _ from he, hv]

/-! what is left -/
def factIn (ρ : Env) : List SV → Prop → Prop
  | [], G => G
  | .int k t :: r, G => kLo k ≤ t.ev ρ → t.ev ρ ≤ kHi k → factIn ρ r G
  | _ :: r, G => factIn ρ r G
theorem factIn_ok {ρ : Env} {G : Prop} : ∀ {S : List SV}, InH ρ S → factIn ρ S G → G
  | [], _, h => h
  | s :: S, hi, h => by
    have hi' : InH ρ S := fun k t hm => hi k t (.tail _ hm)
    cases s <;> first
      | (have := (inK_iff _ _).1 (hi _ _ (.head _))
         exact factIn_ok hi' (h this.1 this.2))
      | exact factIn_ok hi' h
/-- a truth, as a statement -/
def B.pv (ρ : Env) : B → Prop
  | .lit b => b = true
  | .var n => ρ.bv n = true
  | .cell r i f => ρ.bc r (T.ev ρ i) f = true
  | .eqI a b => T.ev ρ a = T.ev ρ b
  | .ltI a b => T.ev ρ a < T.ev ρ b
  | .eqB a b => (B.pv ρ a ↔ B.pv ρ b)
  | .not a => ¬ B.pv ρ a
  | .and a b => B.pv ρ a ∧ B.pv ρ b
  | .ite c a b => (B.pv ρ c → B.pv ρ a) ∧ (¬ B.pv ρ c → B.pv ρ b)
  | .all k l b => B.ev ρ (.all k l b) = true
theorem B.pv_iff (ρ : Env) : ∀ b : B, B.ev ρ b = true ↔ B.pv ρ b
  | .lit b => Iff.rfl
  | .var n => Iff.rfl
  | .cell r i f => Iff.rfl
  | .eqI a b => by simp only [B.ev, B.pv, beq_iff_eq]
  | .ltI a b => by simp only [B.ev, B.pv, decide_eq_true_eq]
  | .eqB a b => by
    have h1 := B.pv_iff ρ a
    have h2 := B.pv_iff ρ b
    simp only [B.ev, B.pv, beq_iff_eq, ← h1, ← h2]
    exact Bool.eq_iff_iff
  | .not a => by
    have h1 := B.pv_iff ρ a
    simp only [B.ev, B.pv, ← h1, Bool.not_eq_true', Bool.not_eq_true]
  | .and a b => by
    have h1 := B.pv_iff ρ a
    have h2 := B.pv_iff ρ b
    simp only [B.ev, B.pv, ← h1, ← h2, Bool.and_eq_true]
  | .ite c a b => by
    have h0 := B.pv_iff ρ c
    have h1 := B.pv_iff ρ a
    have h2 := B.pv_iff ρ b
    simp only [B.ev, B.pv, ← h0, ← h1, ← h2]
    cases B.ev ρ c <;> simp
  | .all k l b => Iff.rfl
def factPc (ρ : Env) : PC → Prop → Prop
  | [], G => G
  | (b, true) :: r, G => B.pv ρ b → factPc ρ r G
  | (b, false) :: r, G => ¬ B.pv ρ b → factPc ρ r G
theorem factPc_ok {ρ : Env} {G : Prop} : ∀ {pc : PC}, PcH ρ pc → factPc ρ pc G → G
  | [], _, h => h
  | (b, true) :: _, hp, h => factPc_ok hp.tail (h ((B.pv_iff ρ b).1 hp.head))
  | (b, false) :: _, hp, h => factPc_ok hp.tail (h fun hc => by
    have h1 := hp.head
    rw [(B.pv_iff ρ b).2 hc] at h1
    cases h1)
def leftL : List COut → Option (List (PC × B))
  | [] => some []
  | o :: os => (match leftL os with
    | none => none
    | some l => bif goodB o then some l else (match o.ex with
      | .ret (.bool b) => some ((o.pc, simpB o.pc b) :: l)
      | _ => none))
def LeftH (ρ : Env) (S : List SV) : List (PC × B) → Prop
  | [] => True
  | (pc, b) :: r => factIn ρ S (factPc ρ pc (B.pv ρ b)) ∧ LeftH ρ S r
theorem leftL_ok {ρ : Env} {S : List SV} (hS : InH ρ S) : ∀ {os : List COut} {l : List (PC × B)}, leftL os = some l → LeftH ρ S l → ∀ o ∈ os, PcH ρ o.pc → goodOut ρ o
  | [], _, _, _, o, ho, _ => by cases ho
  | x :: os, l, h, hl, o, ho, hp => by
    simp only [leftL] at h
    split at h
    · cases h
    · rename_i l' hl'
      cases hg : goodB x
      · rw [hg] at h
        simp only [cond_false] at h
        split at h
        · rename_i b hb
          cases h
          rw [List.mem_cons] at ho
          rcases ho with rfl | ho
          · refine ⟨b, hb, ?_⟩
            rw [← simpB_ev hp b]
            exact (B.pv_iff ρ _).2 (factPc_ok hp (factIn_ok hS hl.1))
          · exact leftL_ok hS hl' hl.2 o ho hp
        · cases h
      · rw [hg] at h
        cases h
        rw [List.mem_cons] at ho
        rcases ho with rfl | ho
        · exact goodB_ok hg hp
        · exact leftL_ok hS hl' hl o ho hp
def lftBeq (a b : PC × B) : Bool := leq pcItem a.1 b.1 && B.beq a.2 b.2
theorem lftBeq_eq (a b : PC × B) (h : lftBeq a b = true) : a = b := by
  obtain ⟨a1, a2⟩ := a
  obtain ⟨b1, b2⟩ := b
  simp only [lftBeq, Bool.and_eq_true] at h
  rw [leq_eq pcItem_eq h.1, B.beq_eq h.2]
def leftOne (C : Cfg) (fuel id : Nat) (is : List (Bool × Nat)) (ks : List FK) (p : List Bool) (S : List SV) (l : List (PC × B)) : Bool := match lawX C fuel id is ks p with
  | some outs => (match leftL outs with | some l' => leq lftBeq l' l && leq SV.beq S (symL R0 ks p 0 0) | none => false)
  | none => false
def leftAll (C : Cfg) (fuel id : Nat) (is : List (Bool × Nat)) (ks : List FK) : List (List Bool) → List (List SV × List (PC × B)) → Bool
  | [], _ => true
  | p :: ps, (S, l) :: r => leftOne C fuel id is ks p S l && leftAll C fuel id is ks ps r
  | _, _ => false
def lawLeft (C : Cfg) (fuel id : Nat) (ts : List TypeId) (r : List (List SV × List (PC × B))) : Bool := match paramsS C.P ts with
  | some (is, ks) => Nat.ble ks.length R0 && leftAll C fuel id is ks (patsOf ks) r
  | none => false
def LeftsH (ρ : Env) : List (List SV × List (PC × B)) → Prop
  | [] => True
  | (S, l) :: r => LeftH ρ S l ∧ LeftsH ρ r
theorem leftAll_ok {C : Cfg} {fuel id : Nat} {is : List (Bool × Nat)} {ks : List FK} : ∀ {ps : List (List Bool)} {r : List (List SV × List (PC × B))}, leftAll C fuel id is ks ps r = true → (∀ ρ, LeftsH ρ r) →
    ∀ p ∈ ps, ∃ outs, lawX C fuel id is ks p = some outs ∧ ∀ ρ, InH ρ (symL R0 ks p 0 0) → ∀ o ∈ outs, PcH ρ o.pc → goodOut ρ o
  | [], _, _, _, p, hp => by cases hp
  | q :: ps, [], h, _, p, hp => by simp [leftAll] at h
  | q :: ps, (S, l) :: r, h, hr, p, hp => by
    simp only [leftAll, Bool.and_eq_true] at h
    rw [List.mem_cons] at hp
    rcases hp with rfl | hp
    · have h1 := h.1
      unfold leftOne at h1
      split at h1
      · rename_i outs ho
        split at h1
        · rename_i l' hl'
          rw [Bool.and_eq_true] at h1
          have e1 := leq_eq lftBeq_eq h1.1
          have e2 := leq_eq (fun _ _ => SV.beq_eq) h1.2
          subst e1; subst e2
          exact ⟨outs, ho, fun ρ hi => leftL_ok hi hl' (hr ρ).1⟩
        · cases h1
      · cases h1
    · exact leftAll_ok h.2 (fun ρ => (hr ρ).2) p hp
theorem law_left {H : Type} {enc : TypeId × Value → H} {C : Cfg} (hC : C.Types) (hH : ∀ ρ, HookOk C ρ) {fuel id : Nat} {ts : List TypeId} {l : List (List SV × List (PC × B))} (h : lawLeft C fuel id ts l = true) (hl : ∀ ρ, LeftsH ρ l)
    {W : World} {base : Nat} {args : Array Value} {ds : List (DataW H)} {ps : List MemPlace} {b0 : Nat} {sp : Nat → Bool} {held : Bool} {r : Reach}
    (hok : ∀ (j : Nat) t v, ts[j]? = some t → args[j]? = some v → Value.okWide C.P W r base t v) (ht : DataW.TrodAll enc C.P W b0 sp held ts args.toList ds ps) :
    Calls C.P id args W fun e W' => e = .returned (.bool true) ∧ RowKit.Below W.heap.size W W' := by
  unfold lawLeft at h
  split at h
  · rename_i is ks hps
    rw [Bool.and_eq_true] at h
    have := law_callsI hC hH (fuel := fuel) (id := id) hps (Nat.le_of_ble_eq_true h.1) (leftAll_ok h.2 hl) (vs := args.toList) (fun j t v h1 h2 => hok j t v h1 (by simpa using h2)) ht
    simpa using this
  · cases h
/-- the same, the program told apart -/
theorem law_left_of {H : Type} {enc : TypeId × Value → H} {C : Cfg} {P : Program} (hP : C.P = P) (hC : C.Types) (hH : ∀ ρ, HookOk C ρ) {fuel id : Nat} {ts : List TypeId} {l : List (List SV × List (PC × B))} (h : lawLeft C fuel id ts l = true) (hl : ∀ ρ, LeftsH ρ l)
    {W : World} {base : Nat} {args : Array Value} {ds : List (DataW H)} {ps : List MemPlace} {b0 : Nat} {sp : Nat → Bool} {held : Bool} {r : Reach} {us : List TypeId} (hu : us = ts)
    (hok : ∀ (j : Nat) t v, us[j]? = some t → args[j]? = some v → Value.okWide P W r base t v) (ht : DataW.TrodAll enc P W b0 sp held us args.toList ds ps) :
    Calls P id args W fun e W' => e = .returned (.bool true) ∧ RowKit.Below W.heap.size W W' := by
  subst hP; subst hu; exact law_left hC hH h hl hok ht
theorem law_all_of {H : Type} {enc : TypeId × Value → H} {C : Cfg} {P : Program} (hP : C.P = P) (hC : C.Types) (hH : ∀ ρ, HookOk C ρ) {fuel id : Nat} {ts : List TypeId} (h : lawAll C fuel id ts = true)
    {W : World} {base : Nat} {args : Array Value} {ds : List (DataW H)} {ps : List MemPlace} {b0 : Nat} {sp : Nat → Bool} {held : Bool} {r : Reach} {us : List TypeId} (hu : us = ts)
    (hok : ∀ (j : Nat) t v, us[j]? = some t → args[j]? = some v → Value.okWide P W r base t v) (ht : DataW.TrodAll enc P W b0 sp held us args.toList ds ps) :
    Calls P id args W fun e W' => e = .returned (.bool true) ∧ RowKit.Below W.heap.size W W' := by
  subst hP; subst hu; exact law_all hC hH h hok ht
/-! the wraps, for omega -/
def wrapF (k : IntKind) (n : Int) : Int := match k with
  | .i8 => (n + 128) % 256 - 128
  | .i16 => (n + 32768) % 65536 - 32768
  | .i32 => (n + 2147483648) % 4294967296 - 2147483648
  | .i64 => (n + 9223372036854775808) % 18446744073709551616 - 9223372036854775808
  | .u8 => n % 256
  | .u16 => n % 65536
  | .u32 => n % 4294967296
  | .u64 => n % 18446744073709551616
theorem wrap_form (k : IntKind) (n : Int) : k.wrap n = wrapF k n := by
  rw [wrap_eq]
  cases k <;> simp only [kLo, kHi, wrapF, Int.reduceSub, Int.reduceAdd] <;> omega
end Go.SX
