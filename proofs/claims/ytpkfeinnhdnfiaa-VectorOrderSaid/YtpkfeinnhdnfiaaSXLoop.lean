/- SX, part 10c: a loop of unknown length is as its one round says. -/
import Derived.Test.YtpkfeinnhdnfiaaSXMerge
import Derived.LoopN
namespace Go.SX
open Go

theorem frPC_ok {k q : Nat} {ρ σ : Env} (hq : q = qNum k) (g : Agree k q ρ σ) : ∀ {pc : PC}, frPC k pc = true → PcH ρ pc → PcH σ pc
  | [], _, _ => PcH.nil σ
  | (b, v) :: r, h, hp => by
    simp only [frPC, Bool.and_eq_true] at h
    subst hq
    exact PcH.cons (by rw [← frB_ev h.1 g]; exact hp.head) (frPC_ok rfl g h.2 hp.tail)
theorem hasFact_ok {ρ : Env} {pc : PC} {b : B} {v : Bool} (h : hasFact pc b v = true) (hp : PcH ρ pc) : b.ev ρ = v := by
  obtain ⟨p, hm, he⟩ := List.any_eq_true.1 h
  have := pcItem_eq _ _ he
  have h2 := hp p hm
  rw [this] at h2; exact h2
theorem Tr.sub_get {α : Type} {f : α → α → Bool} (hf : ∀ a b, f a b = true → a = b) : ∀ {a b : Tr α}, Tr.sub f a b = true → ∀ {n : Nat} {x : α}, a.get n = some x → b.get n = some x
  | .nil, _, _, n, x, h => by simp [Tr.get] at h
  | .node a l r, .nil, hs, n, x, h => by
    simp only [Tr.sub, Bool.and_eq_true] at hs
    obtain ⟨⟨h1, h2⟩, h3⟩ := hs
    cases n with
    | zero => simp only [Tr.get] at h; subst h; cases h1
    | succ n =>
      simp only [Tr.get] at h
      cases hb : Nat.beq (n % 2) 0
      · rw [hb] at h; have := Tr.sub_get hf h3 h; simp [Tr.get] at this
      · rw [hb] at h; have := Tr.sub_get hf h2 h; simp [Tr.get] at this
  | .node a l r, .node b m s, hs, n, x, h => by
    simp only [Tr.sub, Bool.and_eq_true] at hs
    obtain ⟨⟨h1, h2⟩, h3⟩ := hs
    cases n with
    | zero =>
      simp only [Tr.get] at h ⊢
      subst h
      cases b with
      | none => cases h1
      | some y => rw [hf _ _ h1]
    | succ n =>
      simp only [Tr.get] at h ⊢
      cases hb : Nat.beq (n % 2) 0
      · rw [hb] at h; exact Tr.sub_get hf h3 h
      · rw [hb] at h; exact Tr.sub_get hf h2 h
theorem sameAt_none {md : Mod} {a b : Mem} (h : md.isNone = true) : sameAt md a b = true := by cases md <;> first | rfl | cases h
/-- the loop, whatever it is that a round changes -/
structure LoopSem (ρ : Env) (β : Bet) (lk : List Nat) (k : Nat) (mem0 memK memF : Mem) (md : Mod) (outs : List Out) (c : B) (M : Nat) where
  σ : Nat → World → Env
  At : Nat → World → Prop
  agree : ∀ j w, Agree k (qNum k) ρ (σ j w)
  var : ∀ j w, (σ j w).v k = j
  over : ∀ j w, At j w → MemRel (σ j w) β memK w
  next : ∀ j w w' β' o, At j w → Stp β lk w β' w' → o ∈ outs → isNorm o = true → PcH (σ j w) o.st.pc → MemRel (σ j w) β' o.st.mem w' → At (j + 1) w'
  stay : ∀ j w w' β' m, At j w → Stp β lk w β' w' → sameAt md memK m = true → MemRel (σ j w) β' m w' → At j w'
  fin : ∀ w, At M w → MemRel ρ β memF w
  cont : ∀ j w o, o ∈ outs → isNorm o = true → PcH (σ j w) o.st.pc → c.ev (ρ.at k j) = true
  back : md.isNone = true → ∀ j w, At j w → MemRel ρ β mem0 w
theorem loop_sem {C : Cfg} {ρ : Env} {β : Bet} {lk lkL : List Nat} (hlk : ∀ i ∈ lk, i ∈ lkL) {nt : Nat} {code : Code} {w0 : World} {k : Nat} {τ : Tmp} {i : Nat} {len : T} {tmI : Tr SV} {md : Mod} {st : St} {memK memF : Mem} {outs fin : List Out} {c : B} {pcF : PC}
    (S : LoopSem ρ β lkL k st.mem memK memF md outs c (len.ev ρ).toNat)
    (hp : PcH ρ st.pc)
    (hrun : ∀ (σ : Env) (a : Act) (w : World), PcH σ (stAt k τ st tmI memK).pc → ActR σ β nt (stAt k τ st tmI memK) a → MemRel σ β memK w → NoStuck σ outs → code.wp C.P (Post σ β lkL nt w outs) a w)
    (hτ : τ < nt) (htm : ∀ n s, tmI.get n = some s → frSV k (qNum k) s = true) (hfl : frT k (qNum k) len = true) (hfp : frPC k st.pc = true) (hmax : len.ev ρ ≤ 9223372036854775807)
    (hok : ∀ o ∈ outs, okRound k τ i len tmI md memK o = true)
    (hout : (⟨.exit i, ⟨tmI, memF, pcF, st.fid⟩⟩ : Out) ∈ fin) (hpcF : (∀ j : Nat, j < (len.ev ρ).toNat → c.ev (ρ.at k j) = true) → PcH ρ pcF)
    (hearly : ∀ j w o, o ∈ outs → isEarly k len o = true → PcH (S.σ j w) o.st.pc → j < (len.ev ρ).toNat → ∃ o' ∈ fin, o'.ex = o.ex ∧ PcH ρ o'.st.pc ∧ o'.st.mem = st.mem ∧
      ∀ n s, o'.st.tm.get n = some s → o.st.tm.get n = some s ∧ frSV k (qNum k) s = true ∧ under β.length s = true) :
    ∀ (m j : Nat), j + m = (len.ev ρ).toNat → ∀ (a : Act) (w : World), Stp β lk w0 β w → TmRel ρ β tmI a → a.tmps[τ]? = some (.int .i64 j) → a.tmps.size = nt → a.defers = [] → S.At j w →
      (∀ q : Nat, q < j → c.ev (ρ.at k q) = true) → Code.rounds C.P code (Post ρ β lk nt w0 fin) (m + 1) a w := by
  have step : ∀ (m j : Nat), j + m = (len.ev ρ).toNat → ∀ (a : Act) (w : World), Stp β lk w0 β w → TmRel ρ β tmI a → a.tmps[τ]? = some (.int .i64 j) → a.tmps.size = nt → a.defers = [] → S.At j w →
      (∀ q : Nat, q < j → c.ev (ρ.at k q) = true) →
      (∀ (a' : Act) (w' : World), j < (len.ev ρ).toNat → Stp β lk w0 β w' → TmRel ρ β tmI a' → a'.tmps[τ]? = some (.int .i64 ((j + 1 : Nat) : Int)) → a'.tmps.size = nt → a'.defers = [] → S.At (j + 1) w' →
        (∀ q : Nat, q < j + 1 → c.ev (ρ.at k q) = true) → Code.rounds C.P code (Post ρ β lk nt w0 fin) m a' w') →
      Code.rounds C.P code (Post ρ β lk nt w0 fin) (m + 1) a w := by
    intro m j hj a w hs htr hat hsz hdf hA hcont hnext
    have hag := S.agree j w
    have hvk := S.var j w
    have hm := S.over j w hA
    have hlen : len.ev (S.σ j w) = len.ev ρ := (frT_ev hfl hag).symm
    have hjM : (j : Int) ≤ 9223372036854775807 := by omega
    rw [rounds_succ]
    have hpc2 : PcH (S.σ j w) (stAt k τ st tmI memK).pc := by
      refine PcH.cons ?_ (numPc_ok (frPC_ok rfl hag hfp hp))
      simp only [B.ev, T.ev, hvk]
      exact decide_eq_false (by omega)
    have hact : ActR (S.σ j w) β nt (stAt k τ st tmI memK) a := by
      refine ⟨⟨fun n s hn => ?_⟩, hsz, hdf⟩
      simp only [stAt, Tr.get_put] at hn
      by_cases e : n = τ
      · rw [if_pos e] at hn
        cases hn
        subst e
        refine ⟨_, hat, ?_, ?_⟩
        · simp only [T.ev, hvk]
        · simp only [T.ev, hvk]
          rw [inK_iff]; simp only [kLo, kHi]; omega
      · rw [if_neg e] at hn
        obtain ⟨v, hv, r⟩ := htr.get n s hn
        exact ⟨v, hv, frSV_rel hag s v (htm n s hn) r⟩
    have hns : NoStuck (S.σ j w) outs := fun o ho q hq _ => by
      have := hok o ho
      simp only [okRound, hq, Bool.and_false, Bool.false_eq_true] at this
    refine Code.wp_mono (fun e a' w' hq => ?_) (hrun (S.σ j w) a w hpc2 hact hm hns)
    obtain ⟨o, ho, hpc, hex, β', hs', ha', hm'⟩ := hq
    have hk := hok o ho
    obtain ⟨γ, hγ, hγ2⟩ := hs'.ext
    subst hγ
    have hsβ : Stp β lk w β w' := ⟨⟨[], by simp, by simp⟩, hs'.os, hs'.tape, hs'.output, hs'.size, hs'.keep, fun id hid => hs'.lock id (hlk id hid)⟩
    have hs0 := hs.trans hsβ
    simp only [okRound, Bool.and_eq_true] at hk
    obtain ⟨hk1, hk2⟩ := hk
    have htr' : TmRel ρ β tmI a' := by
      refine ⟨fun n s hn => ?_⟩
      have hn' := Tr.sub_get (fun _ _ => SV.beq_eq) hk1 hn
      obtain ⟨v, hv, r⟩ := ha'.tm.get n s hn'
      obtain ⟨u, _, r0⟩ := htr.get n s hn
      exact ⟨v, hv, SV.rel_down s u v r0 (frSV_rel hag.symm s v (htm n s hn) r)⟩
    have early : isEarly k len o = true → md.isNone = true → hasFact o.st.pc (.ltI (.var k) len) true = true → sameAt md memK o.st.mem = true → Post ρ β lk nt w0 fin e a' w' := by
      intro he hnone hf hsame
      have hlt := hasFact_ok hf hpc
      simp only [B.ev, T.ev, hvk, hlen] at hlt
      have hlt := of_decide_eq_true hlt
      obtain ⟨o', ho', h1, h2, h3, h4⟩ := hearly j w o ho he hpc (by omega)
      refine ⟨o', ho', h2, by rw [h1]; exact hex, β, hs0, ⟨⟨fun n s hn => ?_⟩, ha'.nt, ha'.df⟩, by rw [h3]; exact S.back hnone j w' (S.stay j w w' _ _ hA hs' hsame hm')⟩
      obtain ⟨g1, g2, g3⟩ := h4 n s hn
      obtain ⟨v, hv, r⟩ := ha'.tm.get n s g1
      exact ⟨v, hv, under_rel s v g3 (frSV_rel hag.symm s v g2 r)⟩
    cases hoe : o.ex with
    | norm =>
      rw [hoe] at hex hk2
      cases e <;> simp only [ExR] at hex
      simp only [Bool.and_eq_true] at hk2
      obtain ⟨hup, hf⟩ := hk2
      have hlt := hasFact_ok hf hpc
      simp only [B.ev, T.ev, hvk, hlen] at hlt
      have hlt := of_decide_eq_true hlt
      have hnorm : isNorm o = true := by simp [isNorm, hoe]
      refine hnext a' w' (by omega) hs0 htr' ?_ ha'.nt ha'.df (S.next j w w' _ o hA hs' ho hnorm hpc hm') (fun q hq => ?_)
      · unfold stepsUp at hup
        split at hup
        · rename_i t ht
          obtain ⟨v, hv, r⟩ := ha'.tm.get τ _ ht
          rw [hv, r.1, T.beq_eq hup]
          simp only [T.ev, TOp.ev, hvk]
          rw [wrap_of_inK (k := .i64) (by rw [inK_iff]; simp only [kLo, kHi]; omega)]
          rfl
        · cases hup
      · rcases Nat.lt_succ_iff_lt_or_eq.1 hq with hq | rfl
        · exact hcont q hq
        · exact S.cont q w o ho hnorm hpc
    | ret =>
      rw [hoe] at hex hk2
      cases e <;> simp only [ExR] at hex
      simp only [Bool.and_eq_true] at hk2
      exact early (by simp [isEarly, hoe]) hk2.1 hk2.2 (sameAt_none hk2.1)
    | stuck q => rw [hoe] at hk2; cases hk2
    | exit i' =>
      rw [hoe] at hex hk2
      cases e <;> simp only [ExR] at hex
      rename_i i2
      cases hf : hasFact o.st.pc (.ltI (.var k) len) false
      · simp only [hf, cond_false, Bool.and_eq_true] at hk2
        exact early (by simp [isEarly, hoe, hf]) hk2.1 hk2.2 (sameAt_none hk2.1)
      · simp only [hf, cond_true, Bool.and_eq_true] at hk2
        have hge := hasFact_ok hf hpc
        simp only [B.ev, T.ev, hvk, hlen] at hge
        have hge := of_decide_eq_false hge
        have hjm : j = (len.ev ρ).toNat := by omega
        have hA' := S.stay j w w' _ _ hA hs' hk2.2 hm'
        rw [hjm] at hA'
        refine ⟨_, hout, hpcF (fun q hq => hcont q (by omega)), ?_, β, hs0, ⟨htr', ha'.nt, ha'.df⟩, S.fin w' hA'⟩
        rw [Nat.eq_of_beq_eq_true hk2.1]; exact hex
  intro m
  induction m with
  | zero =>
    intro j hj a w hs htr hat hsz hdf hA hcont
    exact step 0 j hj a w hs htr hat hsz hdf hA hcont (fun _ _ h => by omega)
  | succ m ihm =>
    intro j hj a w hs htr hat hsz hdf hA hcont
    exact step (m + 1) j hj a w hs htr hat hsz hdf hA hcont (fun a' w' _ h2 h3 h4 h5 h6 h7 h8 => ihm (j + 1) (by omega) a' w' h2 h3 h4 h5 h6 h7 h8)
end Go.SX
