/- SX, part 10b: ends of a call made one. -/
import Derived.Test.YtpkfeinnhdnfiaaSXExec
namespace Go.SX
open Go

mutual
theorem SV.rel_down {ρ : Env} {β γ : Bet} : ∀ (s : SV) (u v : Value), s.rel ρ β u → s.rel ρ (β ++ γ) v → s.rel ρ β v
  | .bool _, _, _, _, h | .int _ _, _, _, _, h | .nilp, _, _, _, h | .nils, _, _, _, h | .raw _, _, _, _, h => h
  | .ptr id _ _, _, _, h0, h => by
    obtain ⟨e0, he0, _⟩ := h0
    obtain ⟨e, he, r⟩ := h
    rw [List.getElem?_append_left (List.getElem?_eq_some_iff.1 he0).1] at he
    exact ⟨e, he, r⟩
  | .slice id _ _ _ _, _, _, h0, h => by
    obtain ⟨e0, _, _, he0, _⟩ := h0
    obtain ⟨e, l, c, he, r⟩ := h
    rw [List.getElem?_append_left (List.getElem?_eq_some_iff.1 he0).1] at he
    exact ⟨e, l, c, he, r⟩
  | .fn _ caps, _, _, h0, h => by obtain ⟨l0, hl0, _⟩ := h0; obtain ⟨l, hl, r⟩ := h; exact ⟨l, relL_down caps l0 l hl0 hl, r⟩
  | .agg cs, _, _, h0, h => by obtain ⟨l0, hl0, _⟩ := h0; obtain ⟨l, hl, r⟩ := h; exact ⟨l, relL_down cs l0 l hl0 hl, r⟩
  | .tup cs, _, _, h0, h => by obtain ⟨l0, hl0, _⟩ := h0; obtain ⟨l, hl, r⟩ := h; exact ⟨l, relL_down cs l0 l hl0 hl, r⟩
theorem relL_down {ρ : Env} {β γ : Bet} : ∀ (ss : List SV) (l0 l : List Value), relL ρ β ss l0 → relL ρ (β ++ γ) ss l → relL ρ β ss l
  | [], _, _, _, h => h
  | s :: ss, _, _, h0, h => by
    obtain ⟨u, us, rfl, g1, g2⟩ := h0
    obtain ⟨v, vs, rfl, h1, h2⟩ := h
    exact ⟨v, vs, rfl, SV.rel_down s u v g1 h1, relL_down ss us vs g2 h2⟩
end
mutual
theorem SV.rel_scalar {ρ : Env} {β β' : Bet} : ∀ (s : SV) (v : Value), SV.scalar s = true → s.rel ρ β v → s.rel ρ β' v
  | .bool _, _, _, h | .int _ _, _, _, h | .nilp, _, _, h | .nils, _, _, h | .raw _, _, _, h => h
  | .ptr _ _ _, _, hs, _ => by cases hs
  | .slice _ _ _ _ _, _, hs, _ => by cases hs
  | .fn _ _, _, hs, _ => by cases hs
  | .agg cs, _, hs, h => by obtain ⟨l, hl, r⟩ := h; exact ⟨l, relL_scalar cs l (by simpa [SV.scalar] using hs) hl, r⟩
  | .tup cs, _, hs, h => by obtain ⟨l, hl, r⟩ := h; exact ⟨l, relL_scalar cs l (by simpa [SV.scalar] using hs) hl, r⟩
theorem relL_scalar {ρ : Env} {β β' : Bet} : ∀ (ss : List SV) (l : List Value), scalarL ss = true → relL ρ β ss l → relL ρ β' ss l
  | [], _, _, h => h
  | s :: ss, _, hs, h => by
    simp only [scalarL, Bool.and_eq_true] at hs
    obtain ⟨v, vs, rfl, h1, h2⟩ := h
    exact ⟨v, vs, rfl, SV.rel_scalar s v hs.1 h1, relL_scalar ss vs hs.2 h2⟩
end
theorem objRel_down {ρ : Env} {β γ : Bet} {e : Blk} {w w' : World} {o : SObj} (h0 : objRel ρ β e w o) (h : objRel ρ (β ++ γ) e w' o) : objRel ρ β e w' o := by
  cases o with
  | cells wr cs =>
    obtain ⟨_, _, _, arr0, _, _, _, _, g⟩ := h0
    obtain ⟨h0, h1, h2, arr, el, fr, h3, h4, h5⟩ := h
    exact ⟨h0, h1, h2, arr, el, fr, h3, h4, relL_down _ _ _ g h5⟩
  | buf el sz cs =>
    obtain ⟨_, _, _, _, _, _, _, _, _, g⟩ := h0
    obtain ⟨h0, h1, h2, arr, h3, h4, vs, rest, h5, h6⟩ := h
    exact ⟨h0, h1, h2, arr, h3, h4, vs, rest, h5, relL_down _ _ _ g h6⟩
  | arr A =>
    obtain ⟨_, _, _, _, _, _, arr0, _, _, _, _, g⟩ := h0
    obtain ⟨h0, h1, h2, h2', h2a, h2b, arr, el, fr, h3, h4, h5⟩ := h
    refine ⟨h0, h1, h2, h2', h2a, h2b, arr, el, fr, h3, h4, fun j hj f sv hs => ?_⟩
    obtain ⟨v, hv, r⟩ := h5 j hj f sv hs
    obtain ⟨u, _, q⟩ := g j hj f sv hs
    exact ⟨v, hv, SV.rel_down _ _ _ q r⟩
theorem sameBelow_get {m0 m : Mem} : ∀ {n : Nat}, sameBelow m0 m n = true → ∀ id, id < n → m.tr.get id = m0.tr.get id
  | 0, _, id, h => by omega
  | n + 1, hs, id, h => by
    simp only [sameBelow, Bool.and_eq_true] at hs
    rcases Nat.lt_succ_iff_lt_or_eq.1 h with h | rfl
    · exact sameBelow_get hs.2 id h
    · exact oeq_eq (fun _ _ => SObj.beq_eq) hs.1
theorem forgot_ok {ρ : Env} {β β' : Bet} {lk : List Nat} {m0 : Mem} {w w' : World} {o : COut} {v : SV} (h : forgot m0 o = some v) (hm0 : MemRel ρ β m0 w) (hs : Stp β lk w β' w') (hm : MemRel ρ β' o.mem w') {e : Ending} (he : EndR ρ β' o.ex e) :
    o.ex = .ret v ∧ Stp β lk w β w' ∧ MemRel ρ β m0 w' ∧ EndR ρ β (.ret v) e := by
  unfold forgot at h
  split at h
  · rename_i u hu
    cases hb : SV.scalar u && sameBelow m0 o.mem m0.nx
    · rw [hb] at h; cases h
    · rw [hb] at h
      cases h
      rw [Bool.and_eq_true] at hb
      rw [hu] at he
      obtain ⟨γ, rfl, hγ⟩ := hs.ext
      refine ⟨hu, ⟨⟨[], by simp, by simp⟩, hs.os, hs.tape, hs.output, hs.size, hs.keep, hs.lock⟩, ⟨hm0.nx, fun id ob hob => ?_, fun e he => Nat.lt_of_lt_of_le (hm0.lt e he) hs.size, hm0.apart, hm0.dom⟩, ?_⟩
      · obtain ⟨e0, he0, r0⟩ := hm0.obj id ob hob
        have hlt : id < m0.nx := by rw [hm0.nx]; exact (List.getElem?_eq_some_iff.1 he0).1
        obtain ⟨e1, he1, r1⟩ := hm.obj id ob (by rw [sameBelow_get hb.2 id hlt]; exact hob)
        rw [List.getElem?_append_left (List.getElem?_eq_some_iff.1 he0).1, he0] at he1
        cases he1
        exact ⟨e0, he0, objRel_down r0 r1⟩
      · cases e <;> simp only [EndR] at he ⊢
        exact SV.rel_scalar _ _ hb.1 he
  · cases h
theorem insG_new (pc0 pc : PC) (v : SV) : ∀ (r : List (PC × SV)), ∃ g ∈ insG pc0 pc v r, g.2 = v ∧ (g.1 = pc ∨ g.1 = pc0)
  | [] => ⟨(pc, v), .head _, rfl, .inl rfl⟩
  | (q, u) :: r => by
    simp only [insG]
    cases hb : SV.beq v u
    · obtain ⟨g, hg, h⟩ := insG_new pc0 pc v r
      exact ⟨g, .tail _ hg, h⟩
    · exact ⟨(pc0, u), .head _, (SV.beq_eq hb).symm, .inr rfl⟩
theorem insG_old (pc0 pc : PC) (v : SV) : ∀ (r : List (PC × SV)), ∀ x ∈ r, ∃ g ∈ insG pc0 pc v r, g.2 = x.2 ∧ (g.1 = x.1 ∨ g.1 = pc0)
  | (q, u) :: r, x, hx => by
    simp only [insG]
    cases hb : SV.beq v u
    · cases hx with
      | head => exact ⟨(q, u), .head _, rfl, .inl rfl⟩
      | tail _ hx =>
        obtain ⟨g, hg, h⟩ := insG_old pc0 pc v r x hx
        exact ⟨g, .tail _ hg, h⟩
    · cases hx with
      | head => exact ⟨(pc0, u), .head _, rfl, .inr rfl⟩
      | tail _ hx => exact ⟨x, .tail _ hx, rfl, .inl rfl⟩
theorem grouped_ok (m0 : Mem) (pc0 : PC) : ∀ (l : List COut), ∀ o ∈ l, (∃ v, forgot m0 o = some v ∧ ∃ g ∈ (grouped m0 pc0 l).1, g.2 = v ∧ (g.1 = o.pc ∨ g.1 = pc0)) ∨ o ∈ (grouped m0 pc0 l).2
  | x :: l, o, h => by
    have ih := grouped_ok m0 pc0 l
    simp only [grouped]
    generalize hg : grouped m0 pc0 l = p at ih
    obtain ⟨gs, rs⟩ := p
    simp only at ih ⊢
    cases hf : forgot m0 x with
    | none =>
      cases h with
      | head => exact .inr (.head _)
      | tail _ h =>
        rcases ih o h with h | h
        · exact .inl h
        · exact .inr (.tail _ h)
    | some v =>
      cases h with
      | head => exact .inl ⟨v, hf, insG_new pc0 _ v gs⟩
      | tail _ h =>
        rcases ih o h with ⟨u, hu, g, hg, h1, h2⟩ | h
        · obtain ⟨g', hg', k1, k2⟩ := insG_old pc0 x.pc v gs g hg
          refine .inl ⟨u, hu, g', hg', k1.trans h1, ?_⟩
          rcases k2 with k2 | k2
          · rw [k2]; exact h2
          · exact .inr k2
        · exact .inr h
theorem mergeC_post {ρ : Env} {β : Bet} {lk : List Nat} {m0 : Mem} {pc0 : PC} {w w' : World} {l : List COut} {e : Ending} (hp : PcH ρ pc0) (hm0 : MemRel ρ β m0 w) (h : CPost ρ β lk w l e w') : CPost ρ β lk w (mergeC m0 pc0 l) e w' := by
  obtain ⟨o, ho, hpc, β', hs, hm, he⟩ := h
  unfold mergeC
  rcases grouped_ok m0 pc0 l o ho with ⟨v, hv, g, hg, h1, h2⟩ | hr
  · obtain ⟨hex, k1, k2, k3⟩ := forgot_ok hv hm0 hs hm he
    refine ⟨⟨g.1, m0, .ret g.2⟩, List.mem_append_left _ (List.mem_map_of_mem (f := fun g => (⟨g.1, m0, .ret g.2⟩ : COut)) hg), ?_, β, k1, k2, by rw [h1]; exact k3⟩
    rcases h2 with h2 | h2
    · rw [h2]; exact hpc
    · rw [h2]; exact hp
  · exact ⟨o, List.mem_append_right _ hr, hpc, β', hs, hm, he⟩
theorem mergeC_stuck {ρ : Env} {m0 : Mem} {pc0 : PC} {l : List COut} (h : NoStuckC ρ (mergeC m0 pc0 l)) : NoStuckC ρ l := fun o ho k hk hpc => by
  rcases grouped_ok m0 pc0 l o ho with ⟨v, hv, _⟩ | hr
  · unfold forgot at hv; rw [hk] at hv; cases hv
  · exact h o (by unfold mergeC; exact List.mem_append_right _ hr) k hk hpc

theorem joinAll_post {ρ : Env} {β : Bet} {lk : List Nat} {m0 : Mem} {pc0 : PC} {w w' : World} {l : List COut} {e : Ending} (hp : PcH ρ pc0) (hm0 : MemRel ρ β m0 w) (h : CPost ρ β lk w l e w') : CPost ρ β lk w (joinAll m0 pc0 l) e w' := by
  unfold joinAll
  split
  · rename_i v t fs hj
    rw [hm0.nx] at hj
    obtain ⟨o, ho, hpc, β', hs, hm, he⟩ := h
    obtain ⟨γ, rfl, hγ⟩ := hs.ext
    obtain ⟨i1, i2, i3, i4⟩ := joinC_ok (ρ := ρ) (γ := γ) (w := w') hj
    obtain ⟨u, hu⟩ := i1 o ho
    rw [hu] at he
    cases e <;> simp only [EndR] at he
    obtain ⟨k1, k2⟩ := i4 o ho hpc u _ hu he hm.obj
    refine ⟨_, .head _, hp, β, ⟨⟨[], by simp, by simp⟩, hs.os, hs.tape, hs.output, hs.size, hs.keep, hs.lock⟩, ⟨hm0.nx, k2, fun e he => Nat.lt_of_lt_of_le (hm0.lt e he) hs.size, hm0.apart, fun id hid => ?_⟩, k1⟩
    cases hg : t.get id with
    | none => rfl
    | some ob => have := i3 id ob hg; have := hm0.nx; simp only at hid; omega
  · exact h
theorem joinAll_stuck {ρ : Env} {m0 : Mem} {pc0 : PC} {l : List COut} (hlen : ∀ v t fs, joinC m0.nx pc0 l = some (v, t, fs) → ∀ o ∈ l, ∃ u, o.ex = .ret u) (h : NoStuckC ρ (joinAll m0 pc0 l)) : NoStuckC ρ l := by
  unfold joinAll at h
  split at h
  · rename_i v t fs hj
    intro o ho k hk _
    obtain ⟨u, hu⟩ := hlen v t fs hj o ho
    rw [hk] at hu; cases hu
  · exact h
theorem joinC_rets {N : Nat} {pc0 : PC} : ∀ {l : List COut} {v : SV} {t : Tr SObj} {fs : List PC}, joinC N pc0 l = some (v, t, fs) → ∀ o ∈ l, ∃ u, o.ex = .ret u
  | [], _, _, _, h => by simp [joinC] at h
  | [o], v, t, fs, h => by
    simp only [joinC] at h
    split at h
    · rename_i hex _; intro x hx; simp at hx; subst hx; exact ⟨_, hex⟩
    · cases h
  | o :: o' :: os, v, t, fs, h => by
    simp only [joinC] at h
    split at h
    · rename_i hex hj
      intro x hx
      cases hx with
      | head => exact ⟨_, hex⟩
      | tail _ hx => exact joinC_rets hj x hx
    · cases h
theorem truncO_post {ρ : Env} {β β' : Bet} {lk : List Nat} {m0 : Mem} {w w' : World} {o : COut} {e : Ending} (hm0 : MemRel ρ β m0 w) (hpc : PcH ρ o.pc) (hs : Stp β lk w β' w') (hm : MemRel ρ β' o.mem w') (he : EndR ρ β' o.ex e) :
    PcH ρ (truncO m0 o).pc ∧ ∃ β₁, Stp β lk w β₁ w' ∧ MemRel ρ β₁ (truncO m0 o).mem w' ∧ EndR ρ β₁ (truncO m0 o).ex e := by
  unfold truncO
  split
  · rename_i v t fs hj
    refine ⟨hpc, ?_⟩
    rw [hm0.nx] at hj
    obtain ⟨γ, rfl, hγ⟩ := hs.ext
    obtain ⟨i1, i2, i3, i4⟩ := joinC_ok (ρ := ρ) (γ := γ) (w := w') hj
    obtain ⟨u, hu⟩ := i1 o (.head _)
    rw [hu] at he
    cases e <;> simp only [EndR] at he
    obtain ⟨k1, k2⟩ := i4 o (.head _) hpc u _ hu he hm.obj
    refine ⟨β, ⟨⟨[], by simp, by simp⟩, hs.os, hs.tape, hs.output, hs.size, hs.keep, hs.lock⟩, ⟨hm0.nx, k2, fun e he => Nat.lt_of_lt_of_le (hm0.lt e he) hs.size, hm0.apart, fun id hid => ?_⟩, k1⟩
    cases hg : t.get id with
    | none => rfl
    | some ob => have := i3 id ob hg; have := hm0.nx; simp only at hid; omega
  · exact ⟨hpc, β', hs, hm, he⟩
theorem truncO_stuck {m0 : Mem} {o : COut} {k : Nat} (h : o.ex = .stuck k) : truncO m0 o = o := by
  unfold truncO
  split
  · rename_i v t fs hj
    obtain ⟨u, hu⟩ := joinC_rets hj o (.head _)
    rw [hu] at h; cases h
  · rfl
theorem joined0_stuck {C : Cfg} {id : Nat} {lk : List Nat} {ρ : Env} {m0 : Mem} {pc0 : PC} {l : List COut} (h : NoStuckC ρ (joined0 C id lk m0 pc0 l)) : NoStuckC ρ l := by
  unfold joined0 at h
  revert h
  cases C.jn id
  · cases C.mrg id
    · exact fun h => h
    · exact fun h => mergeC_stuck h
  · exact fun h => joinRets_stuck h
theorem joined0_post {C : Cfg} {id : Nat} {ρ : Env} {β : Bet} {lk : List Nat} {m0 : Mem} {pc0 : PC} {w w' : World} {l : List COut} {e : Ending} (hn : NoStuckC ρ (joined0 C id lk m0 pc0 l)) (hp : PcH ρ pc0) (hm0 : MemRel ρ β m0 w) (h : CPost ρ β lk w l e w') : CPost ρ β lk w (joined0 C id lk m0 pc0 l) e w' := by
  unfold joined0 at hn ⊢
  revert hn
  cases C.jn id
  · cases C.mrg id
    · exact fun _ => h
    · exact fun _ => mergeC_post hp hm0 h
  · exact fun hn => joinRets_post hn hp hm0 h
theorem forgotN {ρ : Env} {pc0 : PC} {l : List COut} (h : NoStuckC ρ (l.map (forgetO pc0))) : NoStuckC ρ l := fun o ho k hk hp => by
  have hf : forgetO pc0 o = o := by unfold forgetO; rw [hk]
  exact h (forgetO pc0 o) (List.mem_map_of_mem ho) k (by rw [hf]; exact hk) (by rw [hf]; exact hp)
theorem joined_post {C : Cfg} {id : Nat} {ρ : Env} {β : Bet} {lk : List Nat} {m0 : Mem} {pc0 : PC} {w w' : World} {l : List COut} {e : Ending} (hn : NoStuckC ρ (joined C id lk m0 pc0 l)) (hp : PcH ρ pc0) (hm0 : MemRel ρ β m0 w) (h : CPost ρ β lk w l e w') : CPost ρ β lk w (joined C id lk m0 pc0 l) e w' := by
  unfold joined at hn ⊢
  revert hn
  cases C.mrg (id + 200000)
  · exact fun hn => joined0_post hn hp hm0 h
  · intro hn
    obtain ⟨o, ho, hpc, β', hs, hm, he⟩ := joined0_post (forgotN hn) hp hm0 h
    refine ⟨forgetO pc0 o, List.mem_map_of_mem ho, ?_, β', hs, ?_, ?_⟩
    · unfold forgetO; split
      · exact hp
      · exact hpc
    · unfold forgetO; split <;> exact hm
    · unfold forgetO
      split
      · rename_i v hv; rw [hv] at he; exact he
      · exact he
theorem joined_stuck {C : Cfg} {id : Nat} {lk : List Nat} {ρ : Env} {m0 : Mem} {pc0 : PC} {l : List COut} (h : NoStuckC ρ (joined C id lk m0 pc0 l)) : NoStuckC ρ l := by
  unfold joined at h
  revert h
  cases C.mrg (id + 200000)
  · exact fun h => joined0_stuck h
  · exact fun h => joined0_stuck (forgotN h)
end Go.SX
