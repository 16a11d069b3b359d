/- SX, part 10f: a round that gathers a truth. -/
import Derived.Test.YtpkfeinnhdnfiaaSXLoop3
namespace Go.SX
open Go

def accB (ρ : Env) (k : Nat) (a0 p : B) (j : Nat) : Bool := a0.ev ρ && (List.range j).all fun i => p.ev (ρ.at k i)
theorem accB_succ (ρ : Env) (k : Nat) (a0 p : B) (j : Nat) : accB ρ k a0 p (j + 1) = (accB ρ k a0 p j && p.ev (ρ.at k j)) := by
  simp [accB, List.range_succ, Bool.and_assoc]
structure AccCtx (ρ : Env) (β : Bet) (k : Nat) (mem0 memK memF : Mem) (W x : Nat) (wr : Bool) (cs : List SV) (a0 p : B) (e : Blk) (len : T) : Prop where
  get : mem0.tr.get W = some (.cells wr cs)
  at_ : cs[x]? = some (.bool a0)
  blk : β[W]? = some e
  nx : mem0.nx = β.length
  apart : ∀ (i j : Nat) (e e' : Blk), β[i]? = some e → β[j]? = some e' → i ≠ j → e.blk = e'.blk → e.ro = true ∧ e'.ro = true
  dom : ∀ id, mem0.nx ≤ id → mem0.tr.get id = none
  inb : ∀ id o, mem0.tr.get id = some o → id < mem0.nx
  memK : memK = mem0.set W (.cells wr (cs.set x (.bool (.var (qNum k)))))
  memF : memF = mem0.set W (.cells wr (cs.set x (.bool (mkAnd a0 (mkAll k len p)))))
  fr : frMem k mem0 mem0.nx = true
structure AccAt (ρ : Env) (β : Bet) (mem0 : Mem) (W x : Nat) (wr : Bool) (cs : List SV) (b : Bool) (e : Blk) (w : World) : Prop where
  lt : ∀ y ∈ β, y.blk < w.heap.size
  other : ∀ id o, id ≠ W → mem0.tr.get id = some o → ∃ y, β[id]? = some y ∧ objRel ρ β y w o
  own : objRel ρ β e w (.cells wr (cs.set x (.bool (.lit b))))
def accEnv (ρ : Env) (k j : Nat) (b : Bool) : Env := ρ.snap k (qNum k) j (ρ.c (qNum k)) (ρ.bc (qNum k)) b
theorem relL_set {ρ σ : Env} {β γ : Bet} {cs : List SV} {x : Nat} {s t : SV} {vs : List Value} (h : relL ρ β (cs.set x s) vs) (ho : ∀ f c v, f ≠ x → cs[f]? = some c → vs[f]? = some v → c.rel ρ β v → c.rel σ γ v) (hx : ∀ v, s.rel ρ β v → t.rel σ γ v) : relL σ γ (cs.set x t) vs := by
  have hl := relL_length h
  refine relL_of_get (by simpa using hl) fun f c hc => ?_
  simp only [List.getElem?_set] at hc
  by_cases e : x = f
  · subst e
    simp only [if_true] at hc
    split at hc
    · rename_i hlt
      cases hc
      obtain ⟨v, hv, r⟩ := relL_get h (i := x) (s := s) (by simp [hlt])
      exact ⟨v, hv, hx v r⟩
    · cases hc
  · rw [if_neg e] at hc
    obtain ⟨v, hv, r⟩ := relL_get h (i := f) (s := c) (by simp only [List.getElem?_set]; rw [if_neg e]; exact hc)
    exact ⟨v, hv, ho f c v (Ne.symm e) hc hv r⟩
theorem AccCtx.others {ρ : Env} {β β' : Bet} {lk : List Nat} {k : Nat} {mem0 memK memF : Mem} {W x : Nat} {wr : Bool} {cs : List SV} {a0 p : B} {e : Blk} {len : T} (h : AccCtx ρ β k mem0 memK memF W x wr cs a0 p e len) {b : Bool} {w w' : World} (ha : AccAt ρ β mem0 W x wr cs b e w)
    (hs : Stp β lk w β' w') (hall : ∀ id, id < mem0.nx → id ≠ W → id ∈ lk) :
    (∀ y ∈ β, y.blk < w'.heap.size) ∧ ∀ id o, id ≠ W → mem0.tr.get id = some o → ∃ y, β[id]? = some y ∧ objRel ρ β y w' o := by
  refine ⟨fun y hy => Nat.lt_of_lt_of_le (ha.lt y hy) hs.size, fun id o hne ho => ?_⟩
  obtain ⟨y, hy, r⟩ := ha.other id o hne ho
  exact ⟨y, hy, objRel_heap r (hs.lock id (hall id (h.inb id o ho) hne) y hy)⟩
/-- its own block: what it holds behind a step, as it was told -/
theorem AccCtx.back {ρ : Env} {β γ : Bet} {k : Nat} {mem0 memK memF : Mem} {W x : Nat} {wr : Bool} {cs : List SV} {a0 p : B} {e : Blk} {len : T} (h : AccCtx ρ β k mem0 memK memF W x wr cs a0 p e len) {j : Nat} {b b' : Bool} {w w' : World} (ha : AccAt ρ β mem0 W x wr cs b e w) {s : SV}
    (ho : objRel (accEnv ρ k j b) (β ++ γ) e w' (.cells wr (cs.set x s))) (hs : ∀ v, s.rel (accEnv ρ k j b) (β ++ γ) v → v = .bool b') : objRel ρ β e w' (.cells wr (cs.set x (.bool (.lit b')))) := by
  have g : Agree k (qNum k) ρ (accEnv ρ k j b) := Env.snap_agree _ _ _ _ _ _ _
  have hfr : frL k (qNum k) cs = true := by simpa [frObj] using frMem_get h.fr W (h.inb W _ h.get) _ h.get
  obtain ⟨h0, h1, h2, arr, el, fr, h3, h4, h5⟩ := ho
  obtain ⟨_, _, _, arr0, _, _, _, _, g5⟩ := ha.own
  refine ⟨h0, h1, h2, arr, el, fr, h3, h4, relL_set h5 (fun f c v hne hc hv r => ?_) (fun v r => hs v r)⟩
  obtain ⟨u, _, r0⟩ := relL_get g5 (i := f) (s := c) (by simp only [List.getElem?_set]; rw [if_neg (Ne.symm hne)]; exact hc)
  exact SV.rel_down c u v r0 (frSV_rel g.symm c v (frL_get hfr hc) r)
def semAcc {ρ : Env} {β : Bet} {lk : List Nat} {k : Nat} {mem0 memK memF : Mem} {outs : List Out} {W x : Nat} {wr : Bool} {cs : List SV} {a0 b p : B} {e : Blk} {len : T} {pc1 : PC} {fs : List PC} (h : AccCtx ρ β k mem0 memK memF W x wr cs a0 p e len)
    (hj : joinP k (.acc W x) memK pc1 (outs.filter isNorm) = some ([.bool b], fs))
    (hp1 : subB ⟨k, qNum k, .var k, fun _ => none, fun _ => none, .lit true⟩ b = some p) (hp0 : subB ⟨k, qNum k, .var k, fun _ => none, fun _ => none, .lit false⟩ b = some (.lit false)) (hall : ∀ id, id < mem0.nx → id ≠ W → id ∈ lk) :
    LoopSem ρ β lk k mem0 memK memF (.acc W x) outs (.lit true) (len.ev ρ).toNat where
  σ j w := accEnv ρ k j (accB ρ k a0 p j)
  At j w := AccAt ρ β mem0 W x wr cs (accB ρ k a0 p j) e w
  agree j w := Env.snap_agree _ _ _ _ _ _ _
  var j w := by simp [accEnv, Env.snap]
  over j w ha := by
    have g : Agree k (qNum k) ρ (accEnv ρ k j (accB ρ k a0 p j)) := Env.snap_agree _ _ _ _ _ _ _
    have hfr : frL k (qNum k) cs = true := by simpa [frObj] using frMem_get h.fr W (h.inb W _ h.get) _ h.get
    rw [h.memK]
    refine ⟨h.nx, fun id o ho => ?_, ha.lt, h.apart, fun id hid => ?_⟩
    · simp only [Mem.set, Tr.get_put] at ho
      by_cases e1 : id = W
      · rw [if_pos e1] at ho
        cases ho
        rw [e1]
        obtain ⟨h0, h1, h2, arr, el, fr, h3, h4, h5⟩ := ha.own
        refine ⟨e, h.blk, h0, h1, h2, arr, el, fr, h3, h4, relL_set h5 (fun f c v hne hc hv r => frSV_rel g c v (frL_get hfr hc) r) (fun v r => ?_)⟩
        rw [show v = .bool _ from r]
        simp [SV.rel, B.ev, accEnv, Env.snap]
      · rw [if_neg e1] at ho
        obtain ⟨y, hy, r⟩ := ha.other id o e1 ho
        exact ⟨y, hy, objRel_fr g (frMem_get h.fr id (h.inb id o ho) o ho) r⟩
    · simp only [Mem.set] at hid ⊢
      have := h.inb W _ h.get
      rw [Tr.get_put, if_neg (by omega)]
      exact h.dom id hid
  next j w w' β' o ha hs ho hn hp hm := by
    obtain ⟨γ, rfl, hγ⟩ := hs.ext
    have hnxK : memK.nx = mem0.nx := by rw [h.memK]; rfl
    have hgetK : memK.tr.get W = some (.cells wr (cs.set x (.bool (.var (qNum k))))) := by rw [h.memK]; simp [Mem.set, Tr.get_put]
    have homem := List.mem_filter.2 ⟨ho, hn⟩
    obtain ⟨pl, hpay, _⟩ := joinP_mem hj o homem
    obtain ⟨_, hprel⟩ := joinP_rel (σ := accEnv ρ k j (accB ρ k a0 p j)) (β := β) hj o homem hp pl hpay
    simp only [payload] at hpay
    simp only [hgetK] at hpay
    split at hpay
    · rename_i w1 c1 w2 ds hc1 hds
      cases hc1
      obtain ⟨h1, hpay2⟩ := bif_some hpay
      clear hpay
      simp only [Bool.and_eq_true, beq_iff_eq] at h1
      obtain ⟨hw, hbe⟩ := h1
      subst hw
      have hbe := beqL_eq hbe
      split at hpay2
      · rename_i b' hb'
        simp only [Option.some.injEq] at hpay2
        subst hpay2
        obtain ⟨k1, k2⟩ := h.others ha hs hall
        refine ⟨k1, k2, ?_⟩
        obtain ⟨e', he', hobj⟩ := hm.obj W _ hds
        rw [List.getElem?_append_left (List.getElem?_eq_some_iff.1 h.blk).1, h.blk] at he'
        cases he'
        have hds' : ds = cs.set x (.bool b') := by
          have : (ds.set x (.bool (.var (qNum k)))).set x (.bool b') = (cs.set x (.bool (.var (qNum k)))).set x (.bool b') := by rw [hbe]
          rw [List.set_set, List.set_set] at this
          rw [← this]
          refine (List.ext_getElem? fun f => ?_)
          rw [List.getElem?_set]
          by_cases e2 : x = f
          · subst e2
            rw [if_pos rfl]
            have := (List.getElem?_eq_some_iff.1 hb').1
            rw [if_pos this, hb']
          · rw [if_neg e2]
        rw [hds'] at hobj
        refine h.back ha hobj (fun v r => ?_)
        obtain ⟨y, hy, hyr⟩ := hprel 0 (.bool b) rfl
        cases hy
        have r2 := hyr (.bool (b'.ev (accEnv ρ k j (accB ρ k a0 p j)))) rfl
        have hbb : b'.ev (accEnv ρ k j (accB ρ k a0 p j)) = b.ev (accEnv ρ k j (accB ρ k a0 p j)) := by
          have : Value.bool (b'.ev (accEnv ρ k j (accB ρ k a0 p j))) = Value.bool (b.ev (accEnv ρ k j (accB ρ k a0 p j))) := r2
          exact Value.bool.inj this
        rw [show v = .bool _ from r, hbb, accB_succ]
        have hS : ∀ u : Bool, accB ρ k a0 p j = u → SubR ⟨k, qNum k, .var k, fun _ => none, fun _ => none, .lit u⟩ (ρ.at k j) (accEnv ρ k j (accB ρ k a0 p j)) := fun u hu =>
          ⟨(Env.at_agree ρ k _ j).symm.trans (Env.snap_agree _ _ _ _ _ _ _), by simp [accEnv, Env.snap, T.ev, Env.at], fun f y hy => (by cases hy), fun f y hy => (by cases hy), by simp [accEnv, Env.snap, B.ev, hu]⟩
        cases hu : accB ρ k a0 p j
        · have := subB_ev (hS false hu) hp0
          rw [hu] at this
          rw [← this]; simp [B.ev]
        · have := subB_ev (hS true hu) hp1
          rw [hu] at this
          rw [← this]; simp
      · cases hpay2
    · cases hpay
  stay j w w' β' m ha hs hsame hm := by
    obtain ⟨γ, rfl, hγ⟩ := hs.ext
    have hnxK : memK.nx = mem0.nx := by rw [h.memK]; rfl
    have hgetK : memK.tr.get W = some (.cells wr (cs.set x (.bool (.var (qNum k))))) := by rw [h.memK]; simp [Mem.set, Tr.get_put]
    obtain ⟨k1, k2⟩ := h.others ha hs hall
    have hsame := oeq_eq (fun _ _ => SObj.beq_eq) hsame
    refine ⟨k1, k2, ?_⟩
    obtain ⟨e', he', hobj⟩ := hm.obj W _ (by rw [hsame]; exact hgetK)
    rw [List.getElem?_append_left (List.getElem?_eq_some_iff.1 h.blk).1, h.blk] at he'
    cases he'
    exact h.back ha hobj (fun v r => by rw [show v = .bool _ from r]; simp [B.ev, accEnv, Env.snap])
  fin w ha := by
    rw [h.memF]
    refine ⟨h.nx, fun id o ho => ?_, ha.lt, h.apart, fun id hid => ?_⟩
    · simp only [Mem.set, Tr.get_put] at ho
      by_cases e1 : id = W
      · rw [if_pos e1] at ho
        cases ho
        rw [e1]
        obtain ⟨h0, h1, h2, arr, el, fr, h3, h4, h5⟩ := ha.own
        refine ⟨e, h.blk, h0, h1, h2, arr, el, fr, h3, h4, relL_set h5 (fun f c v hne hc hv r => r) (fun v r => ?_)⟩
        rw [show v = .bool _ from r]
        simp only [SV.rel, mkAnd_ev, mkAll_ev]
        rfl
      · rw [if_neg e1] at ho
        exact ha.other id o e1 ho
    · simp only [Mem.set] at hid ⊢
      have hW := h.inb W _ h.get
      rw [Tr.get_put, if_neg (by omega)]
      exact h.dom id hid
  cont _ _ _ _ _ _ := rfl
  back hn := by cases hn
end Go.SX
