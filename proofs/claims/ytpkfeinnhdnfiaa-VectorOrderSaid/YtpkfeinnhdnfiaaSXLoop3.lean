/- SX, part 10e: a round that changes a block's row: all of its rows, changed. -/
import Derived.Test.YtpkfeinnhdnfiaaSXLoop2
namespace Go.SX
open Go

theorem genFrom_get {r k : Nat} : ∀ {g : List SV} {ks : List CK} {n : Nat}, ∀ {f : Nat} {x : SV}, (f, x) ∈ genFrom r k g ks n → n ≤ f ∧ g[f - n]? = some x
  | [], _, _, f, x, h => by simp [genFrom] at h
  | _ :: _, [], _, f, x, h => by simp [genFrom] at h
  | s :: ss, q :: ks, n, f, x, h => by
    simp only [genFrom] at h
    cases hb : SV.beq s (mkCell r (.var k) n q)
    · rw [hb] at h
      simp only [cond_false, List.mem_cons, Prod.mk.injEq] at h
      rcases h with ⟨rfl, rfl⟩ | h
      · simp
      · obtain ⟨h1, h2⟩ := genFrom_get h
        refine ⟨by omega, ?_⟩
        rw [show f - n = (f - (n + 1)) + 1 by omega]; simpa using h2
    · rw [hb] at h
      obtain ⟨h1, h2⟩ := genFrom_get (by simpa using h)
      refine ⟨by omega, ?_⟩
      rw [show f - n = (f - (n + 1)) + 1 by omega]; simpa using h2
theorem genFrom_none {r k : Nat} : ∀ {g : List SV} {ks : List CK} {n : Nat}, ∀ {f : Nat} {s : SV} {c : CK}, g[f]? = some s → ks[f]? = some c → (∀ x, (n + f, x) ∉ genFrom r k g ks n) → s = mkCell r (.var k) (n + f) c
  | [], _, _, f, s, c, h, _, _ => by simp at h
  | _ :: _, [], _, f, s, c, _, h, _ => by simp at h
  | s0 :: ss, q :: ks, n, f, s, c, hs, hc, hn => by
    simp only [genFrom] at hn
    cases hb : SV.beq s0 (mkCell r (.var k) n q)
    · rw [hb] at hn
      cases f with
      | zero => simp at hs hc; exact (hn s0 (by simp)).elim
      | succ f =>
        simp at hs hc
        have := genFrom_none hs hc (n := n + 1) (fun x hx => hn x (by simp only [cond_false, List.mem_cons]; exact .inr (by rw [show n + (f + 1) = n + 1 + f by omega]; exact hx)))
        rw [this]; congr 1; omega
    · rw [hb] at hn
      cases f with
      | zero => simp at hs hc; subst hs; subst hc; exact SV.beq_eq hb
      | succ f =>
        simp at hs hc
        have := genFrom_none hs hc (n := n + 1) (fun x hx => hn x (by simp only [cond_true]; rw [show n + (f + 1) = n + 1 + f by omega]; exact hx))
        rw [this]; congr 1; omega
theorem genFrom_uniq {r k : Nat} : ∀ {g : List SV} {ks : List CK} {n f : Nat} {x y : SV}, (f, x) ∈ genFrom r k g ks n → (f, y) ∈ genFrom r k g ks n → x = y := by
  intro g ks n f x y hx hy
  have h1 := (genFrom_get hx).2
  have h2 := (genFrom_get hy).2
  rw [h1] at h2; cases h2; rfl
/-- a base row's cell of a block whose template is made so -/
theorem base_gen {D : SArr} {i : T} {f : Nat} {s : SV} (h : (D.base i)[f]? = some s) : (∃ x, (f, x) ∈ D.gen ∧ s = instSV D.gk i x) ∨ ((∀ x, (f, x) ∉ D.gen) ∧ ∃ c, D.ks[f]? = some c ∧ s = mkCell D.r i f c) := by
  unfold SArr.base at h
  have key : ∀ (g : List (Nat × SV)), (setAll (instG D.gk i g) (baseRow D.r i D.ks 0))[f]? = some s →
      (∃ x, (f, x) ∈ g ∧ s = instSV D.gk i x) ∨ ((∀ x, (f, x) ∉ g) ∧ ∃ c, D.ks[f]? = some c ∧ s = mkCell D.r i f c) := by
    intro g
    induction g with
    | nil =>
      intro h
      simp only [instG, setAll] at h
      obtain ⟨c, hc, e⟩ := baseRow_get D.r i D.ks 0 f s h
      exact .inr ⟨by simp, c, hc, by simpa using e⟩
    | cons p g ih =>
      obtain ⟨f0, x⟩ := p
      intro h
      simp only [instG, setAll, List.getElem?_set] at h
      by_cases e : f0 = f
      · subst e
        simp only [if_true] at h
        split at h
        · cases h; exact .inl ⟨x, by simp, rfl⟩
        · cases h
      · rw [if_neg e] at h
        rcases ih h with ⟨y, hy, h1⟩ | ⟨h1, h2⟩
        · exact .inl ⟨y, by simp [hy], h1⟩
        · exact .inr ⟨fun y hy => (by
            rcases List.mem_cons.1 hy with hy | hy
            · simp only [Prod.mk.injEq] at hy; exact e hy.1.symm
            · exact h1 y hy), h2⟩
  exact key D.gen h
theorem mapped_row {k : Nat} {A D : SArr} {l : List SV} (hmap : mapped k A l = some D) (hlen' : ∀ f, f < A.ks.length → f < l.length) (hfA : frObj k (qNum k) (.arr A) = true) (hgA : genOk A.gk A.gen = true) {ρ σ : Env} {β : Bet} {j : Nat}
    (g : Agree k (qNum k) ρ σ) (hv : σ.v k = j) (hb : σ.bv (qNum k) = false)
    (hold : ∀ (f : Nat) (s : SV), (A.at ρ j)[f]? = some s → ∃ v, s.rel ρ β v ∧ iOf v = σ.c (qNum k) j f ∧ bOf v = σ.bc (qNum k) j f) :
    ∀ (f : Nat) (s : SV), (D.at ρ j)[f]? = some s → ∃ x, l[f]? = some x ∧ ∀ v, x.rel σ β v → s.rel ρ β v := by
  unfold mapped at hmap
  split at hmap
  · cases hmap
  · rename_i gl hgl
    cases hok : genOk k (genFrom A.r k gl A.ks 0)
    · simp [hok] at hmap
    simp only [hok, Bool.not_true, cond_false] at hmap
    -- what is in place of the rows' cells is what they are
    have sub : ∀ (rc : List SV) (τ : Env) (t : T), Agree k (qNum k) τ σ → t.ev τ = j → (∀ (f : Nat) (s : SV), rc[f]? = some s → ∃ v, s.rel τ β v ∧ iOf v = σ.c (qNum k) j f ∧ bOf v = σ.bc (qNum k) j f) →
        SubR ⟨k, qNum k, t, tiL rc, biL rc, .lit false⟩ τ σ := by
      intro rc τ t ha ht hr
      refine ⟨ha, by rw [hv, ht], fun f x hx => ?_, fun f x hx => ?_, hb⟩
      · simp only [tiL] at hx
        split at hx
        · rename_i q t' hs
          cases hx
          obtain ⟨v, r, h1, _⟩ := hr f _ hs
          rw [hv, ← h1, r.1]; rfl
        · cases hx
      · simp only [biL] at hx
        split at hx
        · rename_i b' hs
          cases hx
          obtain ⟨v, r, _, h2⟩ := hr f _ hs
          rw [hv, ← h2, show v = .bool _ from r]; rfl
        · cases hx
    have hag2 : Agree k (qNum k) (ρ.at k j) σ := (Env.at_agree ρ k _ j).symm.trans g
    -- the base row
    have hbase : (∀ t cs, A.row = some (t, cs) → t.ev ρ ≠ j) → ∀ (gn : List (Nat × SV)), gn = genFrom A.r k gl A.ks 0 → ∀ (f : Nat) (s : SV), (SArr.base { A with gk := k, gen := gn } (.lit j))[f]? = some s → ∃ x, l[f]? = some x ∧ ∀ v, x.rel σ β v → s.rel ρ β v := by
      intro hno gn hgn f s hs
      have hAt : A.at ρ j = A.base (.lit j) := by
        unfold SArr.at
        split
        · rename_i t cs hA
          rw [if_neg (hno t cs hA)]
        · rfl
      have hS := sub (A.base (.var k)) (ρ.at k j) (.var k) hag2 (by simp [T.ev, Env.at]) (fun f s hs => by
        have hfA' := hfA
        simp only [frObj, Bool.and_eq_true] at hfA'
        rcases base_get hs with ⟨x, hx, rfl, hall⟩ | ⟨c, hc, rfl, hall⟩
        · obtain ⟨v, r, h1, h2⟩ := hold f _ (by rw [hAt]; exact hall (.lit j))
          have hokx := genOk_mem hgA hx
          refine ⟨v, ?_, h1, h2⟩
          rw [instSV_rel hokx] at r ⊢
          simp only [T.ev] at r ⊢
          have e : (ρ.at k (j : Int)).v k = j := by simp [Env.at]
          rw [e]
          cases hq : Nat.beq A.gk k
          · have hx' := frGen_mem (by have := hfA'.2; rw [hq] at this; exact this) hx
            exact frSV_rel ((Env.at_agree ρ k (qNum k) j).at A.gk j) x v hx' r
          · have hx' := Nat.eq_of_beq_eq_true hq
            rw [hx'] at r ⊢
            have : (ρ.at k (j : Int)).at k j = ρ.at k j := by
              unfold Env.at; congr 1; funext n; by_cases hn : n = k <;> simp [hn]
            rw [this]; exact r
        · obtain ⟨v, r, h1, h2⟩ := hold f _ (by rw [hAt]; exact hall (.lit j))
          refine ⟨v, ?_, h1, h2⟩
          cases c
          · simp only [mkCell, SV.rel, B.ev, T.ev] at r ⊢
            rw [r]; simp [Env.at]
          · simp only [mkCell, SV.rel, T.ev] at r ⊢
            rw [r.1]; simpa [Env.at] using r.2)
      obtain ⟨hgl1, hgl2⟩ := subL_get hgl
      rcases base_gen hs with ⟨x, hx, rfl⟩ | ⟨hn, c, hc, rfl⟩
      · simp only at hx
        rw [hgn] at hx
        obtain ⟨_, hx'⟩ := genFrom_get hx
        obtain ⟨y, hy, hyx⟩ := hgl2 f x (by simpa using hx')
        refine ⟨y, hy, fun v r => ?_⟩
        have hokx := genOk_mem hok hx
        simp only
        rw [instSV_rel hokx]
        exact subSV_rel hS hyx r
      · simp only at hn hc
        have hlt : f < l.length := hlen' f (List.getElem?_eq_some_iff.1 hc).1
        obtain ⟨s', hs'⟩ : ∃ s', gl[f]? = some s' := ⟨_, List.getElem?_eq_getElem (by omega)⟩
        obtain ⟨y, hy, hyx⟩ := hgl2 f s' hs'
        have he := genFrom_none hs' hc (n := 0) (fun x hx => hn x (by rw [hgn]; simpa using hx))
        rw [Nat.zero_add] at he
        refine ⟨y, hy, fun v r => ?_⟩
        have := subSV_rel hS hyx r
        rw [he] at this
        cases c
        · simp only [mkCell, SV.rel, B.ev, T.ev] at this ⊢
          rw [this]; simp [Env.at]
        · simp only [mkCell, SV.rel, T.ev] at this ⊢
          rw [this.1]; simpa [Env.at] using this.2
    split at hmap
    · rename_i hA
      cases hmap
      intro f s hs
      have : SArr.at { A with gk := k, gen := genFrom A.r k gl A.ks 0 } ρ j = SArr.base { A with gk := k, gen := genFrom A.r k gl A.ks 0 } (.lit j) := by
        unfold SArr.at; simp only [hA]
      rw [this] at hs
      exact hbase (fun t cs h => by rw [hA] at h; cases h) _ rfl f s hs
    · rename_i t rc hA
      split at hmap
      · rename_i rc' hrc'
        cases hmap
        intro f s hs
        simp only [SArr.at] at hs
        by_cases ht : t.ev ρ = j
        · rw [if_pos ht] at hs
          have hAt : A.at ρ j = rc := by unfold SArr.at; simp only [hA]; rw [if_pos ht]
          have hS := sub rc ρ t g ht (fun f s hs => hold f s (by rw [hAt]; exact hs))
          obtain ⟨x, hx, hxs⟩ := (subL_get hrc').2 f s hs
          exact ⟨x, hx, fun v r => subSV_rel hS hxs r⟩
        · rw [if_neg ht] at hs
          exact hbase (fun t' cs' h => by rw [hA] at h; cases h; exact ht) _ rfl f s hs
      · cases hmap

/-- rows below j as D says, the others as A does -/
def mapRel (ρ : Env) (β : Bet) (e : Blk) (A D : SArr) (w : World) (j : Nat) : Prop := ∃ arr el fr, w.heap[e.blk]? = some (.cells arr el fr) ∧ (e.ro = false → fr = (0, 0)) ∧
  ∀ i, i < e.cnt → ∀ (f : Nat) (s : SV), ((if i < j then D else A).at ρ i)[f]? = some s → ∃ v, arr[e.base + i * e.stride + f]? = some v ∧ s.rel ρ β v
structure MapCtx (ρ : Env) (β : Bet) (k : Nat) (mem0 memK memF : Mem) (W : Nat) (A D : SArr) (e : Blk) (len : T) : Prop where
  get : mem0.tr.get W = some (.arr A)
  blk : β[W]? = some e
  nx : mem0.nx = β.length
  apart : ∀ (i j : Nat) (e e' : Blk), β[i]? = some e → β[j]? = some e' → i ≠ j → e.blk = e'.blk → e.ro = true ∧ e'.ro = true
  dom : ∀ id, mem0.nx ≤ id → mem0.tr.get id = none
  inb : ∀ id o, mem0.tr.get id = some o → id < mem0.nx
  memK : memK = mem0.set W (.arr (A.fresh k))
  memF : memF = mem0.set W (.arr D)
  fr : frMem k mem0 mem0.nx = true
  wr : A.wr = true → e.ro = false
  stride : e.stride = A.stride
  pos : 0 < A.stride
  ks : A.ks.length = A.stride
  cnt : A.len.ev ρ = e.cnt
  len : T.beq A.len len = true
  okA : genOk A.gk A.gen = true
  rowA : ∀ t cs, A.row = some (t, cs) → cs.length = A.stride
  kindA : kindA A = true
  kindD : Go.SX.kindA D = true
  dWr : D.wr = A.wr
  dStride : D.stride = A.stride
  dKs : D.ks = A.ks
  dLen : D.len = A.len
  dOk : genOk D.gk D.gen = true
  dRow : ∀ t cs, D.row = some (t, cs) → cs.length = A.stride
structure MapAt (ρ : Env) (β : Bet) (mem0 : Mem) (W : Nat) (A D : SArr) (e : Blk) (j : Nat) (w : World) : Prop where
  lt : ∀ x ∈ β, x.blk < w.heap.size
  other : ∀ id o, id ≠ W → mem0.tr.get id = some o → ∃ x, β[id]? = some x ∧ objRel ρ β x w o
  rows : mapRel ρ β e A D w j
def mapEnv (ρ : Env) (k : Nat) (e : Blk) (j : Nat) (w : World) : Env :=
  ρ.snap k (qNum k) j (fun i f => iOf ((w.cell? ⟨e.blk, e.base + i.toNat * e.stride + f, none⟩).getD undef)) (fun i f => bOf ((w.cell? ⟨e.blk, e.base + i.toNat * e.stride + f, none⟩).getD undef)) false
theorem MapCtx.len_at {ρ : Env} {β : Bet} {k : Nat} {mem0 memK memF : Mem} {W : Nat} {A D : SArr} {e : Blk} {len : T} (h : MapCtx ρ β k mem0 memK memF W A D e len) (i j : Nat) : ((if i < j then D else A).at ρ i).length = A.stride := by
  split
  · rw [← h.dStride]; exact at_length (by rw [h.dKs, h.dStride, h.ks]) (by rw [h.dStride]; exact h.dRow) i
  · exact at_length h.ks h.rowA i
/-- a cell of the block: of its kind, and what the environment says -/
theorem MapCtx.cell {ρ : Env} {β : Bet} {k : Nat} {mem0 memK memF : Mem} {W : Nat} {A D : SArr} {e : Blk} {len : T} (h : MapCtx ρ β k mem0 memK memF W A D e len) {j : Nat} {w : World} (hr : mapRel ρ β e A D w j) {i : Nat} (hi : i < e.cnt) {f : Nat} {c : CK}
    (hc : A.ks[f]? = some c) : ∃ s v, ((if i < j then D else A).at ρ i)[f]? = some s ∧ w.cell? ⟨e.blk, e.base + i * e.stride + f, none⟩ = some v ∧ s.rel ρ β v ∧
      ∀ (σ : Env) (γ : Bet) (v' : Value), σ.c (qNum k) i f = iOf v → σ.bc (qNum k) i f = bOf v → ((mkCell (qNum k) (.lit i) f c).rel σ γ v' ↔ v' = v) := by
  obtain ⟨arr, el, fr, hh, _, hrr⟩ := hr
  have hlt : f < ((if i < j then D else A).at ρ i).length := by rw [h.len_at, ← h.ks]; exact (List.getElem?_eq_some_iff.1 hc).1
  obtain ⟨v, hv, r⟩ := hrr i hi f _ (List.getElem?_eq_getElem hlt)
  refine ⟨_, v, List.getElem?_eq_getElem hlt, by rw [cell?_heap hh]; exact hv, r, fun σ γ v' h1 h2 => ?_⟩
  have hk : ∃ c', A.ks[f]? = some c' ∧ kindOf c' (((if i < j then D else A).at ρ i)[f]) = true := by
    by_cases hij : i < j
    · simp only [if_pos hij] at hlt ⊢
      have := kind_at (ρ := ρ) h.kindD (j := i) (List.getElem?_eq_getElem hlt)
      rwa [h.dKs] at this
    · simp only [if_neg hij] at hlt ⊢
      exact kind_at (ρ := ρ) h.kindA (j := i) (List.getElem?_eq_getElem hlt)
  obtain ⟨c', hc', hkk⟩ := hk
  rw [hc] at hc'; cases hc'
  generalize ((if i < j then D else A).at ρ i)[f] = s at r hkk
  cases c with
  | b =>
    cases s <;> simp only [kindOf, Bool.false_eq_true] at hkk
    simp only [mkCell, SV.rel, B.ev, T.ev]
    rw [h2, show v = .bool _ from r]; rfl
  | i q =>
    cases s <;> simp only [kindOf, Bool.false_eq_true] at hkk
    simp only [mkCell, SV.rel, T.ev]
    rw [h1, r.1, kindNo_inj hkk]
    constructor
    · exact fun h => h.1
    · exact fun h => ⟨h, r.2⟩
theorem MapCtx.envc {ρ : Env} {k : Nat} {e : Blk} {j : Nat} {w : World} {i f : Nat} {v : Value} (hv : w.cell? ⟨e.blk, e.base + i * e.stride + f, none⟩ = some v) :
    (mapEnv ρ k e j w).c (qNum k) i f = iOf v ∧ (mapEnv ρ k e j w).bc (qNum k) i f = bOf v := by
  simp [mapEnv, Env.snap, hv]
theorem MapCtx.over {ρ : Env} {β : Bet} {k : Nat} {mem0 memK memF : Mem} {W : Nat} {A D : SArr} {e : Blk} {len : T} (h : MapCtx ρ β k mem0 memK memF W A D e len) {j : Nat} {w : World} (ha : MapAt ρ β mem0 W A D e j w) :
    MemRel (mapEnv ρ k e j w) β memK w := by
  have g : Agree k (qNum k) ρ (mapEnv ρ k e j w) := Env.snap_agree _ _ _ _ _ _ _
  have hW : W < mem0.nx := h.inb W _ h.get
  have hfA := frMem_get h.fr W hW _ h.get
  rw [h.memK]
  refine ⟨h.nx, fun id o ho => ?_, ha.lt, h.apart, fun id hid => ?_⟩
  · simp only [Mem.set, Tr.get_put] at ho
    by_cases e1 : id = W
    · rw [if_pos e1] at ho
      cases ho
      rw [e1]
      refine ⟨e, h.blk, h.wr, h.stride, h.pos, h.ks, ?_, ⟨rfl, fun t cs hr => by cases hr⟩, ?_⟩
      · rw [← frT_ev (by simp only [frObj, Bool.and_eq_true] at hfA; exact hfA.1.1.2) g]; exact h.cnt
      · have hrows := ha.rows
        obtain ⟨arr, el, fr, hh, hfr, hrr⟩ := ha.rows
        refine ⟨arr, el, fr, hh, hfr, fun i hi f s hs => ?_⟩
        simp only [SArr.at, SArr.fresh] at hs
        obtain ⟨c, hc, rfl⟩ := baseRow_get (qNum k) (.lit i) A.ks 0 f s (by simpa [SArr.base, instG, setAll] using hs)
        obtain ⟨s0, v, _, hv, _, himp⟩ := h.cell hrows hi hc
        obtain ⟨e1, e2⟩ := MapCtx.envc (ρ := ρ) (k := k) (j := j) hv
        refine ⟨v, by rw [cell?_heap hh] at hv; exact hv, ?_⟩
        rw [Nat.zero_add]
        exact (himp _ _ v e1 e2).2 rfl
    · rw [if_neg e1] at ho
      obtain ⟨x, hx, r⟩ := ha.other id o e1 ho
      exact ⟨x, hx, objRel_fr g (frMem_get h.fr id (h.inb id o ho) o ho) r⟩
  · simp only [Mem.set] at hid ⊢
    rw [Tr.get_put, if_neg (by omega)]
    exact h.dom id hid
/-- the other rows are as they were -/
theorem MapCtx.rest {ρ : Env} {β γ : Bet} {k : Nat} {mem0 memK memF : Mem} {W : Nat} {A D : SArr} {e : Blk} {len : T} (h : MapCtx ρ β k mem0 memK memF W A D e len) {j : Nat} {w : World} (ha : MapAt ρ β mem0 W A D e j w) {arr' : Array Value} {i : Nat} (hi : i < e.cnt)
    (hr : ∀ (f : Nat) (s : SV), ((A.fresh k).base (.lit i))[f]? = some s → ∃ v, arr'[e.base + i * e.stride + f]? = some v ∧ s.rel (mapEnv ρ k e j w) γ v) :
    ∀ (f : Nat) (s : SV), ((if i < j then D else A).at ρ i)[f]? = some s → ∃ v, arr'[e.base + i * e.stride + f]? = some v ∧ s.rel ρ β v := by
  intro f s hs
  have hf : f < A.ks.length := by have := (List.getElem?_eq_some_iff.1 hs).1; rw [h.len_at, ← h.ks] at this; exact this
  have hc : A.ks[f]? = some A.ks[f] := List.getElem?_eq_getElem hf
  obtain ⟨s0, v, hs0, hv, r, himp⟩ := h.cell ha.rows hi hc
  rw [hs] at hs0; cases hs0
  have hlt : f < ((A.fresh k).base (.lit i)).length := by rw [SArr.base_length]; exact hf
  obtain ⟨v', hv', r'⟩ := hr f _ (List.getElem?_eq_getElem hlt)
  have hcell : ((A.fresh k).base (.lit i))[f] = mkCell (qNum k) (.lit i) f A.ks[f] := by
    obtain ⟨c, hc2, e2⟩ := baseRow_get (qNum k) (.lit i) A.ks 0 f (((A.fresh k).base (.lit i))[f]) (List.getElem?_eq_getElem hlt)
    rw [hc] at hc2; cases hc2
    rw [e2, Nat.zero_add]
  rw [hcell] at r'
  obtain ⟨e1, e2⟩ := MapCtx.envc (ρ := ρ) (k := k) (j := j) hv
  have := (himp _ _ v' e1 e2).1 r'
  subst this
  exact ⟨_, hv', r⟩
theorem MapCtx.others {ρ : Env} {β β' : Bet} {lk : List Nat} {k : Nat} {mem0 memK memF : Mem} {W : Nat} {A D : SArr} {e : Blk} {len : T} (h : MapCtx ρ β k mem0 memK memF W A D e len) {j : Nat} {w w' : World} (ha : MapAt ρ β mem0 W A D e j w)
    (hs : Stp β lk w β' w') (hall : ∀ id, id < mem0.nx → id ≠ W → id ∈ lk) :
    (∀ x ∈ β, x.blk < w'.heap.size) ∧ ∀ id o, id ≠ W → mem0.tr.get id = some o → ∃ x, β[id]? = some x ∧ objRel ρ β x w' o := by
  refine ⟨fun x hx => Nat.lt_of_lt_of_le (ha.lt x hx) hs.size, fun id o hne ho => ?_⟩
  obtain ⟨x, hx, r⟩ := ha.other id o hne ho
  exact ⟨x, hx, objRel_heap r (hs.lock id (hall id (h.inb id o ho) hne) x hx)⟩
def semMap {ρ : Env} {β : Bet} {lk : List Nat} {k : Nat} {mem0 memK memF : Mem} {outs : List Out} {W : Nat} {A D : SArr} {e : Blk} {len : T} {pc1 : PC} {l : List SV} {fs : List PC} (h : MapCtx ρ β k mem0 memK memF W A D e len)
    (hmap : mapped k A l = some D) (hll : l.length = A.ks.length) (hj : joinP k (.map W) memK pc1 (outs.filter isNorm) = some (l, fs)) (hall : ∀ id, id < mem0.nx → id ≠ W → id ∈ lk) : LoopSem ρ β lk k mem0 memK memF (.map W) outs (.lit true) (len.ev ρ).toNat where
  σ j w := mapEnv ρ k e j w
  At j w := MapAt ρ β mem0 W A D e j w
  agree j w := Env.snap_agree _ _ _ _ _ _ _
  var j w := by simp [mapEnv, Env.snap]
  over j w ha := h.over ha
  next j w w' β' o ha hs ho hn hp hm := by
    obtain ⟨γ, rfl, hγ⟩ := hs.ext
    have g : Agree k (qNum k) ρ (mapEnv ρ k e j w) := Env.snap_agree _ _ _ _ _ _ _
    have hW : W < mem0.nx := h.inb W _ h.get
    have hfA := frMem_get h.fr W hW _ h.get
    have homem := List.mem_filter.2 ⟨ho, hn⟩
    obtain ⟨p, hpay, _⟩ := joinP_mem hj o homem
    obtain ⟨hpl, hprel⟩ := joinP_rel (σ := mapEnv ρ k e j w) (β := β) hj o homem hp p hpay
    have hnxK : memK.nx = mem0.nx := by rw [h.memK]; rfl
    have hgetK : memK.tr.get W = some (.arr (A.fresh k)) := by rw [h.memK]; simp [Mem.set, Tr.get_put]
    have hpay0 := hpay
    simp only [payload] at hpay
    simp only [hgetK] at hpay
    split at hpay
    · rename_i Ax Dx hAx hDx
      cases hAx
      obtain ⟨hsa, hpay⟩ := bif_some hpay
      have hDe := sameArr_ok hsa
      obtain ⟨k1, k2⟩ := h.others ha hs hall
      refine ⟨k1, k2, ?_⟩
      obtain ⟨e', he', hobj⟩ := hm.obj W _ hDx
      rw [List.getElem?_append_left (List.getElem?_eq_some_iff.1 h.blk).1, h.blk] at he'
      cases he'
      rw [hDe] at hobj
      obtain ⟨_, _, _, _, _, _, arr', el', fr', hh', hfr', hrr'⟩ := hobj
      refine ⟨arr', el', fr', hh', hfr', fun i hi f s hs' => ?_⟩
      -- the row that is changed, and the others
      have hcases : (Dx.row = none ∧ p = (A.fresh k).base (.var k)) ∨ ∃ t cs, Dx.row = some (t, cs) ∧ T.beq t (.var k) = true ∧ underL memK.nx cs = true ∧ p = cs := by
        split at hpay
        · rename_i hrow; cases hpay; exact .inl ⟨hrow, rfl⟩
        · rename_i t cs hrow
          obtain ⟨h1, h2⟩ := bif_some hpay
          cases h2
          rw [Bool.and_eq_true] at h1
          exact .inr ⟨t, _, hrow, h1.1, h1.2, rfl⟩
      have hother : i ≠ j → ∀ (f : Nat) (s : SV), ((A.fresh k).base (.lit i))[f]? = some s → ∃ v, arr'[e.base + i * e.stride + f]? = some v ∧ s.rel (mapEnv ρ k e j w) (β ++ γ) v := by
        intro hne f s hs
        refine hrr' i hi f s ?_
        rcases hcases with ⟨hrow, _⟩ | ⟨t, cs, hrow, ht, _, _⟩
        · simp only [SArr.at, hrow]; exact hs
        · simp only [SArr.at, hrow]
          rw [if_neg (by rw [T.beq_eq ht]; simp only [T.ev, mapEnv, Env.snap, if_true]; omega)]
          exact hs
      by_cases hij : i = j
      · -- the row of this round
        subst hij
        rw [if_pos (Nat.lt_succ_self _)] at hs'
        have hold : ∀ (f : Nat) (s : SV), (A.at ρ i)[f]? = some s → ∃ v, s.rel ρ β v ∧ iOf v = (mapEnv ρ k e i w).c (qNum k) i f ∧ bOf v = (mapEnv ρ k e i w).bc (qNum k) i f := by
          intro f s hs
          obtain ⟨arr, el, fr, hh, _, hrr⟩ := ha.rows
          obtain ⟨v, hv, r⟩ := hrr i hi f s (by rw [if_neg (Nat.lt_irrefl _)]; exact hs)
          obtain ⟨e1, e2⟩ := MapCtx.envc (ρ := ρ) (k := k) (j := i) (w := w) (e := e) (i := i) (f := f) (v := v) (by rw [cell?_heap hh]; exact hv)
          exact ⟨v, r, e1.symm, e2.symm⟩
        obtain ⟨x, hx, himp⟩ := mapped_row hmap (fun f hf => by omega) hfA h.okA g (by simp [mapEnv, Env.snap]) (by simp [mapEnv, Env.snap]) hold f s hs'
        obtain ⟨y, hy, hyr⟩ := hprel f x hx
        have hval : ∃ v, arr'[e.base + i * e.stride + f]? = some v ∧ y.rel (mapEnv ρ k e i w) β v := by
          rcases hcases with ⟨hrow, hp⟩ | ⟨t, cs, hrow, ht, hu, hp⟩
          · rw [hp] at hy
            have hlt : f < A.ks.length := by have := (List.getElem?_eq_some_iff.1 hy).1; rwa [SArr.base_length] at this
            have hlt2 : f < ((A.fresh k).base (.lit i)).length := by rw [SArr.base_length]; exact hlt
            obtain ⟨v, hv, r⟩ := hrr' i hi f _ (by simp only [SArr.at, hrow]; exact List.getElem?_eq_getElem hlt2)
            refine ⟨v, hv, ?_⟩
            obtain ⟨c, hc, rfl⟩ := baseRow_get (qNum k) (.var k) A.ks 0 f y (by simpa [SArr.base, SArr.fresh, instG, setAll] using hy)
            obtain ⟨c2, hc2, e2⟩ := baseRow_get (qNum k) (.lit i) A.ks 0 f (((A.fresh k).base (.lit i))[f]) (List.getElem?_eq_getElem hlt2)
            rw [hc] at hc2; cases hc2
            have e3 : ((A.fresh k).base (.lit i))[f] = mkCell (qNum k) (.lit i) (0 + f) c := e2
            have r' : (mkCell (qNum k) (.lit i) (0 + f) c).rel (mapEnv ρ k e i w) (β ++ γ) v := by rw [← e3]; exact r
            have hev : T.ev (mapEnv ρ k e i w) (.var k) = i := by simp [T.ev, mapEnv, Env.snap]
            cases c
            · simp only [mkCell, SV.rel, B.ev, T.ev] at r' hev ⊢; rw [hev]; exact r'
            · simp only [mkCell, SV.rel, T.ev] at r' hev ⊢; rw [hev]; exact r'
          · rw [hp] at hy
            obtain ⟨v, hv, r⟩ := hrr' i hi f y (by
              simp only [SArr.at, hrow]
              rw [if_pos (by rw [T.beq_eq ht]; simp [T.ev, mapEnv, Env.snap])]; exact hy)
            exact ⟨v, hv, under_rel _ _ (underL_get (by rw [← h.nx, ← hnxK]; exact hu) f y hy) r⟩
        obtain ⟨v, hv, r⟩ := hval
        exact ⟨v, hv, himp v (hyr v r)⟩
      · refine h.rest ha hi (hother hij) f s ?_
        by_cases h1 : i < j
        · rw [if_pos h1]; rwa [if_pos (by omega)] at hs'
        · rw [if_neg h1]; rwa [if_neg (by omega)] at hs'
    · cases hpay
  stay j w w' β' m ha hs hsame hm := by
    obtain ⟨γ, rfl, hγ⟩ := hs.ext
    have hnxK : memK.nx = mem0.nx := by rw [h.memK]; rfl
    have hW : W < mem0.nx := h.inb W _ h.get
    have hgetK : memK.tr.get W = some (.arr (A.fresh k)) := by rw [h.memK]; simp [Mem.set, Tr.get_put]
    obtain ⟨k1, k2⟩ := h.others ha hs hall
    have hsame := oeq_eq (fun _ _ => SObj.beq_eq) hsame
    refine ⟨k1, k2, ?_⟩
    obtain ⟨e', he', hobj⟩ := hm.obj W _ (by rw [hsame]; exact hgetK)
    rw [List.getElem?_append_left (List.getElem?_eq_some_iff.1 h.blk).1, h.blk] at he'
    cases he'
    obtain ⟨_, _, _, _, _, _, arr', el', fr', hh', hfr', hrr'⟩ := hobj
    exact ⟨arr', el', fr', hh', hfr', fun i hi f s hs' => h.rest ha hi (fun f s hs => hrr' i hi f s (by simpa [SArr.at, SArr.fresh] using hs)) f s hs'⟩
  fin w ha := by
    rw [h.memF]
    refine ⟨h.nx, fun id o ho => ?_, ha.lt, h.apart, fun id hid => ?_⟩
    · simp only [Mem.set, Tr.get_put] at ho
      by_cases e1 : id = W
      · rw [if_pos e1] at ho
        cases ho
        rw [e1]
        obtain ⟨arr, el, fr, hh, hfr, hrr⟩ := ha.rows
        refine ⟨e, h.blk, (by rw [h.dWr]; exact h.wr), (by rw [h.dStride]; exact h.stride), (by rw [h.dStride]; exact h.pos), (by rw [h.dKs, h.dStride]; exact h.ks), (by rw [h.dLen]; exact h.cnt), ⟨h.dOk, by rw [h.dStride]; exact h.dRow⟩, arr, el, fr, hh, hfr, fun i hi f s hs => ?_⟩
        have hM : i < (len.ev ρ).toNat := by
          have := h.cnt
          rw [T.beq_eq h.len] at this; omega
        exact hrr i hi f s (by rw [if_pos hM]; exact hs)
      · rw [if_neg e1] at ho
        exact ha.other id o e1 ho
    · simp only [Mem.set] at hid ⊢
      have hW : W < mem0.nx := h.inb W _ h.get
      rw [Tr.get_put, if_neg (by omega)]
      exact h.dom id hid
  cont _ _ _ _ _ _ := rfl
  back hn := by cases hn
end Go.SX
