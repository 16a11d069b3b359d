/- SX, part 15: a call's arguments, as symbolic values over an environment that is read off the world. -/
import Derived.Test.YtpkfeinnhdnfiaaSXOpen
namespace Go.SX
open Go

/-- what a reading and the value's form say of one cell -/
def goodR (w : World) : FK → Value → Prop
  | .c k, v => cellR k v
  | .sl ks, v => v = .slice none 0 0 ∨ ∃ (b off len cap : Nat) (arr : Array Value) (el : TypeId) (fr : Nat × Nat), v = .slice (some ⟨b, off, none⟩) len cap ∧ len ≤ cap ∧ cap ≤ 9223372036854775807 ∧ 0 < ks.length ∧
      w.heap[b]? = some (.cells arr el fr) ∧ ∀ i, i < len → ∀ (f : Nat) (k : CK), ks[f]? = some k → ∃ v, arr[off + i * ks.length + f]? = some v ∧ cellR k v
def goodL (w : World) : List FK → List Value → Prop
  | [], l => l = []
  | k :: ks, l => ∃ v vs, l = v :: vs ∧ goodR w k v ∧ goodL w ks vs
def formed (w : World) (v : Value) : Prop := ∀ (a : Addr) (len cap : Nat), v = .slice (some a) len cap → a.spot = none ∧ ∃ arr el fr, w.heap[a.block]? = some (.cells arr el fr)
theorem goodR_of {w : World} {base : Nat} {k : FK} {v : Value} (h : rawR w base k v) (hf : formed w v) : goodR w k v := by
  cases k with
  | c k => exact h
  | sl ks =>
    rcases h with h | ⟨a, len, cap, rfl, h1, h2, hp, h3⟩
    · exact .inl h
    · obtain ⟨hs, arr, el, fr, hh⟩ := hf a len cap rfl
      obtain ⟨b, off, sp⟩ := a
      simp only at hs hh
      subst hs
      refine .inr ⟨b, off, len, cap, arr, el, fr, rfl, h1, by unfold maxLen at h2; omega, hp, hh, fun i hi f k hk => ?_⟩
      obtain ⟨row, hr, hl, hc⟩ := h3 i hi
      have hf : f < ks.length := (List.getElem?_eq_some_iff.1 hk).1
      rw [add_off] at hr
      unfold World.cells? at hr
      split at hr
      · obtain ⟨y, hy⟩ : ∃ y, w.cell? ((⟨b, off + i * ks.length, none⟩ : Addr).add f) = some y ∧ row[f]? = some y := by
          have key : ∀ (l : List Nat) (r : List Value) (g : Nat → Option Value), l.mapM g = some r → ∀ (j x : Nat), l[j]? = some x → ∃ y, g x = some y ∧ r[j]? = some y := by
            intro l
            induction l with
            | nil => intro r g _ j x hj; simp at hj
            | cons a l ih =>
              intro r g h j x hj
              rw [List.mapM_cons] at h
              cases ha : g a with
              | none => simp [ha] at h
              | some z =>
                cases hl : l.mapM g with
                | none => simp [ha, hl] at h
                | some r' =>
                  simp [ha, hl] at h
                  subst h
                  cases j with
                  | zero => simp at hj; subst hj; exact ⟨z, ha, rfl⟩
                  | succ j => simp at hj; simpa using ih r' g hl j x hj
          exact key _ _ _ hr f f (by simp [hf])
        rw [add_off, cell?_heap hh] at hy
        exact ⟨y, hy.1, hc f k y hk hy.2⟩
      · cases hr
theorem goodL_of {w : World} {base : Nat} : ∀ {ks : List FK} {l : List Value}, rawL w base ks l → (∀ v ∈ l, formed w v) → goodL w ks l
  | [], _, h, _ => h
  | k :: ks, l, h, hf => by
    obtain ⟨v, vs, rfl, h1, h2⟩ := h
    exact ⟨v, vs, rfl, goodR_of h1 (hf v (by simp)), goodL_of h2 fun u hu => hf u (by simp [hu])⟩
theorem goodL_append {w : World} : ∀ {ks ls : List FK} {a b : List Value}, goodL w ks a → goodL w ls b → goodL w (ks ++ ls) (a ++ b)
  | [], _, a, b, h, h' => by rw [show a = [] from h]; exact h'
  | k :: ks, ls, a, b, h, h' => by
    obtain ⟨v, vs, rfl, h1, h2⟩ := h
    exact ⟨v, vs ++ b, rfl, h1, goodL_append h2 h'⟩
theorem goodL_length {w : World} : ∀ {ks : List FK} {l : List Value}, goodL w ks l → l.length = ks.length
  | [], _, h => by rw [h]; rfl
  | _ :: _, _, h => by obtain ⟨v, vs, rfl, _, h2⟩ := h; simp [goodL_length h2]
theorem formed_cell {P : Program} {w : World} {r : Reach} {base : Nat} {u : TypeId} {v : Value} (h : Cell.okWide P w r base u v) : formed w v := by
  rintro a len cap rfl
  unfold Cell.okWide at h
  cases hu : P.underlying u with
  | none => simp [hu, Cell.ok] at h
  | some td =>
    cases td <;> simp [hu, Cell.ok] at h
    obtain ⟨_, _, _, hs, row, n, hsh, _⟩ := h
    refine ⟨hs, ?_⟩
    unfold World.shape? at hsh
    split at hsh
    · rename_i c el fr hh; exact ⟨c, el, fr, hh⟩
    · cases hsh
theorem formed_value {P : Program} {w : World} {r : Reach} {base : Nat} {t : TypeId} {td : TypeDesc} {v : Value} (hu : P.underlying t = some td) (h : Value.okWide P w r base t v) :
    (isAggD td = true → ∃ cs, v = .agg cs) ∧ (isAggD td = false → v.cells = #[v]) ∧ ∀ c ∈ v.cells.toList, formed w c := by
  unfold Value.okWide at h
  rw [hu] at h
  have agg : ∀ cs, v = .agg cs → Row.okWide P w r base t cs → ∀ c ∈ v.cells.toList, formed w c := by
    rintro cs rfl ⟨ts, _, _, hall⟩ c hc
    obtain ⟨i, hi⟩ := List.mem_iff_getElem?.1 hc
    obtain ⟨u, _, hu⟩ := hall i c (by rw [← Array.getElem?_toList]; exact hi)
    exact formed_cell hu
  have one : Cell.okWide P w r base t v → v.cells = #[v] := by
    intro hc
    cases v <;> first | rfl | skip
    unfold Cell.okWide at hc
    rw [hu] at hc
    cases td <;> simp [Cell.ok, hu] at hc
  cases td <;> simp only at h <;> first
    | (obtain ⟨cs, rfl, _, hr⟩ := h
       exact ⟨fun _ => ⟨cs, rfl⟩, fun h => by simp [isAggD] at h, agg cs rfl hr⟩)
    | (refine ⟨fun h => by simp [isAggD] at h, fun _ => one h, fun c hc => ?_⟩
       rw [one h] at hc
       simp at hc
       subst hc
       exact formed_cell h)

/-! the parameters -/
def paramsS (P : Program) : List TypeId → Option (List (Bool × Nat) × List FK)
  | [] => some ([], [])
  | t :: ts => (match P.underlying t, flatS P 300 t, paramsS P ts with
    | some td, some ks, some (is, ls) => bif isAggD td || Nat.beq ks.length 1 then some ((isAggD td, ks.length) :: is, ks ++ ls) else none
    | _, _, _ => none)
def argsS : List (Bool × Nat) → List SV → List SV
  | [], _ => []
  | (true, n) :: r, l => .agg (l.take n) :: argsS r (l.drop n)
  | (false, n) :: r, l => l.headD .nils :: argsS r (l.drop n)
theorem open_args {H : Type} {enc : TypeId × Value → H} {P : Program} {w : World} {b : Nat} {sp : Nat → Bool} {held : Bool} {r : Reach} {base : Nat} :
    ∀ {ts : List TypeId} {vs : List Value} {ds : List (DataW H)} {ps : List MemPlace} {is : List (Bool × Nat)} {ks : List FK}, paramsS P ts = some (is, ks) → DataW.TrodAll enc P w b sp held ts vs ds ps →
      (∀ (j : Nat) t v, ts[j]? = some t → vs[j]? = some v → Value.okWide P w r base t v) →
      ∃ L, goodL w ks L ∧ ∀ (ρ : Env) (β : Bet) (S : List SV), relL ρ β S L → relL ρ β (argsS is S) vs
  | [], [], [], _, is, ks, h, _, _ => by
    simp only [paramsS, Option.some.injEq, Prod.mk.injEq] at h
    obtain ⟨rfl, rfl⟩ := h
    exact ⟨[], rfl, fun _ _ _ _ => rfl⟩
  | t :: ts, v :: vs, d :: ds, ps, is, ks, h, ht, hok => by
    simp only [paramsS] at h
    split at h
    · rename_i td k1 is' ls hu hk hps
      cases hb : isAggD td || Nat.beq k1.length 1
      · rw [hb] at h; cases h
      · rw [hb] at h
        cases h
        obtain ⟨p, q, ⟨fuel, hf⟩, htl, _⟩ := ht
        obtain ⟨L, hL, hrel⟩ := open_args hps htl (fun j t v h1 h2 => hok (j + 1) t v (by simpa using h1) (by simpa using h2))
        obtain ⟨f1, f2, f3⟩ := formed_value hu (hok 0 t v rfl rfl)
        have hg := goodL_of ((trod_flat 300).1 t k1 hk fuel _ _ hf) f3
        refine ⟨v.cells.toList ++ L, goodL_append hg hL, fun ρ β S hS => ?_⟩
        have hlen := goodL_length hg
        have h1 := relL_take k1.length hS
        have h2 := relL_drop k1.length hS
        rw [← hlen, List.take_left] at h1
        rw [← hlen, List.drop_left] at h2
        rw [hlen] at h1 h2
        cases ha : isAggD td
        · rw [ha] at hb
          have hk1 : k1.length = 1 := Nat.eq_of_beq_eq_true (by simpa using hb)
          refine ⟨v, vs, rfl, ?_, hrel ρ β _ h2⟩
          rw [f2 ha, hk1] at h1
          cases S with
          | nil => simp [relL] at h1
          | cons s S =>
            simp only [List.take_succ_cons, List.take_zero] at h1
            obtain ⟨u, us, hx, r1, _⟩ := h1
            simp at hx
            rw [hx.1]; exact r1
        · obtain ⟨cs, rfl⟩ := f1 ha
          exact ⟨.agg cs, vs, rfl, ⟨cs.toList, h1, by simp⟩, hrel ρ β _ h2⟩
    · cases h
  | [], _ :: _, _, _, _, _, _, h, _ => h.elim
  | [], [], _ :: _, _, _, _, _, h, _ => h.elim
  | _ :: _, [], _, _, _, _, _, h, _ => by simp [DataW.TrodAll] at h
  | _ :: _, _ :: _, [], _, _, _, _, h, _ => h.elim

/-! symbolic cells -/
def symL (R : Nat) : List FK → List Bool → Nat → Nat → List SV
  | [], _, _, _ => []
  | .c k :: fs, p, id, f => mkCell R (.lit 0) f k :: symL R fs p id (f + 1)
  | .sl _ :: fs, p, id, f => (match p with
    | true :: p => .slice id (.lit 0) 0 (.var id) none :: symL R fs p (id + 1) (f + 1)
    | _ :: p => .nils :: symL R fs p id (f + 1)
    | [] => .nils :: symL R fs [] id (f + 1))
def symM : List FK → List Bool → Mem → Mem
  | [], _, m => m
  | .c _ :: fs, p, m => symM fs p m
  | .sl ks :: fs, p, m => (match p with
    | true :: p => symM fs p (m.push (.arr ⟨false, m.nx, ks.length, ks, .var m.nx, none, 0, []⟩))
    | _ :: p => symM fs p m
    | [] => symM fs [] m)
def patOf : List FK → List Value → List Bool
  | [], _ => []
  | _ :: _, [] => []
  | .c _ :: fs, _ :: vs => patOf fs vs
  | .sl _ :: fs, .slice (some _) _ _ :: vs => true :: patOf fs vs
  | .sl _ :: fs, _ :: vs => false :: patOf fs vs
def blksOf : List FK → List Value → List Blk
  | [], _ => []
  | _ :: _, [] => []
  | .c _ :: fs, _ :: vs => blksOf fs vs
  | .sl ks :: fs, .slice (some a) len _ :: vs => ⟨a.block, a.off, ks.length, len, true⟩ :: blksOf fs vs
  | .sl _ :: fs, _ :: vs => blksOf fs vs
def cellAt (w : World) (R : Nat) (bl : List Blk) (L : List Value) (r : Nat) (i : Int) (f : Nat) : Value :=
  if r = R then L.getD f undef else match bl[r]? with
    | some e => (w.cell? ⟨e.blk, e.base + i.toNat * e.stride + f, none⟩).getD undef
    | none => undef
def envOf (w : World) (R : Nat) (bl : List Blk) (L : List Value) : Env where
  v n := match bl[n]? with | some e => e.cnt | none => 0
  c r i f := iOf (cellAt w R bl L r i f)
  bv _ := false
  bc r i f := bOf (cellAt w R bl L r i f)
theorem mkCell_cellR {ρ : Env} {β : Bet} {r : Nat} {i : T} {f : Nat} {k : CK} {v : Value} (h : cellR k v) (h1 : ρ.c r (i.ev ρ) f = iOf v) (h2 : ρ.bc r (i.ev ρ) f = bOf v) : (mkCell r i f k).rel ρ β v := by
  cases k with
  | b => obtain ⟨b, rfl⟩ := h; simp [mkCell, SV.rel, B.ev, h2, bOf]
  | i k => obtain ⟨n, rfl, hn⟩ := h; simp [mkCell, SV.rel, T.ev, h1, iOf, hn]
theorem symL_rel {w : World} {R : Nat} {bl : List Blk} {L : List Value} : ∀ {fs : List FK} {vs : List Value}, goodL w fs vs → ∀ (pre : List Value) (bpre bpost : List Blk), L = pre ++ vs → bl = bpre ++ blksOf fs vs ++ bpost →
    relL (envOf w R bl L) bl (symL R fs (patOf fs vs) bpre.length pre.length) vs
  | [], _, h, _, _, _, _, _ => h
  | .c k :: fs, _, h, pre, bpre, bpost, hL, hb => by
    obtain ⟨v, vs, rfl, h1, h2⟩ := h
    have hc : ∀ i, cellAt w R bl L R i pre.length = v := fun i => by simp [cellAt, hL]
    refine ⟨v, vs, rfl, mkCell_cellR h1 (by simp only [envOf, hc]) (by simp only [envOf, hc]), ?_⟩
    have := symL_rel (R := R) (bl := bl) (L := L) h2 (pre ++ [v]) bpre bpost (by simp [hL]) (by simpa [blksOf] using hb)
    simpa [patOf] using this
  | .sl ks :: fs, _, h, pre, bpre, bpost, hL, hb => by
    obtain ⟨v, vs, rfl, h1, h2⟩ := h
    rcases h1 with rfl | ⟨b, off, len, cap, arr, el, fr, rfl, hlc, hcm, hpos, hh, hrow⟩
    · refine ⟨_, vs, rfl, rfl, ?_⟩
      have := symL_rel (R := R) (bl := bl) (L := L) h2 (pre ++ [.slice none 0 0]) bpre bpost (by simp [hL]) (by simpa [blksOf] using hb)
      simpa [patOf] using this
    · have hbl : bl[bpre.length]? = some ⟨b, off, ks.length, len, true⟩ := by rw [hb]; simp [blksOf]
      refine ⟨_, vs, rfl, ⟨_, len, cap, hbl, by simp [T.ev], by simp only [T.ev, envOf, hbl], hlc, hcm, (fun t ht => by cases ht), by simp [T.ev]⟩, ?_⟩
      have := symL_rel (R := R) (bl := bl) (L := L) h2 (pre ++ [.slice (some ⟨b, off, none⟩) len cap]) (bpre ++ [⟨b, off, ks.length, len, true⟩]) bpost (by simp [hL]) (by simpa [blksOf] using hb)
      simpa [patOf] using this
theorem MemRel.pushRo {ρ : Env} {β : Bet} {m : Mem} {w : World} (h : MemRel ρ β m w) (hro : ∀ e ∈ β, e.ro = true) {e : Blk} (he : e.ro = true) (hlt : e.blk < w.heap.size) {o : SObj} (ho : objRel ρ (β ++ [e]) e w o) :
    MemRel ρ (β ++ [e]) (m.push o) w := by
  have hro' : ∀ x ∈ β ++ [e], x.ro = true := fun x hx => by
    rcases List.mem_append.1 hx with h1 | h1
    · exact hro x h1
    · simp at h1; subst h1; exact he
  refine ⟨by simp [Mem.push, h.nx], fun id o' ho' => ?_, fun x hx => ?_, fun i j x y hi hj _ _ => ⟨hro' x (List.mem_of_getElem? hi), hro' y (List.mem_of_getElem? hj)⟩, fun id hid => ?_⟩
  · simp only [Mem.push, Tr.get_put] at ho'
    by_cases hid : id = m.nx
    · rw [if_pos hid] at ho'; cases ho'
      exact ⟨e, by rw [hid, h.nx]; simp, ho⟩
    · rw [if_neg hid] at ho'
      obtain ⟨x, hx, r⟩ := h.obj id o' ho'
      exact ⟨x, by rw [List.getElem?_append_left (List.getElem?_eq_some_iff.1 hx).1]; exact hx, objRel_mono _ r⟩
  · rcases List.mem_append.1 hx with h1 | h1
    · exact h.lt x h1
    · simp at h1; subst h1; exact hlt
  · simp only [Mem.push] at hid ⊢
    rw [Tr.get_put, if_neg (by omega)]
    exact h.dom id (by omega)
theorem symM_rel {w : World} {R : Nat} {bl : List Blk} {L : List Value} (hR : bl.length ≤ R) : ∀ {fs : List FK} {vs : List Value}, goodL w fs vs → ∀ (bpre : List Blk) (m : Mem), bl = bpre ++ blksOf fs vs → (∀ e ∈ bpre, e.ro = true) →
    MemRel (envOf w R bl L) bpre m w → MemRel (envOf w R bl L) bl (symM fs (patOf fs vs) m) w ∧ ∀ e ∈ bl, e.ro = true
  | [], _, h, bpre, m, hb, hro, hm => by
    have : bl = bpre := by simpa [blksOf] using hb
    subst this
    exact ⟨by simpa [symM] using hm, hro⟩
  | .c k :: fs, _, h, bpre, m, hb, hro, hm => by
    obtain ⟨v, vs, rfl, h1, h2⟩ := h
    simpa [symM, patOf] using symM_rel hR h2 bpre m (by simpa [blksOf] using hb) hro hm
  | .sl ks :: fs, _, h, bpre, m, hb, hro, hm => by
    obtain ⟨v, vs, rfl, h1, h2⟩ := h
    rcases h1 with rfl | ⟨b, off, len, cap, arr, el, fr, rfl, hlc, hcm, hpos, hh, hrow⟩
    · simpa [symM, patOf] using symM_rel hR h2 bpre m (by simpa [blksOf] using hb) hro hm
    · have hbl : bl[bpre.length]? = some ⟨b, off, ks.length, len, true⟩ := by rw [hb]; simp [blksOf]
      have hlt : bpre.length < bl.length := (List.getElem?_eq_some_iff.1 hbl).1
      have hnx := hm.nx
      have hpush := hm.pushRo hro (e := ⟨b, off, ks.length, len, true⟩) rfl (by have := (Array.getElem?_eq_some_iff.1 hh).1; exact this) (o := .arr ⟨false, m.nx, ks.length, ks, .var m.nx, none, 0, []⟩) (by
        refine ⟨(fun h => by cases h), rfl, hpos, rfl, ?_, ⟨rfl, fun t cs h => by cases h⟩, arr, el, fr, hh, (fun h => by cases h), fun j hj f sv hs => ?_⟩
        · simp only [T.ev, envOf, hnx, hbl]
        · simp only [SArr.at, SArr.base, setAll, instG] at hs
          have hk : ∃ k, ks[f]? = some k ∧ sv = mkCell m.nx (.lit j) f k := by
            have : ∀ (ks : List CK) (n f : Nat), (baseRow m.nx (.lit j) ks n)[f]? = some sv → ∃ k, ks[f]? = some k ∧ sv = mkCell m.nx (.lit j) (n + f) k := by
              intro ks
              induction ks with
              | nil => intro n f h; simp [baseRow] at h
              | cons k ks ih =>
                intro n f h
                cases f with
                | zero => simp [baseRow] at h; exact ⟨k, rfl, h.symm⟩
                | succ f =>
                  simp [baseRow] at h
                  obtain ⟨k', hk', e⟩ := ih (n + 1) f h
                  exact ⟨k', by simpa using hk', by rw [e]; congr 1; omega⟩
            simpa using this ks 0 f hs
          obtain ⟨k, hk, rfl⟩ := hk
          obtain ⟨v, hv, hc⟩ := hrow j hj f k hk
          refine ⟨v, hv, mkCell_cellR hc ?_ ?_⟩ <;>
            · simp only [envOf, T.ev, cellAt, hnx]
              rw [if_neg (by omega), hbl]
              simp only [Int.toNat_natCast, cell?_heap hh, hv, Option.getD_some])
      have := symM_rel hR (L := L) h2 (bpre ++ [⟨b, off, ks.length, len, true⟩]) _ (by simpa [blksOf] using hb) (fun e he => by
        rcases List.mem_append.1 he with h1 | h1
        · exact hro e h1
        · simp at h1; subst h1; rfl) hpush
      simpa [symM, patOf] using this
/-- how many slices there are, and all the ways in which they may be nil -/
def patsOf : List FK → List (List Bool)
  | [] => [[]]
  | .c _ :: fs => patsOf fs
  | .sl _ :: fs => (patsOf fs).flatMap fun p => [true :: p, false :: p]
theorem patOf_mem {w : World} : ∀ {fs : List FK} {vs : List Value}, goodL w fs vs → patOf fs vs ∈ patsOf fs
  | [], _, _ => by simp [patOf, patsOf]
  | .c k :: fs, _, h => by
    obtain ⟨v, vs, rfl, h1, h2⟩ := h
    simpa [patOf, patsOf] using patOf_mem h2
  | .sl ks :: fs, _, h => by
    obtain ⟨v, vs, rfl, h1, h2⟩ := h
    have := patOf_mem h2
    simp only [patsOf, List.mem_flatMap]
    refine ⟨_, this, ?_⟩
    rcases h1 with rfl | ⟨b, off, len, cap, arr, el, fr, rfl, _⟩ <;> simp [patOf]
end Go.SX
