/- SX, part 3: reading and writing cells of symbolic memory. -/
import Derived.Test.YtpkfeinnhdnfiaaSXMem
import Derived.Laws.CopyRow
import Derived.Laws.Entries
import Derived.ChangeKeysEq
namespace Go.SX
open Go

/-- a cell of one of two rows -/
def iteC (b : B) : SV → SV → Option SV
  | .bool x, .bool y => some (.bool (mkIteB b x y))
  | .int k x, .int l y => bif Nat.beq (kindNo k) (kindNo l) then some (.int k (mkIte b x y)) else none
  | _, _ => none
def iteCL (b : B) : List SV → List SV → Option (List SV)
  | [], [] => some []
  | x :: xs, y :: ys => (match iteC b x y, iteCL b xs ys with | some z, some zs => some (z :: zs) | _, _ => none)
  | _, _ => none
theorem iteC_rel {ρ : Env} {β : Bet} {b : B} {v : Value} : ∀ {x y z : SV}, iteC b x y = some z → (bif b.ev ρ then x.rel ρ β v else y.rel ρ β v) → z.rel ρ β v := by
  intro x y z h r
  unfold iteC at h
  split at h
  · cases h
    simp only [SV.rel, mkIteB_ev] at r ⊢
    cases hb : b.ev ρ <;> rw [hb] at r <;> exact r
  · rename_i k x l y
    cases hk : Nat.beq (kindNo k) (kindNo l)
    · rw [hk] at h; cases h
    · rw [hk] at h
      cases h
      have := kindNo_inj hk
      subst this
      simp only [SV.rel, mkIte_ev] at r ⊢
      cases hb : b.ev ρ <;> rw [hb] at r <;> exact r
  · cases h
theorem iteCL_get {b : B} : ∀ {xs ys zs : List SV}, iteCL b xs ys = some zs → ∀ {f : Nat} {z : SV}, zs[f]? = some z → ∃ x y, xs[f]? = some x ∧ ys[f]? = some y ∧ iteC b x y = some z
  | [], [], zs, h, f, z, hz => by cases h; simp at hz
  | x :: xs, y :: ys, zs, h, f, z, hz => by
    simp only [iteCL] at h
    split at h
    · rename_i a as h1 h2
      cases h
      cases f with
      | zero => simp at hz; subst hz; exact ⟨x, y, rfl, rfl, h1⟩
      | succ f => simp at hz; simpa using iteCL_get h2 hz
    · cases h
  | [], _ :: _, _, h, _, _, _ => by simp [iteCL] at h
  | _ :: _, [], _, h, _, _, _ => by simp [iteCL] at h
/-- the row of a block at an index, as far as it is known -/
def SObj.rowOf (pc : PC) (o : SObj) (idx : T) : Option (List SV) :=
  match o with
  | .cells _ cs => (match idx with | .lit (.ofNat 0) => some cs | _ => none)
  | .buf _ _ cs => (match idx with | .lit (.ofNat 0) => some cs | _ => none)
  | .arr A => (match A.row with
    | none => some (A.base idx)
    | some (t, cs) => bif T.beq t idx then some cs else (match simpB pc (.eqI t idx) with | .lit false => some (A.base idx) | .lit true => some cs | b => iteCL b cs (A.base idx)))
theorem mkCell_rel {ρ : Env} {β : Bet} (r : Nat) {i j : T} (f : Nat) (k : CK) (h : i.ev ρ = j.ev ρ) {v : Value} (hv : (mkCell r i f k).rel ρ β v) : (mkCell r j f k).rel ρ β v := by
  cases k <;> simpa [mkCell, SV.rel, B.ev, T.ev, h] using hv
theorem baseRow_rel {ρ : Env} {β : Bet} (r : Nat) {i j : T} (h : i.ev ρ = j.ev ρ) : ∀ (ks : List CK) (n f : Nat) (s : SV), (baseRow r j ks n)[f]? = some s →
    ∃ s', (baseRow r i ks n)[f]? = some s' ∧ ∀ v, s'.rel ρ β v → s.rel ρ β v
  | [], _, f, s, hs => by simp [baseRow] at hs
  | k :: ks, n, 0, s, hs => by
    simp [baseRow] at hs; subst hs
    exact ⟨_, rfl, fun v hv => mkCell_rel r n k h hv⟩
  | k :: ks, n, f + 1, s, hs => by
    simp [baseRow] at hs
    simpa [baseRow] using baseRow_rel r h ks (n + 1) f s hs
theorem setAll_rel {ρ : Env} {β : Bet} {ss tt : List SV} (hl : ss.length = tt.length)
    (h : ∀ (f : Nat) (s : SV), tt[f]? = some s → ∃ s', ss[f]? = some s' ∧ ∀ v, s'.rel ρ β v → s.rel ρ β v) {gk : Nat} {a b : T} (hab : a.ev ρ = b.ev ρ) :
    ∀ (g : List (Nat × SV)), genOk gk g = true → (setAll (instG gk a g) ss).length = (setAll (instG gk b g) tt).length ∧
      ∀ (f : Nat) (s : SV), (setAll (instG gk b g) tt)[f]? = some s → ∃ s', (setAll (instG gk a g) ss)[f]? = some s' ∧ ∀ v, s'.rel ρ β v → s.rel ρ β v
  | [], _ => ⟨hl, h⟩
  | (k, x) :: g, hg => by
    simp only [genOk, Bool.and_eq_true] at hg
    obtain ⟨h1, h2⟩ := setAll_rel hl h hab g hg.2
    refine ⟨by simp [setAll, instG, h1], fun f s hs => ?_⟩
    simp only [setAll, instG, List.getElem?_set] at hs ⊢
    by_cases e : k = f
    · subst e
      simp only [if_true] at hs ⊢
      split at hs
      · rename_i hlt
        rw [if_pos (by omega)]
        simp only [Option.some.injEq] at hs
        subst hs
        exact ⟨_, rfl, fun v hv => by rw [instSV_rel hg.1] at hv ⊢; rw [← hab]; exact hv⟩
      · cases hs
    · rw [if_neg e] at hs ⊢
      exact h2 f s hs
theorem baseRow_length (r : Nat) (i : T) : ∀ (ks : List CK) (n : Nat), (baseRow r i ks n).length = ks.length
  | [], _ => rfl
  | _ :: ks, n => by simp [baseRow, baseRow_length r i ks (n + 1)]
theorem setAll_length : ∀ (g : List (Nat × SV)) (l : List SV), (setAll g l).length = l.length
  | [], _ => rfl
  | _ :: g, l => by simp [setAll, setAll_length g l]
theorem SArr.base_length (A : SArr) (i : T) : (A.base i).length = A.ks.length := by
  simp [SArr.base, setAll_length, baseRow_length]
theorem SArr.base_rel {ρ : Env} {β : Bet} (A : SArr) (hg : genOk A.gk A.gen = true) {i j : T} (h : i.ev ρ = j.ev ρ) {f : Nat} {s : SV} (hs : (A.base j)[f]? = some s) :
    ∃ s', (A.base i)[f]? = some s' ∧ ∀ v, s'.rel ρ β v → s.rel ρ β v :=
  (setAll_rel (by simp [baseRow_length]) (fun f s hs => baseRow_rel A.r h A.ks 0 f s hs) h A.gen hg).2 f s hs

theorem cell?_heap {w : World} {b k : Nat} {arr : Array Value} {el : TypeId} {fr : Nat × Nat} (h : w.heap[b]? = some (.cells arr el fr)) : w.cell? ⟨b, k, none⟩ = arr[k]? := by
  simp [World.cell?, h]
/-- what a row says of a cell is so -/
theorem rowOf_ok {ρ : Env} {β : Bet} {pc : PC} {o : SObj} {e : Blk} {w : World} {idx : T} {cs : List SV} (hp : PcH ρ pc) (ho : objRel ρ β e w o) (h0 : 0 ≤ idx.ev ρ)
    (hlt : e.stride ≠ 0 → idx.ev ρ < e.cnt) (h : o.rowOf pc idx = some cs) {f : Nat} {s : SV} (hs : cs[f]? = some s) :
    ∃ v, w.cell? ⟨e.blk, e.base + (idx.ev ρ).toNat * e.stride + f, none⟩ = some v ∧ s.rel ρ β v := by
  cases o with
  | cells wr cs' =>
    obtain ⟨_, hb, hst, arr, el, fr, hh, _, hr⟩ := ho
    simp only [SObj.rowOf] at h
    split at h
    · cases h
      obtain ⟨v, hv, r⟩ := relL_get hr hs
      refine ⟨v, ?_, r⟩
      rw [cell?_heap hh, hb, hst]
      simpa using hv
    · cases h
  | buf el sz cs' =>
    obtain ⟨_, hb, hst, arr, hh, _, vs, rest, hl, hr⟩ := ho
    simp only [SObj.rowOf] at h
    split at h
    · cases h
      obtain ⟨v, hv, r⟩ := relL_get hr hs
      refine ⟨v, ?_, r⟩
      rw [cell?_heap hh, hb, hst]
      have hlt := (List.getElem?_eq_some_iff.1 hv).1
      have : arr.toList[f]? = some v := by rw [hl, List.getElem?_append_left hlt]; exact hv
      simpa using this
    · cases h
  | arr A =>
    obtain ⟨_, hst, hpos, hks, hcnt, hrow, arr, el, fr, hh, _, hr⟩ := ho
    have hlt' := hlt (by omega)
    have hj : ((idx.ev ρ).toNat : Int) = idx.ev ρ := Int.toNat_of_nonneg h0
    have hjc : (idx.ev ρ).toNat < e.cnt := by omega
    simp only [SObj.rowOf] at h
    have hbase : A.at ρ (idx.ev ρ).toNat = A.base (.lit (idx.ev ρ).toNat) → (A.base idx)[f]? = some s → ∃ v, w.cell? ⟨e.blk, e.base + (idx.ev ρ).toNat * e.stride + f, none⟩ = some v ∧ s.rel ρ β v := by
      intro hat hs'
      obtain ⟨s', hs'', himp⟩ := A.base_rel hrow.1 (ρ := ρ) (β := β) (i := .lit (idx.ev ρ).toNat) (j := idx) (by simp only [T.ev]; exact hj) hs'
      obtain ⟨v, hv, r⟩ := hr _ hjc f s' (by rw [hat]; exact hs'')
      exact ⟨v, by rw [cell?_heap hh]; exact hv, himp v r⟩
    cases hA : A.row with
    | none =>
      simp only [hA, Option.some.injEq] at h
      subst h
      exact hbase (by simp [SArr.at, hA]) hs
    | some p =>
      obtain ⟨t, cs'⟩ := p
      simp only [hA] at h
      cases hb : T.beq t idx
      · simp only [hb, cond_false] at h
        have hsb := simpB_ev hp (.eqI t idx)
        split at h
        · rename_i hsim
          cases h
          rw [hsim] at hsb
          simp only [B.ev] at hsb
          have hne : t.ev ρ ≠ idx.ev ρ := fun e => by rw [e] at hsb; simp at hsb
          exact hbase (by simp only [SArr.at, hA]; rw [if_neg (by omega)]) hs
        · rename_i hsim
          cases h
          rw [hsim] at hsb
          simp only [B.ev] at hsb
          have he : t.ev ρ = idx.ev ρ := by simpa using hsb.symm
          obtain ⟨v, hv, r⟩ := hr _ hjc f s (by simp only [SArr.at, hA]; rw [if_pos (by rw [he, hj])]; exact hs)
          exact ⟨v, by rw [cell?_heap hh]; exact hv, r⟩
        · generalize simpB pc (.eqI t idx) = b at h hsb
          obtain ⟨x, y, hx, hy, hz⟩ := iteCL_get h hs
          simp only [B.ev] at hsb
          cases hbv : b.ev ρ
          · rw [hbv] at hsb
            have hne : t.ev ρ ≠ idx.ev ρ := fun e => by rw [e] at hsb; simp at hsb
            obtain ⟨s', hs'', himp⟩ := A.base_rel hrow.1 (ρ := ρ) (β := β) (i := .lit (idx.ev ρ).toNat) (j := idx) (by simp only [T.ev]; exact hj) hy
            obtain ⟨v, hv, r⟩ := hr _ hjc f s' (by simp only [SArr.at, hA]; rw [if_neg (by omega)]; exact hs'')
            exact ⟨v, by rw [cell?_heap hh]; exact hv, iteC_rel hz (by rw [hbv]; exact himp v r)⟩
          · rw [hbv] at hsb
            have he : t.ev ρ = idx.ev ρ := by simpa using hsb.symm
            obtain ⟨v, hv, r⟩ := hr _ hjc f x (by simp only [SArr.at, hA]; rw [if_pos (by rw [he, hj])]; exact hx)
            exact ⟨v, by rw [cell?_heap hh]; exact hv, iteC_rel hz (by rw [hbv]; exact r)⟩
      · simp only [hb, cond_true, Option.some.injEq] at h
        subst h
        have ht := T.beq_eq hb
        obtain ⟨v, hv, r⟩ := hr _ hjc f s (by simp only [SArr.at, hA]; rw [if_pos (by rw [ht, hj])]; exact hs)
        exact ⟨v, by rw [cell?_heap hh]; exact hv, r⟩

/-- reading n cells from a place on -/
def Mem.read (pc : PC) (m : Mem) (id : Nat) (idx : T) (off n : Nat) : Option (List SV) :=
  match m.tr.get id with
  | some o => (match o.rowOf pc idx with
    | some cs => let l := (cs.drop off).take n; bif Nat.beq l.length n then some l else none
    | none => none)
  | none => none
theorem add_off (b o i : Nat) : (⟨b, o, none⟩ : Addr).add i = ⟨b, o + i, none⟩ := by unfold Addr.add; split <;> simp_all
theorem Mem.read_ok (P : Program) {ρ : Env} {β : Bet} {pc : PC} {m : Mem} {w : World} {id : Nat} {idx : T} {off n : Nat} {l : List SV} (hp : PcH ρ pc) (hm : MemO ρ β m w)
    {e : Blk} (he : β[id]? = some e) (h0 : 0 ≤ idx.ev ρ) (hlt : e.stride ≠ 0 → idx.ev ρ < e.cnt) (h : m.read pc id idx off n = some l) :
    ∃ vs, relL ρ β l vs ∧ vs.length = n ∧ (∀ w', Same β m w w' → ∀ (j : Nat) (v : Value), vs[j]? = some v → w'.cell? ⟨e.blk, e.base + (idx.ev ρ).toNat * e.stride + off + j, none⟩ = some v) ∧
      ∀ w', Same β m w w' → (loadCells ⟨e.blk, e.base + (idx.ev ρ).toNat * e.stride + off, none⟩ n).run P w' = .ok vs.toArray w' := by
  unfold Mem.read at h
  cases ho : m.tr.get id with
  | none => simp [ho] at h
  | some o =>
    simp only [ho] at h
    obtain ⟨e', he', hr⟩ := hm.obj id o ho
    rw [he] at he'; cases he'
    cases hrow : o.rowOf pc idx with
    | none => simp [hrow] at h
    | some cs =>
      simp only [hrow] at h
      cases hn : Nat.beq ((cs.drop off).take n).length n
      · simp only [hn, cond_false] at h; cases h
      · simp only [hn, cond_true, Option.some.injEq] at h
        subst h
        have hlen : ((cs.drop off).take n).length = n := Nat.eq_of_beq_eq_true hn
        have key : ∀ j : Nat, j < n → ∃ v, w.cell? ⟨e.blk, e.base + (idx.ev ρ).toNat * e.stride + off + j, none⟩ = some v ∧ ∃ s, ((cs.drop off).take n)[j]? = some s ∧ s.rel ρ β v := by
          intro j hj
          have hs : ((cs.drop off).take n)[j]? = some (((cs.drop off).take n)[j]'(by omega)) := List.getElem?_eq_getElem (by omega)
          obtain ⟨v, hv, r⟩ := rowOf_ok hp hr h0 hlt hrow (f := off + j) (s := ((cs.drop off).take n)[j]'(by omega)) (by
            rw [← hs, List.getElem?_take, if_pos hj, List.getElem?_drop])
          exact ⟨v, by rw [show e.base + (idx.ev ρ).toNat * e.stride + off + j = e.base + (idx.ev ρ).toNat * e.stride + (off + j) by omega]; exact hv, _, hs, r⟩
        let f : Nat → Value := fun j => if h : j < n then (key j h).choose else undef
        have hf : ∀ j (h : j < n), f j = (key j h).choose := fun j h => by simp [f, h]
        have hcell : ∀ w', Same β m w w' → ∀ k, w'.cell? ⟨e.blk, k, none⟩ = w.cell? ⟨e.blk, k, none⟩ := fun w' hs k => by
          simp only [World.cell?, hs id o e ho he]
        refine ⟨(List.range n).map f, relL_of_get (by simp [hlen]) fun i s hs => ?_, by simp, fun w' hw j v hv => ?_, fun w' hw => ?_⟩
        · have hi : i < n := by have := (List.getElem?_eq_some_iff.1 hs).1; omega
          obtain ⟨_, s', hs', r⟩ := (key i hi).choose_spec
          rw [hs] at hs'; cases hs'
          exact ⟨_, by simp [hi, hf i hi], r⟩
        · have hj : j < n := by have := (List.getElem?_eq_some_iff.1 hv).1; simpa using this
          rw [List.getElem?_map, List.getElem?_range hj] at hv
          simp only [Option.map_some, Option.some.injEq, hf j hj] at hv
          rw [← hv, hcell w' hw]; exact (key j hj).choose_spec.1
        · rw [run_loadCells w' _ n f fun j hj => by rw [add_off, hf j hj, hcell w' hw]; exact (key j hj).choose_spec.1]

/-- a value of one cell -/
def SV.one : SV → Bool
  | .agg _ | .tup _ => false
  | _ => true
theorem SV.one_ok {ρ : Env} {β : Bet} {s : SV} {v : Value} (h : s.one = true) (hr : s.rel ρ β v) : v.oneCell' = true := by
  cases s <;> simp only [SV.rel] at hr <;> first
    | (simp [SV.one] at h; done)
    | (subst hr; rfl)
    | (obtain ⟨rfl, h⟩ := hr; exact h)
    | (obtain ⟨_, _, _, _, rfl⟩ := hr; rfl)
    | (obtain ⟨rfl, _⟩ := hr; rfl)
    | (obtain ⟨_, _, _, _, _, _, _, _, _, rfl⟩ := hr; rfl)
    | (obtain ⟨_, _, rfl⟩ := hr; rfl)
theorem relL_one {ρ : Env} {β : Bet} : ∀ {ss : List SV} {l : List Value}, ss.all SV.one = true → relL ρ β ss l → ∀ v ∈ l, v.oneCell' = true
  | [], l, _, h, v, hv => by rw [show l = [] from h] at hv; cases hv
  | s :: ss, l, ha, h, v, hv => by
    obtain ⟨u, us, rfl, h1, h2⟩ := h
    simp at ha
    cases hv with
    | head => exact SV.one_ok ha.1 h1
    | tail _ hv => exact relL_one (by simpa using ha.2) h2 v hv
/-- cells of a row, written over -/
def writeL (cs : List SV) (off : Nat) (vs : List SV) : Option (List SV) :=
  bif Nat.ble (off + vs.length) cs.length then some (cs.take off ++ vs ++ cs.drop (off + vs.length)) else none
theorem writeL_length {cs : List SV} {off : Nat} {vs cs' : List SV} (h : writeL cs off vs = some cs') : cs'.length = cs.length ∧ off + vs.length ≤ cs.length := by
  unfold writeL at h
  cases hb : Nat.ble (off + vs.length) cs.length
  · simp [hb] at h
  · simp only [hb, cond_true, Option.some.injEq] at h
    have := Nat.le_of_ble_eq_true hb
    subst h
    exact ⟨by simp; omega, this⟩
theorem writeL_get {cs : List SV} {off : Nat} {vs cs' : List SV} (h : writeL cs off vs = some cs') (k : Nat) :
    cs'[k]? = if off ≤ k ∧ k < off + vs.length then vs[k - off]? else cs[k]? := by
  have hl := (writeL_length h).2
  unfold writeL at h
  cases hb : Nat.ble (off + vs.length) cs.length
  · simp [hb] at h
  · simp only [hb, cond_true, Option.some.injEq] at h
    subst h
    rw [List.append_assoc, List.getElem?_append, List.length_take, Nat.min_eq_left (by omega)]
    by_cases h1 : k < off
    · rw [if_pos h1, if_neg (by omega), List.getElem?_take, if_pos h1]
    · rw [if_neg h1, List.getElem?_append]
      by_cases h2 : k - off < vs.length
      · rw [if_pos h2, if_pos (by omega)]
      · rw [if_neg h2, if_neg (by omega), List.getElem?_drop]
        congr 1; omega
theorem spliced_get {α : Type} (arr : List α) (o : Nat) (vs : List α) (h : o + vs.length ≤ arr.length) (k : Nat) :
    (arr.take o ++ vs ++ arr.drop (o + vs.length))[k]? = if o ≤ k ∧ k < o + vs.length then vs[k - o]? else arr[k]? := by
  rw [List.append_assoc, List.getElem?_append, List.length_take, Nat.min_eq_left (by omega)]
  by_cases h1 : k < o
  · rw [if_pos h1, if_neg (by omega), List.getElem?_take, if_pos h1]
  · rw [if_neg h1, List.getElem?_append]
    by_cases h2 : k - o < vs.length
    · rw [if_pos h2, if_pos (by omega)]
    · rw [if_neg h2, if_neg (by omega), List.getElem?_drop]
      congr 1; omega
def memB (n : Nat) : List Nat → Bool
  | [] => false
  | a :: l => bif Nat.beq a n then true else memB n l
theorem memB_ok {n : Nat} : ∀ {l : List Nat}, memB n l = false → n ∉ l
  | [], _ => by simp
  | a :: l, h => by
    simp only [memB] at h
    cases hb : Nat.beq a n
    · rw [hb] at h
      simp only [List.mem_cons, not_or]
      exact ⟨(fun e => by rw [e] at hb; simp at hb), memB_ok h⟩
    · rw [hb] at h; cases h
def Mem.set (m : Mem) (id : Nat) (o : SObj) : Mem := ⟨m.tr.put id o, m.nx⟩
def Mem.store (lk : List Nat) (m : Mem) (id : Nat) (idx : T) (off : Nat) (vs : List SV) : Option Mem :=
  bif memB id lk then none else bif !(vs.all SV.one) then none else
  match m.tr.get id with
  | some (.cells true cs) => (match idx with
    | .lit (.ofNat 0) => (match writeL cs off vs with | some cs' => some (m.set id (.cells true cs')) | none => none)
    | _ => none)
  | some (.buf el sz cs) => (match idx with
    | .lit (.ofNat 0) => (match writeL cs off vs with | some cs' => some (m.set id (.buf el sz cs')) | none => none)
    | _ => none)
  | some (.arr A) => bif !A.wr then none else
    (match A.row with
    | none => (match writeL (A.base idx) off vs with | some cs' => some (m.set id (.arr { A with row := some (idx, cs') })) | none => none)
    | some (t, cs) => bif T.beq t idx then (match writeL cs off vs with | some cs' => some (m.set id (.arr { A with row := some (idx, cs') })) | none => none) else none)
  | _ => none
theorem heap_setRow (w : World) (g : Nat) (cs : Array Value) (k : Nat) (h : k ≠ g) : (w.setRow g cs).heap[k]? = w.heap[k]? := by
  simp only [World.setRow, Array.getElem?_modify]
  rw [if_neg (fun e => h e.symm)]
theorem Stp.setRow {β : Bet} {lk : List Nat} {w : World} {e : Blk} {id : Nat} (he : β[id]? = some e) (hro : e.ro = false) (hlk : id ∉ lk)
    (hap : ∀ (j : Nat) (e' : Blk), β[j]? = some e' → id ≠ j → e'.blk ≠ e.blk) (cs : Array Value) : Stp β lk w β (w.setRow e.blk cs) := by
  refine ⟨⟨[], by simp, by simp⟩, rfl, rfl, rfl, by simp, fun k _ hn => heap_setRow w _ cs k fun h => hn e (List.mem_of_getElem? he) hro h.symm, fun j hj e' he' => heap_setRow w _ cs _ ?_⟩
  exact hap j e' he' fun h => hlk (h ▸ hj)
theorem MemRel.apart' {ρ : Env} {β : Bet} {m : Mem} {w : World} (hm : MemRel ρ β m w) {id : Nat} {e : Blk} (he : β[id]? = some e) (hro : e.ro = false) (j : Nat) (e' : Blk)
    (he' : β[j]? = some e') (hne : id ≠ j) : e'.blk ≠ e.blk := fun h => by
  have := (hm.apart id j e e' he he' hne h.symm).1
  rw [hro] at this; cases this
theorem MemRel.set {ρ : Env} {β : Bet} {m : Mem} {w w' : World} (hm : MemRel ρ β m w) {id : Nat} {e : Blk} (he : β[id]? = some e) (hro : e.ro = false) (hsz : w'.heap.size = w.heap.size)
    (hw : ∀ k, k ≠ e.blk → w'.heap[k]? = w.heap[k]?) {o : SObj} (ho : objRel ρ β e w' o) : MemRel ρ β (m.set id o) w' := by
  refine ⟨hm.nx, fun j o' ho' => ?_, fun x hx => by rw [hsz]; exact hm.lt x hx, hm.apart, fun j hj => ?_⟩
  · simp only [Mem.set, Tr.get_put] at ho'
    by_cases hj : j = id
    · rw [if_pos hj] at ho'; cases ho'; exact ⟨e, hj ▸ he, ho⟩
    · rw [if_neg hj] at ho'
      obtain ⟨e', he', r⟩ := hm.obj j o' ho'
      exact ⟨e', he', objRel_heap r (hw _ (hm.apart' he hro j e' he' (Ne.symm hj)))⟩
  · simp only [Mem.set] at hj ⊢
    rw [Tr.get_put, if_neg (fun h => ?_)]
    · exact hm.dom j hj
    · have := (List.getElem?_eq_some_iff.1 he).1
      have := hm.nx
      omega
/-- an array with a row written -/
theorem arr_at_row {ρ : Env} {A : SArr} {idx : T} {cs' : List SV} (j : Nat) (h0 : 0 ≤ idx.ev ρ) :
    SArr.at { A with row := some (idx, cs') } ρ j = if (idx.ev ρ).toNat = j then cs' else A.base (.lit j) := by
  simp only [SArr.at]
  by_cases h : idx.ev ρ = (j : Int)
  · rw [if_pos h, if_pos (by omega)]
  · rw [if_neg h, if_neg (by omega)]; rfl
theorem Mem.store_ok (P : Program) {ρ : Env} {β : Bet} {lk : List Nat} {m m' : Mem} {w : World} {id : Nat} {idx : T} {off : Nat} {vs : List SV} {l : List Value}
    (hm : MemRel ρ β m w) {e : Blk} (he : β[id]? = some e) (h0 : 0 ≤ idx.ev ρ) (hlt : e.stride ≠ 0 → idx.ev ρ < e.cnt) (hv : relL ρ β vs l) (h : m.store lk id idx off vs = some m') :
    ∃ w', (storeCells ⟨e.blk, e.base + (idx.ev ρ).toNat * e.stride + off, none⟩ l 0).run P w = .ok () w' ∧ MemRel ρ β m' w' ∧ Stp β lk w β w' := by
  unfold Mem.store at h
  cases hlk : memB id lk
  case true => simp [hlk] at h
  cases hone : !(vs.all SV.one)
  case true => simp [hlk, hone] at h
  simp only [hlk, hone, cond_false] at h
  have hone' : vs.all SV.one = true := by simpa using hone
  have hll := relL_length hv
  have h1 := relL_one hone' hv
  cases ho : m.tr.get id with
  | none => simp [ho] at h
  | some o =>
    simp only [ho] at h
    obtain ⟨e', he', hr⟩ := hm.obj id o ho
    rw [he] at he'; cases he'
    cases o with
    | cells wr cs =>
      cases wr
      · simp at h
      · simp only at h
        obtain ⟨hro, hb, hst, arr, el, fr, hh, hfr, hrel⟩ := hr
        have hro := hro rfl
        split at h
        · split at h
          · rename_i cs' hw
            cases h
            have hlen := relL_length hrel
            obtain ⟨hl1, hl2⟩ := writeL_length hw
            rw [hfr hro] at hh
            have hrun := run_storeCells_at (P := P) e.blk (e.base + (Int.toNat (T.ev ρ (.lit (.ofNat 0)))) * e.stride + off) el l 0 arr w hh (by
              rw [hb, hst]; simp at hlen ⊢; omega) h1
            refine ⟨_, hrun, ?_, Stp.setRow he hro (memB_ok hlk) (hm.apart' he hro) _⟩
            refine hm.set he hro (by simp) (fun k hk => heap_setRow w _ _ k hk) ⟨fun _ => hro, hb, hst, _, el, (0, 0), setRow_heap w _ _ _ _ _ hh, fun _ => rfl, ?_⟩
            have ho : e.base + (Int.toNat (T.ev ρ (.lit (.ofNat 0)))) * e.stride + off + 0 = off := by rw [hb, hst]; simp
            rw [ho]
            refine relL_of_get (by simp at hlen ⊢; omega) fun k s hs => ?_
            rw [writeL_get hw k] at hs
            simp only []
            rw [spliced_get arr.toList off l (by simp at hlen ⊢; omega) k]
            rw [hll]
            split at hs
            · rename_i hc; rw [if_pos hc]; exact relL_get hv hs
            · rename_i hc; rw [if_neg hc]; exact relL_get hrel hs
          · cases h
        · cases h
    | buf el sz cs =>
      simp only at h
      obtain ⟨hro, hb, hst, arr, hh, hsz, us, rest, hl0, hrel⟩ := hr
      split at h
      · split at h
        · rename_i cs' hw
          cases h
          have hlen := relL_length hrel
          obtain ⟨hl1, hl2⟩ := writeL_length hw
          have hla : arr.size = us.length + rest.length := by have := congrArg List.length hl0; simpa using this
          have hrun := run_storeCells_at (P := P) e.blk (e.base + (Int.toNat (T.ev ρ (.lit (.ofNat 0)))) * e.stride + off) el l 0 arr w hh (by
            rw [hb, hst]; simp at hlen ⊢; omega) h1
          refine ⟨_, hrun, ?_, Stp.setRow he hro (memB_ok hlk) (hm.apart' he hro) _⟩
          have ho : e.base + (Int.toNat (T.ev ρ (.lit (.ofNat 0)))) * e.stride + off + 0 = off := by rw [hb, hst]; simp
          rw [ho]
          refine hm.set he hro (by simp) (fun k hk => heap_setRow w _ _ k hk) ⟨hro, hb, hst, _, setRow_heap w _ _ _ _ _ hh, ?_, us.take off ++ l ++ us.drop (off + l.length), rest, ?_, ?_⟩
          · simp; omega
          · simp only [hl0]
            have e1 : (us ++ rest).take off = us.take off := by rw [List.take_append_of_le_length (by omega)]
            have e2 : (us ++ rest).drop (off + l.length) = us.drop (off + l.length) ++ rest := by rw [List.drop_append_of_le_length (by omega)]
            rw [e1, e2]
            simp [List.append_assoc]
          · refine relL_of_get (by simp; omega) fun k s hs => ?_
            rw [writeL_get hw k] at hs
            rw [spliced_get us off l (by omega) k]
            rw [hll]
            split at hs
            · rename_i hc; rw [if_pos hc]; exact relL_get hv hs
            · rename_i hc; rw [if_neg hc]; exact relL_get hrel hs
        · cases h
      · cases h
    | arr A =>
      simp only at h
      cases hwr : A.wr
      · simp [hwr] at h
      · have hnw : (!A.wr) = false := by simp [hwr]
        rw [hnw, cond_false] at h
        obtain ⟨hro, hst, hpos, hks, hcnt, hrow, arr, el, fr, hh, hfr, hr⟩ := hr
        have hro := hro hwr
        have hlt' := hlt (by omega)
        have hj : ((idx.ev ρ).toNat : Int) = idx.ev ρ := Int.toNat_of_nonneg h0
        have hjc : (idx.ev ρ).toNat < e.cnt := by omega
        -- both cases: a row 'cs' of the right length, that is what row idx is
        have main : ∀ cs cs' : List SV, cs.length = A.stride → (∀ (f : Nat) (s : SV), cs[f]? = some s → ∃ v, arr[e.base + (idx.ev ρ).toNat * e.stride + f]? = some v ∧ s.rel ρ β v) →
            (∀ j, (idx.ev ρ).toNat ≠ j → A.at ρ j = A.base (.lit j)) → writeL cs off vs = some cs' →
            ∃ w', (storeCells ⟨e.blk, e.base + (idx.ev ρ).toNat * e.stride + off, none⟩ l 0).run P w = .ok () w' ∧ MemRel ρ β (m.set id (.arr { A with row := some (idx, cs') })) w' ∧ Stp β lk w β w' := by
          intro cs cs' hcl hcs hoth hw
          obtain ⟨hl1, hl2⟩ := writeL_length hw
          rw [hfr hro] at hh
          have hsz : e.base + (idx.ev ρ).toNat * e.stride + A.stride ≤ arr.size := by
            obtain ⟨v, hv, _⟩ := hcs (A.stride - 1) (cs[A.stride - 1]'(by omega)) (List.getElem?_eq_getElem (by omega))
            have := (Array.getElem?_eq_some_iff.1 hv).1
            omega
          have hrun := run_storeCells_at (P := P) e.blk (e.base + (idx.ev ρ).toNat * e.stride + off) el l 0 arr w hh (by omega) h1
          refine ⟨_, hrun, ?_, Stp.setRow he hro (memB_ok hlk) (hm.apart' he hro) _⟩
          refine hm.set he hro (by simp) (fun k hk => heap_setRow w _ _ k hk) ⟨fun _ => hro, hst, hpos, hks, hcnt, ⟨hrow.1, ?_⟩, _, el, (0, 0), setRow_heap w _ _ _ _ _ hh, fun _ => rfl, ?_⟩
          · intro t c hc; simp at hc; rw [← hc.2, hl1, hcl]
          · intro j hjl f s hs
            rw [arr_at_row j h0] at hs
            have harr : ∀ k : Nat, (List.take (e.base + (idx.ev ρ).toNat * e.stride + off + 0) arr.toList ++ l ++ List.drop (e.base + (idx.ev ρ).toNat * e.stride + off + 0 + l.length) arr.toList).toArray[k]? =
                if e.base + (idx.ev ρ).toNat * e.stride + off ≤ k ∧ k < e.base + (idx.ev ρ).toNat * e.stride + off + l.length then l[k - (e.base + (idx.ev ρ).toNat * e.stride + off)]? else arr[k]? := by
              intro k
              have := spliced_get arr.toList (e.base + (idx.ev ρ).toNat * e.stride + off) l (by simp; omega) k
              simpa using this
            rw [harr]
            by_cases hje : (idx.ev ρ).toNat = j
            · rw [if_pos hje] at hs
              have hf : f < A.stride := by have := (List.getElem?_eq_some_iff.1 hs).1; omega
              rw [writeL_get hw f] at hs
              rw [← hje]
              split at hs
              · rename_i hc
                rw [if_pos (by omega)]
                have : e.base + (idx.ev ρ).toNat * e.stride + f - (e.base + (idx.ev ρ).toNat * e.stride + off) = f - off := by omega
                rw [this]; exact relL_get hv hs
              · rename_i hc
                rw [if_neg (by omega)]
                exact hcs f s hs
            · rw [if_neg hje] at hs
              have hf : f < A.stride := by have := (List.getElem?_eq_some_iff.1 hs).1; rw [SArr.base_length] at this; omega
              have hno : ¬ (e.base + (idx.ev ρ).toNat * e.stride + off ≤ e.base + j * e.stride + f ∧ e.base + j * e.stride + f < e.base + (idx.ev ρ).toNat * e.stride + off + l.length) := by
                rintro ⟨ha, hb⟩
                rcases Nat.lt_or_gt_of_ne hje with hlt | hgt
                · have : (idx.ev ρ).toNat * e.stride + e.stride ≤ j * e.stride := by rw [← Nat.succ_mul]; exact Nat.mul_le_mul_right _ hlt
                  omega
                · have : j * e.stride + e.stride ≤ (idx.ev ρ).toNat * e.stride := by rw [← Nat.succ_mul]; exact Nat.mul_le_mul_right _ hgt
                  omega
              rw [if_neg hno]
              exact hr j hjl f s (by rw [hoth j hje]; exact hs)
        cases hA : A.row with
        | none =>
          simp only [hA] at h
          split at h
          · rename_i cs' hw
            cases h
            refine main _ cs' (by rw [SArr.base_length, hks]) (fun f s hs => ?_) (fun j _ => by simp [SArr.at, hA]) hw
            obtain ⟨s', hs', himp⟩ := A.base_rel hrow.1 (ρ := ρ) (β := β) (i := .lit (idx.ev ρ).toNat) (j := idx) (by simp only [T.ev]; exact hj) hs
            obtain ⟨v, hv', r⟩ := hr _ hjc f s' (by simp only [SArr.at, hA]; exact hs')
            exact ⟨v, hv', himp v r⟩
          · cases h
        | some p =>
          obtain ⟨t, cs⟩ := p
          simp only [hA] at h
          cases hb : T.beq t idx
          · simp [hb] at h
          · simp only [hb, cond_true] at h
            have ht := T.beq_eq hb
            split at h
            · rename_i cs' hw
              cases h
              refine main cs cs' (hrow.2 t cs hA) (fun f s hs => ?_) (fun j hne => by simp only [SArr.at, hA]; rw [if_neg (by rw [ht]; omega)]) hw
              exact hr _ hjc f s (by simp only [SArr.at, hA]; rw [if_pos (by rw [ht, hj])]; exact hs)
            · cases h
end Go.SX
