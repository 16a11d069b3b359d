/- SX, part 13: the tables of a program, and structs that are compared cell by cell. -/
import Derived.Test.YtpkfeinnhdnfiaaSXMain
import Derived.ChangeKeysEq
namespace Go.SX
open Go

def mkTr {α : Type} : List α → Nat → Tr α → Tr α
  | [], _, t => t
  | x :: xs, i, t => mkTr xs (i + 1) (t.put i x)
theorem mkTr_get {α : Type} : ∀ (l : List α) (i : Nat) (t : Tr α) (k : Nat), (mkTr l i t).get k = if i ≤ k ∧ k < i + l.length then l[k - i]? else t.get k
  | [], i, t, k => by simp only [mkTr, List.length_nil]; rw [if_neg (by omega)]
  | s :: ss, i, t, k => by
    simp only [mkTr, mkTr_get ss (i + 1), Tr.get_put, List.length_cons]
    by_cases e : k = i
    · subst e
      rw [if_neg (by omega), if_pos rfl, if_pos (by omega)]
      simp
    · by_cases c : i + 1 ≤ k ∧ k < i + 1 + ss.length
      · rw [if_pos c, if_pos (by omega), show k - i = (k - (i + 1)) + 1 by omega]
        simp
      · rw [if_neg c, if_neg e, if_neg (by omega)]
theorem mkTr_some {α : Type} {l : List α} {k : Nat} {x : α} (h : (mkTr l 0 .nil).get k = some x) : l[k]? = some x := by
  rw [mkTr_get] at h
  split at h
  · simpa using h
  · simp [Tr.get] at h
def tiAt (P : Program) (t : Nat) : Option TI := match P.info? t, P.underlying t with
  | some j, some d => some ⟨d, j.size, j.zero⟩
  | _, _ => none
def tiTr (P : Program) : Tr (Option TI) := mkTr ((List.range P.types.size).map (tiAt P)) 0 .nil
def fnAt (x : Func) : Option Func := bif x.name == "runtime.NumGoroutine" then none else some x
def fnTr (P : Program) : Tr (Option Func) := mkTr (P.funcs.toList.map fnAt) 0 .nil
def getO {α : Type} (t : Tr (Option α)) (k : Nat) : Option α := match t.get k with
  | some r => r
  | none => none
theorem tiTr_ok {P : Program} {t : Nat} {i : TI} (h : getO (tiTr P) t = some i) : ∃ j, P.info? t = some j ∧ j.size = i.size ∧ j.zero = i.zero ∧ P.underlying t = some i.und := by
  unfold getO at h
  split at h
  · rename_i r hr
    subst h
    have := mkTr_some hr
    rw [List.getElem?_map] at this
    cases hx : (List.range P.types.size)[t]? with
    | none => simp [hx] at this
    | some u =>
      have hu : u = t := by
        have h1 := (List.getElem?_eq_some_iff.1 hx).2
        simpa using h1.symm
      subst hu
      simp only [hx, Option.map_some, Option.some.injEq] at this
      unfold tiAt at this
      split at this
      · rename_i j d h1 h2; cases this; exact ⟨j, h1, rfl, rfl, h2⟩
      · cases this
  · cases h
theorem fnTr_ok {P : Program} {f : Nat} {x : Func} (h : getO (fnTr P) f = some x) : P.funcs[f]? = some x ∧ (x.name == "runtime.NumGoroutine") = false := by
  unfold getO at h
  split at h
  · rename_i r hr
    subst h
    have := mkTr_some hr
    rw [List.getElem?_map] at this
    cases hx : P.funcs.toList[f]? with
    | none => simp [hx] at this
    | some u =>
      simp only [hx, Option.map_some, Option.some.injEq] at this
      unfold fnAt at this
      cases hn : u.name == "runtime.NumGoroutine"
      · rw [hn] at this; cases this; exact ⟨by rw [← Array.getElem?_toList]; exact hx, hn⟩
      · rw [hn] at this; cases this
  · cases h

/-! flat structs -/
def repK : Nat → List CK → List CK
  | 0, _ => []
  | n + 1, l => l ++ repK n l
mutual
def flatK (P : Program) : Nat → TypeId → Option (List CK)
  | 0, _ => none
  | d + 1, t => (match P.underlying t with
    | some .bool => some [.b]
    | some (.int k) => some [.i k]
    | some (.struct fs) => bif P.stoodInHeld t then none else flatF P d fs.toList 0
    | some (.array n e) => (match P.info? e, flatK P d e with
      | some i, some ks => bif Nat.beq i.size ks.length then some (repK n ks) else none
      | _, _ => none)
    | _ => none)
def flatF (P : Program) : Nat → List Field → Nat → Option (List CK)
  | _, [], _ => some []
  | 0, _ :: _, _ => none
  | d + 1, f :: fs, off => bif f.name == "_" then none else bif !(Nat.beq f.offset off) then none else
    (match P.info? f.type, flatK P d f.type with
    | some i, some ks => bif Nat.beq i.size ks.length then (match flatF P d fs (off + ks.length) with | some r => some (ks ++ r) | none => none) else none
    | _, _ => none)
end
theorem kOfL_length : ∀ {ks : List CK} {l : List Value}, kOfL ks l → l.length = ks.length
  | [], _, h => by rw [h]; rfl
  | _ :: _, _, h => by obtain ⟨v, vs, rfl, _, h2⟩ := h; simp [kOfL_length h2]
theorem kOfL_append : ∀ {ks ls : List CK} {l : List Value}, kOfL (ks ++ ls) l → ∃ a b, l = a ++ b ∧ kOfL ks a ∧ kOfL ls b
  | [], _, l, h => ⟨[], l, rfl, rfl, h⟩
  | k :: ks, ls, l, h => by
    obtain ⟨v, vs, rfl, h1, h2⟩ := h
    obtain ⟨a, b, rfl, h3, h4⟩ := kOfL_append h2
    exact ⟨v :: a, b, rfl, ⟨v, a, rfl, h1, h3⟩, h4⟩
theorem vEqL_append : ∀ {a b c d : List Value}, a.length = c.length → vEqL (a ++ b) (c ++ d) = (vEqL a c && vEqL b d)
  | [], b, [], d, _ => by simp [vEqL]
  | x :: a, b, y :: c, d, h => by simp [vEqL, vEqL_append (a := a) (b := b) (c := c) (d := d) (by simpa using h), Bool.and_assoc]
  | [], _, _ :: _, _, h => by simp at h
  | _ :: _, _, [], _, h => by simp at h
/-- the value of a type, out of its cells -/
def valOf (d : TypeDesc) (l : List Value) : Value := if isAggD d then .agg l.toArray else l.headD undef
theorem part_of {P : Program} {t : TypeId} {d : TypeDesc} {i : TypeInfo} (hu : P.underlying t = some d) (hi : P.info? t = some i) {pre l post : List Value} (hs : i.size = l.length) (hl : isAggD d = false → ∃ v, l = [v])
    (w : World) : (part t (pre ++ l ++ post).toArray pre.length).run P w = .ok (valOf d l) w := by
  cases ha : isAggD d
  · obtain ⟨v, rfl⟩ := hl ha
    simp [part, run_isAgg' hu, ha, valOf]
  · simp only [part, Sem.run_bind, run_isAgg' hu, ha, Result.andThen_ok, if_true, run_sizeOf' hi, Sem.run_pure, valOf]
    congr 2
    rw [← Array.toList_inj]
    simp [hs]
theorem flatK_single {P : Program} {d : Nat} {t : TypeId} {ks : List CK} {td : TypeDesc} (h : flatK P (d + 1) t = some ks) (hu : P.underlying t = some td) (ha : isAggD td = false) : ∃ k, ks = [k] := by
  simp only [flatK, hu] at h
  cases td <;> simp [isAggD] at ha <;> simp at h
  · exact ⟨_, h.symm⟩
  · exact ⟨_, h.symm⟩
theorem flatK_und {P : Program} {d : Nat} {t : TypeId} {ks : List CK} (h : flatK P (d + 1) t = some ks) : ∃ td, P.underlying t = some td := by
  simp only [flatK] at h
  cases hu : P.underlying t with
  | none => simp [hu] at h
  | some td => exact ⟨td, rfl⟩
theorem flat_eq {P : Program} (w : World) : ∀ (d : Nat),
    (∀ (t : TypeId) (ks : List CK) (td : TypeDesc), flatK P d t = some ks → P.underlying t = some td → ∀ (D : Nat), d ≤ D → ∀ (l m : List Value), kOfL ks l → kOfL ks m →
      (Op.equalIn D t (valOf td l) (valOf td m)).run P w = .ok (vEqL l m) w) ∧
    (∀ (fs : List Field) (off : Nat) (ks : List CK), flatF P d fs off = some ks → ∀ (D : Nat), d ≤ D → ∀ (px py l m : List Value), px.length = off → py.length = off → kOfL ks l → kOfL ks m →
      (Op.eqFields D (px ++ l).toArray (py ++ m).toArray fs).run P w = .ok (vEqL l m) w) := by
  intro d
  induction d with
  | zero =>
    refine ⟨fun t ks td h => by simp [flatK] at h, fun fs off ks h D _ px py l m _ _ hl hm => ?_⟩
    cases fs with
    | nil =>
      simp only [flatF, Option.some.injEq] at h
      subst h
      rw [show l = [] from hl, show m = [] from hm]
      rfl
    | cons f fs => simp [flatF] at h
  | succ d ih =>
    obtain ⟨ihK, ihF⟩ := ih
    refine ⟨fun t ks td h hu D hD l m hl hm => ?_, fun fs off ks h D hD px py l m hpx hpy hl hm => ?_⟩
    · obtain ⟨D, rfl⟩ : ∃ D', D = D' + 1 := ⟨D - 1, by omega⟩
      simp only [flatK, hu] at h
      cases td <;> simp only [reduceCtorEq, Option.some.injEq] at h
      case bool =>
        subst h
        obtain ⟨_, _, rfl, ⟨a, rfl⟩, h2⟩ := hl
        obtain ⟨_, _, rfl, ⟨b, rfl⟩, h3⟩ := hm
        rw [show _ = [] from h2, show _ = [] from h3]
        simp [valOf, isAggD, run_equalIn_bool w D t a b hu, vEqL, vEq]
      case int k =>
        subst h
        obtain ⟨_, _, rfl, ⟨a, rfl⟩, h2⟩ := hl
        obtain ⟨_, _, rfl, ⟨b, rfl⟩, h3⟩ := hm
        rw [show _ = [] from h2, show _ = [] from h3]
        simp [valOf, isAggD, run_equalIn_int w D t k k a b hu, vEqL, vEq]
      case array n e =>
        split at h
        · rename_i i ks' hi hk
          cases hb : Nat.beq i.size ks'.length
          · rw [hb] at h; cases h
          · rw [hb] at h
            simp only [cond_true, Option.some.injEq] at h
            subst h
            have hsz := Nat.eq_of_beq_eq_true hb
            have hc : P.cellsOf e = ks'.length := by simp [Program.cellsOf, hi, hsz]
            simp only [valOf, isAggD, if_true]
            rw [run_equalIn_array w D _ _ hu hi]
            cases d with
            | zero => simp [flatK] at hk
            | succ d =>
              obtain ⟨te, hte⟩ := flatK_und hk
              have key : ∀ (n k : Nat) (px py l m : List Value), px.length = k * ks'.length → py.length = k * ks'.length → kOfL (repK n ks') l → kOfL (repK n ks') m →
                  (Op.eqItems D e (P.cellsOf e) (px ++ l).toArray (py ++ m).toArray (List.range' k n)).run P w = .ok (vEqL l m) w := by
                intro n
                induction n with
                | zero =>
                  intro k px py l m _ _ hl hm
                  rw [show l = [] from hl, show m = [] from hm]
                  rfl
                | succ n ihn =>
                  intro k px py l m hpx hpy hl hm
                  obtain ⟨l1, l2, rfl, a1, a2⟩ := kOfL_append hl
                  obtain ⟨m1, m2, rfl, b1, b2⟩ := kOfL_append hm
                  have e1 := kOfL_length a1
                  have e2 := kOfL_length b1
                  have one : isAggD te = false → (∃ v, l1 = [v]) ∧ ∃ v, m1 = [v] := fun ha => by
                    obtain ⟨k, rfl⟩ := flatK_single hk hte ha
                    obtain ⟨v, vs, rfl, _, h⟩ := a1
                    obtain ⟨u, us, rfl, _, g⟩ := b1
                    rw [show vs = [] from h, show us = [] from g]
                    exact ⟨⟨v, rfl⟩, u, rfl⟩
                  have p1 := part_of hte hi (pre := px) (l := l1) (post := l2) (by rw [hsz, e1]) (fun h => (one h).1) w
                  have p2 := part_of hte hi (pre := py) (l := m1) (post := m2) (by rw [hsz, e2]) (fun h => (one h).2) w
                  rw [List.append_assoc, hpx] at p1
                  rw [List.append_assoc, hpy] at p2
                  have p3 := ihK e ks' te hk hte D (by omega) l1 m1 a1 b1
                  have p4 := ihn (k + 1) (px ++ l1) (py ++ m1) l2 m2 (by rw [List.length_append, hpx, e1, Nat.succ_mul]) (by rw [List.length_append, hpy, e2, Nat.succ_mul]) a2 b2
                  rw [List.append_assoc, List.append_assoc] at p4
                  rw [vEqL_append (by omega)]
                  simp only [List.range'_succ, Op.eqItems, Sem.run_bind, hc]
                  rw [hc] at p4
                  simp only [p1, p2, p3, Result.andThen_ok, Sem.run_ite, p4, Sem.run_pure]
                  cases vEqL l1 m1 <;> rfl
              have := key n 0 [] [] l m (by simp) (by simp) hl hm
              simpa [List.range_eq_range'] using this
        · cases h
      case struct fs =>
        cases hs : P.stoodInHeld t
        · rw [hs] at h
          simp only [cond_false] at h
          have hf : P.fieldsOf t = fs := by simp [Program.fieldsOf, hu]
          simp only [valOf, isAggD, if_true]
          rw [run_equalIn_struct w D t _ _ (by rw [hf]; exact hu) hs, hf]
          have := ihF fs.toList 0 ks h D (by omega) [] [] l m rfl rfl hl hm
          simpa using this
        · rw [hs] at h; cases h
    · cases fs with
      | nil =>
        simp only [flatF, Option.some.injEq] at h
        subst h
        rw [show l = [] from hl, show m = [] from hm]
        rfl
      | cons f fs =>
        simp only [flatF] at h
        cases hn : f.name == "_"
        case true => rw [hn] at h; cases h
        cases ho : !(Nat.beq f.offset off)
        case true => rw [hn, ho] at h; cases h
        rw [hn, ho] at h
        simp only [cond_false] at h
        split at h
        · rename_i i ks1 hi hk
          cases hb : Nat.beq i.size ks1.length
          · rw [hb] at h; cases h
          · rw [hb] at h
            simp only [cond_true] at h
            split at h
            · rename_i ks2 hr
              cases h
              have hsz := Nat.eq_of_beq_eq_true hb
              have ho : f.offset = off := Nat.eq_of_beq_eq_true (by simpa using ho)
              have hn' : f.name ≠ "_" := by simpa using hn
              cases d with
              | zero => simp [flatK] at hk
              | succ d =>
                obtain ⟨te, hte⟩ := flatK_und hk
                obtain ⟨l1, l2, rfl, a1, a2⟩ := kOfL_append hl
                obtain ⟨m1, m2, rfl, b1, b2⟩ := kOfL_append hm
                have e1 := kOfL_length a1
                have e2 := kOfL_length b1
                have one : isAggD te = false → (∃ v, l1 = [v]) ∧ ∃ v, m1 = [v] := fun ha => by
                  obtain ⟨k, rfl⟩ := flatK_single hk hte ha
                  obtain ⟨v, vs, rfl, _, h⟩ := a1
                  obtain ⟨u, us, rfl, _, g⟩ := b1
                  rw [show vs = [] from h, show us = [] from g]
                  exact ⟨⟨v, rfl⟩, u, rfl⟩
                have p1 := part_of hte hi (pre := px) (l := l1) (post := l2) (by rw [hsz, e1]) (fun h => (one h).1) w
                have p2 := part_of hte hi (pre := py) (l := m1) (post := m2) (by rw [hsz, e2]) (fun h => (one h).2) w
                rw [List.append_assoc, hpx] at p1
                rw [List.append_assoc, hpy] at p2
                have p3 := ihK f.type ks1 te hk hte D (by omega) l1 m1 a1 b1
                have p4 := ihF fs (off + ks1.length) ks2 hr D (by omega) (px ++ l1) (py ++ m1) l2 m2 (by rw [List.length_append, hpx, e1]) (by rw [List.length_append, hpy, e2]) a2 b2
                rw [List.append_assoc, List.append_assoc] at p4
                rw [vEqL_append (by omega)]
                simp only [Op.eqFields, if_pos hn', Sem.run_bind, ho, p1, p2, p3, p4, Result.andThen_ok, Sem.run_ite, Sem.run_pure]
                cases vEqL l1 m1 <;> rfl
            · cases h
        · cases h
theorem eqOk_flat {P : Program} {t : TypeId} {ks : List CK} {fs : Array Field} (h : flatK P 300 t = some ks) (hu : P.underlying t = some (.struct fs)) (hg : P.eqGuardType P.depth t = false) : EqOk P t ks :=
  ⟨hg, fun w xs ys hx hy => by
    have := (flat_eq w 300).1 t ks (.struct fs) h hu 10000 (by omega) xs.toList ys.toList hx hy
    simpa [valOf, isAggD] using this⟩
theorem eqOk_flatA {P : Program} {t : TypeId} {ks : List CK} {n : Nat} {e : TypeId} (h : flatK P 300 t = some ks) (hu : P.underlying t = some (.array n e)) (hg : P.eqGuardType P.depth t = false) : EqOk P t ks :=
  ⟨hg, fun w xs ys hx hy => by
    have := (flat_eq w 300).1 t ks (.array n e) h hu 10000 (by omega) xs.toList ys.toList hx hy
    simpa [valOf, isAggD] using this⟩
/-- a table of such types -/
def eqAt (P : Program) (t : TypeId) : Option (List CK) := bif P.eqGuardType P.depth t then none else
  (match P.underlying t with
  | some (.struct _) => flatK P 300 t
  | some (.array _ _) => flatK P 300 t
  | _ => none)
theorem eqAt_ok {P : Program} {t : TypeId} {ks : List CK} (h : eqAt P t = some ks) : EqOk P t ks := by
  unfold eqAt at h
  cases hg : P.eqGuardType P.depth t
  · rw [hg] at h
    simp only [cond_false] at h
    split at h
    · rename_i fs hu; exact eqOk_flat h hu hg
    · rename_i n e hu; exact eqOk_flatA h hu hg
    · cases h
  · rw [hg] at h; cases h
def bytAt (P : Program) (t : TypeId) : Option Nat := match P.info? t with | some i => some i.bytes | none => none
theorem bytAt_ok {P : Program} {t : TypeId} {n : Nat} (h : bytAt P t = some n) : ∃ j, P.info? t = some j ∧ j.bytes = n := by
  unfold bytAt at h
  split at h
  · rename_i i hi; cases h; exact ⟨i, hi, rfl⟩
  · cases h
end Go.SX
