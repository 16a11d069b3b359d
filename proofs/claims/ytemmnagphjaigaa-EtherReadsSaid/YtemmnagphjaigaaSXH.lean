/- SX, part 14: arguments opened: flat cells, and slices of flat rows. -/
import Derived.Test.YtemmnagphjaigaaSXG
import Derived.ProofKit
import Derived.OpenShut
import Derived.Test.YtemmnagphjaigaaSXA
import Derived.Lib.LaidTab
namespace Go.SX
open Go

inductive FK where
  | c (k : CK)
  | sl (ks : List CK)
  | st
def allC : List FK → Option (List CK)
  | [] => some []
  | .c k :: r => (match allC r with | some l => some (k :: l) | none => none)
  | .sl _ :: _ => none
  | .st :: _ => none
def repF : Nat → List FK → List FK
  | 0, _ => []
  | n + 1, l => l ++ repF n l
mutual
def flatS (P : Program) : Nat → TypeId → Option (List FK)
  | 0, _ => none
  | d + 1, t => (match P.underlying t with
    | some .bool => some [.c .b]
    | some (.int k) => some [.c (.i k)]
    | some .string => some [.st]
    | some (.slice e) => (match flatS P d e with
      | some fs => (match allC fs with
        | some ks => bif Nat.beq (P.cellsOf e) ks.length && Nat.blt 0 ks.length then some [.sl ks] else none
        | none => none)
      | none => none)
    | some (.struct fs) => (match flatSF P d fs.toList 0 with
      | some ks => bif Nat.beq (P.cellsOf t) ks.length then some ks else none
      | none => none)
    | some (.array n e) => (match flatS P d e with
      | some ks => bif Nat.beq (P.cellsOf e) ks.length && Nat.beq (P.cellsOf t) (n * ks.length) then some (repF n ks) else none
      | none => none)
    | _ => none)
def flatSF (P : Program) : Nat → List Field → Nat → Option (List FK)
  | _, [], _ => some []
  | 0, _ :: _, _ => none
  | d + 1, f :: fs, off => bif !(Nat.beq f.offset off) then none else
    (match flatS P d f.type with
    | some ks => bif Nat.beq (P.cellsOf f.type) ks.length then (match flatSF P d fs (off + ks.length) with | some r => some (ks ++ r) | none => none) else none
    | none => none)
end
def cellR : CK → Value → Prop
  | .b, v => ∃ b, v = .bool b
  | .i k, v => ∃ n, v = .int k n ∧ inK k n = true
  | .s, _ => False
/-- what a reading says of one cell -/
def rawR (w : World) (base : Nat) : FK → Value → Prop
  | .c k, v => cellR k v
  | .sl ks, v => v = .slice none 0 0 ∨ ∃ (a : Addr) (len cap : Nat), v = .slice (some a) len cap ∧ len ≤ cap ∧ cap ≤ maxLen ∧ 0 < ks.length ∧
      ∀ i, i < len → ∃ row, w.cells? base (a.add (i * ks.length)) ks.length = some row ∧ row.length = ks.length ∧ ∀ (f : Nat) (k : CK) (v : Value), ks[f]? = some k → row[f]? = some v → cellR k v
  | .st, v => ∃ b : ByteArray, v = .string b ∧ b.size ≤ maxLen
def rawL (w : World) (base : Nat) : List FK → List Value → Prop
  | [], l => l = []
  | k :: ks, l => ∃ v vs, l = v :: vs ∧ rawR w base k v ∧ rawL w base ks vs
theorem rawL_length {w : World} {base : Nat} : ∀ {ks : List FK} {l : List Value}, rawL w base ks l → l.length = ks.length
  | [], _, h => by rw [h]; rfl
  | _ :: _, _, h => by obtain ⟨v, vs, rfl, _, h2⟩ := h; simp [rawL_length h2]
theorem rawL_append {w : World} {base : Nat} : ∀ {ks ls : List FK} {a b : List Value}, rawL w base ks a → rawL w base ls b → rawL w base (ks ++ ls) (a ++ b)
  | [], _, a, b, h, h' => by rw [show a = [] from h]; exact h'
  | k :: ks, ls, a, b, h, h' => by
    obtain ⟨v, vs, rfl, h1, h2⟩ := h
    exact ⟨v, vs ++ b, rfl, h1, rawL_append h2 h'⟩
theorem rawL_allC {w : World} {base : Nat} : ∀ {fs : List FK} {ks : List CK} {l : List Value}, allC fs = some ks → rawL w base fs l → l.length = ks.length ∧ ∀ (f : Nat) (k : CK) (v : Value), ks[f]? = some k → l[f]? = some v → cellR k v
  | [], ks, l, h, hr => by cases h; rw [show l = [] from hr]; simp
  | .c k :: fs, ks, l, h, hr => by
    simp only [allC] at h
    split at h
    · rename_i ks' hks
      cases h
      obtain ⟨v, vs, rfl, h1, h2⟩ := hr
      obtain ⟨i1, i2⟩ := rawL_allC hks h2
      refine ⟨by simp [i1], fun f k' v' hf hv => ?_⟩
      cases f with
      | zero => simp at hf hv; subst hf; subst hv; exact h1
      | succ f => simp at hf hv; exact i2 f k' v' hf hv
    · cases h
  | .sl _ :: _, _, _, h, _ => by cases h
  | .st :: _, _, _, h, _ => by cases h
theorem inK_wf {k : IntKind} {n : Int} (h : (Lit.int k n).wf = true) : inK k n = true := by
  rw [inK_iff]
  cases k <;> simp [Lit.wf, IntKind.min, IntKind.max, IntKind.bits, IntKind.signed] at h <;> simp only [kLo, kHi] <;> omega
theorem repF_succ' (l : List FK) : ∀ n, repF (n + 1) l = repF n l ++ l
  | 0 => by simp [repF]
  | n + 1 => by
    have := repF_succ' l n
    simp only [repF] at this ⊢
    rw [List.append_assoc, ← this, ← List.append_assoc]
theorem trod_flat {H : Type} {enc : TypeId × Value → H} {P : Program} {w : World} {base : Nat} {sp : Nat → Bool} {held : Bool} : ∀ (d : Nat),
    (∀ (t : TypeId) (ks : List FK), flatS P d t = some ks → ∀ (fuel : Nat) (cs : List Value) (x : DataW H × List MemPlace), DataW.trod enc P w base sp held fuel t cs = some x → rawL w base ks cs) ∧
    (∀ (fs : List Field) (off : Nat) (ks : List FK), flatSF P d fs off = some ks → ∀ (fuel : Nat) (cs : List Value), off + ks.length ≤ cs.length →
      (∀ f ∈ fs, ∃ y, DataW.trod enc P w base sp held fuel f.type ((cs.drop f.offset).take (P.cellsOf f.type)) = some y) → rawL w base ks ((cs.drop off).take ks.length)) := by
  intro d
  induction d with
  | zero =>
    refine ⟨fun t ks h => by simp [flatS] at h, fun fs off ks h fuel cs _ _ => ?_⟩
    cases fs with
    | nil => simp only [flatSF, Option.some.injEq] at h; subst h; simp [rawL]
    | cons f fs => simp [flatSF] at h
  | succ d ih =>
    obtain ⟨ihS, ihF⟩ := ih
    refine ⟨fun t ks h fuel cs x hx => ?_, fun fs off ks h fuel cs hlen hall => ?_⟩
    · simp only [flatS] at h
      cases hu : P.underlying t with
      | none => simp [hu] at h
      | some td =>
        simp only [hu] at h
        cases td <;> simp only [reduceCtorEq, Option.some.injEq] at h
        case bool =>
          subst h
          obtain ⟨b, rfl, _⟩ := DataW.trod_bool hu hx
          exact ⟨_, [], rfl, ⟨_, rfl⟩, rfl⟩
        case int k =>
          subst h
          obtain ⟨n, rfl, _, hwf⟩ := DataW.trod_int hu hx
          exact ⟨_, [], rfl, ⟨n, rfl, inK_wf hwf⟩, rfl⟩
        case string =>
          subst h
          obtain ⟨b, rfl, _, hsz⟩ := DataW.trod_string hu hx
          exact ⟨_, [], rfl, ⟨b, rfl, hsz⟩, rfl⟩
        case slice e =>
          split at h
          · rename_i fs hfs
            split at h
            · rename_i ks' hks'
              cases hb : Nat.beq (P.cellsOf e) ks'.length && Nat.blt 0 ks'.length
              · rw [hb] at h; cases h
              · rw [hb] at h
                cases h
                rw [Bool.and_eq_true] at hb
                have hsz := Nat.eq_of_beq_eq_true hb.1
                have hpos : 0 < ks'.length := Nat.le_of_ble_eq_true hb.2
                rcases DataW.trod_slice hu hx with ⟨rfl, _⟩ | ⟨a, len, cap, elems, rest, n, _, rfl, _, _, hl, hm, hlen, hel, _, _⟩
                · exact ⟨_, [], rfl, .inl rfl, rfl⟩
                · refine ⟨_, [], rfl, .inr ⟨a, len, cap, rfl, hl, hm, hpos, fun i hi => ?_⟩, rfl⟩
                  have hy := hel i hi
                  rw [List.getElem?_eq_getElem (by omega), hsz] at hy
                  cases hrow : w.cells? base (a.add (i * ks'.length)) ks'.length with
                  | none => simp [hrow] at hy
                  | some row =>
                    simp only [hrow, Option.bind_some] at hy
                    obtain ⟨q1, q2⟩ := rawL_allC hks' (ihS e fs hfs n row _ hy)
                    exact ⟨row, rfl, q1, q2⟩
            · cases h
          · cases h
        case array n e =>
          split at h
          · rename_i ks' hks'
            cases hb : Nat.beq (P.cellsOf e) ks'.length && Nat.beq (P.cellsOf t) (n * ks'.length)
            · rw [hb] at h; cases h
            · rw [hb] at h
              cases h
              rw [Bool.and_eq_true] at hb
              have hsz := Nat.eq_of_beq_eq_true hb.1
              have hsz2 := Nat.eq_of_beq_eq_true hb.2
              obtain ⟨xs, m, _, _, hc, hxl, hall⟩ := DataW.trod_array hu hx
              have key : ∀ m, m ≤ n → rawL w base (repF m ks') (cs.take (m * ks'.length)) := by
                intro m
                induction m with
                | zero => intro _; simp [repF, rawL]
                | succ m ihm =>
                  intro hm'
                  rw [repF_succ', Nat.succ_mul, List.take_add]
                  refine rawL_append (ihm (by omega)) ?_
                  have hy := hall m (by omega)
                  rw [List.getElem?_eq_getElem (by omega), hsz] at hy
                  exact ihS e ks' hks' _ _ _ hy
              have := key n (Nat.le_refl _)
              rwa [List.take_of_length_le (by omega)] at this
          · cases h
        case struct fs =>
          split at h
          · rename_i ks' hks'
            cases hb : Nat.beq (P.cellsOf t) ks'.length
            · rw [hb] at h; cases h
            · rw [hb] at h
              cases h
              have hsz := Nat.eq_of_beq_eq_true hb
              obtain ⟨xs, m, _, _, hc, hxl, hall⟩ := DataW.trod_struct hu hx
              have := ihF fs.toList 0 ks hks' m cs (by omega) (fun f hf => by
                obtain ⟨i, hi⟩ := List.mem_iff_getElem?.1 hf
                have hlt := (List.getElem?_eq_some_iff.1 hi).1
                have := hall i f (by rw [← Array.getElem?_toList]; exact hi)
                rw [List.getElem?_eq_getElem (by simp at hlt; omega)] at this
                exact ⟨_, this⟩)
              rw [List.drop_zero, List.take_of_length_le (by omega)] at this
              exact this
          · cases h
    · cases fs with
      | nil => simp only [flatSF, Option.some.injEq] at h; subst h; simp [rawL]
      | cons f fs =>
        simp only [flatSF] at h
        cases ho : !(Nat.beq f.offset off)
        case true => rw [ho] at h; cases h
        rw [ho] at h
        simp only [cond_false] at h
        have ho : f.offset = off := Nat.eq_of_beq_eq_true (by simpa using ho)
        split at h
        · rename_i ks1 hk
          cases hb : Nat.beq (P.cellsOf f.type) ks1.length
          · rw [hb] at h; cases h
          · rw [hb] at h
            simp only [cond_true] at h
            split at h
            · rename_i ks2 hr
              cases h
              have hsz := Nat.eq_of_beq_eq_true hb
              obtain ⟨y, hy⟩ := hall f (by simp)
              rw [ho, hsz] at hy
              have h1 := ihS f.type ks1 hk fuel _ y hy
              have h2 := ihF fs (off + ks1.length) ks2 hr fuel cs (by simp at hlen; omega) (fun g hg => hall g (by simp [hg]))
              rw [List.length_append, List.take_add, List.drop_drop]
              exact rawL_append h1 h2
            · cases h
        · cases h
end Go.SX

namespace Go.SX
open Go

/-- what a reading and the value's form say of one cell -/
def goodR (w : World) : FK → Value → Prop
  | .c k, v => cellR k v
  | .sl ks, v => v = .slice none 0 0 ∨ ∃ (b off len cap : Nat) (arr : Array Value) (el : TypeId) (fr : Nat × Nat), v = .slice (some ⟨b, off, none⟩) len cap ∧ len ≤ cap ∧ cap ≤ 9223372036854775807 ∧ 0 < ks.length ∧
      w.heap[b]? = some (.cells arr el fr) ∧ ∀ i, i < len → ∀ (f : Nat) (k : CK), ks[f]? = some k → ∃ v, arr[off + i * ks.length + f]? = some v ∧ cellR k v
  | .st, v => ∃ b : ByteArray, v = .string b ∧ b.size ≤ 9223372036854775807
def goodL (w : World) : List FK → List Value → Prop
  | [], l => l = []
  | k :: ks, l => ∃ v vs, l = v :: vs ∧ goodR w k v ∧ goodL w ks vs
def formed (w : World) (v : Value) : Prop := ∀ (a : Addr) (len cap : Nat), v = .slice (some a) len cap → a.spot = none ∧ ∃ arr el fr, w.heap[a.block]? = some (.cells arr el fr)
theorem goodR_of {w : World} {base : Nat} {k : FK} {v : Value} (h : rawR w base k v) (hf : formed w v) : goodR w k v := by
  cases k with
  | c k => exact h
  | st => obtain ⟨b, h1, h2⟩ := h; exact ⟨b, h1, by unfold maxLen at h2; omega⟩
  | sl ks =>
    rcases h with h | ⟨a, len, cap, rfl, h1, h2, hp, h3⟩
    · exact .inl h
    · obtain ⟨hs, arr, el, fr, hh⟩ := hf a len cap rfl
      obtain ⟨b, off, sp⟩ := a
      simp only at hs hh
      subst hs
      refine .inr ⟨b, off, len, cap, arr, el, fr, rfl, h1, by unfold maxLen at h2; omega, hp, hh, fun i hi f k hk => ?_⟩
      obtain ⟨row, hr, hl, hc⟩ := h3 i hi
      have hf : f < ks.length := (List.getElem?_eq_some_iff.1 hk).1
      rw [add_off] at hr
      unfold World.cells? at hr
      split at hr
      · obtain ⟨y, hy⟩ : ∃ y, w.cell? ((⟨b, off + i * ks.length, none⟩ : Addr).add f) = some y ∧ row[f]? = some y := by
          have key : ∀ (l : List Nat) (r : List Value) (g : Nat → Option Value), l.mapM g = some r → ∀ (j x : Nat), l[j]? = some x → ∃ y, g x = some y ∧ r[j]? = some y := by
            intro l
            induction l with
            | nil => intro r g _ j x hj; simp at hj
            | cons a l ih =>
              intro r g h j x hj
              rw [List.mapM_cons] at h
              cases ha : g a with
              | none => simp [ha] at h
              | some z =>
                cases hl : l.mapM g with
                | none => simp [ha, hl] at h
                | some r' =>
                  simp [ha, hl] at h
                  subst h
                  cases j with
                  | zero => simp at hj; subst hj; exact ⟨z, ha, rfl⟩
                  | succ j => simp at hj; simpa using ih r' g hl j x hj
          exact key _ _ _ hr f f (by simp [hf])
        rw [add_off, cell?_heap hh] at hy
        exact ⟨y, hy.1, hc f k y hk hy.2⟩
      · cases hr
theorem goodL_of {w : World} {base : Nat} : ∀ {ks : List FK} {l : List Value}, rawL w base ks l → (∀ v ∈ l, formed w v) → goodL w ks l
  | [], _, h, _ => h
  | k :: ks, l, h, hf => by
    obtain ⟨v, vs, rfl, h1, h2⟩ := h
    exact ⟨v, vs, rfl, goodR_of h1 (hf v (by simp)), goodL_of h2 fun u hu => hf u (by simp [hu])⟩
theorem goodL_append {w : World} : ∀ {ks ls : List FK} {a b : List Value}, goodL w ks a → goodL w ls b → goodL w (ks ++ ls) (a ++ b)
  | [], _, a, b, h, h' => by rw [show a = [] from h]; exact h'
  | k :: ks, ls, a, b, h, h' => by
    obtain ⟨v, vs, rfl, h1, h2⟩ := h
    exact ⟨v, vs ++ b, rfl, h1, goodL_append h2 h'⟩
theorem goodL_length {w : World} : ∀ {ks : List FK} {l : List Value}, goodL w ks l → l.length = ks.length
  | [], _, h => by rw [h]; rfl
  | _ :: _, _, h => by obtain ⟨v, vs, rfl, _, h2⟩ := h; simp [goodL_length h2]
theorem formed_cell {P : Program} {w : World} {r : Reach} {base : Nat} {u : TypeId} {v : Value} (h : Cell.okWide P w r base u v) : formed w v := by
  rintro a len cap rfl
  unfold Cell.okWide at h
  cases hu : P.underlying u with
  | none => simp [hu, Cell.ok] at h
  | some td =>
    cases td <;> simp [hu, Cell.ok] at h
    obtain ⟨_, _, _, hs, row, n, hsh, _⟩ := h
    refine ⟨hs, ?_⟩
    unfold World.shape? at hsh
    split at hsh
    · rename_i c el fr hh; exact ⟨c, el, fr, hh⟩
    · cases hsh
theorem formed_value {P : Program} {w : World} {r : Reach} {base : Nat} {t : TypeId} {td : TypeDesc} {v : Value} (hu : P.underlying t = some td) (h : Value.okWide P w r base t v) :
    (isAggD td = true → ∃ cs, v = .agg cs) ∧ (isAggD td = false → v.cells = #[v]) ∧ ∀ c ∈ v.cells.toList, formed w c := by
  unfold Value.okWide at h
  rw [hu] at h
  have agg : ∀ cs, v = .agg cs → Row.okWide P w r base t cs → ∀ c ∈ v.cells.toList, formed w c := by
    rintro cs rfl ⟨ts, _, _, hall⟩ c hc
    obtain ⟨i, hi⟩ := List.mem_iff_getElem?.1 hc
    obtain ⟨u, _, hu⟩ := hall i c (by rw [← Array.getElem?_toList]; exact hi)
    exact formed_cell hu
  have one : Cell.okWide P w r base t v → v.cells = #[v] := by
    intro hc
    cases v <;> first | rfl | skip
    unfold Cell.okWide at hc
    rw [hu] at hc
    cases td <;> simp [Cell.ok, hu] at hc
  cases td <;> simp only at h <;> first
    | (obtain ⟨cs, rfl, _, hr⟩ := h
       exact ⟨fun _ => ⟨cs, rfl⟩, fun h => by simp [isAggD] at h, agg cs rfl hr⟩)
    | (refine ⟨fun h => by simp [isAggD] at h, fun _ => one h, fun c hc => ?_⟩
       rw [one h] at hc
       simp at hc
       subst hc
       exact formed_cell h)

/-! the parameters -/
def paramsS (P : Program) : List TypeId → Option (List (Bool × Nat) × List FK)
  | [] => some ([], [])
  | t :: ts => (match P.underlying t, flatS P 300 t, paramsS P ts with
    | some td, some ks, some (is, ls) => bif isAggD td || Nat.beq ks.length 1 then some ((isAggD td, ks.length) :: is, ks ++ ls) else none
    | _, _, _ => none)
def argsS : List (Bool × Nat) → List SV → List SV
  | [], _ => []
  | (true, n) :: r, l => .agg (l.take n) :: argsS r (l.drop n)
  | (false, n) :: r, l => l.headD .nils :: argsS r (l.drop n)
theorem open_args {H : Type} {enc : TypeId × Value → H} {P : Program} {w : World} {b : Nat} {sp : Nat → Bool} {held : Bool} {r : Reach} {base : Nat} :
    ∀ {ts : List TypeId} {vs : List Value} {ds : List (DataW H)} {ps : List MemPlace} {is : List (Bool × Nat)} {ks : List FK}, paramsS P ts = some (is, ks) → DataW.TrodAll enc P w b sp held ts vs ds ps →
      (∀ (j : Nat) t v, ts[j]? = some t → vs[j]? = some v → Value.okWide P w r base t v) →
      ∃ L, goodL w ks L ∧ ∀ (ρ : Env) (β : Bet) (S : List SV), relL ρ β S L → relL ρ β (argsS is S) vs
  | [], [], [], _, is, ks, h, _, _ => by
    simp only [paramsS, Option.some.injEq, Prod.mk.injEq] at h
    obtain ⟨rfl, rfl⟩ := h
    exact ⟨[], rfl, fun _ _ _ _ => rfl⟩
  | t :: ts, v :: vs, d :: ds, ps, is, ks, h, ht, hok => by
    simp only [paramsS] at h
    split at h
    · rename_i td k1 is' ls hu hk hps
      cases hb : isAggD td || Nat.beq k1.length 1
      · rw [hb] at h; cases h
      · rw [hb] at h
        cases h
        obtain ⟨p, q, ⟨fuel, hf⟩, htl, _⟩ := ht
        obtain ⟨L, hL, hrel⟩ := open_args hps htl (fun j t v h1 h2 => hok (j + 1) t v (by simpa using h1) (by simpa using h2))
        obtain ⟨f1, f2, f3⟩ := formed_value hu (hok 0 t v rfl rfl)
        have hg := goodL_of ((trod_flat 300).1 t k1 hk fuel _ _ hf) f3
        refine ⟨v.cells.toList ++ L, goodL_append hg hL, fun ρ β S hS => ?_⟩
        have hlen := goodL_length hg
        have h1 := relL_take k1.length hS
        have h2 := relL_drop k1.length hS
        rw [← hlen, List.take_left] at h1
        rw [← hlen, List.drop_left] at h2
        rw [hlen] at h1 h2
        cases ha : isAggD td
        · rw [ha] at hb
          have hk1 : k1.length = 1 := Nat.eq_of_beq_eq_true (by simpa using hb)
          refine ⟨v, vs, rfl, ?_, hrel ρ β _ h2⟩
          rw [f2 ha, hk1] at h1
          cases S with
          | nil => simp [relL] at h1
          | cons s S =>
            simp only [List.take_succ_cons, List.take_zero] at h1
            obtain ⟨u, us, hx, r1, _⟩ := h1
            simp at hx
            rw [hx.1]; exact r1
        · obtain ⟨cs, rfl⟩ := f1 ha
          exact ⟨.agg cs, vs, rfl, ⟨cs.toList, h1, by simp⟩, hrel ρ β _ h2⟩
    · cases h
  | [], _ :: _, _, _, _, _, _, h, _ => h.elim
  | [], [], _ :: _, _, _, _, _, h, _ => h.elim
  | _ :: _, [], _, _, _, _, _, h, _ => by simp [DataW.TrodAll] at h
  | _ :: _, _ :: _, [], _, _, _, _, h, _ => h.elim

/-! symbolic cells -/
def symL (R : Nat) : List FK → List Bool → Nat → Nat → List SV
  | [], _, _, _ => []
  | .c k :: fs, p, id, f => mkCell R (.lit 0) f k :: symL R fs p id (f + 1)
  | .st :: fs, p, id, f => .str (R + 1 + f) (.wrap .u64 (.cell R (.lit 0) f)) :: symL R fs p id (f + 1)
  | .sl _ :: fs, p, id, f => (match p with
    | true :: p => .slice id (.lit 0) 0 (.var id) none :: symL R fs p (id + 1) (f + 1)
    | _ :: p => .nils :: symL R fs p id (f + 1)
    | [] => .nils :: symL R fs [] id (f + 1))
def symM : List FK → List Bool → Mem → Mem
  | [], _, m => m
  | .c _ :: fs, p, m => symM fs p m
  | .st :: fs, p, m => symM fs p m
  | .sl ks :: fs, p, m => (match p with
    | true :: p => symM fs p (m.push (.arr ⟨false, m.nx, ks.length, ks, .var m.nx, none, 0, []⟩))
    | _ :: p => symM fs p m
    | [] => symM fs [] m)
def patOf : List FK → List Value → List Bool
  | [], _ => []
  | _ :: _, [] => []
  | .c _ :: fs, _ :: vs => patOf fs vs
  | .st :: fs, _ :: vs => patOf fs vs
  | .sl _ :: fs, .slice (some _) _ _ :: vs => true :: patOf fs vs
  | .sl _ :: fs, _ :: vs => false :: patOf fs vs
def blksOf : List FK → List Value → List Blk
  | [], _ => []
  | _ :: _, [] => []
  | .c _ :: fs, _ :: vs => blksOf fs vs
  | .st :: fs, _ :: vs => blksOf fs vs
  | .sl ks :: fs, .slice (some a) len _ :: vs => ⟨a.block, a.off, ks.length, len, true⟩ :: blksOf fs vs
  | .sl _ :: fs, _ :: vs => blksOf fs vs
def cellAt (w : World) (R : Nat) (bl : List Blk) (L : List Value) (r : Nat) (i : Int) (f : Nat) : Value :=
  if r = R then L.getD f undef else match bl[r]? with
    | some e => (w.cell? ⟨e.blk, e.base + i.toNat * e.stride + f, none⟩).getD undef
    | none => undef
/-- a byte of a string among the arguments -/
def byteAt (L : List Value) (k : Nat) (i : Int) : Int := match L.getD k undef with
  | .string b => (match b.data.toList[i.toNat]? with | some c => (c.toNat : Int) | none => 0)
  | _ => 0
def envOf (w : World) (R : Nat) (bl : List Blk) (L : List Value) : Env where
  v n := match bl[n]? with | some e => e.cnt | none => 0
  c r i f := if R < r then byteAt L (r - R - 1) i else iOf (cellAt w R bl L r i f)
  bv _ := false
  bc r i f := bOf (cellAt w R bl L r i f)
theorem mkCell_cellR {ρ : Env} {β : Bet} {r : Nat} {i : T} {f : Nat} {k : CK} {v : Value} (h : cellR k v) (h1 : ρ.c r (i.ev ρ) f = iOf v) (h2 : ρ.bc r (i.ev ρ) f = bOf v) : (mkCell r i f k).rel ρ β v := by
  cases k with
  | b => obtain ⟨b, rfl⟩ := h; simp [mkCell, SV.rel, B.ev, h2, bOf]
  | i k => obtain ⟨n, rfl, hn⟩ := h; simp [mkCell, SV.rel, T.ev, h1, iOf, hn]
  | s => exact h.elim
theorem symL_rel {w : World} {R : Nat} {bl : List Blk} {L : List Value} : ∀ {fs : List FK} {vs : List Value}, goodL w fs vs → ∀ (pre : List Value) (bpre bpost : List Blk), L = pre ++ vs → bl = bpre ++ blksOf fs vs ++ bpost →
    relL (envOf w R bl L) bl (symL R fs (patOf fs vs) bpre.length pre.length) vs
  | [], _, h, _, _, _, _, _ => h
  | .c k :: fs, _, h, pre, bpre, bpost, hL, hb => by
    obtain ⟨v, vs, rfl, h1, h2⟩ := h
    have hc : ∀ i, cellAt w R bl L R i pre.length = v := fun i => by simp [cellAt, hL]
    refine ⟨v, vs, rfl, mkCell_cellR h1 (by simp only [envOf, hc, Nat.lt_irrefl, if_false]) (by simp only [envOf, hc]), ?_⟩
    have := symL_rel (R := R) (bl := bl) (L := L) h2 (pre ++ [v]) bpre bpost (by simp [hL]) (by simpa [blksOf] using hb)
    simpa [patOf] using this
  | .st :: fs, _, h, pre, bpre, bpost, hL, hb => by
    obtain ⟨v, vs, rfl, ⟨b, rfl, hsz⟩, h2⟩ := h
    have hg : L.getD pre.length undef = .string b := by simp [hL]
    refine ⟨.string b, vs, rfl, ⟨b, rfl, ?_, hsz, fun j c hc => ?_⟩, ?_⟩
    · have : (T.cell R (.lit 0) pre.length).ev (envOf w R bl L) = (b.size : Int) := by
        simp only [T.ev, envOf, Nat.lt_irrefl, if_false, cellAt, if_true, hg, iOf]
      simp only [T.ev] at this ⊢
      rw [this]
      exact wrap_of_inK ((inK_iff _ _).2 ⟨by simp only [kLo]; omega, by simp only [kHi]; omega⟩)
    · simp only [envOf]
      rw [if_pos (by omega), show R + 1 + pre.length - R - 1 = pre.length by omega]
      simp only [byteAt, hg, Int.toNat_natCast, hc]
    · have := symL_rel (R := R) (bl := bl) (L := L) h2 (pre ++ [.string b]) bpre bpost (by simp [hL]) (by simpa [blksOf] using hb)
      simpa [patOf] using this
  | .sl ks :: fs, _, h, pre, bpre, bpost, hL, hb => by
    obtain ⟨v, vs, rfl, h1, h2⟩ := h
    rcases h1 with rfl | ⟨b, off, len, cap, arr, el, fr, rfl, hlc, hcm, hpos, hh, hrow⟩
    · refine ⟨_, vs, rfl, rfl, ?_⟩
      have := symL_rel (R := R) (bl := bl) (L := L) h2 (pre ++ [.slice none 0 0]) bpre bpost (by simp [hL]) (by simpa [blksOf] using hb)
      simpa [patOf] using this
    · have hbl : bl[bpre.length]? = some ⟨b, off, ks.length, len, true⟩ := by rw [hb]; simp [blksOf]
      refine ⟨_, vs, rfl, ⟨_, len, cap, hbl, by simp [T.ev], by simp only [T.ev, envOf, hbl], hlc, hcm, (fun t ht => by cases ht), by simp [T.ev]⟩, ?_⟩
      have := symL_rel (R := R) (bl := bl) (L := L) h2 (pre ++ [.slice (some ⟨b, off, none⟩) len cap]) (bpre ++ [⟨b, off, ks.length, len, true⟩]) bpost (by simp [hL]) (by simpa [blksOf] using hb)
      simpa [patOf] using this
theorem MemRel.pushRo {ρ : Env} {β : Bet} {m : Mem} {w : World} (h : MemRel ρ β m w) (hro : ∀ e ∈ β, e.ro = true) {e : Blk} (he : e.ro = true) (hlt : e.blk < w.heap.size) {o : SObj} (ho : objRel ρ (β ++ [e]) e w o) :
    MemRel ρ (β ++ [e]) (m.push o) w := by
  have hro' : ∀ x ∈ β ++ [e], x.ro = true := fun x hx => by
    rcases List.mem_append.1 hx with h1 | h1
    · exact hro x h1
    · simp at h1; subst h1; exact he
  refine ⟨by simp [Mem.push, h.nx], fun id o' ho' => ?_, fun x hx => ?_, fun i j x y hi hj _ _ => ⟨hro' x (List.mem_of_getElem? hi), hro' y (List.mem_of_getElem? hj)⟩, fun id hid => ?_⟩
  · simp only [Mem.push, Tr.get_put] at ho'
    by_cases hid : id = m.nx
    · rw [if_pos hid] at ho'; cases ho'
      exact ⟨e, by rw [hid, h.nx]; simp, ho⟩
    · rw [if_neg hid] at ho'
      obtain ⟨x, hx, r⟩ := h.obj id o' ho'
      exact ⟨x, by rw [List.getElem?_append_left (List.getElem?_eq_some_iff.1 hx).1]; exact hx, objRel_mono _ r⟩
  · rcases List.mem_append.1 hx with h1 | h1
    · exact h.lt x h1
    · simp at h1; subst h1; exact hlt
  · simp only [Mem.push] at hid ⊢
    rw [Tr.get_put, if_neg (by omega)]
    exact h.dom id (by omega)
theorem symM_rel {w : World} {R : Nat} {bl : List Blk} {L : List Value} (hR : bl.length ≤ R) : ∀ {fs : List FK} {vs : List Value}, goodL w fs vs → ∀ (bpre : List Blk) (m : Mem), bl = bpre ++ blksOf fs vs → (∀ e ∈ bpre, e.ro = true) →
    MemRel (envOf w R bl L) bpre m w → MemRel (envOf w R bl L) bl (symM fs (patOf fs vs) m) w ∧ ∀ e ∈ bl, e.ro = true
  | [], _, h, bpre, m, hb, hro, hm => by
    have : bl = bpre := by simpa [blksOf] using hb
    subst this
    exact ⟨by simpa [symM] using hm, hro⟩
  | .c k :: fs, _, h, bpre, m, hb, hro, hm => by
    obtain ⟨v, vs, rfl, h1, h2⟩ := h
    simpa [symM, patOf] using symM_rel hR h2 bpre m (by simpa [blksOf] using hb) hro hm
  | .st :: fs, _, h, bpre, m, hb, hro, hm => by
    obtain ⟨v, vs, rfl, h1, h2⟩ := h
    simpa [symM, patOf] using symM_rel hR h2 bpre m (by simpa [blksOf] using hb) hro hm
  | .sl ks :: fs, _, h, bpre, m, hb, hro, hm => by
    obtain ⟨v, vs, rfl, h1, h2⟩ := h
    rcases h1 with rfl | ⟨b, off, len, cap, arr, el, fr, rfl, hlc, hcm, hpos, hh, hrow⟩
    · simpa [symM, patOf] using symM_rel hR h2 bpre m (by simpa [blksOf] using hb) hro hm
    · have hbl : bl[bpre.length]? = some ⟨b, off, ks.length, len, true⟩ := by rw [hb]; simp [blksOf]
      have hlt : bpre.length < bl.length := (List.getElem?_eq_some_iff.1 hbl).1
      have hnx := hm.nx
      have hpush := hm.pushRo hro (e := ⟨b, off, ks.length, len, true⟩) rfl (by have := (Array.getElem?_eq_some_iff.1 hh).1; exact this) (o := .arr ⟨false, m.nx, ks.length, ks, .var m.nx, none, 0, []⟩) (by
        refine ⟨(fun h => by cases h), rfl, hpos, rfl, ?_, ⟨rfl, fun t cs h => by cases h⟩, arr, el, fr, hh, (fun h => by cases h), fun j hj f sv hs => ?_⟩
        · simp only [T.ev, envOf, hnx, hbl]
        · simp only [SArr.at, SArr.base, setAll, instG] at hs
          have hk : ∃ k, ks[f]? = some k ∧ sv = mkCell m.nx (.lit j) f k := by
            have : ∀ (ks : List CK) (n f : Nat), (baseRow m.nx (.lit j) ks n)[f]? = some sv → ∃ k, ks[f]? = some k ∧ sv = mkCell m.nx (.lit j) (n + f) k := by
              intro ks
              induction ks with
              | nil => intro n f h; simp [baseRow] at h
              | cons k ks ih =>
                intro n f h
                cases f with
                | zero => simp [baseRow] at h; exact ⟨k, rfl, h.symm⟩
                | succ f =>
                  simp [baseRow] at h
                  obtain ⟨k', hk', e⟩ := ih (n + 1) f h
                  exact ⟨k', by simpa using hk', by rw [e]; congr 1; omega⟩
            simpa using this ks 0 f hs
          obtain ⟨k, hk, rfl⟩ := hk
          obtain ⟨v, hv, hc⟩ := hrow j hj f k hk
          refine ⟨v, hv, mkCell_cellR hc ?_ ?_⟩ <;>
            · simp only [envOf, T.ev, cellAt, hnx]
              first
                | (rw [if_neg (by omega), if_neg (by omega), hbl]; simp only [Int.toNat_natCast, cell?_heap hh, hv, Option.getD_some]; done)
                | (rw [if_neg (by omega), hbl]; simp only [Int.toNat_natCast, cell?_heap hh, hv, Option.getD_some]; done))
      have := symM_rel hR (L := L) h2 (bpre ++ [⟨b, off, ks.length, len, true⟩]) _ (by simpa [blksOf] using hb) (fun e he => by
        rcases List.mem_append.1 he with h1 | h1
        · exact hro e h1
        · simp at h1; subst h1; rfl) hpush
      simpa [symM, patOf] using this
/-- how many slices there are, and all the ways in which they may be nil -/
def patsOf : List FK → List (List Bool)
  | [] => [[]]
  | .c _ :: fs => patsOf fs
  | .st :: fs => patsOf fs
  | .sl _ :: fs => (patsOf fs).flatMap fun p => [true :: p, false :: p]
theorem patOf_mem {w : World} : ∀ {fs : List FK} {vs : List Value}, goodL w fs vs → patOf fs vs ∈ patsOf fs
  | [], _, _ => by simp [patOf, patsOf]
  | .c k :: fs, _, h => by
    obtain ⟨v, vs, rfl, h1, h2⟩ := h
    simpa [patOf, patsOf] using patOf_mem h2
  | .st :: fs, _, h => by
    obtain ⟨v, vs, rfl, h1, h2⟩ := h
    simpa [patOf, patsOf] using patOf_mem h2
  | .sl ks :: fs, _, h => by
    obtain ⟨v, vs, rfl, h1, h2⟩ := h
    have := patOf_mem h2
    simp only [patsOf, List.mem_flatMap]
    refine ⟨_, this, ?_⟩
    rcases h1 with rfl | ⟨b, off, len, cap, arr, el, fr, rfl, _⟩ <;> simp [patOf]
end Go.SX

namespace Go.SX
open Go

def callX (C : Cfg) (fuel : Nat) (id : Nat) (args : List SV) (mem : Mem) (pc : PC) : Option (List COut) :=
  match C.fn id with
  | some fn => (match fn.body with
    | some body => callB C (exec C fuel) [] fn body args mem pc id
    | none => none)
  | none => none
theorem callX_ok {C : Cfg} (hC : C.Types) {ρ : Env} (hH : ∀ ρ, HookOk C ρ) {fuel id : Nat} {args : List SV} {mem : Mem} {pc : PC} {outs : List COut} (h : callX C fuel id args mem pc = some outs)
    {β : Bet} {w : World} {vs : List Value} (hp : PcH ρ pc) (hr : relL ρ β args vs) (hm : MemRel ρ β mem w) (hn : NoStuckC ρ outs) : Calls C.P id vs.toArray w (CPost ρ β [] w outs) := by
  unfold callX at h
  split at h
  · rename_i fn hfn
    obtain ⟨hf1, _⟩ := hC.fn id fn hfn
    split at h
    · rename_i body hbody
      exact callB_ok hC (exec_run hC hH ρ fuel) h hf1 hbody hp hr hm hn
    · cases h
  · cases h
def R0 : Nat := 1000000
def startPc : Nat → PC
  | 0 => []
  | n + 1 => (.ltI (.var n) (.lit 0), false) :: (.ltI (.lit 9223372036854775807) (.var n), false) :: startPc n
theorem startPc_ok {ρ : Env} : ∀ n, (∀ i, i < n → 0 ≤ ρ.v i ∧ ρ.v i ≤ 9223372036854775807) → PcH ρ (startPc n)
  | 0, _ => PcH.nil ρ
  | n + 1, h => by
    have := h n (by omega)
    refine PcH.cons ?_ (PcH.cons ?_ (startPc_ok n fun i hi => h i (by omega)))
    · exact decide_eq_false (by simp only [T.ev]; omega)
    · exact decide_eq_false (by simp only [T.ev]; omega)
theorem cnt_ok {w : World} : ∀ {fs : List FK} {vs : List Value}, goodL w fs vs → ∀ e ∈ blksOf fs vs, e.cnt ≤ 9223372036854775807
  | [], _, _, e, he => by simp [blksOf] at he
  | .c k :: fs, _, h, e, he => by
    obtain ⟨v, vs, rfl, h1, h2⟩ := h
    exact cnt_ok h2 e (by simpa [blksOf] using he)
  | .st :: fs, _, h, e, he => by
    obtain ⟨v, vs, rfl, h1, h2⟩ := h
    exact cnt_ok h2 e (by simpa [blksOf] using he)
  | .sl ks :: fs, _, h, e, he => by
    obtain ⟨v, vs, rfl, h1, h2⟩ := h
    rcases h1 with rfl | ⟨b, off, len, cap, arr, el, fr, rfl, hlc, hcm, _⟩
    · exact cnt_ok h2 e (by simpa [blksOf] using he)
    · simp [blksOf] at he
      rcases he with rfl | he
      · simp; omega
      · exact cnt_ok h2 e he
theorem blks_le {w : World} : ∀ {fs : List FK} {vs : List Value}, goodL w fs vs → (blksOf fs vs).length ≤ fs.length
  | [], _, _ => by simp [blksOf]
  | .c k :: fs, _, h => by
    obtain ⟨v, vs, rfl, h1, h2⟩ := h
    have := blks_le h2
    simp [blksOf]; omega
  | .st :: fs, _, h => by
    obtain ⟨v, vs, rfl, h1, h2⟩ := h
    have := blks_le h2
    simp [blksOf]; omega
  | .sl ks :: fs, _, h => by
    obtain ⟨v, vs, rfl, h1, h2⟩ := h
    have := blks_le h2
    rcases h1 with rfl | ⟨b, off, len, cap, arr, el, fr, rfl, hlc, hcm, _⟩ <;> simp [blksOf] <;> omega
theorem symM_nx : ∀ (fs : List FK) (w : World) (vs : List Value), goodL w fs vs → ∀ m, (symM fs (patOf fs vs) m).nx = m.nx + (blksOf fs vs).length
  | [], _, _, _, m => by simp [symM, blksOf]
  | .c k :: fs, w, _, h, m => by
    obtain ⟨v, vs, rfl, h1, h2⟩ := h
    have := symM_nx fs w vs h2 m
    simpa [symM, patOf, blksOf] using this
  | .st :: fs, w, _, h, m => by
    obtain ⟨v, vs, rfl, h1, h2⟩ := h
    have := symM_nx fs w vs h2 m
    simpa [symM, patOf, blksOf] using this
  | .sl ks :: fs, w, _, h, m => by
    obtain ⟨v, vs, rfl, h1, h2⟩ := h
    rcases h1 with rfl | ⟨b, off, len, cap, arr, el, fr, rfl, hlc, hcm, _⟩
    · have := symM_nx fs w vs h2 m
      simpa [symM, patOf, blksOf] using this
    · have := symM_nx fs w vs h2 (m.push (.arr ⟨false, m.nx, ks.length, ks, .var m.nx, none, 0, []⟩))
      simp only [symM, patOf, blksOf, List.length_cons]; rw [this]; simp only [Mem.push]; omega

/-- a law's run at one form of its arguments -/
def lawX (C : Cfg) (fuel id : Nat) (is : List (Bool × Nat)) (ks : List FK) (p : List Bool) : Option (List COut) :=
  let m := symM ks p ⟨.nil, 0⟩
  callX C fuel id (argsS is (symL R0 ks p 0 0)) m (startPc m.nx)
def goodOut (ρ : Env) (o : COut) : Prop := ∃ b, o.ex = .ret (.bool b) ∧ b.ev ρ = true
theorem law_calls {H : Type} {enc : TypeId × Value → H} {C : Cfg} (hC : C.Types) (hH : ∀ ρ, HookOk C ρ) {fuel id : Nat} {ts : List TypeId} {is : List (Bool × Nat)} {ks : List FK} (hps : paramsS C.P ts = some (is, ks)) (hks : ks.length ≤ R0)
    (hx : ∀ p ∈ patsOf ks, ∃ outs, lawX C fuel id is ks p = some outs ∧ ∀ ρ, ∀ o ∈ outs, PcH ρ o.pc → goodOut ρ o)
    {W : World} {base : Nat} {vs : List Value} {ds : List (DataW H)} {ps : List MemPlace} {b0 : Nat} {sp : Nat → Bool} {held : Bool} {r : Reach}
    (hok : ∀ (j : Nat) t v, ts[j]? = some t → vs[j]? = some v → Value.okWide C.P W r base t v) (ht : DataW.TrodAll enc C.P W b0 sp held ts vs ds ps) :
    Calls C.P id vs.toArray W fun e W' => e = .returned (.bool true) ∧ RowKit.Below W.heap.size W W' := by
  obtain ⟨L, hg, hargs⟩ := open_args hps ht hok
  have hbl := blks_le hg
  have hrel := symL_rel (R := R0) (bl := blksOf ks L) (L := L) hg [] [] [] rfl (by simp)
  have hm0 : MemRel (envOf W R0 (blksOf ks L) L) [] ⟨.nil, 0⟩ W := ⟨rfl, fun id o h => by simp [Tr.get] at h, fun e he => (by simp at he), fun i j e e' he => (by simp at he), fun id _ => by simp [Tr.get]⟩
  obtain ⟨hm, hro⟩ := symM_rel (R := R0) (bl := blksOf ks L) (L := L) (by omega) hg [] _ (by simp) (by simp) hm0
  obtain ⟨outs, ho, hgood⟩ := hx _ (patOf_mem hg)
  unfold lawX at ho
  have hnx : (symM ks (patOf ks L) ⟨.nil, 0⟩).nx = (blksOf ks L).length := by rw [symM_nx ks W L hg]; simp
  have hpc : PcH (envOf W R0 (blksOf ks L) L) (startPc (symM ks (patOf ks L) ⟨.nil, 0⟩).nx) := startPc_ok _ fun i hi => by
    rw [hnx] at hi
    simp only [envOf, List.getElem?_eq_getElem hi]
    have := cnt_ok hg _ (List.getElem_mem hi)
    omega
  refine (callX_ok hC hH ho hpc (hargs _ _ _ hrel) hm (fun o hoo k hk hp => ?_)).mono fun e W' ⟨o, hoo, hp, β', hs, hm', he⟩ => ?_
  · obtain ⟨b, hb, _⟩ := hgood _ o hoo hp
    rw [hb] at hk; cases hk
  · obtain ⟨b, hb, hv⟩ := hgood _ o hoo hp
    rw [hb] at he
    cases e <;> simp only [EndR] at he
    refine ⟨?_, hs.below hro⟩
    rw [show _ = Value.bool _ from he, hv]
/-- what the row asks, from that -/
theorem law_post {H : Type} {enc : TypeId × Value → H} {P : Program} {f : Func} {s : ChangeSpec} {tb : TypeId} {ds gs : List (DataW H)} {before : List MemPlace} {W W' : World} {args : Array Value} (hv : s.vars = []) (hres : f.resultTypes = #[tb])
    (htb : P.underlying tb = some .bool) (hl : laidOutB P = true) (hpar : f.params.toList.all (fun t => P.readableRec t && decide (t < P.types.size)) = true)
    (hs : s.fn H ds = { results := [.lit (.bool true)], args := ds }) (hW : DataW.Whole enc P f.params.toList s.vars false W args.toList ds gs before) (hb : RowKit.Below W.heap.size W W') :
    s.post enc P f false true false false W args (.bool true) W' := by
  have hlt := hW.lt
  obtain ⟨p, q, h1, h2, rfl, h3, h4⟩ := hW
  have hW' : DataW.Whole enc P f.params.toList s.vars false W args.toList ds gs (p ++ q) := ⟨p, q, h1, h2, rfl, h3, h4⟩
  rw [hv] at h2
  have hgs : gs = [] ∧ q = [] := by
    cases gs with
    | nil => exact ⟨rfl, h2⟩
    | cons g gs => exact h2.elim
  obtain ⟨rfl, rfl⟩ := hgs
  have hargs : ∀ (ts : List TypeId) (vs : List Value) (xs : List (DataW H)) (p : List MemPlace), ts.all (fun t => P.readableRec t && decide (t < P.types.size)) = true → DataW.TrodAll enc P W 0 (fun _ => true) true ts vs xs p →
      (∀ x ∈ p, x.block < W.heap.size) → DataW.TrodAll enc P W' 0 (fun b => decide (b < W.heap.size)) true ts vs xs p := by
    intro ts
    induction ts with
    | nil => intro vs xs p _ h _; cases vs <;> cases xs <;> first | exact h | exact h.elim
    | cons t ts ih =>
      intro vs xs p ha h hlt
      cases vs with
      | nil => cases xs <;> simp [DataW.TrodAll] at h
      | cons v vs =>
        cases xs with
        | nil => exact h.elim
        | cons x xs =>
          obtain ⟨p1, q1, t1, t2, rfl⟩ := h
          simp only [List.all_cons, Bool.and_eq_true, decide_eq_true_eq] at ha
          exact ⟨p1, q1, RowKit.Below.trod hl ha.1.1 ha.1.2 t1 hb fun y hy => hlt y (by simp [hy]), ih vs xs q1 (by simpa using ha.2) t2 (fun y hy => hlt y (by simp [hy])), rfl⟩
  refine ⟨ds, [], p ++ [], [], p, [], hW', ?_, ?_, ?_, hb.frame _, fun h => by cases h⟩
  · rw [hres, List.append_nil, hs]
    exact ⟨[], [], RowKit.shut_bool htb true, rfl, rfl⟩
  · rw [List.append_nil, hs]
    exact hargs _ _ _ _ hpar h1 fun x hx => hlt x (by simp [hx])
  · rw [List.append_nil, hs, hv]; rfl

/-! all of it as one truth -/
/-! numbers one behind the other -/
def edges (x : T) : B × Bool → List T
  | (.ltI a b, true) => bif T.beq a x then [b] else []
  | (.ltI a b, false) => bif T.beq b x then [a] else []
  | (.eqI a b, true) => (bif T.beq a x then [b] else []) ++ (bif T.beq b x then [a] else [])
  | _ => []
theorem edges_ok {ρ : Env} {x z : T} {p : B × Bool} (h : z ∈ edges x p) (hp : p.1.ev ρ = p.2) : x.ev ρ ≤ z.ev ρ := by
  unfold edges at h
  split at h
  · rename_i a b
    cases hb : T.beq a x <;> rw [hb] at h <;> simp at h
    subst h
    have := T.beq_eq hb
    subst this
    simp only [B.ev, decide_eq_true_eq] at hp
    omega
  · rename_i a b
    cases hb : T.beq b x <;> rw [hb] at h <;> simp at h
    subst h
    have := T.beq_eq hb
    subst this
    simp only [B.ev, decide_eq_false_iff_not] at hp
    omega
  · rename_i a b
    simp only [B.ev, beq_iff_eq] at hp
    rcases List.mem_append.1 h with h | h
    · cases hb : T.beq a x <;> rw [hb] at h <;> simp at h
      subst h
      have := T.beq_eq hb
      subst this
      omega
    · cases hb : T.beq b x <;> rw [hb] at h <;> simp at h
      subst h
      have := T.beq_eq hb
      subst this
      omega
  · cases h
def reach : Nat → PC → T → T → Bool
  | 0, _, x, y => T.beq x y
  | n + 1, pc, x, y => T.beq x y || pc.any fun p => (edges x p).any fun z => reach n pc z y
theorem reach_ok {ρ : Env} {pc : PC} (hp : PcH ρ pc) : ∀ {n : Nat} {x y : T}, reach n pc x y = true → x.ev ρ ≤ y.ev ρ
  | 0, x, y, h => by rw [T.beq_eq h]; exact Int.le_refl _
  | n + 1, x, y, h => by
    simp only [reach, Bool.or_eq_true] at h
    rcases h with h | h
    · rw [T.beq_eq h]; exact Int.le_refl _
    · obtain ⟨p, hpm, hq⟩ := List.any_eq_true.1 h
      obtain ⟨z, hz, hr⟩ := List.any_eq_true.1 hq
      exact Int.le_trans (edges_ok hz (hp p hpm)) (reach_ok hp hr)
def orderDead (pc : PC) : Bool := pc.any fun p => match p with
  | (.ltI u v, true) => reach 3 pc v u
  | (.eqI u v, false) => reach 3 pc u v && reach 3 pc v u
  | _ => false
theorem orderDead_ok {ρ : Env} {pc : PC} (h : orderDead pc = true) : ¬ PcH ρ pc := fun hp => by
  obtain ⟨p, hpm, hq⟩ := List.any_eq_true.1 h
  have h1 := hp p hpm
  split at hq
  · rename_i u v
    have := reach_ok hp hq
    simp only [B.ev, decide_eq_true_eq] at h1
    omega
  · rename_i u v
    rw [Bool.and_eq_true] at hq
    have a1 := reach_ok hp hq.1
    have a2 := reach_ok hp hq.2
    simp only [B.ev, beq_eq_false_iff_ne] at h1
    omega
  · cases hq
/-- by cases -/
def provedB : Nat → PC → B → Bool
  | 0, _, _ => false
  | n + 1, pc, b => (match simpB pc b with
    | .lit true => true
    | .lit false => deadPc pc || orderDead pc
    | b' => provedB n (addPc (atomB b') true pc) b' && provedB n (addPc (atomB b') false pc) b')
theorem provedB_ok {ρ : Env} : ∀ {n : Nat} {pc : PC} {b : B}, provedB n pc b = true → PcH ρ pc → b.ev ρ = true
  | 0, _, _, h, _ => by cases h
  | n + 1, pc, b, h, hp => by
    simp only [provedB] at h
    rw [← simpB_ev hp b]
    split at h
    · rename_i hs; rw [hs]; rfl
    · rw [Bool.or_eq_true] at h
      rcases h with h | h
      · exact (deadPc_ok h hp).elim
      · exact (orderDead_ok h hp).elim
    · rename_i h1 h2
      generalize simpB pc b = b' at h
      rw [Bool.and_eq_true] at h
      cases ha : (atomB b').ev ρ
      · exact provedB_ok h.2 (addPc_ok _ false ha hp)
      · exact provedB_ok h.1 (addPc_ok _ true ha hp)
/-- a variable that is known to be a number: the number put in its place -/
def subV (c x : B) : B := match c with
  | .eqI (.var k) t => bif okB k x then instB k t x else x
  | .eqI t (.var k) => bif okB k x then instB k t x else x
  | _ => x
theorem at_self {ρ : Env} {k : Nat} {j : Int} (h : ρ.v k = j) : ρ.at k j = ρ := by
  unfold Env.at
  congr 1
  funext m
  by_cases e : m = k
  · rw [if_pos e, e, h]
  · rw [if_neg e]
theorem subV_ev {ρ : Env} {c x : B} (h : c.ev ρ = true) : (subV c x).ev ρ = x.ev ρ := by
  unfold subV
  split
  · rename_i k t
    cases hk : okB k x
    · rfl
    · simp only [B.ev, T.ev, beq_iff_eq] at h
      rw [cond_true, instB_ev hk, at_self h]
  · rename_i t k _
    cases hk : okB k x
    · rfl
    · simp only [B.ev, T.ev, beq_iff_eq] at h
      rw [cond_true, instB_ev hk, at_self h.symm]
  · rfl
def orB (a b : Option B) : Option B := match a with | some x => some x | none => b
/-- what a variable is asked to be -/
def findEq (k : Nat) : B → Option B
  | .eqI (.var n) t => bif Nat.beq n k then some (.eqI (.var n) t) else none
  | .eqI t (.var n) => bif Nat.beq n k then some (.eqI t (.var n)) else none
  | .not a => findEq k a
  | .and a b => orB (findEq k a) (findEq k b)
  | .ite c a b => orB (findEq k c) (orB (findEq k a) (findEq k b))
  | .eqB a b => orB (findEq k a) (findEq k b)
  | _ => none
/-- by parts: what is joined by 'and' one by one, of all rows one row; K: a truth that is known -/
def partB : Nat → B → PC → B → Bool
  | 0, _, _, _ => false
  | n + 1, K, pc, b => (match simpB pc b with
    | .lit true => true
    | .lit false => (match K with | .lit false => true | _ => deadPc pc || orderDead pc)
    | .and x y => partB n K pc x && partB n K pc y
    | .ite c x y => (match mkAnd K (mkNot (.ite c x y)) with
      | .lit false => true
      | _ => partB n (cofB c true K) (addPc c true pc) (subV c x) && partB n (cofB c false K) (addPc c false pc) y)
    | .all k len x => (frPC k pc && frT k (qNum k) len && (let pc1 := addPc (.ltI (.var k) len) true (addPc (.ltI (.var k) (.lit 0)) false pc); let K1 := bif frB k (qNum k) K then K else .lit true;
      match findEq k x with
      | some c => partB n K1 (addPc c true pc1) (subV c (cofB c true x)) && partB n K1 (addPc c false pc1) (cofB c false x)
      | none => partB n K1 pc1 x)) || provedB n pc (.all k len x)
    | b' => (match mkAnd K (mkNot b') with
      | .lit false => true
      | _ => provedB 64 pc b'))
theorem known_not {ρ : Env} {K b : B} (hK : K.ev ρ = true) (h : mkAnd K (mkNot b) = .lit false) : b.ev ρ = true := by
  have := mkAnd_ev ρ K (mkNot b)
  rw [h, mkNot_ev, hK] at this
  simp only [B.ev] at this
  cases hb : b.ev ρ
  · rw [hb] at this; cases this
  · rfl
theorem partB_ok : ∀ {n : Nat} {ρ : Env} {K : B} {pc : PC} {b : B}, partB n K pc b = true → K.ev ρ = true → PcH ρ pc → b.ev ρ = true
  | 0, _, _, _, _, h, _, _ => by cases h
  | n + 1, ρ, K, pc, b, h, hK, hp => by
    simp only [partB] at h
    rw [← simpB_ev hp b]
    split at h
    · rename_i hs; rw [hs]; rfl
    · split at h
      · cases hK
      · rw [Bool.or_eq_true] at h
        rcases h with h | h
        · exact (deadPc_ok h hp).elim
        · exact (orderDead_ok h hp).elim
    · rename_i x y hs
      rw [Bool.and_eq_true] at h
      rw [hs]
      simp only [B.ev, partB_ok h.1 hK hp, partB_ok h.2 hK hp, Bool.and_true]
    · rename_i c x y hs
      rw [hs]
      split at h
      · rename_i hk; exact known_not hK hk
      · rw [Bool.and_eq_true] at h
        simp only [B.ev]
        cases hc : c.ev ρ
        · exact partB_ok h.2 (by rw [cofB_ev hc]; exact hK) (addPc_ok c false hc hp)
        · have := partB_ok h.1 (by rw [cofB_ev hc]; exact hK) (addPc_ok c true hc hp)
          rw [subV_ev hc] at this
          exact this
    · rename_i k len x hs
      rw [hs]
      rw [Bool.or_eq_true] at h
      rcases h with h | h
      · simp only [Bool.and_eq_true] at h
        obtain ⟨⟨h1, h2⟩, h3⟩ := h
        simp only [B.ev, List.all_eq_true, List.mem_range]
        intro j hj
        have hag := Env.at_agree ρ k (qNum k) (j : Int)
        have hK1 : (bif frB k (qNum k) K then K else B.lit true).ev (ρ.at k (j : Int)) = true := by
          cases hf : frB k (qNum k) K
          · rfl
          · rw [cond_true, ← frB_ev hf hag]; exact hK
        have hp1 : PcH (ρ.at k (j : Int)) (addPc (.ltI (.var k) len) true (addPc (.ltI (.var k) (.lit 0)) false pc)) := by
          refine addPc_ok _ true ?_ (addPc_ok _ false ?_ (frPC_ok rfl hag h1 hp))
          · have hv : (ρ.at k (j : Int)).v k = j := by simp [Env.at]
            simp only [B.ev, T.ev, decide_eq_true_eq, hv]
            rw [← frT_ev h2 hag]
            omega
          · have hv : (ρ.at k (j : Int)).v k = j := by simp [Env.at]
            simp only [B.ev, T.ev, decide_eq_false_iff_not, hv]
            omega
        split at h3
        · rename_i c _
          rw [Bool.and_eq_true] at h3
          cases hc : c.ev (ρ.at k (j : Int))
          · have := partB_ok h3.2 hK1 (addPc_ok c false hc hp1)
            rwa [cofB_ev hc] at this
          · have := partB_ok h3.1 hK1 (addPc_ok c true hc hp1)
            rw [subV_ev hc, cofB_ev hc] at this
            exact this
        · exact partB_ok h3 hK1 hp1
      · exact provedB_ok h hp
    · split at h
      · rename_i hk; exact known_not hK hk
      · exact provedB_ok h hp
def bigB : B → Bool
  | .eqI a b => !(plainT a && plainT b)
  | .ltI a b => !(plainT a && plainT b)
  | .not a => bigB a
  | .and _ _ => true
  | .eqB _ _ => true
  | .ite _ _ _ => true
  | _ => false
def goodB0 (o : COut) : Bool := (match o.ex with
  | .ret (.bool b) => (match simpB o.pc b with | .lit true => true | _ => false)
  | _ => false) || deadPc o.pc
/-- by cases: the truth, or that a fact can't be -/
def goodC (o : COut) : Bool := (match o.ex with
  | .ret (.bool b) => (match simpB o.pc b with | .lit false => false | b' => provedB 64 o.pc b')
  | _ => false) || o.pc.any fun x => bigB x.1 && provedB 64 (o.pc.filter fun y => !(pcItem x y)) (bif x.2 then mkNot x.1 else x.1)
/-- by cases over all that is known at once -/
def allB (pc : PC) (b : B) : B := mkNot (mkAnd (conj (pc.filter fun x => bigB x.1)) (mkNot b))
def goodD (o : COut) : Bool := match o.ex with
  | .ret (.bool b) => provedB 64 (o.pc.filter fun x => !(bigB x.1)) (allB o.pc b)
  | _ => false
def goodP (o : COut) : Bool := match o.ex with
  | .ret (.bool b) => partB 1000 (conj o.pc) o.pc b
  | _ => false
/-- all facts at once can't be -/
def deadB (pc : PC) : Bool := match conj pc with | .lit false => true | _ => false
theorem deadB_ok {ρ : Env} {pc : PC} (h : deadB pc = true) : ¬ PcH ρ pc := fun hp => by
  unfold deadB at h
  have := conj_ev hp
  split at h
  · rename_i hc; rw [hc] at this; cases this
  · cases h
/-- by the values of a byte -/
def goodY (o : COut) : Bool := match o.ex with
  | .ret (.bool b) => provedY 64 o.pc b
  | _ => false
def bigZ : B → Bool
  | .all _ _ _ => true
  | b => bigB b
/-- a fact that can't be, by parts -/
def goodZ (o : COut) : Bool := o.pc.any fun x => bigZ x.1 && (let r := o.pc.filter fun y => !(pcItem x y); partB 1000 (conj r) r (bif x.2 then mkNot x.1 else x.1))
theorem goodZ_ok {o : COut} (h : goodZ o = true) {ρ : Env} (hp : PcH ρ o.pc) : False := by
  obtain ⟨x, hx, hb⟩ := List.any_eq_true.1 h
  rw [Bool.and_eq_true] at hb
  have hr : PcH ρ (o.pc.filter fun y => !(pcItem x y)) := fun y hy => hp y (List.mem_filter.1 hy).1
  have h1 := partB_ok hb.2 (conj_ev hr) hr
  have h2 := hp x hx
  cases hv : x.2
  · rw [hv] at h1 h2; rw [cond_false, h2] at h1; cases h1
  · rw [hv] at h1 h2; rw [cond_true, mkNot_ev, h2] at h1; cases h1
def goodB1 (o : COut) : Bool := (goodB0 o || goodP o || deadB o.pc || goodD o || goodC o) || goodY o || goodZ o
theorem goodB0_ok {ρ : Env} {o : COut} (h : goodB0 o = true) (hp : PcH ρ o.pc) : goodOut ρ o := by
  unfold goodB0 at h
  rw [Bool.or_eq_true] at h
  rcases h with h | h
  · split at h
    · rename_i b hb
      refine ⟨b, hb, ?_⟩
      split at h
      · rename_i hs
        rw [← simpB_ev hp b, hs]; rfl
      · cases h
    · cases h
  · exact (deadPc_ok h hp).elim
theorem goodB1_ok {ρ : Env} {o : COut} (h : goodB1 o = true) (hp : PcH ρ o.pc) : goodOut ρ o := by
  unfold goodB1 at h
  rw [Bool.or_eq_true, Bool.or_eq_true] at h
  rcases h with (h | h) | h
  rotate_left
  rotate_left
  · exact (goodZ_ok h hp).elim
  rotate_left
  · unfold goodY at h
    split at h
    · rename_i b hb
      exact ⟨b, hb, provedY_ok h hp⟩
    · cases h
  rw [Bool.or_eq_true, Bool.or_eq_true, Bool.or_eq_true, Bool.or_eq_true] at h
  rcases h with (((h | h) | h) | h) | h
  · exact goodB0_ok h hp
  · unfold goodP at h
    split at h
    · rename_i b hb
      exact ⟨b, hb, partB_ok h (conj_ev hp) hp⟩
    · cases h
  · exact (deadB_ok h hp).elim
  · unfold goodD at h
    split at h
    · rename_i b hb
      refine ⟨b, hb, ?_⟩
      have h1 := provedB_ok h fun x hx => hp x (List.mem_filter.1 hx).1
      have h2 : (conj (o.pc.filter fun x => bigB x.1)).ev ρ = true := conj_ev fun x hx => hp x (List.mem_filter.1 hx).1
      simp only [allB, mkNot_ev, mkAnd_ev, h2] at h1
      simpa using h1
    · cases h
  · unfold goodC at h
    rw [Bool.or_eq_true] at h
    rcases h with h | h
    · split at h
      · rename_i b hb
        refine ⟨b, hb, ?_⟩
        rw [← simpB_ev hp b]
        split at h
        · cases h
        · exact provedB_ok h hp
      · cases h
    · obtain ⟨x, hx, hb⟩ := List.any_eq_true.1 h
      rw [Bool.and_eq_true] at hb
      have h1 := provedB_ok (ρ := ρ) hb.2 fun y hy => hp y (List.mem_filter.1 hy).1
      have h2 := hp x hx
      cases hv : x.2
      · rw [hv] at h1 h2; rw [cond_false, h2] at h1; cases h1
      · rw [hv] at h1 h2; rw [cond_true, mkNot_ev, h2] at h1; cases h1
/-- what is joined by 'and', each by the values of its byte -/
def conjY (pc : PC) : B → Bool
  | .and x y => conjY pc x && conjY pc y
  | .lit v => v
  | b => byteGood pc b
theorem conjY_ok {ρ : Env} {pc : PC} (hp : PcH ρ pc) : ∀ {b : B}, conjY pc b = true → b.ev ρ = true
  | .and x y, h => by
    simp only [conjY, Bool.and_eq_true] at h
    simp only [B.ev, conjY_ok hp h.1, conjY_ok hp h.2, Bool.and_true]
  | .lit v, h => h
  | .var _, h => byteGood_ok h hp
  | .cell _ _ _, h => byteGood_ok h hp
  | .eqI _ _, h => byteGood_ok h hp
  | .ltI _ _, h => byteGood_ok h hp
  | .eqB _ _, h => byteGood_ok h hp
  | .not _, h => byteGood_ok h hp
  | .ite _ _ _, h => byteGood_ok h hp
  | .all _ _ _, h => byteGood_ok h hp
def goodW (o : COut) : Bool := match o.ex with
  | .ret (.bool b) => (match b with | .and _ _ => conjY o.pc b | _ => false)
  | _ => false
def goodB (o : COut) : Bool := goodW o || goodB1 o
theorem goodB_ok {ρ : Env} {o : COut} (h : goodB o = true) (hp : PcH ρ o.pc) : goodOut ρ o := by
  unfold goodB at h
  rw [Bool.or_eq_true] at h
  rcases h with h | h
  · unfold goodW at h
    split at h
    · rename_i b hb
      split at h
      · exact ⟨_, hb, conjY_ok hp h⟩
      · cases h
    · cases h
  · exact goodB1_ok h hp
def lawGood (C : Cfg) (fuel id : Nat) (is : List (Bool × Nat)) (ks : List FK) (p : List Bool) : Bool := match lawX C fuel id is ks p with
  | some outs => outs.all goodB
  | none => false
def lawAll (C : Cfg) (fuel id : Nat) (ts : List TypeId) : Bool := match paramsS C.P ts with
  | some (is, ks) => Nat.ble ks.length R0 && (patsOf ks).all (lawGood C fuel id is ks)
  | none => false
theorem law_all {H : Type} {enc : TypeId × Value → H} {C : Cfg} (hC : C.Types) (hH : ∀ ρ, HookOk C ρ) {fuel id : Nat} {ts : List TypeId} (h : lawAll C fuel id ts = true)
    {W : World} {base : Nat} {args : Array Value} {ds : List (DataW H)} {ps : List MemPlace} {b0 : Nat} {sp : Nat → Bool} {held : Bool} {r : Reach}
    (hok : ∀ (j : Nat) t v, ts[j]? = some t → args[j]? = some v → Value.okWide C.P W r base t v) (ht : DataW.TrodAll enc C.P W b0 sp held ts args.toList ds ps) :
    Calls C.P id args W fun e W' => e = .returned (.bool true) ∧ RowKit.Below W.heap.size W W' := by
  unfold lawAll at h
  split at h
  · rename_i is ks hps
    rw [Bool.and_eq_true] at h
    have := law_calls hC hH (fuel := fuel) (id := id) hps (Nat.le_of_ble_eq_true h.1) (fun p hp => by
      have := List.all_eq_true.1 h.2 p hp
      unfold lawGood at this
      split at this
      · rename_i outs ho
        exact ⟨outs, ho, fun ρ o hoo hpc => goodB_ok (List.all_eq_true.1 this o hoo) hpc⟩
      · cases this) (vs := args.toList) (fun j t v h1 h2 => hok j t v h1 (by simpa using h2)) ht
    simpa using this
  · cases h
/-- the tables of a program -/
def mkCfg (P : Program) (hook : Nat → List SV → Mem → PC → List Nat → Option (List COut)) (mrg jn jc lp : Nat → Bool) : Cfg :=
  { P := P, ti := getO (tiTr P), fn := getO (fnTr P), eqk := eqAt P, byt := bytAt P, hook := hook, mrg := mrg, jn := jn, jc := jc, lp := lp }
theorem mkCfg_types (P : Program) (hook : Nat → List SV → Mem → PC → List Nat → Option (List COut)) (mrg jn jc lp : Nat → Bool) (h : P.follows .mixedOrders = true) : (mkCfg P hook mrg jn jc lp).Types :=
  ⟨fun _ _ h => tiTr_ok h, fun _ _ h => fnTr_ok h, fun _ _ h => eqAt_ok h, fun _ _ h => bytAt_ok h, h, fun _ h => by cases h⟩
/-- with the library's search of bytes -/
theorem Cfg.Types.withExt {C : Cfg} (h : C.Types) {l : List Nat} (hl : ∀ f ∈ l, ExtIdx C.P f) : ({ C with ext := fun i => memB i l } : Cfg).Types :=
  ⟨h.ti, h.fn, h.eqk, h.byt, h.mixed, fun f hf => hl f (memB_of hf)⟩
def noHook : Nat → List SV → Mem → PC → List Nat → Option (List COut) := fun _ _ _ _ _ => none
theorem noHook_ok (P : Program) (mrg jn jc lp : Nat → Bool) (ρ : Env) : HookOk (mkCfg P noHook mrg jn jc lp) ρ := fun _ _ _ _ _ _ h => by cases h
theorem trodAll_len {H : Type} {enc : TypeId × Value → H} {P : Program} {w : World} {b0 : Nat} {sp : Nat → Bool} {held : Bool} : ∀ {ts : List TypeId} {vs : List Value} {ds : List (DataW H)} {ps : List MemPlace},
    DataW.TrodAll enc P w b0 sp held ts vs ds ps → ds.length = ts.length
  | [], [], [], _, _ => rfl
  | _ :: _, _ :: _, _ :: _, _, h => by
    obtain ⟨_, _, _, h, _⟩ := h
    simp [trodAll_len h]
  | [], [], _ :: _, _, h => h.elim
  | [], _ :: _, _, _, h => h.elim
  | _ :: _, [], _, _, h => by simp [DataW.TrodAll] at h
  | _ :: _, _ :: _, [], _, h => h.elim
/-- a type's zero -/
def zeroV (P : Program) (t : TypeId) : Value := match P.info? t with
  | some i => (match i.zero with | some z => z | none => undef)
  | none => undef
end Go.SX

namespace Go.SX
open Go

def InH (ρ : Env) (S : List SV) : Prop := ∀ k t, SV.int k t ∈ S → inK k (t.ev ρ) = true
theorem InH_of_rel {ρ : Env} {β : Bet} : ∀ {S : List SV} {L : List Value}, relL ρ β S L → InH ρ S
  | [], _, _, k, t, h => by cases h
  | s :: S, _, h, k, t, hm => by
    obtain ⟨v, vs, rfl, h1, h2⟩ := h
    rw [List.mem_cons] at hm
    rcases hm with rfl | hm
    · exact h1.2
    · exact InH_of_rel h2 k t hm
theorem law_callsI {H : Type} {enc : TypeId × Value → H} {C : Cfg} (hC : C.Types) (hH : ∀ ρ, HookOk C ρ) {fuel id : Nat} {ts : List TypeId} {is : List (Bool × Nat)} {ks : List FK} (hps : paramsS C.P ts = some (is, ks)) (hks : ks.length ≤ R0)
    (hx : ∀ p ∈ patsOf ks, ∃ outs, lawX C fuel id is ks p = some outs ∧ ∀ ρ, InH ρ (symL R0 ks p 0 0) → ∀ o ∈ outs, PcH ρ o.pc → goodOut ρ o)
    {W : World} {base : Nat} {vs : List Value} {ds : List (DataW H)} {ps : List MemPlace} {b0 : Nat} {sp : Nat → Bool} {held : Bool} {r : Reach}
    (hok : ∀ (j : Nat) t v, ts[j]? = some t → vs[j]? = some v → Value.okWide C.P W r base t v) (ht : DataW.TrodAll enc C.P W b0 sp held ts vs ds ps) :
    Calls C.P id vs.toArray W fun e W' => e = .returned (.bool true) ∧ RowKit.Below W.heap.size W W' := by
  obtain ⟨L, hg, hargs⟩ := open_args hps ht hok
  have hbl := blks_le hg
  have hrel := symL_rel (R := R0) (bl := blksOf ks L) (L := L) hg [] [] [] rfl (by simp)
  have hm0 : MemRel (envOf W R0 (blksOf ks L) L) [] ⟨.nil, 0⟩ W := ⟨rfl, fun id o h => by simp [Tr.get] at h, fun e he => (by simp at he), fun i j e e' he => (by simp at he), fun id _ => by simp [Tr.get]⟩
  obtain ⟨hm, hro⟩ := symM_rel (R := R0) (bl := blksOf ks L) (L := L) (by omega) hg [] _ (by simp) (by simp) hm0
  obtain ⟨outs, ho, hgood⟩ := hx _ (patOf_mem hg)
  have hin := InH_of_rel hrel
  unfold lawX at ho
  have hnx : (symM ks (patOf ks L) ⟨.nil, 0⟩).nx = (blksOf ks L).length := by rw [symM_nx ks W L hg]; simp
  have hpc : PcH (envOf W R0 (blksOf ks L) L) (startPc (symM ks (patOf ks L) ⟨.nil, 0⟩).nx) := startPc_ok _ fun i hi => by
    rw [hnx] at hi
    simp only [envOf, List.getElem?_eq_getElem hi]
    have := cnt_ok hg _ (List.getElem_mem hi)
    omega
  refine (callX_ok hC hH ho hpc (hargs _ _ _ hrel) hm (fun o hoo k hk hp => ?_)).mono fun e W' ⟨o, hoo, hp, β', hs, hm', he⟩ => ?_
  · obtain ⟨b, hb, _⟩ := hgood _ hin o hoo hp
    rw [hb] at hk; cases hk
  · obtain ⟨b, hb, hv⟩ := hgood _ hin o hoo hp
    rw [hb] at he
    cases e <;> simp only [EndR] at he
    refine ⟨?_, hs.below hro⟩
    rw [show _ = Value.bool _ from he, hv]

/-! what is left -/
def factIn (ρ : Env) : List SV → Prop → Prop
  | [], G => G
  | .int k t :: r, G => kLo k ≤ t.ev ρ → t.ev ρ ≤ kHi k → factIn ρ r G
  | _ :: r, G => factIn ρ r G
theorem factIn_ok {ρ : Env} {G : Prop} : ∀ {S : List SV}, InH ρ S → factIn ρ S G → G
  | [], _, h => h
  | s :: S, hi, h => by
    have hi' : InH ρ S := fun k t hm => hi k t (.tail _ hm)
    cases s <;> first
      | (have := (inK_iff _ _).1 (hi _ _ (.head _))
         exact factIn_ok hi' (h this.1 this.2))
      | exact factIn_ok hi' h
/-- a truth, as a statement -/
def B.pv (ρ : Env) : B → Prop
  | .lit b => b = true
  | .var n => ρ.bv n = true
  | .cell r i f => ρ.bc r (T.ev ρ i) f = true
  | .eqI a b => T.ev ρ a = T.ev ρ b
  | .ltI a b => T.ev ρ a < T.ev ρ b
  | .eqB a b => (B.pv ρ a ↔ B.pv ρ b)
  | .not a => ¬ B.pv ρ a
  | .and a b => B.pv ρ a ∧ B.pv ρ b
  | .ite c a b => (B.pv ρ c → B.pv ρ a) ∧ (¬ B.pv ρ c → B.pv ρ b)
  | .all k l b => B.ev ρ (.all k l b) = true
theorem B.pv_iff (ρ : Env) : ∀ b : B, B.ev ρ b = true ↔ B.pv ρ b
  | .lit b => Iff.rfl
  | .var n => Iff.rfl
  | .cell r i f => Iff.rfl
  | .eqI a b => by simp only [B.ev, B.pv, beq_iff_eq]
  | .ltI a b => by simp only [B.ev, B.pv, decide_eq_true_eq]
  | .eqB a b => by
    have h1 := B.pv_iff ρ a
    have h2 := B.pv_iff ρ b
    simp only [B.ev, B.pv, beq_iff_eq, ← h1, ← h2]
    exact Bool.eq_iff_iff
  | .not a => by
    have h1 := B.pv_iff ρ a
    simp only [B.ev, B.pv, ← h1, Bool.not_eq_true', Bool.not_eq_true]
  | .and a b => by
    have h1 := B.pv_iff ρ a
    have h2 := B.pv_iff ρ b
    simp only [B.ev, B.pv, ← h1, ← h2, Bool.and_eq_true]
  | .ite c a b => by
    have h0 := B.pv_iff ρ c
    have h1 := B.pv_iff ρ a
    have h2 := B.pv_iff ρ b
    simp only [B.ev, B.pv, ← h0, ← h1, ← h2]
    cases B.ev ρ c <;> simp
  | .all k l b => Iff.rfl
def factPc (ρ : Env) : PC → Prop → Prop
  | [], G => G
  | (b, true) :: r, G => B.pv ρ b → factPc ρ r G
  | (b, false) :: r, G => ¬ B.pv ρ b → factPc ρ r G
theorem factPc_ok {ρ : Env} {G : Prop} : ∀ {pc : PC}, PcH ρ pc → factPc ρ pc G → G
  | [], _, h => h
  | (b, true) :: _, hp, h => factPc_ok hp.tail (h ((B.pv_iff ρ b).1 hp.head))
  | (b, false) :: _, hp, h => factPc_ok hp.tail (h fun hc => by
    have h1 := hp.head
    rw [(B.pv_iff ρ b).2 hc] at h1
    cases h1)
def leftL : List COut → Option (List (PC × B))
  | [] => some []
  | o :: os => (match leftL os with
    | none => none
    | some l => bif goodB o then some l else (match o.ex with
      | .ret (.bool b) => some ((o.pc, simpB o.pc b) :: l)
      | _ => none))
def LeftH (ρ : Env) (S : List SV) : List (PC × B) → Prop
  | [] => True
  | (pc, b) :: r => factIn ρ S (factPc ρ pc (B.pv ρ b)) ∧ LeftH ρ S r
theorem leftL_ok {ρ : Env} {S : List SV} (hS : InH ρ S) : ∀ {os : List COut} {l : List (PC × B)}, leftL os = some l → LeftH ρ S l → ∀ o ∈ os, PcH ρ o.pc → goodOut ρ o
  | [], _, _, _, o, ho, _ => by cases ho
  | x :: os, l, h, hl, o, ho, hp => by
    simp only [leftL] at h
    split at h
    · cases h
    · rename_i l' hl'
      cases hg : goodB x
      · rw [hg] at h
        simp only [cond_false] at h
        split at h
        · rename_i b hb
          cases h
          rw [List.mem_cons] at ho
          rcases ho with rfl | ho
          · refine ⟨b, hb, ?_⟩
            rw [← simpB_ev hp b]
            exact (B.pv_iff ρ _).2 (factPc_ok hp (factIn_ok hS hl.1))
          · exact leftL_ok hS hl' hl.2 o ho hp
        · cases h
      · rw [hg] at h
        cases h
        rw [List.mem_cons] at ho
        rcases ho with rfl | ho
        · exact goodB_ok hg hp
        · exact leftL_ok hS hl' hl o ho hp
def lftBeq (a b : PC × B) : Bool := leq pcItem a.1 b.1 && B.beq a.2 b.2
theorem lftBeq_eq (a b : PC × B) (h : lftBeq a b = true) : a = b := by
  obtain ⟨a1, a2⟩ := a
  obtain ⟨b1, b2⟩ := b
  simp only [lftBeq, Bool.and_eq_true] at h
  rw [leq_eq pcItem_eq h.1, B.beq_eq h.2]
def leftOne (C : Cfg) (fuel id : Nat) (is : List (Bool × Nat)) (ks : List FK) (p : List Bool) (S : List SV) (l : List (PC × B)) : Bool := match lawX C fuel id is ks p with
  | some outs => (match leftL outs with | some l' => leq lftBeq l' l && leq SV.beq S (symL R0 ks p 0 0) | none => false)
  | none => false
def leftAll (C : Cfg) (fuel id : Nat) (is : List (Bool × Nat)) (ks : List FK) : List (List Bool) → List (List SV × List (PC × B)) → Bool
  | [], _ => true
  | p :: ps, (S, l) :: r => leftOne C fuel id is ks p S l && leftAll C fuel id is ks ps r
  | _, _ => false
def lawLeft (C : Cfg) (fuel id : Nat) (ts : List TypeId) (r : List (List SV × List (PC × B))) : Bool := match paramsS C.P ts with
  | some (is, ks) => Nat.ble ks.length R0 && leftAll C fuel id is ks (patsOf ks) r
  | none => false
def LeftsH (ρ : Env) : List (List SV × List (PC × B)) → Prop
  | [] => True
  | (S, l) :: r => LeftH ρ S l ∧ LeftsH ρ r
theorem leftAll_ok {C : Cfg} {fuel id : Nat} {is : List (Bool × Nat)} {ks : List FK} : ∀ {ps : List (List Bool)} {r : List (List SV × List (PC × B))}, leftAll C fuel id is ks ps r = true → (∀ ρ, LeftsH ρ r) →
    ∀ p ∈ ps, ∃ outs, lawX C fuel id is ks p = some outs ∧ ∀ ρ, InH ρ (symL R0 ks p 0 0) → ∀ o ∈ outs, PcH ρ o.pc → goodOut ρ o
  | [], _, _, _, p, hp => by cases hp
  | q :: ps, [], h, _, p, hp => by simp [leftAll] at h
  | q :: ps, (S, l) :: r, h, hr, p, hp => by
    simp only [leftAll, Bool.and_eq_true] at h
    rw [List.mem_cons] at hp
    rcases hp with rfl | hp
    · have h1 := h.1
      unfold leftOne at h1
      split at h1
      · rename_i outs ho
        split at h1
        · rename_i l' hl'
          rw [Bool.and_eq_true] at h1
          have e1 := leq_eq lftBeq_eq h1.1
          have e2 := leq_eq (fun _ _ => SV.beq_eq) h1.2
          subst e1; subst e2
          exact ⟨outs, ho, fun ρ hi => leftL_ok hi hl' (hr ρ).1⟩
        · cases h1
      · cases h1
    · exact leftAll_ok h.2 (fun ρ => (hr ρ).2) p hp
theorem law_left {H : Type} {enc : TypeId × Value → H} {C : Cfg} (hC : C.Types) (hH : ∀ ρ, HookOk C ρ) {fuel id : Nat} {ts : List TypeId} {l : List (List SV × List (PC × B))} (h : lawLeft C fuel id ts l = true) (hl : ∀ ρ, LeftsH ρ l)
    {W : World} {base : Nat} {args : Array Value} {ds : List (DataW H)} {ps : List MemPlace} {b0 : Nat} {sp : Nat → Bool} {held : Bool} {r : Reach}
    (hok : ∀ (j : Nat) t v, ts[j]? = some t → args[j]? = some v → Value.okWide C.P W r base t v) (ht : DataW.TrodAll enc C.P W b0 sp held ts args.toList ds ps) :
    Calls C.P id args W fun e W' => e = .returned (.bool true) ∧ RowKit.Below W.heap.size W W' := by
  unfold lawLeft at h
  split at h
  · rename_i is ks hps
    rw [Bool.and_eq_true] at h
    have := law_callsI hC hH (fuel := fuel) (id := id) hps (Nat.le_of_ble_eq_true h.1) (leftAll_ok h.2 hl) (vs := args.toList) (fun j t v h1 h2 => hok j t v h1 (by simpa using h2)) ht
    simpa using this
  · cases h
/-- the same, the program told apart -/
theorem law_left_of {H : Type} {enc : TypeId × Value → H} {C : Cfg} {P : Program} (hP : C.P = P) (hC : C.Types) (hH : ∀ ρ, HookOk C ρ) {fuel id : Nat} {ts : List TypeId} {l : List (List SV × List (PC × B))} (h : lawLeft C fuel id ts l = true) (hl : ∀ ρ, LeftsH ρ l)
    {W : World} {base : Nat} {args : Array Value} {ds : List (DataW H)} {ps : List MemPlace} {b0 : Nat} {sp : Nat → Bool} {held : Bool} {r : Reach} {us : List TypeId} (hu : us = ts)
    (hok : ∀ (j : Nat) t v, us[j]? = some t → args[j]? = some v → Value.okWide P W r base t v) (ht : DataW.TrodAll enc P W b0 sp held us args.toList ds ps) :
    Calls P id args W fun e W' => e = .returned (.bool true) ∧ RowKit.Below W.heap.size W W' := by
  subst hP; subst hu; exact law_left hC hH h hl hok ht
theorem law_all_of {H : Type} {enc : TypeId × Value → H} {C : Cfg} {P : Program} (hP : C.P = P) (hC : C.Types) (hH : ∀ ρ, HookOk C ρ) {fuel id : Nat} {ts : List TypeId} (h : lawAll C fuel id ts = true)
    {W : World} {base : Nat} {args : Array Value} {ds : List (DataW H)} {ps : List MemPlace} {b0 : Nat} {sp : Nat → Bool} {held : Bool} {r : Reach} {us : List TypeId} (hu : us = ts)
    (hok : ∀ (j : Nat) t v, us[j]? = some t → args[j]? = some v → Value.okWide P W r base t v) (ht : DataW.TrodAll enc P W b0 sp held us args.toList ds ps) :
    Calls P id args W fun e W' => e = .returned (.bool true) ∧ RowKit.Below W.heap.size W W' := by
  subst hP; subst hu; exact law_all hC hH h hok ht
/-! the wraps, for omega -/
def wrapF (k : IntKind) (n : Int) : Int := match k with
  | .i8 => (n + 128) % 256 - 128
  | .i16 => (n + 32768) % 65536 - 32768
  | .i32 => (n + 2147483648) % 4294967296 - 2147483648
  | .i64 => (n + 9223372036854775808) % 18446744073709551616 - 9223372036854775808
  | .u8 => n % 256
  | .u16 => n % 65536
  | .u32 => n % 4294967296
  | .u64 => n % 18446744073709551616
theorem wrap_form (k : IntKind) (n : Int) : k.wrap n = wrapF k n := by
  rw [wrap_eq]
  cases k <;> simp only [kLo, kHi, wrapF, Int.reduceSub, Int.reduceAdd] <;> omega
end Go.SX

namespace Go.SX
open Go

structure Memo where
  f : Nat
  args : List SV
  mem : Mem
  pc : PC
  outs : List COut
def memOf (nx : Nat) : List (Nat × SObj) → Mem
  | [] => ⟨.nil, nx⟩
  | (i, o) :: r => ⟨(memOf nx r).tr.put i o, nx⟩
def subPc (a b : PC) : Bool := a.all fun x => b.any (pcItem x)
theorem subPc_ok {ρ : Env} {a b : PC} (h : subPc a b = true) (hb : PcH ρ b) : PcH ρ a := fun x hx => by
  obtain ⟨y, hy, he⟩ := List.any_eq_true.1 (List.all_eq_true.1 h x hx)
  rw [pcItem_eq _ _ he]; exact hb y hy
def exBeq : CEnd → CEnd → Bool
  | .ret a, .ret b => SV.beq a b
  | _, _ => false
theorem exBeq_eq {a b : CEnd} (h : exBeq a b = true) : a = b := by
  cases a <;> cases b <;> simp [exBeq] at h
  rw [SV.beq_eq h]
/-- what is told of an end: the same, and no more facts -/
def coutSub (c e : COut) : Bool := exBeq c.ex e.ex && Mem.beq c.mem e.mem && subPc e.pc c.pc
def coutsSub : List COut → List COut → Bool
  | [], [] => true
  | c :: cs, e :: es => coutSub c e && coutsSub cs es
  | _, _ => false
theorem coutsSub_ok : ∀ {cs es : List COut}, coutsSub cs es = true → ∀ c ∈ cs, ∃ e ∈ es, coutSub c e = true
  | [], _, _, c, h => by cases h
  | x :: cs, [], h, _, _ => by simp [coutsSub] at h
  | x :: cs, e :: es, h, c, hc => by
    simp only [coutsSub, Bool.and_eq_true] at h
    rw [List.mem_cons] at hc
    rcases hc with rfl | hc
    · exact ⟨e, .head _, h.1⟩
    · obtain ⟨e', he', hs⟩ := coutsSub_ok h.2 c hc
      exact ⟨e', .tail _ he', hs⟩
/-- a call, some blocks locked -/
def callXL (C : Cfg) (lk : List Nat) (fuel : Nat) (id : Nat) (args : List SV) (mem : Mem) (pc : PC) : Option (List COut) :=
  match C.fn id with
  | some fn => (match fn.body with
    | some body => callB C (exec C fuel) lk fn body args mem pc id
    | none => none)
  | none => none
theorem callXL_ok {C : Cfg} (hC : C.Types) {ρ : Env} (hH : ∀ ρ, HookOk C ρ) {lk : List Nat} {fuel id : Nat} {args : List SV} {mem : Mem} {pc : PC} {outs : List COut} (h : callXL C lk fuel id args mem pc = some outs)
    {β : Bet} {w : World} {vs : List Value} (hp : PcH ρ pc) (hr : relL ρ β args vs) (hm : MemRel ρ β mem w) (hn : NoStuckC ρ outs) : Calls C.P id vs.toArray w (CPost ρ β lk w outs) := by
  unfold callXL at h
  split at h
  · rename_i fn hfn
    obtain ⟨hf1, _⟩ := hC.fn id fn hfn
    split at h
    · rename_i body hbody
      exact callB_ok hC (exec_run hC hH ρ fuel) h hf1 hbody hp hr hm hn
    · cases h
  · cases h
def callJ (C : Cfg) (fuel id : Nat) (args : List SV) (mem : Mem) (pc : PC) : Option (List COut) := match callXL C (List.range mem.nx) fuel id args mem pc with
  | some l => some (joined C id (List.range mem.nx) mem pc l)
  | none => none
def noStuckL (l : List COut) : Bool := l.all fun o => match o.ex with | .ret _ => true | _ => false
def Memo.ok (C : Cfg) (fuel : Nat) (e : Memo) : Bool := match callJ C fuel e.f e.args e.mem e.pc with
  | some l => coutsSub l e.outs && noStuckL l
  | none => false
def Memo.hit (e : Memo) (f : Nat) (args : List SV) (mem : Mem) (pc : PC) : Bool := Nat.beq e.f f && leq SV.beq args e.args && subPc e.pc pc && Mem.beq mem e.mem
def memoFind (f : Nat) (args : List SV) (mem : Mem) (pc : PC) : List Memo → Option (List COut)
  | [] => none
  | e :: r => bif Memo.hit e f args mem pc then some (e.outs.map fun o => ⟨o.pc ++ pc, o.mem, o.ex⟩) else memoFind f args mem pc r
def memoHook (l : List Memo) (f : Nat) (args : List SV) (mem : Mem) (pc : PC) (lk : List Nat) : Option (List COut) :=
  bif l.any (fun e => Nat.beq e.f f) && lk.all (fun i => Nat.blt i mem.nx) then memoFind f args mem pc l else none
theorem Memo.calls {C : Cfg} (hC : C.Types) (hH : ∀ ρ, HookOk C ρ) {fuel : Nat} {e : Memo} (h : Memo.ok C fuel e = true) {ρ : Env} {β : Bet} {w : World} {vs : List Value} {pc : PC} (hs : subPc e.pc pc = true)
    (hp : PcH ρ pc) (hr : relL ρ β e.args vs) (hm : MemRel ρ β e.mem w) : Calls C.P e.f vs.toArray w (CPost ρ β (List.range e.mem.nx) w (e.outs.map fun o => ⟨o.pc ++ pc, o.mem, o.ex⟩)) := by
  unfold Memo.ok callJ at h
  split at h
  · rename_i l hl
    split at hl
    · rename_i l0 hl0
      cases hl
      rw [Bool.and_eq_true] at h
      have hp0 := subPc_ok hs hp
      have hns : NoStuckC ρ (joined C e.f (List.range e.mem.nx) e.mem e.pc l0) := fun o ho k hk _ => by
        have := List.all_eq_true.1 h.2 o ho
        rw [hk] at this; cases this
      refine (callXL_ok hC hH hl0 hp0 hr hm (joined_stuck hns)).mono fun en w' hq => ?_
      obtain ⟨o, ho, hpc, β', hst, hm', he⟩ := joined_post (C := C) (id := e.f) hns hp0 hm hq
      obtain ⟨o', ho', hs'⟩ := coutsSub_ok h.1 o ho
      simp only [coutSub, Bool.and_eq_true] at hs'
      obtain ⟨⟨e1, e2⟩, e3⟩ := hs'
      refine ⟨_, List.mem_map_of_mem ho', ?_, β', hst, ?_, ?_⟩
      · intro x hx
        rcases List.mem_append.1 hx with hx | hx
        · exact subPc_ok e3 hpc x hx
        · exact hp x hx
      · simp only; rw [← Mem.beq_eq e2]; exact hm'
      · simp only; rw [← exBeq_eq e1]; exact he
    · cases hl
  · cases h
theorem memoHook_ok {C0 : Cfg} (hC : C0.Types) (hH : ∀ ρ, HookOk C0 ρ) {fuel : Nat} {l : List Memo} (h : ∀ e ∈ l, Memo.ok C0 fuel e = true) {C : Cfg} (hP : C.P = C0.P) (hk : C.hook = memoHook l) : ∀ ρ, HookOk C ρ := by
  intro ρ f args mem pc lk outs ho β w vs hp hr hm _
  rw [hk] at ho
  rw [hP]
  unfold memoHook at ho
  obtain ⟨hb, ho⟩ := bif_some ho
  rw [Bool.and_eq_true] at hb
  · have key : ∀ (l : List Memo), (∀ e ∈ l, Memo.ok C0 fuel e = true) → memoFind f args mem pc l = some outs → Calls C0.P f vs.toArray w (CPost ρ β lk w outs) := by
      intro l
      induction l with
      | nil => intro _ h; cases h
      | cons e r ih =>
        intro hl hf
        simp only [memoFind] at hf
        cases hh : Memo.hit e f args mem pc
        · rw [hh] at hf
          exact ih (fun x hx => hl x (.tail _ hx)) hf
        · rw [hh] at hf
          simp only [cond_true, Option.some.injEq] at hf
          subst hf
          simp only [Memo.hit, Bool.and_eq_true] at hh
          obtain ⟨⟨⟨h1, h2⟩, h3⟩, h4⟩ := hh
          have h1 := Nat.eq_of_beq_eq_true h1
          have h2 := leq_eq (fun _ _ => SV.beq_eq) h2
          have h4 := Mem.beq_eq h4
          subst h1; subst h2; subst h4
          refine (Memo.calls hC hH (hl e (.head _)) h3 hp hr hm).mono fun en w' ⟨o, ho, hpc, β', hst, r⟩ => ⟨o, ho, hpc, β', hst.unlock fun i hi => ?_, r⟩
          have := List.all_eq_true.1 hb.2 i hi
          rw [List.mem_range]
          exact Nat.le_of_ble_eq_true this
    exact key l h ho

/-! a law in parts -/
inductive Sp where
  | leaf
  | node (b : B) (y n : Sp)
def Sp.paths : Sp → PC → List PC
  | .leaf, acc => [acc]
  | .node b y n, acc => y.paths ((b, true) :: acc) ++ n.paths ((b, false) :: acc)
theorem Sp.cover {ρ : Env} : ∀ (t : Sp) (acc : PC), PcH ρ acc → ∃ e ∈ t.paths acc, PcH ρ e
  | .leaf, acc, h => ⟨acc, .head _, h⟩
  | .node b y n, acc, h => by
    cases hb : b.ev ρ
    · obtain ⟨e, he, hp⟩ := Sp.cover n _ (PcH.cons hb h)
      exact ⟨e, List.mem_append_right _ he, hp⟩
    · obtain ⟨e, he, hp⟩ := Sp.cover y _ (PcH.cons hb h)
      exact ⟨e, List.mem_append_left _ he, hp⟩
def addAll : PC → PC → PC
  | [], pc => pc
  | (b, v) :: r, pc => addPc b v (addAll r pc)
theorem addAll_ok {ρ : Env} : ∀ {fs pc : PC}, PcH ρ fs → PcH ρ pc → PcH ρ (addAll fs pc)
  | [], _, _, h => h
  | (b, v) :: _, _, hf, h => addPc_ok b v hf.head (addAll_ok hf.tail h)
/-- a law's run at one form of its arguments, some facts known -/
def lawXF (C : Cfg) (fuel id : Nat) (is : List (Bool × Nat)) (ks : List FK) (p : List Bool) (fs : PC) : Option (List COut) :=
  let m := symM ks p ⟨.nil, 0⟩
  callX C fuel id (argsS is (symL R0 ks p 0 0)) m (addAll fs (startPc m.nx))
def leafGood (C : Cfg) (fuel id : Nat) (ts : List TypeId) (x : List Bool × PC) : Bool := match paramsS C.P ts with
  | some (is, ks) => (match lawXF C fuel id is ks x.1 x.2 with
    | some outs => outs.all goodB
    | none => false)
  | none => false
def allLeaves : List (List Bool × Sp) → List (List Bool × PC)
  | [] => []
  | (p, t) :: r => (t.paths []).map (fun e => (p, e)) ++ allLeaves r
theorem mem_allLeaves : ∀ {l : List (List Bool × Sp)} {p : List Bool} {t : Sp} {e : PC}, (p, t) ∈ l → e ∈ t.paths [] → (p, e) ∈ allLeaves l
  | _ :: _, p, t, e, h, he => by
    simp only [allLeaves]
    rw [List.mem_cons] at h
    rcases h with h | h
    · cases h
      exact List.mem_append_left _ (List.mem_map_of_mem he)
    · exact List.mem_append_right _ (mem_allLeaves h he)
def patBeq : List (List Bool) → List (List Bool × Sp) → Bool
  | [], _ => true
  | p :: ps, l => l.any (fun x => leq (fun a b => a == b) p x.1) && patBeq ps l
theorem patBeq_ok : ∀ {ps : List (List Bool)} {l : List (List Bool × Sp)}, patBeq ps l = true → ∀ p ∈ ps, ∃ t, (p, t) ∈ l
  | [], _, _, p, h => by cases h
  | q :: ps, l, h, p, hp => by
    simp only [patBeq, Bool.and_eq_true] at h
    rw [List.mem_cons] at hp
    rcases hp with rfl | hp
    · obtain ⟨x, hx, he⟩ := List.any_eq_true.1 h.1
      obtain ⟨x1, x2⟩ := x
      have := leq_eq (f := fun (a b : Bool) => a == b) (fun a b h => by simpa using h) he
      simp only at this
      subst this
      exact ⟨x2, hx⟩
    · exact patBeq_ok h.2 p hp
def splitOk (P : Program) (ts : List TypeId) (l : List (List Bool × Sp)) : Bool := match paramsS P ts with
  | some (_, ks) => Nat.ble ks.length R0 && patBeq (patsOf ks) l
  | none => false
/-- one leaf: shown with some tables and memos -/
def LeafOk (P : Program) (id : Nat) (ts : List TypeId) (x : List Bool × PC) : Prop := ∃ (C : Cfg) (fuel : Nat), C.P = P ∧ C.Types ∧ (∀ ρ, HookOk C ρ) ∧ leafGood C fuel id ts x = true
theorem law_split_any {H : Type} {enc : TypeId × Value → H} {P : Program} {id : Nat} {ts : List TypeId} {l : List (List Bool × Sp)}
    (hl : splitOk P ts l = true) (h : ∀ x ∈ allLeaves l, LeafOk P id ts x)
    {W : World} {base : Nat} {args : Array Value} {ds : List (DataW H)} {ps : List MemPlace} {b0 : Nat} {sp : Nat → Bool} {held : Bool} {r : Reach} {us : List TypeId} (hu : us = ts)
    (hok : ∀ (j : Nat) t v, us[j]? = some t → args[j]? = some v → Value.okWide P W r base t v) (ht : DataW.TrodAll enc P W b0 sp held us args.toList ds ps) :
    Calls P id args W fun e W' => e = .returned (.bool true) ∧ RowKit.Below W.heap.size W W' := by
  subst hu
  unfold splitOk at hl
  split at hl
  · rename_i is ks hps
    rw [Bool.and_eq_true] at hl
    have hks := Nat.le_of_ble_eq_true hl.1
    obtain ⟨L, hg, hargs⟩ := open_args hps ht (vs := args.toList) (fun j t v h1 h2 => hok j t v h1 (by simpa using h2))
    have hbl := blks_le hg
    have hrel := symL_rel (R := R0) (bl := blksOf ks L) (L := L) hg [] [] [] rfl (by simp)
    have hm0 : MemRel (envOf W R0 (blksOf ks L) L) [] ⟨.nil, 0⟩ W := ⟨rfl, fun id o h => by simp [Tr.get] at h, fun e he => (by simp at he), fun i j e e' he => (by simp at he), fun id _ => by simp [Tr.get]⟩
    obtain ⟨hm, hro⟩ := symM_rel (R := R0) (bl := blksOf ks L) (L := L) (by omega) hg [] _ (by simp) (by simp) hm0
    have hnx : (symM ks (patOf ks L) ⟨.nil, 0⟩).nx = (blksOf ks L).length := by rw [symM_nx ks W L hg]; simp
    have hpc : PcH (envOf W R0 (blksOf ks L) L) (startPc (symM ks (patOf ks L) ⟨.nil, 0⟩).nx) := startPc_ok _ fun i hi => by
      rw [hnx] at hi
      simp only [envOf, List.getElem?_eq_getElem hi]
      have := cnt_ok hg _ (List.getElem_mem hi)
      omega
    obtain ⟨t, htl⟩ := patBeq_ok hl.2 _ (patOf_mem hg)
    obtain ⟨fs, hfs, hpf⟩ := Sp.cover (ρ := envOf W R0 (blksOf ks L) L) t [] (PcH.nil _)
    obtain ⟨C, fuel, hP, hC, hH, hleaf⟩ := h _ (mem_allLeaves htl hfs)
    subst hP
    unfold leafGood at hleaf
    simp only [hps] at hleaf
    split at hleaf
    · rename_i outs ho
      unfold lawXF at ho
      have hgood : ∀ o ∈ outs, PcH (envOf W R0 (blksOf ks L) L) o.pc → goodOut (envOf W R0 (blksOf ks L) L) o := fun o hoo hp => goodB_ok (List.all_eq_true.1 hleaf o hoo) hp
      have := (callX_ok hC hH ho (addAll_ok hpf hpc) (hargs _ _ _ hrel) hm (fun o hoo k hk hp => by
        obtain ⟨b, hb, _⟩ := hgood o hoo hp
        rw [hb] at hk; cases hk)).mono (R' := fun e W' => e = .returned (.bool true) ∧ RowKit.Below W.heap.size W W') fun e W' ⟨o, hoo, hp, β', hs, hm', he⟩ => by
          obtain ⟨b, hb, hv⟩ := hgood o hoo hp
          rw [hb] at he
          cases e <;> simp only [EndR] at he
          refine ⟨?_, hs.below hro⟩
          rw [show _ = Value.bool _ from he, hv]
      simpa using this
    · cases hleaf
  · cases hl
theorem law_split_of {H : Type} {enc : TypeId × Value → H} {C : Cfg} {P : Program} (hP : C.P = P) (hC : C.Types) (hH : ∀ ρ, HookOk C ρ) {fuel id : Nat} {ts : List TypeId} {l : List (List Bool × Sp)}
    (hl : splitOk P ts l = true) (h : ∀ x ∈ allLeaves l, leafGood C fuel id ts x = true)
    {W : World} {base : Nat} {args : Array Value} {ds : List (DataW H)} {ps : List MemPlace} {b0 : Nat} {sp : Nat → Bool} {held : Bool} {r : Reach} {us : List TypeId} (hu : us = ts)
    (hok : ∀ (j : Nat) t v, us[j]? = some t → args[j]? = some v → Value.okWide P W r base t v) (ht : DataW.TrodAll enc P W b0 sp held us args.toList ds ps) :
    Calls P id args W fun e W' => e = .returned (.bool true) ∧ RowKit.Below W.heap.size W W' :=
  law_split_any hl (fun x hx => ⟨C, fuel, hP, hC, hH, h x hx⟩) hu hok ht
end Go.SX

namespace Go.SX
open Go

def globsM : List (Nat × List (IntKind × Int)) → Mem → Mem
  | [], m => m
  | (g, cs) :: r, m => globsM r (m.push (.glob g cs))
/-- the tables lie where they were laid -/
def GlOk (gl : List (Nat × List (IntKind × Int))) (W : World) : Prop := ∀ x ∈ gl, (∀ p ∈ x.2, inK p.1 p.2 = true) ∧ ∃ arr el fr, W.heap[x.1]? = some (.cells arr el fr) ∧ arr.toList = x.2.map fun p => Value.int p.1 p.2
theorem globsM_rel {ρ : Env} {w : World} : ∀ {gl : List (Nat × List (IntKind × Int))} {β : Bet} {m : Mem}, MemRel ρ β m w → (∀ e ∈ β, e.ro = true) → GlOk gl w → ∃ γ, MemRel ρ (β ++ γ) (globsM gl m) w ∧ ∀ e ∈ β ++ γ, e.ro = true
  | [], β, m, hm, hro, _ => ⟨[], by simpa [globsM] using hm, by simpa using hro⟩
  | (g, cs) :: r, β, m, hm, hro, hg => by
    obtain ⟨h1, arr, el, fr, h2, h3⟩ := hg _ (.head _)
    have hm' := hm.pushRo hro (o := .glob g cs) (e := ⟨g, 0, 0, 0, true⟩) rfl (by simpa using (Array.getElem?_eq_some_iff.1 h2).1) ⟨rfl, rfl, rfl, rfl, h1, arr, el, fr, h2, h3⟩
    obtain ⟨γ, i1, i2⟩ := globsM_rel hm' (fun e he => by
      rcases List.mem_append.1 he with h | h
      · exact hro e h
      · simp at h; rw [h]) (fun x hx => hg x (.tail _ hx))
    exact ⟨⟨g, 0, 0, 0, true⟩ :: γ, by simpa [globsM] using i1, by simpa using i2⟩
def lawXG (C : Cfg) (gl : List (Nat × List (IntKind × Int))) (fuel id : Nat) (is : List (Bool × Nat)) (ks : List FK) (p : List Bool) (fs : PC) : Option (List COut) :=
  let m := symM ks p ⟨.nil, 0⟩
  callX C fuel id (argsS is (symL R0 ks p 0 0)) (globsM gl m) (addAll fs (startPc m.nx))
def leafGoodG (C : Cfg) (gl : List (Nat × List (IntKind × Int))) (fuel id : Nat) (ts : List TypeId) (x : List Bool × PC) : Bool := match paramsS C.P ts with
  | some (is, ks) => (match lawXG C gl fuel id is ks x.1 x.2 with
    | some outs => outs.all goodB
    | none => false)
  | none => false
def LeafOkG (P : Program) (gl : List (Nat × List (IntKind × Int))) (id : Nat) (ts : List TypeId) (x : List Bool × PC) : Prop := ∃ (C : Cfg) (fuel : Nat), C.P = P ∧ C.Types ∧ (∀ ρ, HookOk C ρ) ∧ leafGoodG C gl fuel id ts x = true
theorem law_split_anyG {H : Type} {enc : TypeId × Value → H} {P : Program} {gl : List (Nat × List (IntKind × Int))} {id : Nat} {ts : List TypeId} {l : List (List Bool × Sp)}
    (hl : splitOk P ts l = true) (h : ∀ x ∈ allLeaves l, LeafOkG P gl id ts x)
    {W : World} {base : Nat} {args : Array Value} {ds : List (DataW H)} {ps : List MemPlace} {b0 : Nat} {sp : Nat → Bool} {held : Bool} {r : Reach} {us : List TypeId} (hu : us = ts) (hG : GlOk gl W)
    (hok : ∀ (j : Nat) t v, us[j]? = some t → args[j]? = some v → Value.okWide P W r base t v) (ht : DataW.TrodAll enc P W b0 sp held us args.toList ds ps) :
    Calls P id args W fun e W' => e = .returned (.bool true) ∧ RowKit.Below W.heap.size W W' := by
  subst hu
  unfold splitOk at hl
  split at hl
  · rename_i is ks hps
    rw [Bool.and_eq_true] at hl
    have hks := Nat.le_of_ble_eq_true hl.1
    obtain ⟨L, hg, hargs⟩ := open_args hps ht (vs := args.toList) (fun j t v h1 h2 => hok j t v h1 (by simpa using h2))
    have hbl := blks_le hg
    have hrel := symL_rel (R := R0) (bl := blksOf ks L) (L := L) hg [] [] [] rfl (by simp)
    have hm0 : MemRel (envOf W R0 (blksOf ks L) L) [] ⟨.nil, 0⟩ W := ⟨rfl, fun id o h => by simp [Tr.get] at h, fun e he => (by simp at he), fun i j e e' he => (by simp at he), fun id _ => by simp [Tr.get]⟩
    obtain ⟨hm, hro⟩ := symM_rel (R := R0) (bl := blksOf ks L) (L := L) (by omega) hg [] _ (by simp) (by simp) hm0
    obtain ⟨γ, hmG, hroG⟩ := globsM_rel hm hro hG
    have hnx : (symM ks (patOf ks L) ⟨.nil, 0⟩).nx = (blksOf ks L).length := by rw [symM_nx ks W L hg]; simp
    have hpc : PcH (envOf W R0 (blksOf ks L) L) (startPc (symM ks (patOf ks L) ⟨.nil, 0⟩).nx) := startPc_ok _ fun i hi => by
      rw [hnx] at hi
      simp only [envOf, List.getElem?_eq_getElem hi]
      have := cnt_ok hg _ (List.getElem_mem hi)
      omega
    obtain ⟨t, htl⟩ := patBeq_ok hl.2 _ (patOf_mem hg)
    obtain ⟨fs, hfs, hpf⟩ := Sp.cover (ρ := envOf W R0 (blksOf ks L) L) t [] (PcH.nil _)
    obtain ⟨C, fuel, hP, hC, hH, hleaf⟩ := h _ (mem_allLeaves htl hfs)
    subst hP
    unfold leafGoodG at hleaf
    simp only [hps] at hleaf
    split at hleaf
    · rename_i outs ho
      unfold lawXG at ho
      have hgood : ∀ o ∈ outs, PcH (envOf W R0 (blksOf ks L) L) o.pc → goodOut (envOf W R0 (blksOf ks L) L) o := fun o hoo hp => goodB_ok (List.all_eq_true.1 hleaf o hoo) hp
      have := (callX_ok hC hH ho (addAll_ok hpf hpc) (relL_mono γ _ _ (hargs _ _ _ hrel)) hmG (fun o hoo k hk hp => by
        obtain ⟨b, hb, _⟩ := hgood o hoo hp
        rw [hb] at hk; cases hk)).mono (R' := fun e W' => e = .returned (.bool true) ∧ RowKit.Below W.heap.size W W') fun e W' ⟨o, hoo, hp, β', hs, hm', he⟩ => by
          obtain ⟨b, hb, hv⟩ := hgood o hoo hp
          rw [hb] at he
          cases e <;> simp only [EndR] at he
          refine ⟨?_, hs.below hroG⟩
          rw [show _ = Value.bool _ from he, hv]
      simpa using this
    · cases hleaf
  · cases hl
/-- a table, out of what the row's condition says -/
theorem glOk_of_var {P : Program} {W : World} {name : String} {g : Nat} {cs : List (IntKind × Int)} (hg : P.globalNamed name = some g) (hv : W.var? P name = some (cs.map fun p => Value.int p.1 p.2).toArray) (hk : (cs.all fun p => inK p.1 p.2) = true)
    {gl : List (Nat × List (IntKind × Int))} (h : GlOk gl W) : GlOk ((g, cs) :: gl) W := fun x hx => by
  rcases List.mem_cons.1 hx with rfl | hx
  · refine ⟨fun p hp => List.all_eq_true.1 hk p hp, ?_⟩
    have := hv
    simp only [World.var?, hg, Option.bind_some] at this
    split at this
    · rename_i arr el fr hh
      exact ⟨arr, el, fr, hh, by rw [Option.some.inj this]⟩
    · cases this
  · exact h x hx
theorem laid_var {P : Program} {W : World} : ∀ {laid : List (String × DataW Unit)} {ps : List MemPlace}, DataW.LaidVars P W laid ps → ∀ {name : String} {d : DataW Unit}, (name, d) ∈ laid →
    ∃ g t cs fuel p, P.globalNamed name = some g ∧ (P.globals[g]?).map (·.type) = some t ∧ W.var? P name = some cs ∧ DataW.trod (fun _ => ()) P W 0 (fun _ => true) false fuel t cs.toList = some (d, p)
  | [], _, _, name, d, hm => by cases hm
  | (n, d) :: r, ps, ⟨g, t, cs, fuel, p, q, h1, h2, h3, h4, h5, h6⟩, name, d', hm => by
    rw [List.mem_cons] at hm
    rcases hm with hm | hm
    · cases hm; exact ⟨g, t, cs, fuel, p, h1, h2, h3, h4⟩
    · exact laid_var h5 hm
/-- a table of the row's condition -/
theorem glOk_of_laid {P : Program} {W : World} {laid : List (String × DataW Unit)} (h : laidMet P laid W) {name : String} {k : IntKind} {zs : List Int} (hm : (name, Lib.tabData k zs) ∈ laid) {g : Nat} {t e : TypeId} {n : Nat}
    (hg : P.globalNamed name = some g) (hty : (P.globals[g]?).map (·.type) = some t) (ht : P.underlying t = some (.array n e)) (he : P.underlying e = some (.int k)) (hce : P.cellsOf e = 1) (hct : P.cellsOf t = n) (hk : (zs.all fun z => inK k z) = true)
    {gl : List (Nat × List (IntKind × Int))} (hr : GlOk gl W) : GlOk ((g, zs.map fun z => (k, z)) :: gl) W := by
  obtain ⟨ps, hl, _⟩ := h
  obtain ⟨g', t', cs, fuel, p, h1, h2, h3, h4⟩ := laid_var hl hm
  obtain rfl := Option.some.inj (hg.symm.trans h1)
  obtain rfl := Option.some.inj (hty.symm.trans h2)
  refine glOk_of_var hg ?_ ?_ hr
  · rw [h3]
    have := Lib.cells_of_tab ht he hce hct h4
    rw [List.map_map]
    congr 1
    rw [← Array.toList_inj, this]
    rfl
  · rw [List.all_map]
    exact hk
theorem glOk_nil (W : World) : GlOk [] W := fun _ h => by cases h
end Go.SX

namespace Go.SX
open Go

structure VMemo where
  f : Nat
  args : List SV
  outs : List (PC × SV)
  pans : List (PC × SV) := []
/-- its ends -/
def VMemo.ends (e : VMemo) : List (PC × CEnd) := e.outs.map (fun x => (x.1, CEnd.ret x.2)) ++ e.pans.map (fun x => (x.1, CEnd.panic x.2))
def vMem0 : Mem := ⟨.nil, 0⟩
def vOuts (C : Cfg) (fuel : Nat) (f : Nat) (args : List SV) : Option (List COut) := match callXL C [] fuel f args vMem0 [] with
  | some l => some (joined C f [] vMem0 [] l)
  | none => none
def vEnd : CEnd → CEnd → Bool
  | .ret v, .ret u => SV.beq v u && under 0 v
  | .panic v, .panic u => SV.beq v u && under 0 v
  | _, _ => false
def valOfE : CEnd → Option SV
  | .ret v => some v
  | .panic v => some v
  | .stuck _ => none
theorem vEnd_ok {a b : CEnd} (h : vEnd a b = true) : a = b ∧ ∃ v, valOfE b = some v ∧ under 0 v = true := by
  cases a <;> cases b <;> simp only [vEnd, Bool.and_eq_true, Bool.false_eq_true] at h
  · have := SV.beq_eq h.1
    subst this
    exact ⟨rfl, _, rfl, h.2⟩
  · have := SV.beq_eq h.1
    subst this
    exact ⟨rfl, _, rfl, h.2⟩
def vSub : List COut → List (PC × CEnd) → Bool
  | [], [] => true
  | c :: cs, e :: es => vEnd c.ex e.2 && subPc e.1 c.pc && vSub cs es
  | _, _ => false
theorem vSub_ok : ∀ {cs : List COut} {es : List (PC × CEnd)}, vSub cs es = true → ∀ c ∈ cs, ∃ e ∈ es, c.ex = e.2 ∧ (∃ v, valOfE e.2 = some v ∧ under 0 v = true) ∧ subPc e.1 c.pc = true
  | [], _, _, c, h => by cases h
  | x :: cs, [], h, _, _ => by simp [vSub] at h
  | x :: cs, e :: es, h, c, hc => by
    simp only [vSub, Bool.and_eq_true] at h
    rw [List.mem_cons] at hc
    rcases hc with rfl | hc
    · obtain ⟨⟨h1, h2⟩, _⟩ := h
      obtain ⟨k1, k2⟩ := vEnd_ok h1
      exact ⟨e, .head _, k1, k2, h2⟩
    · obtain ⟨e', he', hs⟩ := vSub_ok h.2 c hc
      exact ⟨e', .tail _ he', hs⟩
def VMemo.ok (C : Cfg) (fuel : Nat) (e : VMemo) : Bool := underL 0 e.args && (match vOuts C fuel e.f e.args with
  | some l => vSub l e.ends
  | none => false)
def vFind (f : Nat) (args : List SV) : List VMemo → Option (List (PC × CEnd))
  | [] => none
  | e :: r => bif Nat.beq e.f f && leq SV.beq args e.args then some e.ends else vFind f args r
/-- facts that are not there yet -/
def newPc (pc l : PC) : PC := l.filter fun y => !(pc.any (pcItem y))
def vHook (l : List VMemo) (f : Nat) (args : List SV) (mem : Mem) (pc : PC) (_ : List Nat) : Option (List COut) :=
  bif l.any (fun e => Nat.beq e.f f) then (match vFind f args l with
    | some outs => some (outs.map fun x => ⟨newPc pc x.1 ++ pc, mem, x.2⟩)
    | none => none) else none
theorem endR_any {ρ : Env} {β β' : Bet} {x : CEnd} {v : SV} {en : Ending} (hx : valOfE x = some v) (hu : under 0 v = true) (h : EndR ρ β' x en) : EndR ρ β x en := by
  cases x with
  | stuck k => cases hx
  | ret u =>
    cases hx
    cases en <;> simp only [EndR] at h ⊢
    exact rel_any (β := β') hu h
  | panic u =>
    cases hx
    cases en <;> simp only [EndR] at h ⊢
    obtain ⟨w, h1, h2⟩ := h
    exact ⟨w, rel_any (β := β') hu h1, h2⟩
theorem vFind_some {f : Nat} {args : List SV} : ∀ {l : List VMemo} {outs : List (PC × CEnd)}, vFind f args l = some outs → ∃ e ∈ l, e.f = f ∧ args = e.args ∧ outs = e.ends
  | e :: r, outs, h => by
    simp only [vFind] at h
    cases hc : Nat.beq e.f f && leq SV.beq args e.args
    · rw [hc] at h
      obtain ⟨e', he', hs⟩ := vFind_some (l := r) h
      exact ⟨e', .tail _ he', hs⟩
    · rw [hc] at h
      cases h
      rw [Bool.and_eq_true] at hc
      exact ⟨e, .head _, Nat.eq_of_beq_eq_true hc.1, leq_eq (fun _ _ => SV.beq_eq) hc.2, rfl⟩
theorem vHook_ok {C0 : Cfg} (hC : C0.Types) (hH : ∀ ρ, HookOk C0 ρ) {fuel : Nat} {l : List VMemo} (h : ∀ e ∈ l, VMemo.ok C0 fuel e = true) {C : Cfg} (hP : C.P = C0.P) (hk : C.hook = vHook l) : ∀ ρ, HookOk C ρ := by
  intro ρ f args mem pc lk outs ho β w vs hp hr hm _
  rw [hk] at ho
  unfold vHook at ho
  cases hany : l.any (fun e => Nat.beq e.f f)
  · rw [hany] at ho; cases ho
  rw [hany] at ho
  simp only [cond_true] at ho
  split at ho
  · rename_i os hos
    cases ho
    obtain ⟨e, he, rfl, rfl, rfl⟩ := vFind_some hos
    have hok := h e he
    simp only [VMemo.ok, Bool.and_eq_true] at hok
    obtain ⟨hu, hok⟩ := hok
    unfold vOuts at hok
    split at hok
    · rename_i l2 hl2
      split at hl2
      · rename_i l0 hl0
        cases hl2
        have hr0 : relL ρ [] e.args vs := underL_rel (β := []) (γ := β) _ _ hu hr
        have hm0 : MemRel ρ [] vMem0 w := ⟨rfl, fun id o h => (by simp [vMem0, Tr.get] at h), fun e he => (by cases he), fun i j e e' he => (by simp at he), fun id _ => (by simp [vMem0, Tr.get])⟩
        have hp0 : PcH ρ [] := fun x hx => by cases hx
        have hns : NoStuckC ρ (joined C0 e.f [] vMem0 [] l0) := fun o ho k hk _ => by
          obtain ⟨x, _, hx, ⟨v, hv, _⟩, _⟩ := vSub_ok hok o ho
          rw [← hx, hk] at hv; cases hv
        rw [hP]
        refine (callXL_ok hC hH hl0 hp0 hr0 hm0 (joined_stuck hns)).mono fun en w' hq => ?_
        obtain ⟨o, ho, hpc, β', hst, hm', hen⟩ := joined_post (C := C0) (id := e.f) hns hp0 hm0 hq
        obtain ⟨x, hx, hxe, ⟨v0, hxv, hxu⟩, hxs⟩ := vSub_ok hok o ho
        have hkeep : ∀ k, k < w.heap.size → w'.heap[k]? = w.heap[k]? := fun k hk => hst.keep k hk fun e he => by cases he
        refine ⟨_, List.mem_map_of_mem hx, ?_, β, ⟨⟨[], by simp, by simp⟩, hst.os, hst.tape, hst.output, hst.size, fun k hk _ => hkeep k hk, fun id _ e he => hkeep _ (hm.lt e (List.mem_of_getElem? he))⟩,
          ⟨hm.nx, fun id ob hob => ?_, fun e he => Nat.lt_of_lt_of_le (hm.lt e he) hst.size, hm.apart, hm.dom⟩, ?_⟩
        · intro y hy
          rcases List.mem_append.1 hy with hy | hy
          · exact subPc_ok hxs hpc y (List.mem_filter.1 hy).1
          · exact hp y hy
        · obtain ⟨eb, heb, r⟩ := hm.obj id ob hob
          exact ⟨eb, heb, objRel_heap r (hkeep _ (hm.lt eb (List.mem_of_getElem? heb)))⟩
        · rw [hxe] at hen
          exact endR_any hxv hxu hen
      · cases hl2
    · cases hok
  · cases ho
/-- memos, and ahead of all a hook of one's own -/
def memoHook2 (h0 : Nat → List SV → Mem → PC → List Nat → Option (List COut)) (l : List Memo) (f : Nat) (args : List SV) (mem : Mem) (pc : PC) (lk : List Nat) : Option (List COut) := match h0 f args mem pc lk with
  | some r => some r
  | none => memoHook l f args mem pc lk
theorem memoHook2_ok {C0 C : Cfg} (hC : C0.Types) (hH : ∀ ρ, HookOk C0 ρ) {h0 : Nat → List SV → Mem → PC → List Nat → Option (List COut)} (h0k : C0.hook = h0) {fuel : Nat} {l : List Memo} (h : ∀ e ∈ l, Memo.ok C0 fuel e = true) (hP : C.P = C0.P) (hk : C.hook = memoHook2 h0 l) : ∀ ρ, HookOk C ρ := by
  intro ρ f args mem pc lk outs ho β w vs hp hr hm hn
  rw [hk] at ho
  unfold memoHook2 at ho
  split at ho
  · rename_i r0 hr0
    cases ho
    have := hH ρ f args mem pc lk _ (by rw [h0k]; exact hr0) β w vs hp hr hm hn
    rw [hP]; exact this
  · exact memoHook_ok (C := { C with hook := memoHook l }) hC hH h hP rfl ρ f args mem pc lk outs ho β w vs hp hr hm hn
end Go.SX

namespace Go.SX
open Go

structure MemoW where
  f : Nat
  args : List SV
  mem : Mem
  pc : PC
  /-- the blocks that may be written -/
  free : List Nat
  outs : List COut
def lockW (nx : Nat) (free : List Nat) : List Nat := (List.range nx).filter fun i => !(memB i free)
def callW (C : Cfg) (fuel id : Nat) (args : List SV) (mem : Mem) (pc : PC) (free : List Nat) : Option (List COut) := match callXL C (lockW mem.nx free) fuel id args mem pc with
  | some l => some (joined C id (lockW mem.nx free) mem pc l)
  | none => none
def MemoW.ok (C : Cfg) (fuel : Nat) (e : MemoW) : Bool := match callW C fuel e.f e.args e.mem e.pc e.free with
  | some l => coutsSub l e.outs && noStuckL l
  | none => false
def MemoW.hit (e : MemoW) (f : Nat) (args : List SV) (mem : Mem) (pc : PC) (lk : List Nat) : Bool := Nat.beq e.f f && leq SV.beq args e.args && subPc e.pc pc && Mem.beq mem e.mem && lk.all (fun i => Nat.blt i mem.nx && !(memB i e.free))
def memoWFind (f : Nat) (args : List SV) (mem : Mem) (pc : PC) (lk : List Nat) : List MemoW → Option (List COut)
  | [] => none
  | e :: r => bif MemoW.hit e f args mem pc lk then some (e.outs.map fun o => ⟨o.pc ++ pc, o.mem, o.ex⟩) else memoWFind f args mem pc lk r
def memoWHook (l : List MemoW) (f : Nat) (args : List SV) (mem : Mem) (pc : PC) (lk : List Nat) : Option (List COut) :=
  bif l.any (fun e => Nat.beq e.f f) then memoWFind f args mem pc lk l else none
theorem MemoW.calls {C : Cfg} (hC : C.Types) (hH : ∀ ρ, HookOk C ρ) {fuel : Nat} {e : MemoW} (h : MemoW.ok C fuel e = true) {ρ : Env} {β : Bet} {w : World} {vs : List Value} {pc : PC} (hs : subPc e.pc pc = true)
    (hp : PcH ρ pc) (hr : relL ρ β e.args vs) (hm : MemRel ρ β e.mem w) : Calls C.P e.f vs.toArray w (CPost ρ β (lockW e.mem.nx e.free) w (e.outs.map fun o => ⟨o.pc ++ pc, o.mem, o.ex⟩)) := by
  unfold MemoW.ok callW at h
  split at h
  · rename_i l hl
    split at hl
    · rename_i l0 hl0
      cases hl
      rw [Bool.and_eq_true] at h
      have hp0 := subPc_ok hs hp
      have hns : NoStuckC ρ (joined C e.f (lockW e.mem.nx e.free) e.mem e.pc l0) := fun o ho k hk _ => by
        have := List.all_eq_true.1 h.2 o ho
        rw [hk] at this; cases this
      refine (callXL_ok hC hH hl0 hp0 hr hm (joined_stuck hns)).mono fun en w' hq => ?_
      obtain ⟨o, ho, hpc, β', hst, hm', he⟩ := joined_post (C := C) (id := e.f) hns hp0 hm hq
      obtain ⟨o', ho', hs'⟩ := coutsSub_ok h.1 o ho
      simp only [coutSub, Bool.and_eq_true] at hs'
      obtain ⟨⟨e1, e2⟩, e3⟩ := hs'
      refine ⟨_, List.mem_map_of_mem ho', ?_, β', hst, ?_, ?_⟩
      · intro x hx
        rcases List.mem_append.1 hx with hx | hx
        · exact subPc_ok e3 hpc x hx
        · exact hp x hx
      · simp only; rw [← Mem.beq_eq e2]; exact hm'
      · simp only; rw [← exBeq_eq e1]; exact he
    · cases hl
  · cases h
theorem memoWHook_ok {C0 : Cfg} (hC : C0.Types) (hH : ∀ ρ, HookOk C0 ρ) {fuel : Nat} {l : List MemoW} (h : ∀ e ∈ l, MemoW.ok C0 fuel e = true) {C : Cfg} (hP : C.P = C0.P) (hk : C.hook = memoWHook l) : ∀ ρ, HookOk C ρ := by
  intro ρ f args mem pc lk outs ho β w vs hp hr hm _
  rw [hk] at ho
  rw [hP]
  unfold memoWHook at ho
  obtain ⟨_, ho⟩ := bif_some ho
  · have key : ∀ (l : List MemoW), (∀ e ∈ l, MemoW.ok C0 fuel e = true) → memoWFind f args mem pc lk l = some outs → Calls C0.P f vs.toArray w (CPost ρ β lk w outs) := by
      intro l
      induction l with
      | nil => intro _ h; cases h
      | cons e r ih =>
        intro hl hf
        simp only [memoWFind] at hf
        cases hh : MemoW.hit e f args mem pc lk
        · rw [hh] at hf
          exact ih (fun x hx => hl x (.tail _ hx)) hf
        · rw [hh] at hf
          simp only [cond_true, Option.some.injEq] at hf
          subst hf
          simp only [MemoW.hit, Bool.and_eq_true] at hh
          obtain ⟨⟨⟨⟨h1, h2⟩, h3⟩, h4⟩, h5⟩ := hh
          have h1 := Nat.eq_of_beq_eq_true h1
          have h2 := leq_eq (fun _ _ => SV.beq_eq) h2
          have h4 := Mem.beq_eq h4
          subst h1; subst h2; subst h4
          refine (MemoW.calls hC hH (hl e (.head _)) h3 hp hr hm).mono fun en w' ⟨o, ho, hpc, β', hst, r⟩ => ⟨o, ho, hpc, β', hst.unlock fun i hi => ?_, r⟩
          have := List.all_eq_true.1 h5 i hi
          rw [Bool.and_eq_true] at this
          unfold lockW
          exact List.mem_filter.2 ⟨List.mem_range.2 (Nat.le_of_ble_eq_true this.1), this.2⟩
    exact key l h ho
/-- two hooks, one ahead of the other -/
def orHook (h0 h1 : Nat → List SV → Mem → PC → List Nat → Option (List COut)) (f : Nat) (args : List SV) (mem : Mem) (pc : PC) (lk : List Nat) : Option (List COut) := match h0 f args mem pc lk with
  | some r => some r
  | none => h1 f args mem pc lk
theorem orHook_ok {C0 C1 C : Cfg} (h0 : ∀ ρ, HookOk C0 ρ) (h1 : ∀ ρ, HookOk C1 ρ) (p0 : C.P = C0.P) (p1 : C.P = C1.P) (hk : C.hook = orHook C0.hook C1.hook) : ∀ ρ, HookOk C ρ := by
  intro ρ f args mem pc lk outs ho β w vs hp hr hm hn
  rw [hk] at ho
  unfold orHook at ho
  split at ho
  · rename_i r0 hr0
    cases ho
    rw [p0]; exact h0 ρ f args mem pc lk _ hr0 β w vs hp hr hm hn
  · rw [p1]; exact h1 ρ f args mem pc lk _ ho β w vs hp hr hm hn
end Go.SX
