/- SX, part 14: arguments opened: flat cells, and slices of flat rows. -/
import Derived.Test.YtpkfeinnhdnfiaaSXCfg
import Derived.ProofKit
import Derived.OpenShut
namespace Go.SX
open Go

inductive FK where
  | c (k : CK)
  | sl (ks : List CK)
def allC : List FK → Option (List CK)
  | [] => some []
  | .c k :: r => (match allC r with | some l => some (k :: l) | none => none)
  | .sl _ :: _ => none
def repF : Nat → List FK → List FK
  | 0, _ => []
  | n + 1, l => l ++ repF n l
mutual
def flatS (P : Program) : Nat → TypeId → Option (List FK)
  | 0, _ => none
  | d + 1, t => (match P.underlying t with
    | some .bool => some [.c .b]
    | some (.int k) => some [.c (.i k)]
    | some (.slice e) => (match flatS P d e with
      | some fs => (match allC fs with
        | some ks => bif Nat.beq (P.cellsOf e) ks.length && Nat.blt 0 ks.length then some [.sl ks] else none
        | none => none)
      | none => none)
    | some (.struct fs) => (match flatSF P d fs.toList 0 with
      | some ks => bif Nat.beq (P.cellsOf t) ks.length then some ks else none
      | none => none)
    | some (.array n e) => (match flatS P d e with
      | some ks => bif Nat.beq (P.cellsOf e) ks.length && Nat.beq (P.cellsOf t) (n * ks.length) then some (repF n ks) else none
      | none => none)
    | _ => none)
def flatSF (P : Program) : Nat → List Field → Nat → Option (List FK)
  | _, [], _ => some []
  | 0, _ :: _, _ => none
  | d + 1, f :: fs, off => bif !(Nat.beq f.offset off) then none else
    (match flatS P d f.type with
    | some ks => bif Nat.beq (P.cellsOf f.type) ks.length then (match flatSF P d fs (off + ks.length) with | some r => some (ks ++ r) | none => none) else none
    | none => none)
end
def cellR : CK → Value → Prop
  | .b, v => ∃ b, v = .bool b
  | .i k, v => ∃ n, v = .int k n ∧ inK k n = true
/-- what a reading says of one cell -/
def rawR (w : World) (base : Nat) : FK → Value → Prop
  | .c k, v => cellR k v
  | .sl ks, v => v = .slice none 0 0 ∨ ∃ (a : Addr) (len cap : Nat), v = .slice (some a) len cap ∧ len ≤ cap ∧ cap ≤ maxLen ∧ 0 < ks.length ∧
      ∀ i, i < len → ∃ row, w.cells? base (a.add (i * ks.length)) ks.length = some row ∧ row.length = ks.length ∧ ∀ (f : Nat) (k : CK) (v : Value), ks[f]? = some k → row[f]? = some v → cellR k v
def rawL (w : World) (base : Nat) : List FK → List Value → Prop
  | [], l => l = []
  | k :: ks, l => ∃ v vs, l = v :: vs ∧ rawR w base k v ∧ rawL w base ks vs
theorem rawL_length {w : World} {base : Nat} : ∀ {ks : List FK} {l : List Value}, rawL w base ks l → l.length = ks.length
  | [], _, h => by rw [h]; rfl
  | _ :: _, _, h => by obtain ⟨v, vs, rfl, _, h2⟩ := h; simp [rawL_length h2]
theorem rawL_append {w : World} {base : Nat} : ∀ {ks ls : List FK} {a b : List Value}, rawL w base ks a → rawL w base ls b → rawL w base (ks ++ ls) (a ++ b)
  | [], _, a, b, h, h' => by rw [show a = [] from h]; exact h'
  | k :: ks, ls, a, b, h, h' => by
    obtain ⟨v, vs, rfl, h1, h2⟩ := h
    exact ⟨v, vs ++ b, rfl, h1, rawL_append h2 h'⟩
theorem rawL_allC {w : World} {base : Nat} : ∀ {fs : List FK} {ks : List CK} {l : List Value}, allC fs = some ks → rawL w base fs l → l.length = ks.length ∧ ∀ (f : Nat) (k : CK) (v : Value), ks[f]? = some k → l[f]? = some v → cellR k v
  | [], ks, l, h, hr => by cases h; rw [show l = [] from hr]; simp
  | .c k :: fs, ks, l, h, hr => by
    simp only [allC] at h
    split at h
    · rename_i ks' hks
      cases h
      obtain ⟨v, vs, rfl, h1, h2⟩ := hr
      obtain ⟨i1, i2⟩ := rawL_allC hks h2
      refine ⟨by simp [i1], fun f k' v' hf hv => ?_⟩
      cases f with
      | zero => simp at hf hv; subst hf; subst hv; exact h1
      | succ f => simp at hf hv; exact i2 f k' v' hf hv
    · cases h
  | .sl _ :: _, _, _, h, _ => by cases h
theorem inK_wf {k : IntKind} {n : Int} (h : (Lit.int k n).wf = true) : inK k n = true := by
  rw [inK_iff]
  cases k <;> simp [Lit.wf, IntKind.min, IntKind.max, IntKind.bits, IntKind.signed] at h <;> simp only [kLo, kHi] <;> omega
theorem repF_succ' (l : List FK) : ∀ n, repF (n + 1) l = repF n l ++ l
  | 0 => by simp [repF]
  | n + 1 => by
    have := repF_succ' l n
    simp only [repF] at this ⊢
    rw [List.append_assoc, ← this, ← List.append_assoc]
theorem trod_flat {H : Type} {enc : TypeId × Value → H} {P : Program} {w : World} {base : Nat} {sp : Nat → Bool} {held : Bool} : ∀ (d : Nat),
    (∀ (t : TypeId) (ks : List FK), flatS P d t = some ks → ∀ (fuel : Nat) (cs : List Value) (x : DataW H × List MemPlace), DataW.trod enc P w base sp held fuel t cs = some x → rawL w base ks cs) ∧
    (∀ (fs : List Field) (off : Nat) (ks : List FK), flatSF P d fs off = some ks → ∀ (fuel : Nat) (cs : List Value), off + ks.length ≤ cs.length →
      (∀ f ∈ fs, ∃ y, DataW.trod enc P w base sp held fuel f.type ((cs.drop f.offset).take (P.cellsOf f.type)) = some y) → rawL w base ks ((cs.drop off).take ks.length)) := by
  intro d
  induction d with
  | zero =>
    refine ⟨fun t ks h => by simp [flatS] at h, fun fs off ks h fuel cs _ _ => ?_⟩
    cases fs with
    | nil => simp only [flatSF, Option.some.injEq] at h; subst h; simp [rawL]
    | cons f fs => simp [flatSF] at h
  | succ d ih =>
    obtain ⟨ihS, ihF⟩ := ih
    refine ⟨fun t ks h fuel cs x hx => ?_, fun fs off ks h fuel cs hlen hall => ?_⟩
    · simp only [flatS] at h
      cases hu : P.underlying t with
      | none => simp [hu] at h
      | some td =>
        simp only [hu] at h
        cases td <;> simp only [reduceCtorEq, Option.some.injEq] at h
        case bool =>
          subst h
          obtain ⟨b, rfl, _⟩ := DataW.trod_bool hu hx
          exact ⟨_, [], rfl, ⟨_, rfl⟩, rfl⟩
        case int k =>
          subst h
          obtain ⟨n, rfl, _, hwf⟩ := DataW.trod_int hu hx
          exact ⟨_, [], rfl, ⟨n, rfl, inK_wf hwf⟩, rfl⟩
        case slice e =>
          split at h
          · rename_i fs hfs
            split at h
            · rename_i ks' hks'
              cases hb : Nat.beq (P.cellsOf e) ks'.length && Nat.blt 0 ks'.length
              · rw [hb] at h; cases h
              · rw [hb] at h
                cases h
                rw [Bool.and_eq_true] at hb
                have hsz := Nat.eq_of_beq_eq_true hb.1
                have hpos : 0 < ks'.length := Nat.le_of_ble_eq_true hb.2
                rcases DataW.trod_slice hu hx with ⟨rfl, _⟩ | ⟨a, len, cap, elems, rest, n, _, rfl, _, _, hl, hm, hlen, hel, _, _⟩
                · exact ⟨_, [], rfl, .inl rfl, rfl⟩
                · refine ⟨_, [], rfl, .inr ⟨a, len, cap, rfl, hl, hm, hpos, fun i hi => ?_⟩, rfl⟩
                  have hy := hel i hi
                  rw [List.getElem?_eq_getElem (by omega), hsz] at hy
                  cases hrow : w.cells? base (a.add (i * ks'.length)) ks'.length with
                  | none => simp [hrow] at hy
                  | some row =>
                    simp only [hrow, Option.bind_some] at hy
                    obtain ⟨q1, q2⟩ := rawL_allC hks' (ihS e fs hfs n row _ hy)
                    exact ⟨row, rfl, q1, q2⟩
            · cases h
          · cases h
        case array n e =>
          split at h
          · rename_i ks' hks'
            cases hb : Nat.beq (P.cellsOf e) ks'.length && Nat.beq (P.cellsOf t) (n * ks'.length)
            · rw [hb] at h; cases h
            · rw [hb] at h
              cases h
              rw [Bool.and_eq_true] at hb
              have hsz := Nat.eq_of_beq_eq_true hb.1
              have hsz2 := Nat.eq_of_beq_eq_true hb.2
              obtain ⟨xs, m, _, _, hc, hxl, hall⟩ := DataW.trod_array hu hx
              have key : ∀ m, m ≤ n → rawL w base (repF m ks') (cs.take (m * ks'.length)) := by
                intro m
                induction m with
                | zero => intro _; simp [repF, rawL]
                | succ m ihm =>
                  intro hm'
                  rw [repF_succ', Nat.succ_mul, List.take_add]
                  refine rawL_append (ihm (by omega)) ?_
                  have hy := hall m (by omega)
                  rw [List.getElem?_eq_getElem (by omega), hsz] at hy
                  exact ihS e ks' hks' _ _ _ hy
              have := key n (Nat.le_refl _)
              rwa [List.take_of_length_le (by omega)] at this
          · cases h
        case struct fs =>
          split at h
          · rename_i ks' hks'
            cases hb : Nat.beq (P.cellsOf t) ks'.length
            · rw [hb] at h; cases h
            · rw [hb] at h
              cases h
              have hsz := Nat.eq_of_beq_eq_true hb
              obtain ⟨xs, m, _, _, hc, hxl, hall⟩ := DataW.trod_struct hu hx
              have := ihF fs.toList 0 ks hks' m cs (by omega) (fun f hf => by
                obtain ⟨i, hi⟩ := List.mem_iff_getElem?.1 hf
                have hlt := (List.getElem?_eq_some_iff.1 hi).1
                have := hall i f (by rw [← Array.getElem?_toList]; exact hi)
                rw [List.getElem?_eq_getElem (by simp at hlt; omega)] at this
                exact ⟨_, this⟩)
              rw [List.drop_zero, List.take_of_length_le (by omega)] at this
              exact this
          · cases h
    · cases fs with
      | nil => simp only [flatSF, Option.some.injEq] at h; subst h; simp [rawL]
      | cons f fs =>
        simp only [flatSF] at h
        cases ho : !(Nat.beq f.offset off)
        case true => rw [ho] at h; cases h
        rw [ho] at h
        simp only [cond_false] at h
        have ho : f.offset = off := Nat.eq_of_beq_eq_true (by simpa using ho)
        split at h
        · rename_i ks1 hk
          cases hb : Nat.beq (P.cellsOf f.type) ks1.length
          · rw [hb] at h; cases h
          · rw [hb] at h
            simp only [cond_true] at h
            split at h
            · rename_i ks2 hr
              cases h
              have hsz := Nat.eq_of_beq_eq_true hb
              obtain ⟨y, hy⟩ := hall f (by simp)
              rw [ho, hsz] at hy
              have h1 := ihS f.type ks1 hk fuel _ y hy
              have h2 := ihF fs (off + ks1.length) ks2 hr fuel cs (by simp at hlen; omega) (fun g hg => hall g (by simp [hg]))
              rw [List.length_append, List.take_add, List.drop_drop]
              exact rawL_append h1 h2
            · cases h
        · cases h
end Go.SX
