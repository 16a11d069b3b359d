/- SX, part 2: symbolic values, symbolic memory, and how they stand to the model's world. -/
import Derived.Test.YtlmchholjalfgaaSXA
import Derived.Orders
import Derived.OrdersHeld
import Derived.Laws.Sem
import Derived.Laws.Cells
import Derived.Laws.World
import Derived.Laws.Rows
import Derived.Below
import Derived.Laws.CopyRow
import Derived.Laws.Entries
import Derived.ChangeKeysEq
import Derived.Laws.Externs
import Derived.Laws.StructEq
import Derived.Laws.Pointers
import Derived.Laws.Small
namespace Go.SX

/-! a map from small numbers -/
inductive Tr (α : Type) where
  | nil
  | node (v : Option α) (l r : Tr α)
def Tr.get {α : Type} : Tr α → Nat → Option α
  | .nil, _ => none
  | .node v l r, n => match n with
    | 0 => v
    | m + 1 => bif Nat.beq (m % 2) 0 then l.get (m / 2) else r.get (m / 2)
/-- the fuel is above the number -/
def Tr.set {α : Type} : Nat → Tr α → Nat → α → Tr α
  | 0, t, _, _ => t
  | k + 1, t, n, x =>
    let (v, l, r) : Option α × Tr α × Tr α := match t with | .nil => (none, .nil, .nil) | .node v l r => (v, l, r)
    match n with
    | 0 => .node (some x) l r
    | m + 1 => bif Nat.beq (m % 2) 0 then .node v (Tr.set k l (m / 2) x) r else .node v l (Tr.set k r (m / 2) x)
def Tr.put {α : Type} (t : Tr α) (n : Nat) (x : α) : Tr α := Tr.set (n + 1) t n x
def Tr.del {α : Type} : Tr α → Nat → Tr α
  | .nil, _ => .nil
  | .node v l r, n => (match n with
    | 0 => .node none l r
    | m + 1 => bif Nat.beq (m % 2) 0 then .node v (Tr.del l (m / 2)) r else .node v l (Tr.del r (m / 2)))
theorem Tr.get_del {α : Type} : ∀ (t : Tr α) (n m : Nat), (t.del n).get m = if m = n then none else t.get m
  | .nil, n, m => by simp [Tr.del, Tr.get]
  | .node v l r, n, m => by
    cases n with
    | zero => cases m <;> simp [Tr.del, Tr.get]
    | succ n =>
      simp only [Tr.del]
      cases hb : Nat.beq (n % 2) 0
      · simp only [cond_false]
        cases m with
        | zero => simp [Tr.get]
        | succ m =>
          simp only [Tr.get]
          cases hm : Nat.beq (m % 2) 0
          · simp only [cond_false]
            rw [Tr.get_del r]
            have h1 : n % 2 ≠ 0 := fun h => by rw [h] at hb; cases hb
            have h2 : m % 2 ≠ 0 := fun h => by rw [h] at hm; cases hm
            by_cases e : m = n
            · simp [e]
            · have e2 : ¬ m / 2 = n / 2 := by omega
              simp [e, e2]
          · have h1 : n % 2 ≠ 0 := fun h => by rw [h] at hb; cases hb
            have h2 : m % 2 = 0 := Nat.eq_of_beq_eq_true hm
            have e : ¬ m = n := by omega
            simp [e]
      · simp only [cond_true]
        cases m with
        | zero => simp [Tr.get]
        | succ m =>
          simp only [Tr.get]
          cases hm : Nat.beq (m % 2) 0
          · have h1 : n % 2 = 0 := Nat.eq_of_beq_eq_true hb
            have h2 : m % 2 ≠ 0 := fun h => by rw [h] at hm; cases hm
            have e : ¬ m = n := by omega
            simp [e]
          · simp only [cond_true]
            rw [Tr.get_del l]
            have h1 : n % 2 = 0 := Nat.eq_of_beq_eq_true hb
            have h2 : m % 2 = 0 := Nat.eq_of_beq_eq_true hm
            by_cases e : m = n
            · simp [e]
            · have e2 : ¬ m / 2 = n / 2 := by omega
              simp [e, e2]
theorem Tr.get_set {α : Type} : ∀ (k : Nat) (t : Tr α) (n : Nat) (x : α), n < k → ∀ m, (Tr.set k t n x).get m = if m = n then some x else t.get m := by
  intro k
  induction k with
  | zero => intro t n x h; omega
  | succ k ih =>
    intro t n x h m
    have key : ∀ (v : Option α) (l r : Tr α), (match n with
        | 0 => Tr.node (some x) l r
        | m + 1 => bif Nat.beq (m % 2) 0 then .node v (Tr.set k l (m / 2) x) r else .node v l (Tr.set k r (m / 2) x)).get m =
        if m = n then some x else (Tr.node v l r).get m := by
      intro v l r
      cases n with
      | zero => cases m <;> simp [Tr.get]
      | succ n =>
        dsimp only
        cases hb : Nat.beq (n % 2) 0
        · cases m with
          | zero => simp [Tr.get]
          | succ m =>
            simp only [cond_false, Tr.get]
            cases hm : Nat.beq (m % 2) 0
            · simp only [cond_false]
              rw [ih r (n / 2) x (by omega)]
              have h1 : n % 2 ≠ 0 := fun h => by rw [h] at hb; cases hb
              have h2 : m % 2 ≠ 0 := fun h => by rw [h] at hm; cases hm
              by_cases e : m = n
              · simp [e]
              · have e2 : ¬ m / 2 = n / 2 := by omega
                simp [e, e2]
            · simp only [cond_true]
              have h1 : n % 2 ≠ 0 := fun h => by rw [h] at hb; cases hb
              have h2 : m % 2 = 0 := Nat.eq_of_beq_eq_true hm
              have e : ¬ m = n := by omega
              simp [e]
        · cases m with
          | zero => simp [Tr.get]
          | succ m =>
            simp only [cond_true, Tr.get]
            cases hm : Nat.beq (m % 2) 0
            · simp only [cond_false]
              have h1 : n % 2 = 0 := Nat.eq_of_beq_eq_true hb
              have h2 : m % 2 ≠ 0 := fun h => by rw [h] at hm; cases hm
              have e : ¬ m = n := by omega
              simp [e]
            · simp only [cond_true]
              rw [ih l (n / 2) x (by omega)]
              have h1 : n % 2 = 0 := Nat.eq_of_beq_eq_true hb
              have h2 : m % 2 = 0 := Nat.eq_of_beq_eq_true hm
              by_cases e : m = n
              · simp [e]
              · have e2 : ¬ m / 2 = n / 2 := by omega
                simp [e, e2]
    cases t with
    | nil => rw [show Tr.get (.nil : Tr α) m = (Tr.node none .nil .nil : Tr α).get m by cases m <;> simp [Tr.get]]; exact key none .nil .nil
    | node v l r => exact key v l r
theorem Tr.get_put {α : Type} (t : Tr α) (n : Nat) (x : α) (m : Nat) : (t.put n x).get m = if m = n then some x else t.get m :=
  Tr.get_set (n + 1) t n x (by omega) m

/-! symbolic values -/
/-- the kind of an unknown cell -/
inductive CK where
  | b
  | i (k : IntKind)
  /-- a string: of values alone, never of a row -/
  | s
inductive SV where
  | bool (b : B)
  | int (k : IntKind) (t : T)
  | nilp
  | ptr (id : Nat) (idx : T) (off : Nat)
  | nils
  | slice (id : Nat) (idx : T) (off : Nat) (len : T) (cap : Option T)
  | fn (f : Nat) (caps : List SV)
  | agg (cs : List SV)
  | tup (vs : List SV)
  | raw (v : Value)
  /-- a map that is not nil -/
  | mref (id : Nat)
  /-- an interface value of a type -/
  | ifc (t : Nat) (s : SV)
  /-- a string whose bytes are the first cells of a row -/
  | str (r : Nat) (len : T)
  /-- a string of so many bytes -/
  | bst (ts : List T)
  /-- a string: known bytes, and then bytes of a row -/
  | rst (ts : List T) (r o : Nat) (len : T)
/-- where a symbolic block lies: its block, its first cell, cells an element, how many elements (stride 0: one row), and whether it may not be written -/
structure Blk where
  blk : Nat
  base : Nat
  stride : Nat
  cnt : Nat
  ro : Bool
abbrev Bet := List Blk

mutual
def SV.rel (ρ : Env) (β : Bet) : SV → Value → Prop
  | .bool b, v => v = .bool (b.ev ρ)
  | .int k t, v => v = .int k (t.ev ρ) ∧ inK k (t.ev ρ) = true
  | .nilp, v => v = .pointer none
  | .ptr id idx off, v => ∃ e, β[id]? = some e ∧ 0 ≤ idx.ev ρ ∧ (e.stride ≠ 0 → idx.ev ρ < e.cnt) ∧ v = .pointer (some ⟨e.blk, e.base + (idx.ev ρ).toNat * e.stride + off, none⟩)
  | .nils, v => v = .slice none 0 0
  | .slice id idx off len cap, v => ∃ e, ∃ l c : Nat, β[id]? = some e ∧ 0 ≤ idx.ev ρ ∧ len.ev ρ = l ∧ l ≤ c ∧ c ≤ 9223372036854775807 ∧ (∀ t, cap = some t → t.ev ρ = c ∨ (t.ev ρ = -1 ∧ e.stride = 0 ∧ c ≤ e.cnt)) ∧
      v = .slice (some ⟨e.blk, e.base + (idx.ev ρ).toNat * e.stride + off, none⟩) l c
  | .fn f caps, v => ∃ l, relL ρ β caps l ∧ v = .func (.func f) #[] l.toArray
  | .agg cs, v => ∃ l, relL ρ β cs l ∧ v = .agg l.toArray
  | .tup vs, v => ∃ l, relL ρ β vs l ∧ v = .tuple l.toArray
  | .raw u, v => v = u ∧ u.oneCell' = true
  | .mref id, v => ∃ e, β[id]? = some e ∧ v = .map (some e.blk)
  | .ifc t s, v => ∃ u, SV.rel ρ β s u ∧ v = .iface t u
  | .str r len, v => ∃ b : ByteArray, v = .string b ∧ len.ev ρ = b.size ∧ b.size ≤ 9223372036854775807 ∧ ∀ (j : Nat) (c : UInt8), b.data.toList[j]? = some c → ρ.c r j 0 = (c.toNat : Int)
  | .bst ts, v => ∃ b : ByteArray, v = .string b ∧ b.data.toList.map (fun c => (c.toNat : Int)) = ts.map (T.ev ρ)
  | .rst ts r o len, v => ∃ (b : ByteArray) (xs ys : List UInt8), v = .string b ∧ b.size ≤ 9223372036854775807 ∧ b.data.toList = xs ++ ys ∧ xs.map (fun c => (c.toNat : Int)) = ts.map (T.ev ρ) ∧ len.ev ρ = ys.length ∧ ∀ (j : Nat) (c : UInt8), ys[j]? = some c → ρ.c r ((o + j : Nat) : Int) 0 = (c.toNat : Int)
def relL (ρ : Env) (β : Bet) : List SV → List Value → Prop
  | [], l => l = []
  | s :: ss, l => ∃ v vs, l = v :: vs ∧ SV.rel ρ β s v ∧ relL ρ β ss vs
end
mutual
theorem SV.rel_mono {ρ : Env} {β : Bet} (γ : Bet) : ∀ (s : SV) (v : Value), s.rel ρ β v → s.rel ρ (β ++ γ) v
  | .bool _, _, h | .int _ _, _, h | .nilp, _, h | .nils, _, h | .raw _, _, h | .str _ _, _, h | .bst _, _, h | .rst _ _ _ _, _, h => h
  | .ifc _ s, _, h => by obtain ⟨u, hu, r⟩ := h; exact ⟨u, SV.rel_mono γ s u hu, r⟩
  | .ptr _ _ _, _, h => by
    obtain ⟨e, he, r⟩ := h
    exact ⟨e, by rw [List.getElem?_append_left (List.getElem?_eq_some_iff.1 he).1]; exact he, r⟩
  | .mref _, _, h => by
    obtain ⟨e, he, r⟩ := h
    exact ⟨e, by rw [List.getElem?_append_left (List.getElem?_eq_some_iff.1 he).1]; exact he, r⟩
  | .slice _ _ _ _ _, _, h => by
    obtain ⟨e, l, c, he, r⟩ := h
    exact ⟨e, l, c, by rw [List.getElem?_append_left (List.getElem?_eq_some_iff.1 he).1]; exact he, r⟩
  | .fn _ caps, _, h => by obtain ⟨l, hl, r⟩ := h; exact ⟨l, relL_mono γ caps l hl, r⟩
  | .agg cs, _, h => by obtain ⟨l, hl, r⟩ := h; exact ⟨l, relL_mono γ cs l hl, r⟩
  | .tup cs, _, h => by obtain ⟨l, hl, r⟩ := h; exact ⟨l, relL_mono γ cs l hl, r⟩
theorem relL_mono {ρ : Env} {β : Bet} (γ : Bet) : ∀ (ss : List SV) (l : List Value), relL ρ β ss l → relL ρ (β ++ γ) ss l
  | [], _, h => h
  | s :: ss, _, h => by
    obtain ⟨v, vs, rfl, h1, h2⟩ := h
    exact ⟨v, vs, rfl, SV.rel_mono γ s v h1, relL_mono γ ss vs h2⟩
end
theorem relL_length {ρ : Env} {β : Bet} : ∀ {ss : List SV} {l : List Value}, relL ρ β ss l → l.length = ss.length
  | [], _, h => by rw [h]; rfl
  | s :: ss, _, h => by obtain ⟨v, vs, rfl, _, h2⟩ := h; simp [relL_length h2]
theorem relL_get {ρ : Env} {β : Bet} : ∀ {ss : List SV} {l : List Value}, relL ρ β ss l → ∀ {i : Nat} {s : SV}, ss[i]? = some s → ∃ v, l[i]? = some v ∧ s.rel ρ β v
  | [], _, _, i, s, hs => by simp at hs
  | s :: ss, _, h, i, s', hs => by
    obtain ⟨v, vs, rfl, h1, h2⟩ := h
    cases i with
    | zero => simp at hs; subst hs; exact ⟨v, rfl, h1⟩
    | succ i => simp at hs; obtain ⟨u, hu, r⟩ := relL_get h2 hs; exact ⟨u, by simpa using hu, r⟩
theorem relL_of_get {ρ : Env} {β : Bet} : ∀ {ss : List SV} {l : List Value}, l.length = ss.length → (∀ (i : Nat) (s : SV), ss[i]? = some s → ∃ v, l[i]? = some v ∧ s.rel ρ β v) → relL ρ β ss l
  | [], l, hl, _ => by simpa [relL] using hl
  | s :: ss, [], hl, _ => by simp at hl
  | s :: ss, v :: vs, hl, h => by
    obtain ⟨u, hu, r⟩ := h 0 s rfl
    simp at hu; subst hu
    refine ⟨v, vs, rfl, r, relL_of_get (by simpa using hl) fun i s' hs => ?_⟩
    obtain ⟨u, hu, r⟩ := h (i + 1) s' (by simpa using hs)
    exact ⟨u, by simpa using hu, r⟩
theorem relL_append {ρ : Env} {β : Bet} {ss tt : List SV} {l m : List Value} (h : relL ρ β ss l) (h' : relL ρ β tt m) : relL ρ β (ss ++ tt) (l ++ m) := by
  induction ss generalizing l with
  | nil => rw [show l = [] from h]; exact h'
  | cons s ss ih => obtain ⟨v, vs, rfl, h1, h2⟩ := h; exact ⟨v, vs ++ m, rfl, h1, ih h2⟩
theorem relL_drop {ρ : Env} {β : Bet} : ∀ {ss : List SV} {l : List Value} (n : Nat), relL ρ β ss l → relL ρ β (ss.drop n) (l.drop n)
  | _, _, 0, h => h
  | [], _, n + 1, h => by rw [show _ = [] from h]; rfl
  | s :: ss, _, n + 1, h => by obtain ⟨v, vs, rfl, _, h2⟩ := h; exact relL_drop n h2
theorem relL_take {ρ : Env} {β : Bet} : ∀ {ss : List SV} {l : List Value} (n : Nat), relL ρ β ss l → relL ρ β (ss.take n) (l.take n)
  | _, _, 0, _ => rfl
  | [], _, n + 1, h => by rw [show _ = [] from h]; rfl
  | s :: ss, _, n + 1, h => by obtain ⟨v, vs, rfl, h1, h2⟩ := h; exact ⟨v, vs.take n, rfl, h1, relL_take n h2⟩

/-! memory -/
/-- an array of rows, all unknown but one, that is written; 'gen': cells that are known in all others -/
structure SArr where
  wr : Bool
  r : Nat
  stride : Nat
  ks : List CK
  len : T
  row : Option (T × List SV)
  gk : Nat
  gen : List (Nat × SV)
inductive SObj where
  | cells (wr : Bool) (cs : List SV)
  | arr (A : SArr)
  /-- a block of unknown room, that a slice grew: its first cells -/
  | buf (el : TypeId) (sz : Nat) (cs : List SV)
  /-- a map of numbers, as it was filled -/
  | mp (k : IntKind) (es : List (Int × SV))
  /-- a map whose keys are structs of numbers, as it was filled -/
  | mq (ks : List (List (IntKind × Int))) (vs : List SV)
  /-- a block of unknown room that may not be written: its first cells -/
  | pre (cs : List SV)
  /-- a package-level table of numbers, as it was laid -/
  | glob (g : Nat) (cs : List (IntKind × Int))
  /-- a block of unknown room that may be written: its first cells, and then bytes of a row -/
  | rop (el : TypeId) (cs : List SV) (r o : Nat) (len : T)
  /-- a way over a map of n entries: which were there, and the last one -/
  | it (mid n : Nat) (seen : List Nat) (last : Option Nat)
def mkCell (r : Nat) (i : T) (f : Nat) : CK → SV
  | .b => .bool (.cell r i f)
  | .i k => .int k (.cell r i f)
  | .s => .nils
def baseRow (r : Nat) (i : T) : List CK → Nat → List SV
  | [], _ => []
  | k :: ks, f => mkCell r i f k :: baseRow r i ks (f + 1)
def setAll : List (Nat × SV) → List SV → List SV
  | [], l => l
  | (f, v) :: r, l => (setAll r l).set f v
/-- a row's template: the cell at an index -/
def instSV (k : Nat) (i : T) : SV → SV
  | .bool b => .bool (instB k i b)
  | .int q t => .int q (instT k i t)
  | s => s
def okSV (k : Nat) : SV → Bool
  | .bool b => okB k b
  | .int _ t => okT k t
  | .nilp => true
  | .nils => true
  | .raw _ => true
  | _ => false
def instG (k : Nat) (i : T) : List (Nat × SV) → List (Nat × SV)
  | [] => []
  | (f, s) :: r => (f, instSV k i s) :: instG k i r
def genOk (k : Nat) : List (Nat × SV) → Bool
  | [] => true
  | (_, s) :: r => okSV k s && genOk k r
theorem instSV_rel {k : Nat} {i : T} {ρ : Env} {β : Bet} {s : SV} {v : Value} (h : okSV k s = true) : (instSV k i s).rel ρ β v ↔ s.rel (ρ.at k (i.ev ρ)) β v := by
  cases s <;> simp only [okSV, Bool.false_eq_true] at h <;> simp only [instSV, SV.rel]
  · rw [instB_ev h]
  · rw [instT_ev h]
def SArr.base (A : SArr) (i : T) : List SV := setAll (instG A.gk i A.gen) (baseRow A.r i A.ks 0)
/-- what row j is -/
def SArr.at (A : SArr) (ρ : Env) (j : Nat) : List SV :=
  match A.row with
  | some (t, cs) => if t.ev ρ = j then cs else A.base (.lit j)
  | none => A.base (.lit j)
/-- entries of a map, one by one -/
def entRel (ρ : Env) (β : Bet) (k : IntKind) : List (Int × SV) → List MapEntry → Prop
  | [], l => l = []
  | (n, s) :: r, l => ∃ x xs, l = x :: xs ∧ x.key = .int k n ∧ s.rel ρ β x.val ∧ entRel ρ β k r xs
/-- in whatever order they lie -/
def mpRel (ρ : Env) (β : Bet) (k : IntKind) (es : List (Int × SV)) (arr : List MapEntry) : Prop :=
  (∃ l, arr.Perm l ∧ entRel ρ β k es l) ∧ (arr.map (·.born)).Nodup ∧ ∀ x ∈ arr, x.born < es.length
theorem entRel_imp {ρ σ : Env} {β γ : Bet} {k : IntKind} : ∀ {es : List (Int × SV)} {l : List MapEntry}, (∀ p ∈ es, ∀ v, p.2.rel ρ β v → p.2.rel σ γ v) → entRel ρ β k es l → entRel σ γ k es l
  | [], _, _, h => h
  | (n, s) :: r, l, hf, h => by
    obtain ⟨x, xs, rfl, h1, h2, h4⟩ := h
    exact ⟨x, xs, rfl, h1, hf _ (.head _) _ h2, entRel_imp (fun p hp => hf p (.tail _ hp)) h4⟩
theorem mpRel_imp' {ρ σ : Env} {β γ : Bet} {k : IntKind} {es : List (Int × SV)} {l : List MapEntry} (hf : ∀ p ∈ es, ∀ v, p.2.rel ρ β v → p.2.rel σ γ v) (h : mpRel ρ β k es l) : mpRel σ γ k es l :=
  let ⟨⟨l', h1, h2⟩, h3⟩ := h; ⟨⟨l', h1, entRel_imp hf h2⟩, h3⟩
def keyV (l : List (IntKind × Int)) : Value := .agg (l.map fun p => Value.int p.1 p.2).toArray
def mqRel (ρ : Env) (β : Bet) (ks : List (List (IntKind × Int))) (vs : List SV) (arr : List MapEntry) : Prop :=
  arr.map (·.key) = ks.map keyV ∧ arr.map (·.born) = List.range vs.length ∧ relL ρ β vs (arr.map (·.val))
def objRel (ρ : Env) (β : Bet) (e : Blk) (w : World) : SObj → Prop
  | .cells wr cs => (wr = true → e.ro = false) ∧ e.base = 0 ∧ e.stride = 0 ∧ ∃ arr el fr, w.heap[e.blk]? = some (.cells arr el fr) ∧ (e.ro = false → fr = (0, 0)) ∧ relL ρ β cs arr.toList
  | .arr A => (A.wr = true → e.ro = false) ∧ e.stride = A.stride ∧ 0 < A.stride ∧ A.ks.length = A.stride ∧ A.len.ev ρ = e.cnt ∧ (genOk A.gk A.gen = true ∧ ∀ t cs, A.row = some (t, cs) → cs.length = A.stride) ∧
      ∃ arr el fr, w.heap[e.blk]? = some (.cells arr el fr) ∧ (e.ro = false → fr = (0, 0)) ∧
        ∀ j, j < e.cnt → ∀ f sv, (A.at ρ j)[f]? = some sv → ∃ v, arr[e.base + j * e.stride + f]? = some v ∧ sv.rel ρ β v
  | .buf el sz cs => e.ro = false ∧ e.base = 0 ∧ e.stride = 0 ∧ ∃ arr, w.heap[e.blk]? = some (.cells arr el (0, 0)) ∧ arr.size = e.cnt * sz ∧ ∃ vs rest, arr.toList = vs ++ rest ∧ relL ρ β cs vs
  | .mp k es => e.ro = false ∧ e.base = 0 ∧ e.stride = 0 ∧ ∃ arr, w.heap[e.blk]? = some (.map arr es.length) ∧ mpRel ρ β k es arr.toList
  | .mq ks vs => e.ro = false ∧ e.base = 0 ∧ e.stride = 0 ∧ ∃ arr, w.heap[e.blk]? = some (.map arr vs.length) ∧ mqRel ρ β ks vs arr.toList
  | .pre cs => e.ro = true ∧ e.base = 0 ∧ e.stride = 0 ∧ ∃ arr el fr, w.heap[e.blk]? = some (.cells arr el fr) ∧ ∃ vs rest, arr.toList = vs ++ rest ∧ relL ρ β cs vs
  | .glob g cs => e.ro = true ∧ e.base = 0 ∧ e.stride = 0 ∧ e.blk = g ∧ (∀ p ∈ cs, inK p.1 p.2 = true) ∧ ∃ arr el fr, w.heap[e.blk]? = some (.cells arr el fr) ∧ arr.toList = cs.map fun p => Value.int p.1 p.2
  | .rop el cs r o len => e.ro = false ∧ e.base = 0 ∧ e.stride = 0 ∧ ∃ arr, w.heap[e.blk]? = some (.cells arr el (0, 0)) ∧ arr.size = e.cnt ∧ ∃ vs bs rest, arr.toList = vs ++ (bs ++ rest) ∧ relL ρ β cs vs ∧ len.ev ρ = (bs.length : Int) ∧ ∀ (j : Nat) (v : Value), bs[j]? = some v → v = .int .u8 (ρ.c r ((o + j : Nat) : Int) 0) ∧ inK .u8 (ρ.c r ((o + j : Nat) : Int) 0) = true
  | .it mid n seen last => e.ro = false ∧ e.base = 0 ∧ e.stride = 0 ∧ ∃ em sa, β[mid]? = some em ∧ w.heap[e.blk]? = some (.mapIter (some em.blk) n sa n) ∧ (∀ i, i ∈ sa.toList ↔ i ∈ seen) ∧ ∀ l, last = some l → ∃ sb : Array Nat, sa = sb.push l
structure Mem where
  tr : Tr SObj
  nx : Nat
structure MemRel (ρ : Env) (β : Bet) (m : Mem) (w : World) : Prop where
  nx : m.nx = β.length
  obj : ∀ id o, m.tr.get id = some o → ∃ e, β[id]? = some e ∧ objRel ρ β e w o
  lt : ∀ e ∈ β, e.blk < w.heap.size
  apart : ∀ (i j : Nat) (e e' : Blk), β[i]? = some e → β[j]? = some e' → i ≠ j → e.blk = e'.blk → e.ro = true ∧ e'.ro = true
  dom : ∀ id, m.nx ≤ id → m.tr.get id = none

/-- the part of it that reading wants -/
structure MemO (ρ : Env) (β : Bet) (m : Mem) (w : World) : Prop where
  obj : ∀ id o, m.tr.get id = some o → ∃ e, β[id]? = some e ∧ objRel ρ β e w o
  apart : ∀ (i j : Nat) (e e' : Blk), β[i]? = some e → β[j]? = some e' → i ≠ j → e.blk = e'.blk → e.ro = true ∧ e'.ro = true
theorem MemRel.o {ρ : Env} {β : Bet} {m : Mem} {w : World} (h : MemRel ρ β m w) : MemO ρ β m w := ⟨h.obj, h.apart⟩
/-- two worlds that are one at the blocks that are known -/
def Same (β : Bet) (m : Mem) (w w' : World) : Prop := ∀ id o e, m.tr.get id = some o → β[id]? = some e → w'.heap[e.blk]? = w.heap[e.blk]?
theorem Same.refl (β : Bet) (m : Mem) (w : World) : Same β m w w := fun _ _ _ _ _ => rfl

/-- what a step may do to the world -/
structure Stp (β : Bet) (lk : List Nat) (w : World) (β' : Bet) (w' : World) : Prop where
  ext : ∃ γ, β' = β ++ γ ∧ ∀ e ∈ γ, w.heap.size ≤ e.blk
  os : w'.os = w.os
  tape : w'.tape = w.tape
  output : w'.output = w.output
  size : w.heap.size ≤ w'.heap.size
  keep : ∀ k, k < w.heap.size → (∀ e ∈ β, e.ro = false → e.blk ≠ k) → w'.heap[k]? = w.heap[k]?
  lock : ∀ id ∈ lk, ∀ e, β[id]? = some e → w'.heap[e.blk]? = w.heap[e.blk]?
theorem Stp.refl (β : Bet) (lk : List Nat) (w : World) : Stp β lk w β w :=
  ⟨⟨[], by simp, by simp⟩, rfl, rfl, rfl, Nat.le_refl _, fun _ _ _ => rfl, fun _ _ _ _ => rfl⟩
theorem Stp.trans {β β₁ β₂ : Bet} {lk : List Nat} {w w₁ w₂ : World} (h : Stp β lk w β₁ w₁) (k : Stp β₁ lk w₁ β₂ w₂) : Stp β lk w β₂ w₂ := by
  obtain ⟨γ, rfl, hγ⟩ := h.ext
  obtain ⟨δ, rfl, hδ⟩ := k.ext
  refine ⟨⟨γ ++ δ, by simp, fun e he => ?_⟩, k.os.trans h.os, k.tape.trans h.tape, k.output.trans h.output, Nat.le_trans h.size k.size, fun b hb hn => ?_, fun id hid e he => ?_⟩
  · rcases List.mem_append.1 he with h1 | h1
    · exact hγ e h1
    · exact Nat.le_trans h.size (hδ e h1)
  · rw [k.keep b (Nat.lt_of_lt_of_le hb h.size) fun e he hr => ?_, h.keep b hb hn]
    rcases List.mem_append.1 he with h1 | h1
    · exact hn e h1 hr
    · have := hγ e h1; omega
  · rw [k.lock id hid e (by rw [List.getElem?_append_left (List.getElem?_eq_some_iff.1 he).1]; exact he), h.lock id hid e he]
theorem Stp.unlock {β β' : Bet} {lk lk' : List Nat} {w w' : World} (h : Stp β lk w β' w') (hs : ∀ id ∈ lk', id ∈ lk) : Stp β lk' w β' w' :=
  ⟨h.ext, h.os, h.tape, h.output, h.size, h.keep, fun id hid => h.lock id (hs id hid)⟩
theorem Stp.rel {ρ : Env} {β β' : Bet} {lk : List Nat} {w w' : World} (h : Stp β lk w β' w') {s : SV} {v : Value} (hs : s.rel ρ β v) : s.rel ρ β' v := by
  obtain ⟨γ, rfl, _⟩ := h.ext; exact SV.rel_mono γ s v hs
theorem Stp.relL {ρ : Env} {β β' : Bet} {lk : List Nat} {w w' : World} (h : Stp β lk w β' w') {s : List SV} {v : List Value} (hs : relL ρ β s v) : relL ρ β' s v := by
  obtain ⟨γ, rfl, _⟩ := h.ext; exact relL_mono γ s v hs
/-- all lie apart, none may be read only: what 'Below' wants -/
theorem Stp.below {β β' : Bet} {lk : List Nat} {w w' : World} (h : Stp β lk w β' w') (hro : ∀ e ∈ β, e.ro = true) : RowKit.Below w.heap.size w w' :=
  ⟨h.os, h.tape, h.output, h.size, fun k hk => h.keep k hk fun e he hr => by rw [hro e he] at hr; cases hr⟩
/-- drawing changes nothing -/
theorem Stp.drew (β : Bet) (lk : List Nat) (w : World) (n : Nat) : Stp β lk w β { w with drawn := n } :=
  ⟨⟨[], by simp, by simp⟩, rfl, rfl, rfl, Nat.le_refl _, fun _ _ _ => rfl, fun _ _ _ _ => rfl⟩
theorem objRel_heap {ρ : Env} {β : Bet} {e : Blk} {w w' : World} {o : SObj} (h : objRel ρ β e w o) (hw : w'.heap[e.blk]? = w.heap[e.blk]?) : objRel ρ β e w' o := by
  cases o with
  | cells wr cs => simpa only [objRel, hw] using h
  | arr A => simpa only [objRel, hw] using h
  | buf el sz cs => simpa only [objRel, hw] using h
  | mp k es => simpa only [objRel, hw] using h
  | mq ks vs => simpa only [objRel, hw] using h
  | glob g cs => simpa only [objRel, hw] using h
  | pre cs => simpa only [objRel, hw] using h
  | rop el cs r o len => simpa only [objRel, hw] using h
  | it mid n seen last => simpa only [objRel, hw] using h
theorem MemO.same {ρ : Env} {β : Bet} {m : Mem} {w w' : World} (h : MemO ρ β m w) (hs : Same β m w w') : MemO ρ β m w' :=
  ⟨fun id o ho => let ⟨e, he, r⟩ := h.obj id o ho; ⟨e, he, objRel_heap r (hs id o e ho he)⟩, h.apart⟩
theorem MemRel.drew {ρ : Env} {β : Bet} {m : Mem} {w : World} (h : MemRel ρ β m w) (n : Nat) : MemRel ρ β m { w with drawn := n } :=
  ⟨h.nx, fun id o ho => let ⟨e, he, r⟩ := h.obj id o ho; ⟨e, he, objRel_heap r rfl⟩, h.lt, h.apart, h.dom⟩
theorem objRel_mono {ρ : Env} {β : Bet} (γ : Bet) {e : Blk} {w : World} {o : SObj} (h : objRel ρ β e w o) : objRel ρ (β ++ γ) e w o := by
  cases o with
  | cells wr cs =>
    obtain ⟨h0, h1, h2, arr, el, fr, h3, h4, h5⟩ := h
    exact ⟨h0, h1, h2, arr, el, fr, h3, h4, relL_mono γ _ _ h5⟩
  | arr A =>
    obtain ⟨h0, h1, h2, h2', h2a, h2b, arr, el, fr, h3, h4, h5⟩ := h
    exact ⟨h0, h1, h2, h2', h2a, h2b, arr, el, fr, h3, h4, fun j hj f sv hs => let ⟨v, hv, r⟩ := h5 j hj f sv hs; ⟨v, hv, SV.rel_mono γ _ _ r⟩⟩
  | buf el sz cs =>
    obtain ⟨h0, h1, h2, arr, h3, h4, vs, rest, h5, h6⟩ := h
    exact ⟨h0, h1, h2, arr, h3, h4, vs, rest, h5, relL_mono γ _ _ h6⟩
  | mp k es =>
    obtain ⟨h0, h1, h2, arr, h3, h4⟩ := h
    exact ⟨h0, h1, h2, arr, h3, mpRel_imp' (fun p _ v r => SV.rel_mono γ _ _ r) h4⟩
  | mq ks vs =>
    obtain ⟨h0, h1, h2, arr, h3, h4, h5, h6⟩ := h
    exact ⟨h0, h1, h2, arr, h3, h4, h5, relL_mono γ _ _ h6⟩
  | glob g cs => exact h
  | rop el cs r o len =>
    obtain ⟨h0, h1, h2, arr, h3, h4, vs, bs, rest, h5, h6, h7⟩ := h
    exact ⟨h0, h1, h2, arr, h3, h4, vs, bs, rest, h5, relL_mono γ _ _ h6, h7⟩
  | pre cs =>
    obtain ⟨h0, h1, h2, arr, el, fr, h3, vs, rest, h5, h6⟩ := h
    exact ⟨h0, h1, h2, arr, el, fr, h3, vs, rest, h5, relL_mono γ _ _ h6⟩
  | it mid n seen last =>
    obtain ⟨h0, h1, h2, em, sa, h3, h4, h5, h6⟩ := h
    exact ⟨h0, h1, h2, em, sa, by rw [List.getElem?_append_left (List.getElem?_eq_some_iff.1 h3).1]; exact h3, h4, h5, h6⟩
def Mem.push (m : Mem) (o : SObj) : Mem := ⟨m.tr.put m.nx o, m.nx + 1⟩
/-- a new block of cells -/
theorem MemRel.alloc {ρ : Env} {β : Bet} {m : Mem} {w : World} (h : MemRel ρ β m w) {cs : List SV} {arr : Array Value} (el : TypeId) (hc : relL ρ β cs arr.toList) :
    MemRel ρ (β ++ [⟨w.heap.size, 0, 0, 0, false⟩]) (m.push (.cells true cs)) { w with heap := w.heap.push (.cells arr el) } := by
  have hold : ∀ k, k < w.heap.size → (w.heap.push (.cells arr el))[k]? = w.heap[k]? := fun k hk => by rw [Array.getElem?_push, if_neg (by omega)]
  refine ⟨by simp [Mem.push, h.nx], fun id o ho => ?_, fun e he => ?_, fun i j e e' hi hj hne hb => ?_, fun id hid => ?_⟩
  · simp only [Mem.push, Tr.get_put] at ho
    by_cases hid : id = m.nx
    · rw [if_pos hid] at ho
      cases ho
      refine ⟨⟨w.heap.size, 0, 0, 0, false⟩, by rw [hid, h.nx]; simp, fun _ => rfl, rfl, rfl, arr, el, (0, 0), by simp, fun _ => rfl, relL_mono _ _ _ hc⟩
    · rw [if_neg hid] at ho
      obtain ⟨e, he, r⟩ := h.obj id o ho
      have hlt := (List.getElem?_eq_some_iff.1 he).1
      refine ⟨e, by rw [List.getElem?_append_left hlt]; exact he, objRel_mono _ (objRel_heap r ?_)⟩
      exact hold _ (h.lt e (List.mem_of_getElem? he))
  · rcases List.mem_append.1 he with h1 | h1
    · have := h.lt e h1; simp; omega
    · simp at h1; subst h1; simp
  · by_cases hi' : i < β.length
    · rw [List.getElem?_append_left hi'] at hi
      by_cases hj' : j < β.length
      · rw [List.getElem?_append_left hj'] at hj
        exact h.apart i j e e' hi hj hne hb
      · have hx : e' = ⟨w.heap.size, 0, 0, 0, false⟩ := by
          have := List.mem_of_getElem? (l := [_]) (by rw [List.getElem?_append_right (by omega)] at hj; exact hj); simpa using this
        have := h.lt e (List.mem_of_getElem? hi)
        rw [hx] at hb; simp at hb; omega
    · by_cases hj' : j < β.length
      · rw [List.getElem?_append_left hj'] at hj
        have hx : e = ⟨w.heap.size, 0, 0, 0, false⟩ := by
          have := List.mem_of_getElem? (l := [_]) (by rw [List.getElem?_append_right (by omega)] at hi; exact hi); simpa using this
        have := h.lt e' (List.mem_of_getElem? hj)
        rw [hx] at hb; simp at hb; omega
      · have h1 := (List.getElem?_eq_some_iff.1 hi).1
        have h2 := (List.getElem?_eq_some_iff.1 hj).1
        simp at h1 h2; omega
  · simp only [Mem.push] at hid ⊢
    rw [Tr.get_put, if_neg (by omega)]
    exact h.dom id (by omega)
theorem Stp.alloc {β : Bet} (lk : List Nat) {w : World} (hlt : ∀ e ∈ β, e.blk < w.heap.size) (o : Obj) (e : Blk) (he : e.blk = w.heap.size) : Stp β lk w (β ++ [e]) { w with heap := w.heap.push o } :=
  ⟨⟨[e], rfl, by simp [he]⟩, rfl, rfl, rfl, by simp, fun k hk _ => by simp only; rw [Array.getElem?_push, if_neg (by omega)], fun id _ e' he' => by
    have := hlt e' (List.mem_of_getElem? he')
    simp only
    rw [Array.getElem?_push, if_neg (by omega)]⟩
end Go.SX

namespace Go.SX
open Go

theorem byAll_u8 {ρ : Env} {u : T} {pc : PC} {b : B} (h : byAll (.wrap .u8 u) pc b 256 = true) (hp : PcH ρ pc) : b.ev ρ = true := by
  have hw := wrap_inK .u8 (u.ev ρ)
  rw [inK_iff] at hw
  simp only [kLo, kHi] at hw
  have h1 : (T.wrap .u8 u).ev ρ = IntKind.u8.wrap (u.ev ρ) := rfl
  obtain ⟨k, hk⟩ : ∃ k : Nat, IntKind.u8.wrap (u.ev ρ) = k := ⟨(IntKind.u8.wrap (u.ev ρ)).toNat, by omega⟩
  exact byAll_ok hp h k (by omega) (by rw [h1, hk])
/-- a table of four bits a byte, or of eight -/
def tab4 (N : Nat) (a : T) : T := .bin .rem (.wrap .u8 (.bin (.shr 2048) (.lit (.ofNat N)) (.bin .mul a (.lit 8)))) (.lit 16)
def tab8 (N : Nat) (a : T) : T := .wrap .u8 (.bin (.shr 2048) (.lit (.ofNat N)) (.bin .mul a (.lit 8)))
def inM (M : Nat) (a : T) : B := .eqI (.bin .rem (.wrap .u8 (.bin (.shr 256) (.lit (.ofNat M)) a)) (.lit 2)) (.lit 1)
theorem inM_at {ρ : Env} {M k : Nat} {a : T} (ha : a.ev ρ = (k : Int)) (hk : k < 256) : (inM M a).ev ρ = M.testBit k := by
  have h1 : (Int.ofNat M).fdiv (2 ^ (min ((k : Int)).toNat 256)) = ((M / 2 ^ k : Nat) : Int) := by
    rw [Int.toNat_natCast, Nat.min_eq_left (by omega), Int.fdiv_eq_ediv_of_nonneg _ (Int.le_of_lt (Int.pow_pos (by decide)))]
    simp
  have h2 : IntKind.u8.wrap ((M / 2 ^ k : Nat) : Int) = ((M / 2 ^ k % 256 : Nat) : Int) := by
    rw [wrap_eq]
    simp only [kLo, kHi]
    omega
  simp only [inM, B.ev, T.ev, TOp.ev, ha, h1, h2]
  rw [Nat.testBit_eq_decide_div_mod_eq, Int.tmod_eq_emod_of_nonneg (by omega)]
  clear h1 h2
  generalize M / 2 ^ k = q
  by_cases h : q % 2 = 1
  · have e : ((q % 256 : Nat) : Int) % 2 = 1 := by omega
    rw [e]; simp [h]
  · have e : ((q % 256 : Nat) : Int) % 2 = 0 := by omega
    rw [e]; simp [h]
/-- a set that a byte is known to be in, or not to be in -/
def candM (a : T) : PC → Option (Nat × Bool)
  | [] => none
  | (.eqI (.bin .rem (.wrap .u8 (.bin (.shr 256) (.lit (.ofNat M)) x)) (.lit (.ofNat 2))) (.lit (.ofNat 1)), v) :: r => bif T.beq x a then some (M, v) else candM a r
  | _ :: r => candM a r
def bitsN (M : Nat) (v : Bool) : Nat → List Nat
  | 0 => []
  | n + 1 => bif M.testBit n == v then n :: bitsN M v n else bitsN M v n
theorem bitsN_mem {M k : Nat} {v : Bool} (hk : M.testBit k = v) : ∀ {n : Nat}, k < n → k ∈ bitsN M v n
  | 0, h => by omega
  | n + 1, h => by
    simp only [bitsN]
    by_cases e : k = n
    · subst e; rw [hk]; simp
    · have := bitsN_mem hk (n := n) (by omega)
      cases M.testBit n == v
      · exact this
      · exact .tail _ this
/-- the values that a byte may have -/
def aliveN (a : T) (pc : PC) : Nat → List Nat
  | 0 => []
  | n + 1 => bif byFalse a (.ofNat n) pc then aliveN a pc n else n :: aliveN a pc n
theorem aliveN_mem {a : T} {pc : PC} {k : Nat} (hk : byFalse a (.ofNat k) pc = false) : ∀ {n : Nat}, k < n → k ∈ aliveN a pc n
  | 0, h => by omega
  | n + 1, h => by
    simp only [aliveN]
    by_cases e : k = n
    · subst e; rw [hk]; exact .head _
    · have := aliveN_mem (a := a) (pc := pc) hk (n := n) (by omega)
      cases byFalse a (.ofNat n) pc
      · exact .tail _ this
      · exact this
theorem candM_ok {ρ : Env} {a : T} {k : Nat} (ha : a.ev ρ = (k : Int)) (hk : k < 256) : ∀ {pc : PC} {M : Nat} {v : Bool}, PcH ρ pc → candM a pc = some (M, v) → M.testBit k = v := by
  intro pc
  induction pc with
  | nil => intro M v _ h; cases h
  | cons p r ih =>
    intro M v hp h
    unfold candM at h
    split at h
    · rename_i he; cases he
    · rename_i M' x v' r' he
      cases he
      cases hb : T.beq x a
      · rw [hb] at h; exact ih hp.tail h
      · rw [hb] at h
        cases h
        have hx := T.beq_eq hb
        subst hx
        rw [← inM_at (M := M) ha hk]
        exact hp.head
    · rename_i he
      cases he
      exact ih hp.tail h
def aliveL (a : T) (F : PC) : List Nat := match candM a F with
  | some (M, v) => (bitsN M v 256).filter fun n => !(byFalse a (.ofNat n) F)
  | none => aliveN a F 256
theorem aliveL_mem {ρ : Env} {a : T} {F : PC} (hp : PcH ρ F) {k : Nat} (ha : a.ev ρ = (k : Int)) (hk : k < 256) : k ∈ aliveL a F := by
  have hf : byFalse a (.ofNat k) F = false := by
    cases hf : byFalse a (.ofNat k) F
    · rfl
    · exact (byFalse_ok ha hf hp).elim
  unfold aliveL
  split
  · rename_i M v hc
    exact List.mem_filter.2 ⟨bitsN_mem (candM_ok ha hk hp hc) hk, by rw [hf]; rfl⟩
  · exact aliveN_mem hf hk
def allOn (a : T) (b : B) : List Nat → Bool
  | [] => true
  | n :: l => (match byB a (.ofNat n) b with | some v => v | none => false) && allOn a b l
theorem allOn_ok {ρ : Env} {a : T} {b : B} {k : Nat} (ha : a.ev ρ = (k : Int)) : ∀ {l : List Nat}, allOn a b l = true → k ∈ l → b.ev ρ = true
  | n :: l, h, hm => by
    simp only [allOn, Bool.and_eq_true] at h
    rw [List.mem_cons] at hm
    rcases hm with rfl | hm
    · have h := h.1
      split at h
      · rename_i v hv; rw [byB_ok ha hv]; exact h
      · cases h
    · exact allOn_ok ha h.2 hm
theorem allOn_u8 {ρ : Env} {u : T} {pc : PC} {b : B} (h : allOn (.wrap .u8 u) b (aliveL (.wrap .u8 u) pc) = true) (hp : PcH ρ pc) : b.ev ρ = true := by
  have hw := wrap_inK .u8 (u.ev ρ)
  rw [inK_iff] at hw
  simp only [kLo, kHi] at hw
  have h1 : (T.wrap .u8 u).ev ρ = IntKind.u8.wrap (u.ev ρ) := rfl
  obtain ⟨k, hk⟩ : ∃ k : Nat, IntKind.u8.wrap (u.ev ρ) = k := ⟨(IntKind.u8.wrap (u.ev ρ)).toNat, by omega⟩
  have ha : (T.wrap .u8 u).ev ρ = (k : Int) := by rw [h1, hk]
  exact allOn_ok ha h (aliveL_mem hp ha (by omega))
def tabN (a : T) (t : T) : List Nat → Option (Nat × Nat)
  | [] => some (0, 0)
  | n :: l => (match tabN a t l with
    | some (N, mx) => (match byT a (.ofNat n) t with
      | some (.ofNat v) => bif Nat.blt v 256 then some (N + v * 2 ^ (8 * n), Nat.max mx v) else none
      | _ => none)
    | none => none)
def maskN (a : T) (b : B) : Nat → Option Nat
  | 0 => some 0
  | n + 1 => (match maskN a b n with
    | some M => (match byB a (.ofNat n) b with
      | some true => some (M + 2 ^ n)
      | some false => some M
      | none => none)
    | none => none)
def tryT (u : T) (L : List Nat) (t c : T) : Option T := bif allOn (.wrap .u8 u) (.eqI t c) L then some c else none
theorem tryT_ok {ρ : Env} {u : T} {F : PC} {t c r : T} (hp : PcH ρ F) (h : tryT u (aliveL (.wrap .u8 u) F) t c = some r) : r.ev ρ = t.ev ρ := by
  unfold tryT at h
  cases hb : allOn (.wrap .u8 u) (.eqI t c) (aliveL (.wrap .u8 u) F)
  · rw [hb] at h; cases h
  · rw [hb] at h
    have h : c = r := by simpa only [cond_true, Option.some.injEq] using h
    subst h
    have := allOn_u8 hb hp
    rw [B.ev, beq_iff_eq] at this
    exact this.symm
def canonL (u : T) (L : List Nat) (t : T) : Option T := match tryT u L t (.wrap .u8 u) with
  | some r => some r
  | none => (match tabN (.wrap .u8 u) t L with
    | some (N, mx) => tryT u L t (bif Nat.blt mx 16 then tab4 N (.wrap .u8 u) else tab8 N (.wrap .u8 u))
    | none => none)
/-- a number of one byte, as a table -/
def canonO1 (pc : PC) (t : T) : Option T := match findT t with
  | some (.wrap .u8 u) => (match byT (.wrap .u8 u) 48 t with
    | some _ => canonL u (aliveL (.wrap .u8 u) (onByte (.wrap .u8 u) pc)) t
    | none => none)
  | _ => none
theorem canonO1_ok {ρ : Env} {pc : PC} (hp : PcH ρ pc) {t r : T} (h : canonO1 pc t = some r) : r.ev ρ = t.ev ρ := by
  unfold canonO1 at h
  split at h
  · split at h
    · unfold canonL at h
      split at h
      · rename_i r' hr
        cases h
        exact tryT_ok (onByte_ok hp) hr
      · split at h
        · exact tryT_ok (onByte_ok hp) h
        · cases h
    · cases h
  · cases h
def isIteT : T → Bool | .ite _ _ _ => true | _ => false
def canonT (pc : PC) (t : T) : T := bif isIteT t then (canonO1 pc t).getD t else t
theorem canonT_ev {ρ : Env} {pc : PC} (hp : PcH ρ pc) (t : T) : (canonT pc t).ev ρ = t.ev ρ := by
  unfold canonT
  cases isIteT t
  · rfl
  · simp only [cond_true]
    cases h : canonO1 pc t with
    | none => rfl
    | some r => exact canonO1_ok hp h
def sizeB : Nat → B → Nat
  | 0, _ => 1
  | n + 1, b => (match b with
    | .not x => sizeB n x + 1
    | .and x y => sizeB n x + sizeB n y
    | .ite c x y => sizeB n c + sizeB n x + sizeB n y
    | .eqB x y => sizeB n x + sizeB n y
    | .eqI (.ite _ _ _) _ => 4
    | .eqI _ (.ite _ _ _) => 4
    | .ltI (.ite _ _ _) _ => 4
    | .ltI _ (.ite _ _ _) => 4
    | _ => 1)
/-- a truth of one byte, if it is great, as a set -/
def canonB (b : B) : B := bif Nat.blt (sizeB 40 b) 4 then b else (match findB b with
  | some (.wrap .u8 u) => (match maskN (.wrap .u8 u) b 256 with
    | some M => bif byAll (.wrap .u8 u) [] (.eqB b (inM M (.wrap .u8 u))) 256 then inM M (.wrap .u8 u) else b
    | none => b)
  | _ => b)
theorem canonB_ev (ρ : Env) (b : B) : (canonB b).ev ρ = b.ev ρ := by
  unfold canonB
  cases Nat.blt (sizeB 40 b) 4
  · simp only [cond_false]
    split
    · rename_i u _
      split
      · rename_i M _
        cases h : byAll (.wrap .u8 u) [] (.eqB b (inM M (.wrap .u8 u))) 256
        · rfl
        · have := byAll_u8 h (PcH.nil ρ)
          rw [B.ev, beq_iff_eq] at this
          exact this.symm
      · rfl
    · rfl
  · rfl
def canonPc : PC → PC
  | [] => []
  | (b, v) :: r => (canonB b, v) :: canonPc r
theorem canonPc_iff {ρ : Env} : ∀ {pc : PC}, PcH ρ (canonPc pc) ↔ PcH ρ pc
  | [] => Iff.rfl
  | (b, v) :: r => by
    constructor
    · intro h
      refine PcH.cons ?_ (canonPc_iff.1 h.tail)
      rw [← canonB_ev]; exact h.head
    · intro h
      refine PcH.cons ?_ (canonPc_iff.2 h.tail)
      rw [canonB_ev]; exact h.head
/-- are all facts so, where the byte is n? -/
def allAt (a : T) (n : Int) : PC → Bool
  | [] => true
  | (b, v) :: r => (match byB a n b with | some u => u == v | none => false) && allAt a n r
/-- is each fact known, where the byte is n? -/
def allDec (a : T) (n : Int) : PC → Bool
  | [] => true
  | (b, _) :: r => (match byB a n b with | some _ => true | none => false) && allDec a n r
theorem allAt_iff {ρ : Env} {a : T} {n : Int} (ha : a.ev ρ = n) : ∀ {F : PC}, allDec a n F = true → (allAt a n F = true ↔ PcH ρ F)
  | [], _ => ⟨fun _ => PcH.nil ρ, fun _ => rfl⟩
  | (b, v) :: r, h => by
    simp only [allDec, Bool.and_eq_true] at h
    have ih := allAt_iff ha h.2
    simp only [allAt, Bool.and_eq_true]
    cases hb : byB a n b with
    | none => rw [hb] at h; simp at h
    | some u =>
      have hu := byB_ok ha hb
      constructor
      · rintro ⟨h1, h2⟩
        refine PcH.cons ?_ (ih.1 h2)
        rw [hu]; simpa using h1
      · intro hp
        refine ⟨?_, ih.2 hp.tail⟩
        have := hp.head
        rw [hu] at this
        simpa using this
def setOf (a : T) (F : PC) (v : Bool) : Nat → Nat
  | 0 => 0
  | n + 1 => bif allAt a (.ofNat n) F == v then setOf a F v n + 2 ^ n else setOf a F v n
/-- is that set the facts? -/
def isSet (a : T) (F : PC) (M : Nat) (v : Bool) : Nat → Bool
  | 0 => true
  | n + 1 => allDec a (.ofNat n) F && (allAt a (.ofNat n) F == (M.testBit n == v)) && isSet a F M v n
theorem isSet_at {a : T} {F : PC} {M : Nat} {v : Bool} : ∀ {n k : Nat}, isSet a F M v n = true → k < n → allDec a (.ofNat k) F = true ∧ allAt a (.ofNat k) F = (M.testBit k == v)
  | 0, k, _, h => by omega
  | n + 1, k, h, hk => by
    simp only [isSet, Bool.and_eq_true, beq_iff_eq] at h
    by_cases e : k = n
    · subst e; exact ⟨h.1.1, h.1.2⟩
    · exact isSet_at h.2 (by omega)
theorem isSet_iff {ρ : Env} {u : T} {F : PC} {M : Nat} {v : Bool} (h : isSet (.wrap .u8 u) F M v 256 = true) : PcH ρ F ↔ (inM M (.wrap .u8 u)).ev ρ = v := by
  have hw := wrap_inK .u8 (u.ev ρ)
  rw [inK_iff] at hw
  simp only [kLo, kHi] at hw
  have h1 : (T.wrap .u8 u).ev ρ = IntKind.u8.wrap (u.ev ρ) := rfl
  obtain ⟨k, hk⟩ : ∃ k : Nat, IntKind.u8.wrap (u.ev ρ) = k := ⟨(IntKind.u8.wrap (u.ev ρ)).toNat, by omega⟩
  have ha : (T.wrap .u8 u).ev ρ = (k : Int) := by rw [h1, hk]
  obtain ⟨d1, d2⟩ := isSet_at h (k := k) (by omega)
  have ha' : (T.wrap .u8 u).ev ρ = Int.ofNat k := ha
  rw [← allAt_iff ha' d1, inM_at ha (by omega), d2, beq_iff_eq]
def offByte (a : T) : PC → PC
  | [] => []
  | (b, v) :: r => (match byB a 0 b with | some _ => offByte a r | none => (b, v) :: offByte a r)
theorem onOff {ρ : Env} {a : T} : ∀ {pc : PC}, PcH ρ pc ↔ PcH ρ (onByte a pc) ∧ PcH ρ (offByte a pc)
  | [] => ⟨fun h => ⟨h, h⟩, fun h => h.1⟩
  | (b, v) :: r => by
    have ih := onOff (ρ := ρ) (a := a) (pc := r)
    simp only [onByte, offByte]
    cases byB a 0 b with
    | some _ =>
      constructor
      · intro h; exact ⟨PcH.cons h.head (ih.1 h.tail).1, (ih.1 h.tail).2⟩
      · rintro ⟨h1, h2⟩; exact PcH.cons h1.head (ih.2 ⟨h1.tail, h2⟩)
    | none =>
      constructor
      · intro h; exact ⟨(ih.1 h.tail).1, PcH.cons h.head (ih.1 h.tail).2⟩
      · rintro ⟨h1, h2⟩; exact PcH.cons h2.head (ih.2 ⟨h1, h2.tail⟩)
def compAs (u : T) (pc : PC) (M : Nat) (v : Bool) : PC := bif isSet (.wrap .u8 u) (onByte (.wrap .u8 u) pc) M v 256 then (inM M (.wrap .u8 u), v) :: offByte (.wrap .u8 u) pc else pc
theorem compAs_iff {ρ : Env} {u : T} {pc : PC} {M : Nat} {v : Bool} : PcH ρ (compAs u pc M v) ↔ PcH ρ pc := by
  unfold compAs
  cases h : isSet (.wrap .u8 u) (onByte (.wrap .u8 u) pc) M v 256
  · exact Iff.rfl
  · simp only [cond_true]
    rw [onOff (a := .wrap .u8 u) (pc := pc), isSet_iff h]
    constructor
    · intro hh; exact ⟨hh.head, hh.tail⟩
    · rintro ⟨h1, h2⟩; exact PcH.cons h1 h2
/-- many facts on the newest byte, as one -/
def compPc (pc : PC) : PC := match findPc pc with
  | some (.wrap .u8 u) => bif Nat.blt (onByte (.wrap .u8 u) pc).length 4 then pc else
    (let M := setOf (.wrap .u8 u) (onByte (.wrap .u8 u) pc) false 256
     let N := setOf (.wrap .u8 u) (onByte (.wrap .u8 u) pc) true 256
     bif Nat.blt M N then compAs u pc M false else compAs u pc N true)
  | _ => pc
theorem compPc_iff {ρ : Env} {pc : PC} : PcH ρ (compPc pc) ↔ PcH ρ pc := by
  unfold compPc
  split
  · rename_i u _
    cases Nat.blt (onByte (.wrap .u8 u) pc).length 4
    · simp only [cond_false]
      generalize setOf (.wrap .u8 u) (onByte (.wrap .u8 u) pc) false 256 = M
      generalize setOf (.wrap .u8 u) (onByte (.wrap .u8 u) pc) true 256 = N
      cases Nat.blt M N
      · exact compAs_iff
      · exact compAs_iff
    · exact Iff.rfl
  · exact Iff.rfl
def canonV (pc : PC) (v : SV) : SV := match v with
  | .int k t => .int k (canonT pc t)
  | v => v
theorem canonV_rel {ρ : Env} {β : Bet} {pc : PC} (hp : PcH ρ pc) {s : SV} {v : Value} (h : s.rel ρ β v) : (canonV pc s).rel ρ β v := by
  unfold canonV
  split
  · obtain ⟨h1, h2⟩ := h
    exact ⟨by rw [canonT_ev hp]; exact h1, by rw [canonT_ev hp]; exact h2⟩
  · exact h
/-- what needs no table -/
def plainB : B → Bool
  | .eqI (.wrap .u8 _) (.lit _) => true
  | .ltI (.wrap .u8 _) (.lit _) => true
  | .ltI (.lit _) (.wrap .u8 _) => true
  | _ => false
def allPlain (F : PC) : Bool := F.all fun x => plainB x.1
def quickB (pc : PC) (b : B) : Bool := plainB b && (match findB b with | some a => allPlain (onByte a pc) | none => true)
/-- decided by all values of a byte -/
def decA (pc : PC) (b : B) : Option Bool := match findB b with
  | some (.wrap .u8 u) => (match byB (.wrap .u8 u) 48 b with
    | some _ => (let L := aliveL (.wrap .u8 u) (onByte (.wrap .u8 u) pc)
      bif allOn (.wrap .u8 u) b L then some true else bif allOn (.wrap .u8 u) (.not b) L then some false else none)
    | none => none)
  | _ => none
theorem decA_ok {ρ : Env} {pc : PC} (hp : PcH ρ pc) {b : B} {v : Bool} (h : decA pc b = some v) : b.ev ρ = v := by
  unfold decA at h
  split at h
  · rename_i u _
    split at h
    · simp only at h
      cases h1 : allOn (.wrap .u8 u) b (aliveL (.wrap .u8 u) (onByte (.wrap .u8 u) pc))
      · rw [h1] at h
        simp only [cond_false] at h
        cases h2 : allOn (.wrap .u8 u) (.not b) (aliveL (.wrap .u8 u) (onByte (.wrap .u8 u) pc))
        · rw [h2] at h; cases h
        · rw [h2] at h
          cases h
          have := allOn_u8 h2 (onByte_ok hp)
          simpa [B.ev] using this
      · rw [h1] at h
        cases h
        exact allOn_u8 h1 (onByte_ok hp)
    · cases h
  · cases h
def decY (pc : PC) (b : B) : B := bif quickB pc b then b else (match decA pc b with | some v => .lit v | none => canonB b)
theorem decY_ev {ρ : Env} {pc : PC} (hp : PcH ρ pc) (b : B) : (decY pc b).ev ρ = b.ev ρ := by
  unfold decY
  cases quickB pc b
  case true => rfl
  simp only [cond_false]
  split
  · rename_i v h; rw [decA_ok hp h]; rfl
  · exact canonB_ev ρ b
/-- a way that can't be, by the newest byte's values -/
def deadY (pc : PC) : Bool := match findPc pc with
  | some (.wrap .u8 u) => (aliveL (.wrap .u8 u) (onByte (.wrap .u8 u) pc)).isEmpty
  | _ => false
theorem deadY_ok {ρ : Env} {pc : PC} (h : deadY pc = true) (hp : PcH ρ pc) : False := by
  unfold deadY at h
  split at h
  · rename_i u _
    have hw := wrap_inK .u8 (u.ev ρ)
    rw [inK_iff] at hw
    simp only [kLo, kHi] at hw
    have h1 : (T.wrap .u8 u).ev ρ = IntKind.u8.wrap (u.ev ρ) := rfl
    obtain ⟨k, hk⟩ : ∃ k : Nat, IntKind.u8.wrap (u.ev ρ) = k := ⟨(IntKind.u8.wrap (u.ev ρ)).toNat, by omega⟩
    have := aliveL_mem (onByte_ok (a := .wrap .u8 u) hp) (by rw [h1, hk]) (by omega : k < 256)
    rw [List.isEmpty_iff] at h
    rw [h] at this
    cases this
  · cases h
def simpY (on : Bool) (pc : PC) (b : B) : B := match simpB pc b with
  | .lit v => .lit v
  | b1 => bif on then decY pc b1 else b1
theorem simpY_ev {ρ : Env} {pc : PC} (hp : PcH ρ pc) (on : Bool) (b : B) : (simpY on pc b).ev ρ = b.ev ρ := by
  rw [← simpB_ev hp b]
  unfold simpY
  split
  · rename_i v h; rw [h]
  · cases on
    · rfl
    · exact decY_ev hp _
end Go.SX

namespace Go.SX
open Go

/-- a cell of one of two rows -/
def iteC (b : B) : SV → SV → Option SV
  | .bool x, .bool y => some (.bool (mkIteB b x y))
  | .int k x, .int l y => bif Nat.beq (kindNo k) (kindNo l) then some (.int k (mkIte b x y)) else none
  | _, _ => none
def iteCL (b : B) : List SV → List SV → Option (List SV)
  | [], [] => some []
  | x :: xs, y :: ys => (match iteC b x y, iteCL b xs ys with | some z, some zs => some (z :: zs) | _, _ => none)
  | _, _ => none
theorem iteC_rel {ρ : Env} {β : Bet} {b : B} {v : Value} : ∀ {x y z : SV}, iteC b x y = some z → (bif b.ev ρ then x.rel ρ β v else y.rel ρ β v) → z.rel ρ β v := by
  intro x y z h r
  unfold iteC at h
  split at h
  · cases h
    simp only [SV.rel, mkIteB_ev] at r ⊢
    cases hb : b.ev ρ <;> rw [hb] at r <;> exact r
  · rename_i k x l y
    cases hk : Nat.beq (kindNo k) (kindNo l)
    · rw [hk] at h; cases h
    · rw [hk] at h
      cases h
      have := kindNo_inj hk
      subst this
      simp only [SV.rel, mkIte_ev] at r ⊢
      cases hb : b.ev ρ <;> rw [hb] at r <;> exact r
  · cases h
theorem iteCL_get {b : B} : ∀ {xs ys zs : List SV}, iteCL b xs ys = some zs → ∀ {f : Nat} {z : SV}, zs[f]? = some z → ∃ x y, xs[f]? = some x ∧ ys[f]? = some y ∧ iteC b x y = some z
  | [], [], zs, h, f, z, hz => by cases h; simp at hz
  | x :: xs, y :: ys, zs, h, f, z, hz => by
    simp only [iteCL] at h
    split at h
    · rename_i a as h1 h2
      cases h
      cases f with
      | zero => simp at hz; subst hz; exact ⟨x, y, rfl, rfl, h1⟩
      | succ f => simp at hz; simpa using iteCL_get h2 hz
    · cases h
  | [], _ :: _, _, h, _, _, _ => by simp [iteCL] at h
  | _ :: _, [], _, h, _, _, _ => by simp [iteCL] at h
/-- bytes of a row, one by one -/
def ropTail (r o : Nat) : Nat → List SV
  | 0 => []
  | n + 1 => mkCell r (.lit (.ofNat o)) 0 (.i .u8) :: ropTail r (o + 1) n
theorem ropTail_get {r : Nat} : ∀ {n o f : Nat} {s : SV}, (ropTail r o n)[f]? = some s → f < n ∧ s = .int .u8 (.cell r (.lit ((o + f : Nat) : Int)) 0)
  | 0, o, f, s, h => by simp [ropTail] at h
  | n + 1, o, 0, s, h => by simp [ropTail, mkCell] at h; exact ⟨by omega, by rw [← h]; rfl⟩
  | n + 1, o, f + 1, s, h => by
    simp only [ropTail, List.getElem?_cons_succ] at h
    obtain ⟨h1, h2⟩ := ropTail_get h
    exact ⟨by omega, by rw [h2, show o + 1 + f = o + (f + 1) by omega]⟩
/-- a lower bound, up to 64 -/
def loN (b : Bd) : Nat := match b.1 with | some (.ofNat n) => bif Nat.ble n 64 then n else 64 | _ => 0
theorem loN_ok {b : Bd} {x : Int} (h : b.ok x) (h0 : 0 ≤ x) : (loN b : Int) ≤ x := by
  unfold loN
  split
  · rename_i n hn
    have := h.1 _ hn
    simp only [Int.ofNat_eq_natCast] at this
    cases hb : Nat.ble n 64
    · simp only [cond_false]
      have : ¬ n ≤ 64 := fun hh => by rw [Nat.ble_eq_true_of_le hh] at hb; cases hb
      omega
    · simpa using this
  · exact h0
def plainA (A : SArr) : Bool := Nat.beq A.stride 1 && (match A.ks with | [.i .u8] => true | _ => false) && (match A.row with | none => true | _ => false) && (match A.gen with | [] => true | _ => false)
theorem plainA_cell {ρ : Env} {β : Bet} {e : Blk} {w : World} {A : SArr} (hA : plainA A = true) (h : objRel ρ β e w (.arr A)) : e.stride = 1 ∧ A.len.ev ρ = e.cnt ∧ ∃ arr el fr, w.heap[e.blk]? = some (.cells arr el fr) ∧
    ∀ j, j < e.cnt → arr[e.base + j]? = some (.int .u8 (ρ.c A.r (j : Int) 0)) ∧ inK .u8 (ρ.c A.r (j : Int) 0) = true := by
  obtain ⟨_, h1, _, _, h4, _, arr, el, fr, hh, _, hc⟩ := h
  obtain ⟨wr, r, stride, ks, len, row, gk, gen⟩ := A
  simp only [plainA, Bool.and_eq_true] at hA
  obtain ⟨⟨⟨a1, a2⟩, a3⟩, a4⟩ := hA
  have a1 := Nat.eq_of_beq_eq_true a1
  split at a2
  · split at a3
    · split at a4
      · refine ⟨by rw [h1]; exact a1, h4, arr, el, fr, hh, fun j hj => ?_⟩
        obtain ⟨v, hv, hr⟩ := hc j hj 0 (.int .u8 (.cell r (.lit (j : Int)) 0)) rfl
        rw [show e.stride = 1 from h1.trans a1] at hv
        rw [show e.base + j = e.base + j * 1 + 0 by omega, hv]
        exact ⟨by rw [hr.1]; rfl, hr.2⟩
      · cases a4
    · cases a3
  · cases a2
/-- the same, small ones asked one by one -/
def loT (pc : PC) (len : T) : Nat := let a := loN (rng pc len)
  bif Nat.ble 4 a then a else (match simpB pc (mkLtI len (.lit 4)) with
    | .lit false => 4
    | _ => (match simpB pc (mkLtI len (.lit 3)) with
      | .lit false => 3
      | _ => a))
theorem loT_ok {ρ : Env} {pc : PC} (hp : PcH ρ pc) {len : T} (h0 : 0 ≤ len.ev ρ) : (loT pc len : Int) ≤ len.ev ρ := by
  have h1 := loN_ok (rng_ok hp len) h0
  unfold loT
  simp only
  cases Nat.ble 4 (loN (rng pc len))
  · simp only [cond_false]
    split
    · rename_i e
      have := simpB_ev hp (mkLtI len (.lit 4))
      rw [e, mkLtI_ev] at this
      have := of_decide_eq_false this.symm
      simp only [T.ev] at this
      omega
    · split
      · rename_i e
        have := simpB_ev hp (mkLtI len (.lit 3))
        rw [e, mkLtI_ev] at this
        have := of_decide_eq_false this.symm
        simp only [T.ev] at this
        omega
      · exact h1
  · exact h1
/-- bytes of an array, one behind the other, as far as there surely are some -/
def rowsA (pc : PC) (A : SArr) (idx : T) : List SV := match idx with
  | .lit (.ofNat i) => bif plainA A then A.base (.lit (.ofNat i)) ++ ropTail A.r (i + 1) (loN (rng pc A.len) - (i + 1)) else A.base (.lit (.ofNat i))
  | idx => A.base idx
/-- the row of a block at an index, as far as it is known -/
def SObj.rowOf (pc : PC) (o : SObj) (idx : T) : Option (List SV) :=
  match o with
  | .cells _ cs => (match idx with | .lit (.ofNat 0) => some cs | _ => none)
  | .buf _ _ cs => (match idx with | .lit (.ofNat 0) => some cs | _ => none)
  | .mp _ _ => none
  | .mq _ _ => none
  | .pre cs => (match idx with | .lit (.ofNat 0) => some cs | _ => none)
  | .glob _ cs => (match idx with | .lit (.ofNat 0) => some (cs.map fun p => SV.int p.1 (.lit p.2)) | _ => none)
  | .it _ _ _ _ => none
  | .rop _ cs r o len => (match idx with | .lit (.ofNat 0) => some (cs ++ ropTail r o (loT pc len)) | _ => none)
  | .arr A => (match A.row with
    | none => some (rowsA pc A idx)
    | some (t, cs) => bif T.beq t idx then some cs else (match simpB pc (.eqI t idx) with | .lit false => some (A.base idx) | .lit true => some cs | b => iteCL b cs (A.base idx)))
theorem mkCell_rel {ρ : Env} {β : Bet} (r : Nat) {i j : T} (f : Nat) (k : CK) (h : i.ev ρ = j.ev ρ) {v : Value} (hv : (mkCell r i f k).rel ρ β v) : (mkCell r j f k).rel ρ β v := by
  cases k <;> simpa [mkCell, SV.rel, B.ev, T.ev, h] using hv
theorem baseRow_rel {ρ : Env} {β : Bet} (r : Nat) {i j : T} (h : i.ev ρ = j.ev ρ) : ∀ (ks : List CK) (n f : Nat) (s : SV), (baseRow r j ks n)[f]? = some s →
    ∃ s', (baseRow r i ks n)[f]? = some s' ∧ ∀ v, s'.rel ρ β v → s.rel ρ β v
  | [], _, f, s, hs => by simp [baseRow] at hs
  | k :: ks, n, 0, s, hs => by
    simp [baseRow] at hs; subst hs
    exact ⟨_, rfl, fun v hv => mkCell_rel r n k h hv⟩
  | k :: ks, n, f + 1, s, hs => by
    simp [baseRow] at hs
    simpa [baseRow] using baseRow_rel r h ks (n + 1) f s hs
theorem setAll_rel {ρ : Env} {β : Bet} {ss tt : List SV} (hl : ss.length = tt.length)
    (h : ∀ (f : Nat) (s : SV), tt[f]? = some s → ∃ s', ss[f]? = some s' ∧ ∀ v, s'.rel ρ β v → s.rel ρ β v) {gk : Nat} {a b : T} (hab : a.ev ρ = b.ev ρ) :
    ∀ (g : List (Nat × SV)), genOk gk g = true → (setAll (instG gk a g) ss).length = (setAll (instG gk b g) tt).length ∧
      ∀ (f : Nat) (s : SV), (setAll (instG gk b g) tt)[f]? = some s → ∃ s', (setAll (instG gk a g) ss)[f]? = some s' ∧ ∀ v, s'.rel ρ β v → s.rel ρ β v
  | [], _ => ⟨hl, h⟩
  | (k, x) :: g, hg => by
    simp only [genOk, Bool.and_eq_true] at hg
    obtain ⟨h1, h2⟩ := setAll_rel hl h hab g hg.2
    refine ⟨by simp [setAll, instG, h1], fun f s hs => ?_⟩
    simp only [setAll, instG, List.getElem?_set] at hs ⊢
    by_cases e : k = f
    · subst e
      simp only [if_true] at hs ⊢
      split at hs
      · rename_i hlt
        rw [if_pos (by omega)]
        simp only [Option.some.injEq] at hs
        subst hs
        exact ⟨_, rfl, fun v hv => by rw [instSV_rel hg.1] at hv ⊢; rw [← hab]; exact hv⟩
      · cases hs
    · rw [if_neg e] at hs ⊢
      exact h2 f s hs
theorem baseRow_length (r : Nat) (i : T) : ∀ (ks : List CK) (n : Nat), (baseRow r i ks n).length = ks.length
  | [], _ => rfl
  | _ :: ks, n => by simp [baseRow, baseRow_length r i ks (n + 1)]
theorem setAll_length : ∀ (g : List (Nat × SV)) (l : List SV), (setAll g l).length = l.length
  | [], _ => rfl
  | _ :: g, l => by simp [setAll, setAll_length g l]
theorem SArr.base_length (A : SArr) (i : T) : (A.base i).length = A.ks.length := by
  simp [SArr.base, setAll_length, baseRow_length]
theorem SArr.base_rel {ρ : Env} {β : Bet} (A : SArr) (hg : genOk A.gk A.gen = true) {i j : T} (h : i.ev ρ = j.ev ρ) {f : Nat} {s : SV} (hs : (A.base j)[f]? = some s) :
    ∃ s', (A.base i)[f]? = some s' ∧ ∀ v, s'.rel ρ β v → s.rel ρ β v :=
  (setAll_rel (by simp [baseRow_length]) (fun f s hs => baseRow_rel A.r h A.ks 0 f s hs) h A.gen hg).2 f s hs

theorem cell?_heap {w : World} {b k : Nat} {arr : Array Value} {el : TypeId} {fr : Nat × Nat} (h : w.heap[b]? = some (.cells arr el fr)) : w.cell? ⟨b, k, none⟩ = arr[k]? := by
  simp [World.cell?, h]
/-- what a row says of a cell is so -/
theorem rowOf_ok {ρ : Env} {β : Bet} {pc : PC} {o : SObj} {e : Blk} {w : World} {idx : T} {cs : List SV} (hp : PcH ρ pc) (ho : objRel ρ β e w o) (h0 : 0 ≤ idx.ev ρ)
    (hlt : e.stride ≠ 0 → idx.ev ρ < e.cnt) (h : o.rowOf pc idx = some cs) {f : Nat} {s : SV} (hs : cs[f]? = some s) :
    ∃ v, w.cell? ⟨e.blk, e.base + (idx.ev ρ).toNat * e.stride + f, none⟩ = some v ∧ s.rel ρ β v := by
  cases o with
  | cells wr cs' =>
    obtain ⟨_, hb, hst, arr, el, fr, hh, _, hr⟩ := ho
    simp only [SObj.rowOf] at h
    split at h
    · cases h
      obtain ⟨v, hv, r⟩ := relL_get hr hs
      refine ⟨v, ?_, r⟩
      rw [cell?_heap hh, hb, hst]
      simpa using hv
    · cases h
  | mp k es => simp [SObj.rowOf] at h
  | mq ks vs => simp [SObj.rowOf] at h
  | pre cs' =>
    obtain ⟨_, hb, hst, arr, el, fr, hh, vs, rest, hl, hr⟩ := ho
    simp only [SObj.rowOf] at h
    split at h
    · cases h
      obtain ⟨v, hv, r⟩ := relL_get hr hs
      refine ⟨v, ?_, r⟩
      rw [cell?_heap hh, hb, hst]
      have hlt := (List.getElem?_eq_some_iff.1 hv).1
      have : arr.toList[f]? = some v := by rw [hl, List.getElem?_append_left hlt]; exact hv
      simpa using this
    · cases h
  | glob g cs' =>
    obtain ⟨_, hb, hst, _, hin, arr, el, fr, hh, hr⟩ := ho
    simp only [SObj.rowOf] at h
    split at h
    · cases h
      rw [List.getElem?_map] at hs
      obtain ⟨p, hp', rfl⟩ := Option.map_eq_some_iff.1 hs
      refine ⟨.int p.1 p.2, ?_, rfl, hin p (List.mem_of_getElem? hp')⟩
      rw [cell?_heap hh, hb, hst]
      have : arr.toList[f]? = some (.int p.1 p.2) := by rw [hr, List.getElem?_map, hp']; rfl
      simpa using this
    · cases h
  | it mid n seen last => simp [SObj.rowOf] at h
  | rop el cs' r o len =>
    obtain ⟨_, hb, hst, arr, hh, _, vs, bs, rest, hl, hr, hlen, hbs⟩ := ho
    simp only [SObj.rowOf] at h
    split at h
    · cases h
      have hcl : vs.length = cs'.length := relL_length hr
      by_cases hf : f < cs'.length
      · rw [List.getElem?_append_left hf] at hs
        obtain ⟨v, hv, r⟩ := relL_get hr hs
        refine ⟨v, ?_, r⟩
        rw [cell?_heap hh, hb, hst]
        have : arr.toList[f]? = some v := by rw [hl, List.getElem?_append_left (by omega)]; exact hv
        simpa using this
      · rw [List.getElem?_append_right (by omega)] at hs
        obtain ⟨h1, h2⟩ := ropTail_get hs
        have h3 := loT_ok hp (len := len) (by rw [hlen]; exact Int.natCast_nonneg _)
        rw [hlen] at h3
        have h4 : f - cs'.length < bs.length := by omega
        obtain ⟨v, hv⟩ : ∃ v, bs[f - cs'.length]? = some v := ⟨_, List.getElem?_eq_getElem h4⟩
        refine ⟨v, ?_, by rw [h2]; exact hbs _ v hv⟩
        rw [cell?_heap hh, hb, hst]
        have : arr.toList[f]? = some v := by rw [hl, List.getElem?_append_right (by omega), hcl, List.getElem?_append_left h4]; exact hv
        simpa using this
    · cases h
  | buf el sz cs' =>
    obtain ⟨_, hb, hst, arr, hh, _, vs, rest, hl, hr⟩ := ho
    simp only [SObj.rowOf] at h
    split at h
    · cases h
      obtain ⟨v, hv, r⟩ := relL_get hr hs
      refine ⟨v, ?_, r⟩
      rw [cell?_heap hh, hb, hst]
      have hlt := (List.getElem?_eq_some_iff.1 hv).1
      have : arr.toList[f]? = some v := by rw [hl, List.getElem?_append_left hlt]; exact hv
      simpa using this
    · cases h
  | arr A =>
    obtain ⟨_, hst, hpos, hks, hcnt, hrow, arr, el, fr, hh, _, hr⟩ := ho
    have hlt' := hlt (by omega)
    have hj : ((idx.ev ρ).toNat : Int) = idx.ev ρ := Int.toNat_of_nonneg h0
    have hjc : (idx.ev ρ).toNat < e.cnt := by omega
    simp only [SObj.rowOf] at h
    have hbase : A.at ρ (idx.ev ρ).toNat = A.base (.lit (idx.ev ρ).toNat) → (A.base idx)[f]? = some s → ∃ v, w.cell? ⟨e.blk, e.base + (idx.ev ρ).toNat * e.stride + f, none⟩ = some v ∧ s.rel ρ β v := by
      intro hat hs'
      obtain ⟨s', hs'', himp⟩ := A.base_rel hrow.1 (ρ := ρ) (β := β) (i := .lit (idx.ev ρ).toNat) (j := idx) (by simp only [T.ev]; exact hj) hs'
      obtain ⟨v, hv, r⟩ := hr _ hjc f s' (by rw [hat]; exact hs'')
      exact ⟨v, by rw [cell?_heap hh]; exact hv, himp v r⟩
    cases hA : A.row with
    | none =>
      simp only [hA, Option.some.injEq] at h
      subst h
      have hb0 := hbase (by simp [SArr.at, hA])
      unfold rowsA at hs
      split at hs
      · rename_i i
        cases hpl : plainA A
        · rw [hpl] at hs; exact hb0 hs
        · rw [hpl] at hs
          simp only [cond_true] at hs
          have hlen1 : (A.base (.lit (.ofNat i))).length = 1 := by
            rw [SArr.base_length, hks]
            simp only [plainA, Bool.and_eq_true] at hpl
            exact Nat.eq_of_beq_eq_true hpl.1.1.1
          by_cases hf : f < (A.base (.lit (.ofNat i))).length
          · rw [List.getElem?_append_left hf] at hs; exact hb0 hs
          · rw [List.getElem?_append_right (by omega), hlen1] at hs
            obtain ⟨h1, h2⟩ := ropTail_get hs
            have h3 := loN_ok (rng_ok hp A.len) (by rw [hcnt]; exact Int.natCast_nonneg _)
            rw [hcnt] at h3
            obtain ⟨hst1, _, arr', el', fr', hh', hc'⟩ := plainA_cell (ρ := ρ) (β := β) (w := w) hpl ⟨‹_›, hst, hpos, hks, hcnt, hrow, arr, el, fr, hh, ‹_›, hr⟩
            obtain ⟨c1, c2⟩ := hc' (i + f) (by omega)
            refine ⟨_, ?_, by rw [h2]; exact ⟨rfl, by rw [show i + 1 + (f - 1) = i + f by omega]; exact c2⟩⟩
            rw [cell?_heap hh', hst1, show e.base + (T.ev ρ (.lit (.ofNat i))).toNat * 1 + f = e.base + (i + f) by simp [T.ev]; omega, c1]
            rw [show i + 1 + (f - 1) = i + f by omega]; rfl
      · exact hb0 hs
    | some p =>
      obtain ⟨t, cs'⟩ := p
      simp only [hA] at h
      cases hb : T.beq t idx
      · simp only [hb, cond_false] at h
        have hsb := simpB_ev hp (.eqI t idx)
        split at h
        · rename_i hsim
          cases h
          rw [hsim] at hsb
          simp only [B.ev] at hsb
          have hne : t.ev ρ ≠ idx.ev ρ := fun e => by rw [e] at hsb; simp at hsb
          exact hbase (by simp only [SArr.at, hA]; rw [if_neg (by omega)]) hs
        · rename_i hsim
          cases h
          rw [hsim] at hsb
          simp only [B.ev] at hsb
          have he : t.ev ρ = idx.ev ρ := by simpa using hsb.symm
          obtain ⟨v, hv, r⟩ := hr _ hjc f s (by simp only [SArr.at, hA]; rw [if_pos (by rw [he, hj])]; exact hs)
          exact ⟨v, by rw [cell?_heap hh]; exact hv, r⟩
        · generalize simpB pc (.eqI t idx) = b at h hsb
          obtain ⟨x, y, hx, hy, hz⟩ := iteCL_get h hs
          simp only [B.ev] at hsb
          cases hbv : b.ev ρ
          · rw [hbv] at hsb
            have hne : t.ev ρ ≠ idx.ev ρ := fun e => by rw [e] at hsb; simp at hsb
            obtain ⟨s', hs'', himp⟩ := A.base_rel hrow.1 (ρ := ρ) (β := β) (i := .lit (idx.ev ρ).toNat) (j := idx) (by simp only [T.ev]; exact hj) hy
            obtain ⟨v, hv, r⟩ := hr _ hjc f s' (by simp only [SArr.at, hA]; rw [if_neg (by omega)]; exact hs'')
            exact ⟨v, by rw [cell?_heap hh]; exact hv, iteC_rel hz (by rw [hbv]; exact himp v r)⟩
          · rw [hbv] at hsb
            have he : t.ev ρ = idx.ev ρ := by simpa using hsb.symm
            obtain ⟨v, hv, r⟩ := hr _ hjc f x (by simp only [SArr.at, hA]; rw [if_pos (by rw [he, hj])]; exact hx)
            exact ⟨v, by rw [cell?_heap hh]; exact hv, iteC_rel hz (by rw [hbv]; exact r)⟩
      · simp only [hb, cond_true, Option.some.injEq] at h
        subst h
        have ht := T.beq_eq hb
        obtain ⟨v, hv, r⟩ := hr _ hjc f s (by simp only [SArr.at, hA]; rw [if_pos (by rw [ht, hj])]; exact hs)
        exact ⟨v, by rw [cell?_heap hh]; exact hv, r⟩

/-- reading n cells from a place on -/
def Mem.read (pc : PC) (m : Mem) (id : Nat) (idx : T) (off n : Nat) : Option (List SV) :=
  match m.tr.get id with
  | some o => (match o.rowOf pc idx with
    | some cs => let l := (cs.drop off).take n; bif Nat.beq l.length n then some l else none
    | none => none)
  | none => none
theorem add_off (b o i : Nat) : (⟨b, o, none⟩ : Addr).add i = ⟨b, o + i, none⟩ := by unfold Addr.add; split <;> simp_all
theorem Mem.read_ok (P : Program) {ρ : Env} {β : Bet} {pc : PC} {m : Mem} {w : World} {id : Nat} {idx : T} {off n : Nat} {l : List SV} (hp : PcH ρ pc) (hm : MemO ρ β m w)
    {e : Blk} (he : β[id]? = some e) (h0 : 0 ≤ idx.ev ρ) (hlt : e.stride ≠ 0 → idx.ev ρ < e.cnt) (h : m.read pc id idx off n = some l) :
    ∃ vs, relL ρ β l vs ∧ vs.length = n ∧ (∀ w', Same β m w w' → ∀ (j : Nat) (v : Value), vs[j]? = some v → w'.cell? ⟨e.blk, e.base + (idx.ev ρ).toNat * e.stride + off + j, none⟩ = some v) ∧
      ∀ w', Same β m w w' → (loadCells ⟨e.blk, e.base + (idx.ev ρ).toNat * e.stride + off, none⟩ n).run P w' = .ok vs.toArray w' := by
  unfold Mem.read at h
  cases ho : m.tr.get id with
  | none => simp [ho] at h
  | some o =>
    simp only [ho] at h
    obtain ⟨e', he', hr⟩ := hm.obj id o ho
    rw [he] at he'; cases he'
    cases hrow : o.rowOf pc idx with
    | none => simp [hrow] at h
    | some cs =>
      simp only [hrow] at h
      cases hn : Nat.beq ((cs.drop off).take n).length n
      · simp only [hn, cond_false] at h; cases h
      · simp only [hn, cond_true, Option.some.injEq] at h
        subst h
        have hlen : ((cs.drop off).take n).length = n := Nat.eq_of_beq_eq_true hn
        have key : ∀ j : Nat, j < n → ∃ v, w.cell? ⟨e.blk, e.base + (idx.ev ρ).toNat * e.stride + off + j, none⟩ = some v ∧ ∃ s, ((cs.drop off).take n)[j]? = some s ∧ s.rel ρ β v := by
          intro j hj
          have hs : ((cs.drop off).take n)[j]? = some (((cs.drop off).take n)[j]'(by omega)) := List.getElem?_eq_getElem (by omega)
          obtain ⟨v, hv, r⟩ := rowOf_ok hp hr h0 hlt hrow (f := off + j) (s := ((cs.drop off).take n)[j]'(by omega)) (by
            rw [← hs, List.getElem?_take, if_pos hj, List.getElem?_drop])
          exact ⟨v, by rw [show e.base + (idx.ev ρ).toNat * e.stride + off + j = e.base + (idx.ev ρ).toNat * e.stride + (off + j) by omega]; exact hv, _, hs, r⟩
        let f : Nat → Value := fun j => if h : j < n then (key j h).choose else undef
        have hf : ∀ j (h : j < n), f j = (key j h).choose := fun j h => by simp [f, h]
        have hcell : ∀ w', Same β m w w' → ∀ k, w'.cell? ⟨e.blk, k, none⟩ = w.cell? ⟨e.blk, k, none⟩ := fun w' hs k => by
          simp only [World.cell?, hs id o e ho he]
        refine ⟨(List.range n).map f, relL_of_get (by simp [hlen]) fun i s hs => ?_, by simp, fun w' hw j v hv => ?_, fun w' hw => ?_⟩
        · have hi : i < n := by have := (List.getElem?_eq_some_iff.1 hs).1; omega
          obtain ⟨_, s', hs', r⟩ := (key i hi).choose_spec
          rw [hs] at hs'; cases hs'
          exact ⟨_, by simp [hi, hf i hi], r⟩
        · have hj : j < n := by have := (List.getElem?_eq_some_iff.1 hv).1; simpa using this
          rw [List.getElem?_map, List.getElem?_range hj] at hv
          simp only [Option.map_some, Option.some.injEq, hf j hj] at hv
          rw [← hv, hcell w' hw]; exact (key j hj).choose_spec.1
        · rw [run_loadCells w' _ n f fun j hj => by rw [add_off, hf j hj, hcell w' hw]; exact (key j hj).choose_spec.1]

/-- a value of one cell -/
def SV.one : SV → Bool
  | .agg _ | .tup _ => false
  | _ => true
theorem SV.one_ok {ρ : Env} {β : Bet} {s : SV} {v : Value} (h : s.one = true) (hr : s.rel ρ β v) : v.oneCell' = true := by
  cases s <;> simp only [SV.rel] at hr <;> first
    | (simp [SV.one] at h; done)
    | (obtain ⟨_, _, _, rfl, _⟩ := hr; rfl)
    | (subst hr; rfl)
    | (obtain ⟨rfl, h⟩ := hr; exact h)
    | (obtain ⟨_, _, _, _, rfl⟩ := hr; rfl)
    | (obtain ⟨rfl, _⟩ := hr; rfl)
    | (obtain ⟨_, _, _, _, _, _, _, _, _, rfl⟩ := hr; rfl)
    | (obtain ⟨_, _, rfl⟩ := hr; rfl)
    | (obtain ⟨_, rfl, _⟩ := hr; rfl)
theorem relL_one {ρ : Env} {β : Bet} : ∀ {ss : List SV} {l : List Value}, ss.all SV.one = true → relL ρ β ss l → ∀ v ∈ l, v.oneCell' = true
  | [], l, _, h, v, hv => by rw [show l = [] from h] at hv; cases hv
  | s :: ss, l, ha, h, v, hv => by
    obtain ⟨u, us, rfl, h1, h2⟩ := h
    simp at ha
    cases hv with
    | head => exact SV.one_ok ha.1 h1
    | tail _ hv => exact relL_one (by simpa using ha.2) h2 v hv
/-- cells of a row, written over -/
def writeL (cs : List SV) (off : Nat) (vs : List SV) : Option (List SV) :=
  bif Nat.ble (off + vs.length) cs.length then some (cs.take off ++ vs ++ cs.drop (off + vs.length)) else none
theorem writeL_length {cs : List SV} {off : Nat} {vs cs' : List SV} (h : writeL cs off vs = some cs') : cs'.length = cs.length ∧ off + vs.length ≤ cs.length := by
  unfold writeL at h
  cases hb : Nat.ble (off + vs.length) cs.length
  · simp [hb] at h
  · simp only [hb, cond_true, Option.some.injEq] at h
    have := Nat.le_of_ble_eq_true hb
    subst h
    exact ⟨by simp; omega, this⟩
theorem writeL_get {cs : List SV} {off : Nat} {vs cs' : List SV} (h : writeL cs off vs = some cs') (k : Nat) :
    cs'[k]? = if off ≤ k ∧ k < off + vs.length then vs[k - off]? else cs[k]? := by
  have hl := (writeL_length h).2
  unfold writeL at h
  cases hb : Nat.ble (off + vs.length) cs.length
  · simp [hb] at h
  · simp only [hb, cond_true, Option.some.injEq] at h
    subst h
    rw [List.append_assoc, List.getElem?_append, List.length_take, Nat.min_eq_left (by omega)]
    by_cases h1 : k < off
    · rw [if_pos h1, if_neg (by omega), List.getElem?_take, if_pos h1]
    · rw [if_neg h1, List.getElem?_append]
      by_cases h2 : k - off < vs.length
      · rw [if_pos h2, if_pos (by omega)]
      · rw [if_neg h2, if_neg (by omega), List.getElem?_drop]
        congr 1; omega
theorem spliced_get {α : Type} (arr : List α) (o : Nat) (vs : List α) (h : o + vs.length ≤ arr.length) (k : Nat) :
    (arr.take o ++ vs ++ arr.drop (o + vs.length))[k]? = if o ≤ k ∧ k < o + vs.length then vs[k - o]? else arr[k]? := by
  rw [List.append_assoc, List.getElem?_append, List.length_take, Nat.min_eq_left (by omega)]
  by_cases h1 : k < o
  · rw [if_pos h1, if_neg (by omega), List.getElem?_take, if_pos h1]
  · rw [if_neg h1, List.getElem?_append]
    by_cases h2 : k - o < vs.length
    · rw [if_pos h2, if_pos (by omega)]
    · rw [if_neg h2, if_neg (by omega), List.getElem?_drop]
      congr 1; omega
def memB (n : Nat) : List Nat → Bool
  | [] => false
  | a :: l => bif Nat.beq a n then true else memB n l
theorem memB_ok {n : Nat} : ∀ {l : List Nat}, memB n l = false → n ∉ l
  | [], _ => by simp
  | a :: l, h => by
    simp only [memB] at h
    cases hb : Nat.beq a n
    · rw [hb] at h
      simp only [List.mem_cons, not_or]
      exact ⟨(fun e => by rw [e] at hb; simp at hb), memB_ok h⟩
    · rw [hb] at h; cases h
def Mem.set (m : Mem) (id : Nat) (o : SObj) : Mem := ⟨m.tr.put id o, m.nx⟩
def Mem.store (lk : List Nat) (m : Mem) (id : Nat) (idx : T) (off : Nat) (vs : List SV) : Option Mem :=
  bif memB id lk then none else bif !(vs.all SV.one) then none else
  match m.tr.get id with
  | some (.cells true cs) => (match idx with
    | .lit (.ofNat 0) => (match writeL cs off vs with | some cs' => some (m.set id (.cells true cs')) | none => none)
    | _ => none)
  | some (.buf el sz cs) => (match idx with
    | .lit (.ofNat 0) => (match writeL cs off vs with | some cs' => some (m.set id (.buf el sz cs')) | none => none)
    | _ => none)
  | some (.arr A) => bif !A.wr then none else
    (match A.row with
    | none => (match writeL (A.base idx) off vs with | some cs' => some (m.set id (.arr { A with row := some (idx, cs') })) | none => none)
    | some (t, cs) => bif T.beq t idx then (match writeL cs off vs with | some cs' => some (m.set id (.arr { A with row := some (idx, cs') })) | none => none) else none)
  | _ => none
theorem heap_setRow (w : World) (g : Nat) (cs : Array Value) (k : Nat) (h : k ≠ g) : (w.setRow g cs).heap[k]? = w.heap[k]? := by
  simp only [World.setRow, Array.getElem?_modify]
  rw [if_neg (fun e => h e.symm)]
theorem Stp.setRow {β : Bet} {lk : List Nat} {w : World} {e : Blk} {id : Nat} (he : β[id]? = some e) (hro : e.ro = false) (hlk : id ∉ lk)
    (hap : ∀ (j : Nat) (e' : Blk), β[j]? = some e' → id ≠ j → e'.blk ≠ e.blk) (cs : Array Value) : Stp β lk w β (w.setRow e.blk cs) := by
  refine ⟨⟨[], by simp, by simp⟩, rfl, rfl, rfl, by simp, fun k _ hn => heap_setRow w _ cs k fun h => hn e (List.mem_of_getElem? he) hro h.symm, fun j hj e' he' => heap_setRow w _ cs _ ?_⟩
  exact hap j e' he' fun h => hlk (h ▸ hj)
theorem MemRel.apart' {ρ : Env} {β : Bet} {m : Mem} {w : World} (hm : MemRel ρ β m w) {id : Nat} {e : Blk} (he : β[id]? = some e) (hro : e.ro = false) (j : Nat) (e' : Blk)
    (he' : β[j]? = some e') (hne : id ≠ j) : e'.blk ≠ e.blk := fun h => by
  have := (hm.apart id j e e' he he' hne h.symm).1
  rw [hro] at this; cases this
theorem MemRel.set {ρ : Env} {β : Bet} {m : Mem} {w w' : World} (hm : MemRel ρ β m w) {id : Nat} {e : Blk} (he : β[id]? = some e) (hro : e.ro = false) (hsz : w'.heap.size = w.heap.size)
    (hw : ∀ k, k ≠ e.blk → w'.heap[k]? = w.heap[k]?) {o : SObj} (ho : objRel ρ β e w' o) : MemRel ρ β (m.set id o) w' := by
  refine ⟨hm.nx, fun j o' ho' => ?_, fun x hx => by rw [hsz]; exact hm.lt x hx, hm.apart, fun j hj => ?_⟩
  · simp only [Mem.set, Tr.get_put] at ho'
    by_cases hj : j = id
    · rw [if_pos hj] at ho'; cases ho'; exact ⟨e, hj ▸ he, ho⟩
    · rw [if_neg hj] at ho'
      obtain ⟨e', he', r⟩ := hm.obj j o' ho'
      exact ⟨e', he', objRel_heap r (hw _ (hm.apart' he hro j e' he' (Ne.symm hj)))⟩
  · simp only [Mem.set] at hj ⊢
    rw [Tr.get_put, if_neg (fun h => ?_)]
    · exact hm.dom j hj
    · have := (List.getElem?_eq_some_iff.1 he).1
      have := hm.nx
      omega
/-- an array with a row written -/
theorem arr_at_row {ρ : Env} {A : SArr} {idx : T} {cs' : List SV} (j : Nat) (h0 : 0 ≤ idx.ev ρ) :
    SArr.at { A with row := some (idx, cs') } ρ j = if (idx.ev ρ).toNat = j then cs' else A.base (.lit j) := by
  simp only [SArr.at]
  by_cases h : idx.ev ρ = (j : Int)
  · rw [if_pos h, if_pos (by omega)]
  · rw [if_neg h, if_neg (by omega)]; rfl
theorem Mem.store_ok (P : Program) {ρ : Env} {β : Bet} {lk : List Nat} {m m' : Mem} {w : World} {id : Nat} {idx : T} {off : Nat} {vs : List SV} {l : List Value}
    (hm : MemRel ρ β m w) {e : Blk} (he : β[id]? = some e) (h0 : 0 ≤ idx.ev ρ) (hlt : e.stride ≠ 0 → idx.ev ρ < e.cnt) (hv : relL ρ β vs l) (h : m.store lk id idx off vs = some m') :
    ∃ w', (storeCells ⟨e.blk, e.base + (idx.ev ρ).toNat * e.stride + off, none⟩ l 0).run P w = .ok () w' ∧ MemRel ρ β m' w' ∧ Stp β lk w β w' := by
  unfold Mem.store at h
  cases hlk : memB id lk
  case true => simp [hlk] at h
  cases hone : !(vs.all SV.one)
  case true => simp [hlk, hone] at h
  simp only [hlk, hone, cond_false] at h
  have hone' : vs.all SV.one = true := by simpa using hone
  have hll := relL_length hv
  have h1 := relL_one hone' hv
  cases ho : m.tr.get id with
  | none => simp [ho] at h
  | some o =>
    simp only [ho] at h
    obtain ⟨e', he', hr⟩ := hm.obj id o ho
    rw [he] at he'; cases he'
    cases o with
    | cells wr cs =>
      cases wr
      · simp at h
      · simp only at h
        obtain ⟨hro, hb, hst, arr, el, fr, hh, hfr, hrel⟩ := hr
        have hro := hro rfl
        split at h
        · split at h
          · rename_i cs' hw
            cases h
            have hlen := relL_length hrel
            obtain ⟨hl1, hl2⟩ := writeL_length hw
            rw [hfr hro] at hh
            have hrun := run_storeCells_at (P := P) e.blk (e.base + (Int.toNat (T.ev ρ (.lit (.ofNat 0)))) * e.stride + off) el l 0 arr w hh (by
              rw [hb, hst]; simp at hlen ⊢; omega) h1
            refine ⟨_, hrun, ?_, Stp.setRow he hro (memB_ok hlk) (hm.apart' he hro) _⟩
            refine hm.set he hro (by simp) (fun k hk => heap_setRow w _ _ k hk) ⟨fun _ => hro, hb, hst, _, el, (0, 0), setRow_heap w _ _ _ _ _ hh, fun _ => rfl, ?_⟩
            have ho : e.base + (Int.toNat (T.ev ρ (.lit (.ofNat 0)))) * e.stride + off + 0 = off := by rw [hb, hst]; simp
            rw [ho]
            refine relL_of_get (by simp at hlen ⊢; omega) fun k s hs => ?_
            rw [writeL_get hw k] at hs
            simp only []
            rw [spliced_get arr.toList off l (by simp at hlen ⊢; omega) k]
            rw [hll]
            split at hs
            · rename_i hc; rw [if_pos hc]; exact relL_get hv hs
            · rename_i hc; rw [if_neg hc]; exact relL_get hrel hs
          · cases h
        · cases h
    | mp k es => simp at h
    | mq ks vs => simp at h
    | glob g cs => simp at h
    | pre cs => simp at h
    | rop el cs r o len => simp at h
    | it mid n seen last => simp at h
    | buf el sz cs =>
      simp only at h
      obtain ⟨hro, hb, hst, arr, hh, hsz, us, rest, hl0, hrel⟩ := hr
      split at h
      · split at h
        · rename_i cs' hw
          cases h
          have hlen := relL_length hrel
          obtain ⟨hl1, hl2⟩ := writeL_length hw
          have hla : arr.size = us.length + rest.length := by have := congrArg List.length hl0; simpa using this
          have hrun := run_storeCells_at (P := P) e.blk (e.base + (Int.toNat (T.ev ρ (.lit (.ofNat 0)))) * e.stride + off) el l 0 arr w hh (by
            rw [hb, hst]; simp at hlen ⊢; omega) h1
          refine ⟨_, hrun, ?_, Stp.setRow he hro (memB_ok hlk) (hm.apart' he hro) _⟩
          have ho : e.base + (Int.toNat (T.ev ρ (.lit (.ofNat 0)))) * e.stride + off + 0 = off := by rw [hb, hst]; simp
          rw [ho]
          refine hm.set he hro (by simp) (fun k hk => heap_setRow w _ _ k hk) ⟨hro, hb, hst, _, setRow_heap w _ _ _ _ _ hh, ?_, us.take off ++ l ++ us.drop (off + l.length), rest, ?_, ?_⟩
          · simp; omega
          · simp only [hl0]
            have e1 : (us ++ rest).take off = us.take off := by rw [List.take_append_of_le_length (by omega)]
            have e2 : (us ++ rest).drop (off + l.length) = us.drop (off + l.length) ++ rest := by rw [List.drop_append_of_le_length (by omega)]
            rw [e1, e2]
            simp [List.append_assoc]
          · refine relL_of_get (by simp; omega) fun k s hs => ?_
            rw [writeL_get hw k] at hs
            rw [spliced_get us off l (by omega) k]
            rw [hll]
            split at hs
            · rename_i hc; rw [if_pos hc]; exact relL_get hv hs
            · rename_i hc; rw [if_neg hc]; exact relL_get hrel hs
        · cases h
      · cases h
    | arr A =>
      simp only at h
      cases hwr : A.wr
      · simp [hwr] at h
      · have hnw : (!A.wr) = false := by simp [hwr]
        rw [hnw, cond_false] at h
        obtain ⟨hro, hst, hpos, hks, hcnt, hrow, arr, el, fr, hh, hfr, hr⟩ := hr
        have hro := hro hwr
        have hlt' := hlt (by omega)
        have hj : ((idx.ev ρ).toNat : Int) = idx.ev ρ := Int.toNat_of_nonneg h0
        have hjc : (idx.ev ρ).toNat < e.cnt := by omega
        -- both cases: a row 'cs' of the right length, that is what row idx is
        have main : ∀ cs cs' : List SV, cs.length = A.stride → (∀ (f : Nat) (s : SV), cs[f]? = some s → ∃ v, arr[e.base + (idx.ev ρ).toNat * e.stride + f]? = some v ∧ s.rel ρ β v) →
            (∀ j, (idx.ev ρ).toNat ≠ j → A.at ρ j = A.base (.lit j)) → writeL cs off vs = some cs' →
            ∃ w', (storeCells ⟨e.blk, e.base + (idx.ev ρ).toNat * e.stride + off, none⟩ l 0).run P w = .ok () w' ∧ MemRel ρ β (m.set id (.arr { A with row := some (idx, cs') })) w' ∧ Stp β lk w β w' := by
          intro cs cs' hcl hcs hoth hw
          obtain ⟨hl1, hl2⟩ := writeL_length hw
          rw [hfr hro] at hh
          have hsz : e.base + (idx.ev ρ).toNat * e.stride + A.stride ≤ arr.size := by
            obtain ⟨v, hv, _⟩ := hcs (A.stride - 1) (cs[A.stride - 1]'(by omega)) (List.getElem?_eq_getElem (by omega))
            have := (Array.getElem?_eq_some_iff.1 hv).1
            omega
          have hrun := run_storeCells_at (P := P) e.blk (e.base + (idx.ev ρ).toNat * e.stride + off) el l 0 arr w hh (by omega) h1
          refine ⟨_, hrun, ?_, Stp.setRow he hro (memB_ok hlk) (hm.apart' he hro) _⟩
          refine hm.set he hro (by simp) (fun k hk => heap_setRow w _ _ k hk) ⟨fun _ => hro, hst, hpos, hks, hcnt, ⟨hrow.1, ?_⟩, _, el, (0, 0), setRow_heap w _ _ _ _ _ hh, fun _ => rfl, ?_⟩
          · intro t c hc; simp at hc; rw [← hc.2, hl1, hcl]
          · intro j hjl f s hs
            rw [arr_at_row j h0] at hs
            have harr : ∀ k : Nat, (List.take (e.base + (idx.ev ρ).toNat * e.stride + off + 0) arr.toList ++ l ++ List.drop (e.base + (idx.ev ρ).toNat * e.stride + off + 0 + l.length) arr.toList).toArray[k]? =
                if e.base + (idx.ev ρ).toNat * e.stride + off ≤ k ∧ k < e.base + (idx.ev ρ).toNat * e.stride + off + l.length then l[k - (e.base + (idx.ev ρ).toNat * e.stride + off)]? else arr[k]? := by
              intro k
              have := spliced_get arr.toList (e.base + (idx.ev ρ).toNat * e.stride + off) l (by simp; omega) k
              simpa using this
            rw [harr]
            by_cases hje : (idx.ev ρ).toNat = j
            · rw [if_pos hje] at hs
              have hf : f < A.stride := by have := (List.getElem?_eq_some_iff.1 hs).1; omega
              rw [writeL_get hw f] at hs
              rw [← hje]
              split at hs
              · rename_i hc
                rw [if_pos (by omega)]
                have : e.base + (idx.ev ρ).toNat * e.stride + f - (e.base + (idx.ev ρ).toNat * e.stride + off) = f - off := by omega
                rw [this]; exact relL_get hv hs
              · rename_i hc
                rw [if_neg (by omega)]
                exact hcs f s hs
            · rw [if_neg hje] at hs
              have hf : f < A.stride := by have := (List.getElem?_eq_some_iff.1 hs).1; rw [SArr.base_length] at this; omega
              have hno : ¬ (e.base + (idx.ev ρ).toNat * e.stride + off ≤ e.base + j * e.stride + f ∧ e.base + j * e.stride + f < e.base + (idx.ev ρ).toNat * e.stride + off + l.length) := by
                rintro ⟨ha, hb⟩
                rcases Nat.lt_or_gt_of_ne hje with hlt | hgt
                · have : (idx.ev ρ).toNat * e.stride + e.stride ≤ j * e.stride := by rw [← Nat.succ_mul]; exact Nat.mul_le_mul_right _ hlt
                  omega
                · have : j * e.stride + e.stride ≤ (idx.ev ρ).toNat * e.stride := by rw [← Nat.succ_mul]; exact Nat.mul_le_mul_right _ hgt
                  omega
              rw [if_neg hno]
              exact hr j hjl f s (by rw [hoth j hje]; exact hs)
        cases hA : A.row with
        | none =>
          simp only [hA] at h
          split at h
          · rename_i cs' hw
            cases h
            refine main _ cs' (by rw [SArr.base_length, hks]) (fun f s hs => ?_) (fun j _ => by simp [SArr.at, hA]) hw
            obtain ⟨s', hs', himp⟩ := A.base_rel hrow.1 (ρ := ρ) (β := β) (i := .lit (idx.ev ρ).toNat) (j := idx) (by simp only [T.ev]; exact hj) hs
            obtain ⟨v, hv', r⟩ := hr _ hjc f s' (by simp only [SArr.at, hA]; exact hs')
            exact ⟨v, hv', himp v r⟩
          · cases h
        | some p =>
          obtain ⟨t, cs⟩ := p
          simp only [hA] at h
          cases hb : T.beq t idx
          · simp [hb] at h
          · simp only [hb, cond_true] at h
            have ht := T.beq_eq hb
            split at h
            · rename_i cs' hw
              cases h
              refine main cs cs' (hrow.2 t cs hA) (fun f s hs => ?_) (fun j hne => by simp only [SArr.at, hA]; rw [if_neg (by rw [ht]; omega)]) hw
              exact hr _ hjc f s (by simp only [SArr.at, hA]; rw [if_pos (by rw [ht, hj])]; exact hs)
            · cases h
end Go.SX

namespace Go.SX
open Go

structure TI where
  und : TypeDesc
  size : Nat
  zero : Option Value
/-- the end of a call, as it is known: what it was told, what memory is then, and what came of it -/
inductive CEnd where
  | ret (v : SV)
  | panic (v : SV)
  | stuck (why : Nat)
structure COut where
  pc : PC
  mem : Mem
  ex : CEnd
structure Cfg where
  P : Program
  ti : Nat → Option TI
  fn : Nat → Option Func
  eqk : Nat → Option (List CK)
  byt : Nat → Option Nat := fun _ => none
  hook : Nat → List SV → Mem → PC → List Nat → Option (List COut)
  mrg : Nat → Bool := fun _ => false
  jn : Nat → Bool := fun _ => false
  jc : Nat → Bool := fun _ => false
  lp : Nat → Bool := fun _ => false
  ext : Nat → Bool := fun _ => false
  /-- the library's functions of floats that have no body: 1 bits, 2 of bits, 3 floor -/
  flt : Nat → Nat := fun _ => 0

def vEq : Value → Value → Bool
  | .bool a, .bool b => a == b
  | .int _ a, .int _ b => a == b
  | .string a, .string b => a.toList == b.toList
  | _, _ => false
def vEqL : List Value → List Value → Bool
  | [], [] => true
  | a :: l, b :: m => vEq a b && vEqL l m
  | _, _ => false
def kOf : CK → Value → Prop
  | .b, v => ∃ b, v = .bool b
  | .i k, v => ∃ n, v = .int k n
  | .s, v => ∃ b, v = .string b
def kOfL : List CK → List Value → Prop
  | [], l => l = []
  | k :: ks, l => ∃ v vs, l = v :: vs ∧ kOf k v ∧ kOfL ks vs
def EqOk (P : Program) (t : TypeId) (ks : List CK) : Prop :=
  P.eqGuardType P.depth t = false ∧ ∀ (w : World) (xs ys : Array Value), kOfL ks xs.toList → kOfL ks ys.toList →
    (Op.equalIn 10000 t (.agg xs) (.agg ys)).run P w = .ok (vEqL xs.toList ys.toList) w
/-- the library's search for a byte of a text -/
def ExtIdx (P : Program) (f : Nat) : Prop := ∃ fn, P.funcs[f]? = some fn ∧ (fn.name == "runtime.NumGoroutine") = false ∧ fn.body.isNone = true ∧ Extern.findNext fn = none ∧ Extern.find fn = some Extern.BytealgIndexByte.indexByte
def fltOf : Nat → Array Value → Sem Value
  | 1 => Extern.MathFloatBits.float64bits
  | 2 => Extern.MathFloatBits.float64frombits
  | _ => Extern.MathFloor.toIntegral "math.archFloor" .down
def ExtFlt (P : Program) (f k : Nat) : Prop := ∃ fn, P.funcs[f]? = some fn ∧ (fn.name == "runtime.NumGoroutine") = false ∧ fn.body.isNone = true ∧ Extern.findNext fn = none ∧ Extern.find fn = some (fltOf k)
structure Cfg.Types (C : Cfg) : Prop where
  ti : ∀ t i, C.ti t = some i → ∃ j, C.P.info? t = some j ∧ j.size = i.size ∧ j.zero = i.zero ∧ C.P.underlying t = some i.und
  fn : ∀ f x, C.fn f = some x → C.P.funcs[f]? = some x ∧ (x.name == "runtime.NumGoroutine") = false
  eqk : ∀ t ks, C.eqk t = some ks → EqOk C.P t ks
  byt : ∀ t n, C.byt t = some n → ∃ j, C.P.info? t = some j ∧ j.bytes = n
  mixed : C.P.follows .mixedOrders = true
  ext : ∀ f, C.ext f = true → ExtIdx C.P f
  flt : ∀ f k, C.flt f = k + 1 → ExtFlt C.P f (k + 1)

/-! constants -/
def liftC : Value → Option SV
  | .bool b => some (.bool (.lit b))
  | .int k n => bif inK k n then some (.int k (.lit n)) else none
  | .pointer none => some .nilp
  | .slice none 0 0 => some .nils
  | .agg _ => none
  | .tuple _ => none
  | v => some (.raw v)
def liftCL : List Value → Option (List SV)
  | [] => some []
  | v :: vs => (match liftC v, liftCL vs with | some s, some ss => some (s :: ss) | _, _ => none)
def liftV : Value → Option SV
  | .agg cs => (match liftCL cs.toList with | some ss => some (.agg ss) | none => none)
  | v => liftC v
theorem liftC_ok {ρ : Env} {β : Bet} {v : Value} {s : SV} (h : liftC v = some s) : s.rel ρ β v := by
  unfold liftC at h
  split at h
  · cases h; rfl
  · rename_i k n
    cases hk : inK k n
    · rw [hk] at h; cases h
    · rw [hk] at h; cases h; exact ⟨rfl, hk⟩
  · cases h; rfl
  · cases h; rfl
  · cases h
  · cases h
  · rename_i h1 h2 h3 h4 h5 h6
    cases h
    refine ⟨rfl, ?_⟩
    cases v <;> first | rfl | exact absurd rfl (h5 _) | exact absurd rfl (h6 _)
theorem liftCL_ok {ρ : Env} {β : Bet} : ∀ {l : List Value} {ss : List SV}, liftCL l = some ss → relL ρ β ss l
  | [], ss, h => by cases h; rfl
  | v :: vs, ss, h => by
    simp only [liftCL] at h
    split at h
    · rename_i s ss' h1 h2; cases h; exact ⟨v, vs, rfl, liftC_ok h1, liftCL_ok h2⟩
    · cases h
theorem liftV_ok {ρ : Env} {β : Bet} {v : Value} {s : SV} (h : liftV v = some s) : s.rel ρ β v := by
  unfold liftV at h
  split at h
  · rename_i cs
    split at h
    · rename_i ss hs; cases h; exact ⟨cs.toList, liftCL_ok hs, by simp⟩
    · cases h
  · exact liftC_ok h

/-- what comes of an operation that changes no memory -/
inductive PR where
  | ok (v : SV)
  | split (b : B)
  | stuck (why : Nat)
def dec (pc : PC) (b : B) (t f : PR) : PR := match simpB pc b with
  | .lit true => t
  | .lit false => f
  | b' => .split b'
theorem dec_ok {ρ : Env} {pc : PC} (hp : PcH ρ pc) {b : B} {t f : PR} {v : SV} (h : dec pc b t f = .ok v) : (b.ev ρ = true ∧ t = .ok v) ∨ (b.ev ρ = false ∧ f = .ok v) := by
  unfold dec at h
  have := simpB_ev hp b
  split at h
  · rename_i hs; rw [hs] at this; exact .inl ⟨this.symm, h⟩
  · rename_i hs; rw [hs] at this; exact .inr ⟨this.symm, h⟩
  · cases h

/-- a length, or one by a number more or less -/
def lenT : T → Bool
  | .var _ => true
  | .bin .add (.var _) (.lit _) => true
  | _ => false
def inRng (pc : PC) (k : IntKind) (t : T) : Bool := match rng pc t with | (some l, some h) => !(ilt l (kLo k)) && !(ilt (kHi k) h) | _ => false
/-- less a literal -/
def lessLit : T → Bool
  | .bin .add _ (.lit (.negSucc _)) => true
  | _ => false
/-- a number of a kind; of a length it is known that it is one -/
def wrapP (pc : PC) (k : IntKind) (t : T) : T := match mkWrap k t with
  | .wrap q u => bif (lenT u || lessLit u) && inRng pc q u then u else .wrap q u
  | r => r
theorem wrapP_ev {ρ : Env} {pc : PC} (hp : PcH ρ pc) (k : IntKind) (t : T) : (wrapP pc k t).ev ρ = k.wrap (t.ev ρ) := by
  rw [← mkWrap_ev ρ k t]
  unfold wrapP
  split
  · rename_i q u hq
    cases h : (lenT u || lessLit u) && inRng pc q u
    · rw [hq]; rfl
    · rw [Bool.and_eq_true] at h
      have h := h.2
      unfold inRng at h
      split at h
      · rename_i l hh hr
        have := rng_ok hp u
        rw [hr] at this
        have h1 := this.1 l rfl
        have h2 := this.2 hh rfl
        simp only [ilt_iff, Bool.and_eq_true, Bool.not_eq_true', decide_eq_false_iff_not] at h
        rw [hq]
        simp only [cond_true, T.ev]
        exact (wrap_of_inK ((inK_iff _ _).2 ⟨by omega, by omega⟩)).symm
      · cases h
  · rfl
/-- the least power of two above a number, up to 65536 -/
def pw2 (h : Int) : Int := (([2, 4, 8, 16, 32, 64, 128, 256, 512, 1024, 2048, 4096, 8192, 16384, 32768] : List Int).find? fun p => ilt h p).getD 65536
theorem pw2_ok {h : Int} (hh : h ≤ 65535) : h < pw2 h ∧ 0 < pw2 h := by
  unfold pw2
  cases hf : (([2, 4, 8, 16, 32, 64, 128, 256, 512, 1024, 2048, 4096, 8192, 16384, 32768] : List Int).find? fun p => ilt h p) with
  | none => simp only [Option.getD_none]; omega
  | some p =>
    have h1 := List.find?_some hf
    have h2 := List.mem_of_find?_eq_some hf
    simp only [ilt_iff, decide_eq_true_eq] at h1
    simp only [Option.getD_some]
    refine ⟨h1, ?_⟩
    simp only [List.mem_cons, List.not_mem_nil, or_false] at h2
    omega
def modAt (p : B × Bool) (t : T) : Option Nat := match p with
  | (.eqI (.bin .rem u (.lit (.ofNat m))) (.lit (.ofNat 0)), true) => bif T.beq u t && Nat.blt 0 m then some m else none
  | _ => none
theorem modAt_ok {ρ : Env} {p : B × Bool} {t : T} {m : Nat} (hp : p.1.ev ρ = p.2) (h : modAt p t = some m) : 0 < m ∧ (t.ev ρ).tmod m = 0 := by
  unfold modAt at h
  split at h
  · rename_i u m'
    cases hb : T.beq u t && Nat.blt 0 m'
    · rw [hb] at h; cases h
    · rw [hb] at h
      cases h
      rw [Bool.and_eq_true] at hb
      have hu := T.beq_eq hb.1
      subst hu
      refine ⟨Nat.le_of_ble_eq_true hb.2, ?_⟩
      simpa [B.ev, T.ev, TOp.ev] using hp
  · cases h
/-- what a number is known to be a multiple of -/
def multOf : PC → T → Option Nat
  | [], _ => none
  | p :: r, t => (match modAt p t with | some m => some m | none => multOf r t)
theorem multOf_ok {ρ : Env} : ∀ {pc : PC} {t : T} {m : Nat}, PcH ρ pc → multOf pc t = some m → 0 < m ∧ (t.ev ρ).tmod m = 0
  | [], _, _, _, h => by cases h
  | p :: r, t, m, hp, h => by
    simp only [multOf] at h
    split at h
    · rename_i m' hm
      cases h
      exact modAt_ok (hp p (.head _)) hm
    · exact multOf_ok hp.tail h
/-- a number that is known to be small, told as one that can't be great -/
def red1 (pc : PC) (t : T) : T := match rng pc t with
  | (some l, some h) => bif ilt l 0 || ilt 65535 h then t else (match multOf pc (.wrap .u16 t) with
    | some m => mkBin .mul (.lit (.ofNat m)) (mkRem (mkBin .quo (.wrap .u16 t) (.lit (.ofNat m))) (pw2 (h / m)))
    | none => mkRem (.wrap .u16 t) (pw2 h))
  | _ => t
theorem red1_ev {ρ : Env} {pc : PC} (hp : PcH ρ pc) (t : T) : (red1 pc t).ev ρ = t.ev ρ := by
  unfold red1
  split
  · rename_i l h hr
    cases hc : ilt l 0 || ilt 65535 h
    · simp only [cond_false]
      simp only [ilt_iff, Bool.or_eq_false_iff, decide_eq_false_iff_not] at hc
      have hb := rng_ok hp t
      rw [hr] at hb
      have h1 := hb.1 l rfl
      have h2 := hb.2 h rfl
      have hw : IntKind.u16.wrap (t.ev ρ) = t.ev ρ := wrap_of_inK ((inK_iff _ _).2 (by simp only [kLo, kHi]; omega))
      split
      · rename_i m hm
        obtain ⟨m0, m1⟩ := multOf_ok hp hm
        have hdm : h / (m : Int) ≤ 65535 := by
          have := Int.ediv_le_self (m : Int) (a := h) (by omega)
          omega
        obtain ⟨p1, p2⟩ := pw2_ok hdm
        rw [mkBin_ev, mkRem_ev, mkBin_ev]
        simp only [TOp.ev, T.ev, Int.ofNat_eq_natCast, hw]
        have e1 : (t.ev ρ).tdiv m = t.ev ρ / m := Int.tdiv_eq_ediv_of_nonneg (by omega)
        have e2 : t.ev ρ % (m : Int) = 0 := by
          rw [← Int.tmod_eq_emod_of_nonneg (by omega)]
          simpa only [T.ev, hw] using m1
        have e3 : 0 ≤ t.ev ρ / (m : Int) := Int.ediv_nonneg (by omega) (by omega)
        have e4 : t.ev ρ / (m : Int) ≤ h / (m : Int) := Int.ediv_le_ediv (by omega) h2
        rw [e1, Int.tmod_eq_emod_of_nonneg e3, Int.emod_eq_of_lt e3 (by omega)]
        have := Int.mul_ediv_add_emod (t.ev ρ) (m : Int)
        omega
      · obtain ⟨p1, p2⟩ := pw2_ok (h := h) (by omega)
        rw [mkRem_ev, T.ev, hw, Int.tmod_eq_emod_of_nonneg (by omega), Int.emod_eq_of_lt (by omega) (by omega)]
    · rfl
  · rfl
/-- a long number that is known to be less than one of these powers of two, told as one that can't be more -/
def red2 (pc : PC) (t : T) : T := match rng pc t with
  | (some l, some h) => bif ilt l 0 then t else (match ([4503599627370496, 72057594037927936, 1152921504606846976] : List Int).find? (fun p => ilt h p) with
    | some p => mkRem t p
    | none => t)
  | _ => t
theorem red2_ev {ρ : Env} {pc : PC} (hp : PcH ρ pc) (t : T) : (red2 pc t).ev ρ = t.ev ρ := by
  unfold red2
  split
  · rename_i l h hr
    cases hb : ilt l 0
    · simp only [cond_false]
      split
      · rename_i p hf
        have h1 := List.find?_some hf
        simp only [ilt_iff, decide_eq_true_eq] at h1
        rw [ilt_iff] at hb
        have hb := of_decide_eq_false hb
        have ho := rng_ok hp t
        rw [hr] at ho
        have h2 := ho.1 l rfl
        have h3 := ho.2 h rfl
        rw [mkRem_ev, Int.tmod_eq_emod_of_nonneg (by omega), Int.emod_eq_of_lt (by omega) (by omega)]
      · rfl
    · rfl
  · rfl
/-- a number, wrapped: small or less than a power of two -/
def red3 (pc : PC) (t : T) : T := match rng pc t with
  | (some l, some h) => bif ilt l 0 || ilt 65535 h then red2 pc (.wrap .u64 t) else red1 pc t
  | _ => red2 pc (.wrap .u64 t)
theorem red3_ev {ρ : Env} {pc : PC} (hp : PcH ρ pc) (t : T) : (red3 pc t).ev ρ = (T.wrap .u64 t).ev ρ := by
  unfold red3
  split
  · rename_i l h hr
    cases hb : ilt l 0 || ilt 65535 h
    · simp only [cond_false]
      rw [Bool.or_eq_false_iff, ilt_iff, ilt_iff] at hb
      have hb1 := of_decide_eq_false hb.1
      have hb2 := of_decide_eq_false hb.2
      have ho := rng_ok hp t
      rw [hr] at ho
      have h2 := ho.1 l rfl
      have h3 := ho.2 h rfl
      rw [red1_ev hp]
      exact (wrap_of_inK ((inK_iff _ _).2 (by simp only [kLo, kHi]; omega))).symm
    · exact red2_ev hp _
  · exact red2_ev hp _
def redP (pc : PC) (k : IntKind) (t : T) : T := match k, t with
  | .i64, .cell r i f => red1 pc (.cell r i f)
  | .u64, .wrap .u64 (.cell r i f) => bif Nat.ble 1000000 r then red3 pc (.cell r i f) else .wrap .u64 (.cell r i f)
  | _, t => t
theorem redP_ev {ρ : Env} {pc : PC} (hp : PcH ρ pc) (k : IntKind) (t : T) : (redP pc k t).ev ρ = t.ev ρ := by
  unfold redP
  split
  · exact red1_ev hp _
  · rename_i r i f
    cases Nat.ble 1000000 r
    · rfl
    · exact red3_ev hp _
  · rfl
def isLitT : T → Bool | .lit _ => true | _ => false
/-- is an operand to be told so? -/
def redOn (op : BinOp) (other : T) : Bool := match op with
  | .lss => false
  | .leq => false
  | .gtr => false
  | .geq => false
  | .eql => !(isLitT other)
  | .neq => !(isLitT other)
  | _ => true
def redX (pc : PC) (op : BinOp) (k : IntKind) (t other : T) : T := bif redOn op other then redP pc k t else t
theorem redX_ev {ρ : Env} {pc : PC} (hp : PcH ρ pc) (op : BinOp) (k : IntKind) (t other : T) : (redX pc op k t other).ev ρ = t.ev ρ := by
  unfold redX
  cases redOn op other
  · rfl
  · exact redP_ev hp k t
/-- is a bit set in all that lies between? -/
def hasBit (l h m : Int) : Bool := !(ilt l 0) && ibeq (l / (2 * m)) (h / (2 * m)) && !(ilt (l % (2 * m)) m)
theorem or_bit {v b : Nat} (h : v / 2 ^ b % 2 = 1) : v ||| 2 ^ b = v := by
  apply Nat.eq_of_testBit_eq
  intro i
  rw [Nat.testBit_or, Nat.testBit_two_pow]
  by_cases e : b = i
  · subst e
    have : v.testBit b = true := by rw [Nat.testBit_eq_decide_div_mod_eq, h]; rfl
    simp [this]
  · simp [e]
theorem hasBit_ok {l h v : Int} {b : Nat} (hb : hasBit l h ((2 ^ b : Nat) : Int) = true) (h1 : l ≤ v) (h2 : v ≤ h) : ∃ n : Nat, v = n ∧ n / 2 ^ b % 2 = 1 := by
  simp only [hasBit, ilt_iff, Bool.and_eq_true, Bool.not_eq_true', decide_eq_false_iff_not] at hb
  obtain ⟨⟨h3, h4⟩, h5⟩ := hb
  rw [ibeq_iff] at h4
  have h4 := of_decide_eq_true h4
  have hp : (0 : Int) < ((2 ^ b : Nat) : Int) := by exact_mod_cast Nat.two_pow_pos b
  generalize hm : ((2 ^ b : Nat) : Int) = m at *
  have e1 := Int.mul_ediv_add_emod l (2 * m)
  have e2 := Int.mul_ediv_add_emod v (2 * m)
  have e3 : l / (2 * m) ≤ v / (2 * m) := Int.ediv_le_ediv (by omega) h1
  have e4 : v / (2 * m) ≤ h / (2 * m) := Int.ediv_le_ediv (by omega) h2
  have e5 : v / (2 * m) = l / (2 * m) := by omega
  rw [e5] at e2
  have e6 : m ≤ v % (2 * m) := by omega
  have e7 : v % (2 * m) < 2 * m := Int.emod_lt_of_pos _ (by omega)
  obtain ⟨n, hn⟩ := Int.eq_ofNat_of_zero_le (show 0 ≤ v by omega)
  refine ⟨n, hn, ?_⟩
  have e8 : v / m = 2 * (v / (2 * m)) + 1 := by
    have := Int.mul_ediv_add_emod v (2 * m)
    rw [Int.ediv_eq_iff_of_pos (by omega)]
    generalize v / (2 * m) = q at *
    constructor
    · have : m * (2 * q + 1) = 2 * m * q + m := by rw [Int.mul_add, Int.mul_one, ← Int.mul_assoc, Int.mul_comm m 2]
      rw [Int.mul_comm]; omega
    · have : m * (2 * q + 1) = 2 * m * q + m := by rw [Int.mul_add, Int.mul_one, ← Int.mul_assoc, Int.mul_comm m 2]
      rw [Int.mul_comm]; omega
  rw [hn, ← hm] at e8
  have e9 : ((n / 2 ^ b : Nat) : Int) = 2 * ((n : Int) / (2 * ((2 ^ b : Nat) : Int))) + 1 := by rw [Int.natCast_ediv]; exact e8
  omega
theorem or_self_bit {k : IntKind} {v : Int} {b : Nat} (hv : inK k v = true) (hb : ((2 ^ b : Nat) : Int) ≤ kHi k) (h : ∃ n : Nat, v = n ∧ n / 2 ^ b % 2 = 1) : TOp.ev (.bor k) v ((2 ^ b : Nat) : Int) = v := by
  obtain ⟨n, rfl, hn⟩ := h
  have e1 := ofInt_small (k := k) (x := (n : Int)) (by omega) ((inK_iff _ _).1 hv).2
  have e2 := ofInt_small (k := k) (x := ((2 ^ b : Nat) : Int)) (Int.natCast_nonneg _) hb
  simp only [TOp.ev, BitVec.toNat_or, e1, e2, Int.toNat_natCast]
  rw [or_bit hn]
  exact wrap_of_inK hv
/-- 'or' of a bit that is known to be set -/
def orP (pc : PC) (k : IntKind) (a b : T) : T := match b with
  | .lit c => (match p2 c with
    | some _ => (match rng pc (simpT pc a) with
      | (some l, some h) => bif hasBit l h c && !(ilt (kHi k) c) then simpT pc a else mkBin (.bor k) a b
      | _ => mkBin (.bor k) a b)
    | none => mkBin (.bor k) a b)
  | b => mkBin (.bor k) a b
theorem orP_ev {ρ : Env} {pc : PC} (hp : PcH ρ pc) (k : IntKind) {a b : T} (ha : inK k (a.ev ρ) = true) : (orP pc k a b).ev ρ = TOp.ev (.bor k) (a.ev ρ) (b.ev ρ) := by
  unfold orP
  split
  · rename_i c
    split
    · rename_i e he
      split
      · rename_i l h hr
        cases hc : hasBit l h c && !(ilt (kHi k) c)
        · exact mkBin_ev _ _ _ _
        · simp only [cond_true]
          simp only [Bool.and_eq_true, Bool.not_eq_true', ilt_iff, decide_eq_false_iff_not] at hc
          have hb := rng_ok hp (simpT pc a)
          rw [hr, simpT_ev hp] at hb
          have hce := p2_ok he
          subst hce
          rw [simpT_ev hp]
          exact (or_self_bit ha (by omega) (hasBit_ok hc.1 (hb.1 l rfl) (hb.2 h rfl))).symm
      · exact mkBin_ev _ _ _ _
    · exact mkBin_ev _ _ _ _
  · exact mkBin_ev _ _ _ _
/-! numbers -/
/-- 'and' of bits that are known to be all that is set -/
def andP (pc : PC) (k : IntKind) (a b : T) : T := match k, b with
  | .u8, .lit m => (match lookT (.bin (.bandn .u8) a (.lit m)) pc with
    | some (.ofNat 0) => a
    | _ => mkBin (.band .u8) a (.lit m))
  | k, b => mkBin (.band k) a b
theorem and_all {n : Nat} {a b : BitVec n} (h : a &&& ~~~b = 0#n) : a &&& b = a := by
  ext i hi
  have := congrArg (fun v => v[i]) h
  simp only [BitVec.getElem_and, BitVec.getElem_not, BitVec.getElem_zero] at this ⊢
  cases h1 : a[i] <;> cases h2 : b[i] <;> simp_all
theorem andP_ev {ρ : Env} {pc : PC} (hp : PcH ρ pc) (k : IntKind) {a b : T} (ha : inK k (a.ev ρ) = true) : (andP pc k a b).ev ρ = TOp.ev (.band k) (a.ev ρ) (b.ev ρ) := by
  unfold andP
  split
  · rename_i m
    split
    · rename_i hl
      have h := lookT_ok hp hl
      simp only [T.ev, TOp.ev] at h ⊢
      have ha' := (inK_iff _ _).1 ha
      simp only [kLo, kHi] at ha'
      have hz : ∀ v : BitVec 8, IntKind.u8.wrap (v.toNat : Int) = (v.toNat : Int) := fun v => wrap_of_inK ((inK_iff _ _).2 (by have := v.isLt; simp only [kLo, kHi]; omega))
      have h : IntKind.u8.wrap (((BitVec.ofInt 8 (a.ev ρ) &&& ~~~BitVec.ofInt 8 m : BitVec 8)).toNat : Int) = 0 := h
      rw [hz] at h
      have h0 : (BitVec.ofInt 8 (a.ev ρ) &&& ~~~BitVec.ofInt 8 m : BitVec 8) = 0#8 := BitVec.eq_of_toNat_eq (by simpa using h)
      have h1 : (BitVec.ofInt 8 (a.ev ρ) &&& BitVec.ofInt 8 m : BitVec 8) = BitVec.ofInt 8 (a.ev ρ) := and_all h0
      show a.ev ρ = IntKind.u8.wrap (((BitVec.ofInt 8 (a.ev ρ) &&& BitVec.ofInt 8 m : BitVec 8)).toNat : Int)
      rw [hz, h1]
      have := ofInt_small (k := .u8) (x := a.ev ρ) (by omega) (by simp only [kHi]; omega)
      have h2 : (BitVec.ofInt 8 (a.ev ρ)).toNat = (a.ev ρ).toNat := this
      rw [h2]; omega
    · exact mkBin_ev _ _ _ _
  · exact mkBin_ev _ _ _ _
def xInt (pc : PC) (op : BinOp) (k : IntKind) (a b : T) : PR := match op with
  | .add => .ok (.int k (wrapP pc k (mkBin .add a b)))
  | .sub => .ok (.int k (wrapP pc k (mkBin .sub a b)))
  | .mul => .ok (.int k (mkWrap k (mkBin .mul a b)))
  | .quo => dec pc (mkEqI b (.lit 0)) (.stuck 1) (.ok (.int k (mkWrap k (mkBin .quo a b))))
  | .rem => dec pc (mkEqI b (.lit 0)) (.stuck 1) (.ok (.int k (mkBin .rem a b)))
  | .and => .ok (.int k (andP pc k a b))
  | .or => .ok (.int k (orP pc k a b))
  | .xor => .ok (.int k (mkBin (.bxor k) a b))
  | .andNot => .ok (.int k (mkBin (.bandn k) a b))
  | .eql => .ok (.bool (mkEqI a b))
  | .neq => .ok (.bool (mkNot (mkEqI a b)))
  | .lss => .ok (.bool (mkLtI a b))
  | .leq => .ok (.bool (mkNot (mkLtI b a)))
  | .gtr => .ok (.bool (mkLtI b a))
  | .geq => .ok (.bool (mkNot (mkLtI a b)))
  | .shl => dec pc (mkLtI b (.lit 0)) (.stuck 2) (.ok (.int k (mkWrap k (mkBin (.shl k.bits) a b))))
  | .shr => dec pc (mkLtI b (.lit 0)) (.stuck 2) (.ok (.int k (mkBin (.shr k.bits) a b)))
theorem emod_le {x : Int} (y : Int) (hx : 0 ≤ x) : x % y ≤ x := by
  obtain ⟨n, rfl⟩ := Int.eq_ofNat_of_zero_le hx
  have h1 : ∀ m : Nat, (n : Int) % (m : Int) ≤ n := fun m => by
    rw [← Int.natCast_emod]; exact Int.ofNat_le.2 (Nat.mod_le n m)
  rcases Int.natAbs_eq y with h | h
  · rw [h]; exact h1 _
  · rw [h, Int.emod_neg]; exact h1 _
theorem tmod_inK {k : IntKind} {x y : Int} (h : inK k x = true) : inK k (x.tmod y) = true := by
  rw [inK_iff] at *
  rcases Int.lt_or_le x 0 with hx | hx
  · have h1 : x.tmod y = -((-x).tmod y) := by rw [Int.neg_tmod, Int.neg_neg]
    have h2 := Int.tmod_nonneg y (a := -x) (by omega)
    have h3 : (-x).tmod y ≤ -x := by
      rw [Int.tmod_eq_emod_of_nonneg (by omega)]
      exact emod_le y (by omega)
    cases k <;> simp only [kLo, kHi] at h ⊢ <;> omega
  · have h2 := Int.tmod_nonneg y hx
    have h3 : x.tmod y ≤ x := by
      rw [Int.tmod_eq_emod_of_nonneg hx]
      exact emod_le y hx
    cases k <;> simp only [kLo, kHi] at h ⊢ <;> omega
theorem fdiv_inK {k : IntKind} {x : Int} {n : Nat} (h : inK k x = true) : inK k (x.fdiv (2 ^ n)) = true := by
  have hp : (0 : Int) < 2 ^ n := Int.pow_pos (by decide)
  rw [Int.fdiv_eq_ediv_of_nonneg _ (Int.le_of_lt hp)]
  rw [inK_iff] at *
  have h1 : x / 2 ^ n ≤ max x 0 := by
    rcases Int.lt_or_le x 0 with hx | hx
    · have := Int.ediv_neg_of_neg_of_pos hx hp; omega
    · have := Int.ediv_le_self (2 ^ n) hx; omega
  have h2 : min x 0 ≤ x / 2 ^ n := by
    rcases Int.lt_or_le x 0 with hx | hx
    · have : x ≤ x / 2 ^ n := by
        rw [Int.le_ediv_iff_mul_le hp]
        have : (1 : Int) ≤ 2 ^ n := hp
        have h3 : x * 2 ^ n ≤ x * 1 := Int.mul_le_mul_of_nonpos_left (Int.le_of_lt hx) this
        omega
      omega
    · have := Int.ediv_nonneg hx (Int.le_of_lt hp); omega
  cases k <;> simp only [kLo, kHi] at h ⊢ <;> omega
/-- the value of a number or a truth -/
def svI (ρ : Env) : SV → Value
  | .bool b => .bool (b.ev ρ)
  | .int k t => .int k (t.ev ρ)
  | _ => undef
theorem xInt_ok {P : Program} {ρ : Env} {pc : PC} (hp : PcH ρ pc) {op : BinOp} {k : IntKind} {a b : T} {s : SV} (w : World)
    (ha : inK k (a.ev ρ) = true) (h : xInt pc op k a b = .ok s) (xt : TypeId) (kb : IntKind) (hkb : op ≠ .shl → op ≠ .shr → kb = k) :
    (binOp op xt (.int k (a.ev ρ)) (.int kb (b.ev ρ))).run P w = .ok (svI ρ s) w ∧ ∀ β, s.rel ρ β (svI ρ s) := by
  have hev : ∀ n, T.ev ρ (.lit n) = n := fun _ => rfl
  cases op
  case quo =>
    cases hkb (by simp) (by simp)
    rcases dec_ok hp h with ⟨_, h⟩ | ⟨hb, h⟩
    · cases h
    · cases h
      rw [mkEqI_ev] at hb
      have hb : ¬ b.ev ρ = 0 := by simpa [hev] using hb
      refine ⟨?_, fun β => ?_⟩
      · simp [binOp, Op.intDiv, hb, svI, mkWrap_ev, mkBin_ev, TOp.ev]
      · simp [SV.rel, svI, mkWrap_ev, mkBin_ev, TOp.ev, wrap_inK]
  case rem =>
    cases hkb (by simp) (by simp)
    rcases dec_ok hp h with ⟨_, h⟩ | ⟨hb, h⟩
    · cases h
    · cases h
      rw [mkEqI_ev] at hb
      have hb : ¬ b.ev ρ = 0 := by simpa [hev] using hb
      refine ⟨?_, fun β => ?_⟩
      · simp [binOp, Op.intDiv, hb, svI, mkBin_ev, TOp.ev]
      · simp [SV.rel, svI, mkBin_ev, TOp.ev, tmod_inK ha]
  case shl =>
    rcases dec_ok hp h with ⟨_, h⟩ | ⟨hb, h⟩
    · cases h
    · cases h
      rw [mkLtI_ev] at hb
      have hb : ¬ b.ev ρ < 0 := by simpa [hev] using hb
      refine ⟨?_, fun β => ?_⟩
      · simp [binOp, Op.shift, hb, svI, mkWrap_ev, mkBin_ev, TOp.ev]
      · simp [SV.rel, svI, mkWrap_ev, mkBin_ev, TOp.ev, wrap_inK]
  case shr =>
    rcases dec_ok hp h with ⟨_, h⟩ | ⟨hb, h⟩
    · cases h
    · cases h
      rw [mkLtI_ev] at hb
      have hb : ¬ b.ev ρ < 0 := by simpa [hev] using hb
      refine ⟨?_, fun β => ?_⟩
      · simp [binOp, Op.shift, hb, svI, mkBin_ev, TOp.ev]
      · simp only [SV.rel, svI, mkBin_ev, TOp.ev, true_and]; exact fdiv_inK ha
  all_goals
    cases hkb (by simp) (by simp)
    cases h
    refine ⟨?_, fun β => ?_⟩
    · first
        | (simp [binOp, Op.intArith, Op.intBits, Op.intCmp, svI, mkWrap_ev, wrapP_ev hp, orP_ev hp _ ha, andP_ev hp _ ha, mkBin_ev, mkEqI_ev, mkLtI_ev, mkNot_ev, TOp.ev, bne]; done)
        | (simp [binOp, Op.intCmp, svI, mkLtI_ev, mkNot_ev]; apply Bool.eq_iff_iff.2; simp)
    · simp [SV.rel, svI, mkWrap_ev, wrapP_ev hp, orP_ev hp _ ha, andP_ev hp _ ha, mkBin_ev, mkEqI_ev, mkLtI_ev, mkNot_ev, TOp.ev, wrap_inK]
end Go.SX

namespace Go.SX
open Go

def eqOf (op : BinOp) (b : B) : PR := match op with
  | .eql => .ok (.bool b)
  | .neq => .ok (.bool (mkNot b))
  | _ => .stuck 3
/-- the whole of a comparison: the guard and the operation -/
abbrev cmp (op : BinOp) (t : TypeId) (x y : Operand) (a b : Value) : Sem Value := do eqGuard op t x y a b; binOp op t a b
theorem eqOf_ok {P : Program} {ρ : Env} {op : BinOp} {b : B} {s : SV} (h : eqOf op b = .ok s) {t : TypeId} {x y : Operand} {u v : Value} {w : World} {r : Bool} (hr : b.ev ρ = r)
    (hg : ∀ op, (eqGuard op t x y u v).run P w = .ok () w)
    (hq : (Op.equalIn 10000 t u v).run P w = .ok r w)
    (he : binOp .eql t u v = (do pure (.bool (← Op.equal t u v)))) (hn : binOp .neq t u v = (do pure (.bool (!(← Op.equal t u v))))) :
    (cmp op t x y u v).run P w = .ok (svI ρ s) w ∧ ∀ β, s.rel ρ β (svI ρ s) := by
  cases op <;> simp only [eqOf] at h <;> first
    | (cases h; done)
    | (cases h
       refine ⟨?_, fun β => ?_⟩
       · simp only [Sem.run_bind, hg, Result.andThen_ok]
         first | rw [he] | rw [hn]
         simp [Op.equal, Op.maxDepth, hq, svI, hr, mkNot_ev]
       · simp [SV.rel, svI, mkNot_ev])
theorem guard_plain {P : Program} (op : BinOp) (t : TypeId) (x y : Operand) (a b : Value) (w : World) (h1 : ¬ (a = .nilIface ∧ b = .nilIface)) (h2 : ∀ xs ys, ¬ (a = .agg xs ∧ b = .agg ys)) :
    (eqGuard op t x y a b).run P w = .ok () w := by
  unfold eqGuard
  cases a <;> cases b <;> first
    | (exfalso; exact h1 ⟨rfl, rfl⟩)
    | (exfalso; exact h2 _ _ ⟨rfl, rfl⟩)
    | (cases op <;> simp)

/-- cell by cell -/
def aggEq : List CK → List SV → List SV → Option B
  | [], [], [] => some (.lit true)
  | .b :: ks, .bool a :: xs, .bool b :: ys => (match aggEq ks xs ys with | some r => some (andR (mkEqB a b) r) | none => none)
  | .i k :: ks, .int k1 a :: xs, .int k2 b :: ys => bif Nat.beq (kindNo k1) (kindNo k) && Nat.beq (kindNo k2) (kindNo k) then (match aggEq ks xs ys with | some r => some (andR (mkEqI (tag k a) (tag k b)) r) | none => none) else none
  | _, _, _ => none
theorem aggEq_ok {ρ : Env} {β : Bet} : ∀ {ks : List CK} {xs ys : List SV} {b : B} {l m : List Value}, aggEq ks xs ys = some b → relL ρ β xs l → relL ρ β ys m →
    kOfL ks l ∧ kOfL ks m ∧ vEqL l m = b.ev ρ
  | [], [], [], b, l, m, h, hl, hm => by
    cases h
    rw [show l = [] from hl, show m = [] from hm]
    exact ⟨rfl, rfl, rfl⟩
  | .b :: ks, .bool a :: xs, .bool c :: ys, b, l, m, h, hl, hm => by
    simp only [aggEq] at h
    split at h
    · rename_i r hr
      cases h
      obtain ⟨v, vs, rfl, h1, h2⟩ := hl
      obtain ⟨u, us, rfl, g1, g2⟩ := hm
      rw [show v = .bool (a.ev ρ) from h1, show u = .bool (c.ev ρ) from g1]
      obtain ⟨i1, i2, i3⟩ := aggEq_ok hr h2 g2
      exact ⟨⟨_, _, rfl, ⟨_, rfl⟩, i1⟩, ⟨_, _, rfl, ⟨_, rfl⟩, i2⟩, by simp [vEqL, vEq, andR_ev, mkEqB_ev, i3]⟩
    · cases h
  | .i k :: ks, .int k1 a :: xs, .int k2 c :: ys, b, l, m, h, hl, hm => by
    simp only [aggEq] at h
    cases hk : Nat.beq (kindNo k1) (kindNo k) && Nat.beq (kindNo k2) (kindNo k)
    · rw [hk] at h; cases h
    · rw [hk] at h
      simp only [cond_true] at h
      rw [Bool.and_eq_true] at hk
      have e1 := kindNo_inj hk.1
      have e2 := kindNo_inj hk.2
      subst e1; subst e2
      split at h
      · rename_i r hr
        cases h
        obtain ⟨v, vs, rfl, h1, h2⟩ := hl
        obtain ⟨u, us, rfl, g1, g2⟩ := hm
        rw [show v = .int _ (a.ev ρ) from h1.1, show u = .int _ (c.ev ρ) from g1.1]
        obtain ⟨i1, i2, i3⟩ := aggEq_ok hr h2 g2
        exact ⟨⟨_, _, rfl, ⟨_, rfl⟩, i1⟩, ⟨_, _, rfl, ⟨_, rfl⟩, i2⟩, by simp [vEqL, vEq, andR_ev, mkEqI_ev, tag_ev h1.2, tag_ev g1.2, i3]⟩
      · cases h

/-! pointers -/
def Mem.wr (m : Mem) (id : Nat) : Bool := match m.tr.get id with
  | some (.cells wr _) => wr
  | some (.arr A) => A.wr
  | some (.buf _ _ _) => true
  | _ => false
def isZero : T → Bool | .lit (.ofNat 0) => true | _ => false
theorem isZero_ok {t : T} (h : isZero t = true) (ρ : Env) : t.ev ρ = 0 := by
  unfold isZero at h; split at h
  · rfl
  · cases h
def xPtrEq (m : Mem) : SV → SV → Option B
  | .nilp, .nilp => some (.lit true)
  | .nilp, .ptr _ _ _ => some (.lit false)
  | .ptr _ _ _, .nilp => some (.lit false)
  | .ptr i a o, .ptr j b p =>
    bif Nat.beq i j then
      (bif Nat.beq o p then (match m.tr.get i with
        | some (.arr _) => some (mkEqI a b)
        | some (.cells _ _) => bif isZero a && isZero b then some (.lit true) else none
        | _ => none) else none)
    else bif m.wr i && m.wr j then some (.lit false) else none
  | _, _ => none
theorem wr_ok {ρ : Env} {β : Bet} {m : Mem} {w : World} (hm : MemO ρ β m w) {id : Nat} (h : m.wr id = true) {e : Blk} (he : β[id]? = some e) :
    e.ro = false ∧ ∃ arr el, w.heap[e.blk]? = some (.cells arr el (0, 0)) := by
  unfold Mem.wr at h
  cases ho : m.tr.get id with
  | none => simp [ho] at h
  | some o =>
    obtain ⟨e', he', hr⟩ := hm.obj id o ho
    rw [he] at he'; cases he'
    cases o with
    | cells wr cs =>
      simp only [ho] at h; subst h
      obtain ⟨h0, _, _, arr, el, fr, h3, h4, _⟩ := hr
      exact ⟨h0 rfl, arr, el, by rw [h3, h4 (h0 rfl)]⟩
    | arr A =>
      simp only [ho] at h
      obtain ⟨h0, _, _, _, _, _, arr, el, fr, h3, h4, _⟩ := hr
      exact ⟨h0 h, arr, el, by rw [h3, h4 (h0 h)]⟩
    | mp k es => simp [ho] at h
    | mq ks vs => simp [ho] at h
    | glob g cs => simp [ho] at h
    | pre cs => simp [ho] at h
    | rop el cs r o len => simp [ho] at h
    | it mid n seen last => simp [ho] at h
    | buf el sz cs =>
      obtain ⟨h0, _, _, arr, h3, _⟩ := hr
      exact ⟨h0, arr, el, h3⟩
theorem run_sameAddr_apart {P : Program} {w : World} {a b : Nat} {i j : Nat} {xs ys : Array Value} {s t : TypeId} (hne : a ≠ b) (ha : w.heap[a]? = some (.cells xs s (0, 0))) (hb : w.heap[b]? = some (.cells ys t (0, 0))) :
    (sameAddr ⟨a, i, none⟩ ⟨b, j, none⟩).run P w = .ok false w := by
  have hf : ∀ k, w.frozen? ⟨a, k, none⟩ = false := fun k => by simp [World.frozen?, ha]
  have hg : ∀ k, w.frozen? ⟨b, k, none⟩ = false := fun k => by simp [World.frozen?, hb]
  have hs : w.shape? a = some (s, xs.size) := by simp [World.shape?, ha]
  have ht : w.shape? b = some (t, ys.size) := by simp [World.shape?, hb]
  simp [sameAddr, hne, hf, hg, noView, viewAt, hs, ht, mayBeOne, stringish]
theorem xPtrEq_ok {P : Program} {ρ : Env} {β : Bet} {m : Mem} {w : World} (hm : MemO ρ β m w) {x y : SV} {b : B} {u v : Value} (h : xPtrEq m x y = some b) (hx : x.rel ρ β u) (hy : y.rel ρ β v)
    {t : TypeId} {el : TypeId} (ht : P.underlying t = some (.pointer el)) {j : TypeInfo} (hi : P.info? el = some j) (hz : j.size ≠ 0) (d : Nat) :
    (Op.equalIn (d + 1) t u v).run P w = .ok (b.ev ρ) w ∧ (∃ p, u = .pointer p) ∧ ∃ q, v = .pointer q := by
  have hsz : (sizeOf el).run P w = .ok j.size w := by simp [sizeOf, typeInfo, hi]
  unfold xPtrEq at h
  split at h
  · cases h
    rw [show u = .pointer none from hx, show v = .pointer none from hy]
    exact ⟨by simp [Op.equalIn, run_underlying ht, B.ev], ⟨_, rfl⟩, _, rfl⟩
  · cases h
    obtain ⟨e, _, _, _, rfl⟩ := hy
    rw [show u = .pointer none from hx]
    exact ⟨by simp [Op.equalIn, run_underlying ht, B.ev], ⟨_, rfl⟩, _, rfl⟩
  · cases h
    obtain ⟨e, _, _, _, rfl⟩ := hx
    rw [show v = .pointer none from hy]
    exact ⟨by simp [Op.equalIn, run_underlying ht, B.ev], ⟨_, rfl⟩, _, rfl⟩
  · rename_i i a o k c p
    obtain ⟨e, he, ha0, hal, rfl⟩ := hx
    obtain ⟨e', he', hc0, hcl, rfl⟩ := hy
    refine ⟨?_, ⟨_, rfl⟩, _, rfl⟩
    simp only [Op.equalIn, Sem.run_bind, run_underlying ht, Result.andThen_ok, hsz]
    rw [Sem.run_ite, if_pos hz]
    cases hik : Nat.beq i k
    · rw [hik] at h
      simp only [cond_false] at h
      have hne : i ≠ k := fun e => by rw [e] at hik; simp at hik
      cases hw : m.wr i && m.wr k
      · rw [hw] at h; cases h
      · rw [hw] at h; cases h
        rw [Bool.and_eq_true] at hw
        obtain ⟨r1, xs, s, h1⟩ := wr_ok hm hw.1 he
        obtain ⟨r2, ys, s', h2⟩ := wr_ok hm hw.2 he'
        rw [run_sameAddr_apart (fun hb => by have := (hm.apart i k e e' he he' hne hb).1; rw [r1] at this; cases this) h1 h2]
        rfl
    · rw [hik] at h
      simp only [cond_true] at h
      have hik := Nat.eq_of_beq_eq_true hik
      subst hik
      rw [he] at he'; cases he'
      cases hop : Nat.beq o p
      · rw [hop] at h; cases h
      · rw [hop] at h
        simp only [cond_true] at h
        have hop := Nat.eq_of_beq_eq_true hop
        subst hop
        cases ho : m.tr.get i with
        | none => simp [ho] at h
        | some ob =>
          obtain ⟨e', he', hr⟩ := hm.obj i ob ho
          rw [he] at he'; cases he'
          simp only [sameAddr, beq_self_eq_true, if_true, Sem.run_pure]
          cases ob with
          | buf el sz cs => simp [ho] at h
          | mp k es => simp [ho] at h
          | mq ks vs => simp [ho] at h
          | glob g cs => simp [ho] at h
          | pre cs => simp [ho] at h
          | rop el cs r o len => simp [ho] at h
          | it mid n seen last => simp [ho] at h
          | cells wr cs =>
            simp only [ho] at h
            cases hz2 : isZero a && isZero c
            · rw [hz2] at h; cases h
            · rw [hz2] at h; cases h
              rw [Bool.and_eq_true] at hz2
              rw [isZero_ok hz2.1 ρ, isZero_ok hz2.2 ρ]
              simp [B.ev]
          | arr A =>
            simp only [ho, Option.some.injEq] at h
            subst h
            obtain ⟨_, hst, hpos, _⟩ := hr
            rw [mkEqI_ev]
            congr 1
            rw [Bool.eq_iff_iff]
            simp only [beq_iff_eq, Addr.mk.injEq, true_and, and_true]
            constructor
            · intro hh
              have : (T.ev ρ a).toNat * e.stride = (T.ev ρ c).toNat * e.stride := by omega
              have := Nat.eq_of_mul_eq_mul_right (by omega) this
              omega
            · intro hh; rw [hh]
  · cases h

/-! conversions, parts -/
def subK (a b : IntKind) : Bool := !(ilt (kLo a) (kLo b)) && !(ilt (kHi b) (kHi a))
def mkConv (src dst : IntKind) (t : T) : T := bif Nat.beq (kindNo src) (kindNo dst) then t else bif subK src dst then tag src t else mkWrap dst (tag src t)
theorem mkConv_ok {ρ : Env} {a b : IntKind} {t : T} (h : inK a (t.ev ρ) = true) : (mkConv a b t).ev ρ = b.wrap (t.ev ρ) ∧ inK b ((mkConv a b t).ev ρ) = true := by
  unfold mkConv
  cases hq : Nat.beq (kindNo a) (kindNo b)
  · simp only [cond_false]
    cases hs : subK a b
    · simp only [cond_false, mkWrap_ev, wrap_inK, tag_ev h, and_self]
    · simp only [cond_true, tag_ev h]
      have : inK b (t.ev ρ) = true := by
        simp only [subK, ilt_iff, Bool.and_eq_true, Bool.not_eq_true', decide_eq_false_iff_not] at hs
        rw [inK_iff] at *
        omega
      exact ⟨(wrap_of_inK this).symm, this⟩
  · have := kindNo_inj hq
    subst this
    simp only [cond_true]
    exact ⟨(wrap_of_inK h).symm, h⟩
def isAggD : TypeDesc → Bool
  | .struct _ => true
  | .array _ _ => true
  | _ => false
theorem run_isAgg' {P : Program} {t : TypeId} {d : TypeDesc} (h : P.underlying t = some d) (w : World) : (isAgg t).run P w = .ok (isAggD d) w := by
  cases d <;> simp [isAgg, run_underlying h, isAggD]
theorem run_sizeOf' {P : Program} {t : TypeId} {i : TypeInfo} (h : P.info? t = some i) (w : World) : (sizeOf t).run P w = .ok i.size w := by
  simp [sizeOf, typeInfo, h]
/-- a part of an aggregate -/
def xPart (agg : Bool) (size : Nat) (cs : List SV) (off : Nat) : PR :=
  bif agg then (bif Nat.ble (off + size) cs.length then .ok (.agg ((cs.drop off).take size)) else .stuck 4) else
  (match cs[off]? with | some s => .ok s | none => .stuck 4)
theorem xPart_ok {P : Program} {ρ : Env} {β : Bet} {t : TypeId} {d : TypeDesc} {j : TypeInfo} (hd : P.underlying t = some d) (hj : P.info? t = some j) {cs : List SV} {l : List Value} (hr : relL ρ β cs l) {off : Nat} {s : SV}
    (h : xPart (isAggD d) j.size cs off = .ok s) : ∃ v, s.rel ρ β v ∧ ∀ w : World, (part t l.toArray off).run P w = .ok v w := by
  unfold xPart at h
  cases ha : isAggD d
  · rw [ha] at h
    simp only [cond_false] at h
    split at h
    · rename_i s' hs
      cases h
      obtain ⟨v, hv, r⟩ := relL_get hr hs
      exact ⟨v, r, fun w => by simp [part, run_isAgg' hd, ha, hv]⟩
    · cases h
  · rw [ha] at h
    simp only [cond_true] at h
    cases hb : Nat.ble (off + j.size) cs.length
    · rw [hb] at h; cases h
    · rw [hb] at h
      cases h
      refine ⟨.agg ((l.drop off).take j.size).toArray, ⟨_, relL_take _ (relL_drop _ hr), rfl⟩, fun w => ?_⟩
      simp [part, run_isAgg' hd, ha, run_sizeOf' hj]
      try (rw [List.extract_eq_take_drop]; congr 1; omega)
end Go.SX

namespace Go.SX
open Go

def cellsX : SV → List SV
  | .agg cs => cs
  | v => [v]
theorem cellsX_ok {ρ : Env} {β : Bet} {s : SV} {v : Value} (h : s.rel ρ β v) : relL ρ β (cellsX s) v.cells.toList := by
  cases s
  case agg cs => obtain ⟨l, hl, rfl⟩ := h; simpa [cellsX, Value.cells] using hl
  case raw u =>
    have h' := h
    obtain ⟨rfl, h1⟩ := h
    cases v <;> first | exact ⟨_, [], rfl, h', rfl⟩ | cases h1
  all_goals
    have h' := h
    simp only [SV.rel] at h
    first
      | (obtain ⟨_, _, _, rfl, _⟩ := h; exact ⟨_, [], rfl, h', rfl⟩)
      | (subst h; exact ⟨_, [], rfl, h', rfl⟩)
      | (obtain ⟨rfl, _⟩ := h; exact ⟨_, [], rfl, h', rfl⟩)
      | (obtain ⟨_, _, _, _, rfl⟩ := h; exact ⟨_, [], rfl, h', rfl⟩)
      | (obtain ⟨_, _, _, _, _, _, _, _, _, rfl⟩ := h; exact ⟨_, [], rfl, h', rfl⟩)
      | (obtain ⟨_, _, rfl⟩ := h; exact ⟨_, [], rfl, h', rfl⟩)
      | (obtain ⟨_, rfl, _⟩ := h; exact ⟨_, [], rfl, h', rfl⟩)

theorem fold_set : ∀ (l : List Value) (k off : Nat) (arr : Array Value), off + k + l.length ≤ arr.size →
    ((l.zipIdx k).foldl (fun cs (x : Value × Nat) => cs.setIfInBounds (off + x.2) x.1) arr).size = arr.size ∧
    ∀ i : Nat, ((l.zipIdx k).foldl (fun cs (x : Value × Nat) => cs.setIfInBounds (off + x.2) x.1) arr)[i]? = if off + k ≤ i ∧ i < off + k + l.length then l[i - (off + k)]? else arr[i]?
  | [], k, off, arr, _ => ⟨rfl, fun i => by rw [if_neg (by simp)]; rfl⟩
  | v :: l, k, off, arr, h => by
    obtain ⟨h1, h2⟩ := fold_set l (k + 1) off (arr.setIfInBounds (off + k) v) (by simp at h ⊢; omega)
    simp only [List.zipIdx_cons, List.foldl_cons]
    refine ⟨by rw [h1]; simp, fun i => ?_⟩
    rw [h2 i]
    simp only [List.length_cons] at h ⊢
    by_cases e : i = off + k
    · subst e
      rw [if_neg (by omega), if_pos (by omega), Array.getElem?_setIfInBounds_self_of_lt (by omega)]
      simp
    · rw [Array.getElem?_setIfInBounds_ne (by omega)]
      by_cases c : off + (k + 1) ≤ i ∧ i < off + (k + 1) + l.length
      · rw [if_pos c, if_pos (by omega)]
        rw [show i - (off + k) = (i - (off + (k + 1))) + 1 by omega]
        simp
      · rw [if_neg c, if_neg (by omega)]
def fillX (place : Nat → Option (Nat × Nat)) (cells : List SV) : List (Nat × SV) → Option (List SV)
  | [] => some cells
  | (i, v) :: rest => (match place i with
    | none => none
    | some (off, size) => bif Nat.beq (cellsX v).length size then (match writeL cells off (cellsX v) with
      | some cells' => fillX place cells' rest
      | none => none) else none)
inductive PartsRel (ρ : Env) (β : Bet) : List (Nat × SV) → List (Nat × Value) → Prop
  | nil : PartsRel ρ β [] []
  | cons {i : Nat} {s : SV} {v : Value} {ss : List (Nat × SV)} {vs : List (Nat × Value)} (h : s.rel ρ β v) (hs : PartsRel ρ β ss vs) : PartsRel ρ β ((i, s) :: ss) ((i, v) :: vs)
theorem fillX_ok {ρ : Env} {β : Bet} {place : Nat → Option (Nat × Nat)} : ∀ {ps : List (Nat × SV)} {qs : List (Nat × Value)} {cells cells' : List SV} {arr : Array Value}, PartsRel ρ β ps qs → relL ρ β cells arr.toList →
    fillX place cells ps = some cells' → ∃ arr', Instr.fill place arr qs = some arr' ∧ relL ρ β cells' arr'.toList
  | _, _, cells, cells', arr, .nil, hr, h => by cases h; exact ⟨arr, rfl, hr⟩
  | _, _, cells, cells', arr, .cons (i := i) (s := s) (v := v) hv hs, hr, h => by
    simp only [fillX] at h
    split at h
    · cases h
    · rename_i off size hp
      cases hb : Nat.beq (cellsX s).length size
      · rw [hb] at h; cases h
      · rw [hb] at h
        simp only [cond_true] at h
        split at h
        · rename_i cells1 hw
          have hsz := Nat.eq_of_beq_eq_true hb
          have hc := cellsX_ok hv
          have hcl := relL_length hc
          have hal := relL_length hr
          obtain ⟨hw1, hw2⟩ := writeL_length hw
          have hvs : v.cells.size = size := by simpa [hsz] using hcl
          obtain ⟨f1, f2⟩ := fold_set v.cells.toList 0 off arr (by simp at hcl hal ⊢; omega)
          have hr' : relL ρ β cells1 ((v.cells.toList.zipIdx 0).foldl (fun cs (x : Value × Nat) => cs.setIfInBounds (off + x.2) x.1) arr).toList := by
            refine relL_of_get (by simp at f1 hal ⊢; rw [f1]; omega) fun k s' hk => ?_
            rw [writeL_get hw k] at hk
            have := f2 k
            rw [Array.getElem?_toList, this]
            simp only [Nat.add_zero]
            rw [hcl]
            split at hk
            · rename_i c; rw [if_pos c]; exact relL_get hc hk
            · rename_i c; rw [if_neg c, ← Array.getElem?_toList]; exact relL_get hr hk
          obtain ⟨arr', e1, e2⟩ := fillX_ok hs hr' h
          refine ⟨arr', ?_, e2⟩
          simp only [Instr.fill, hp]
          rw [if_neg (by simp at hcl hal ⊢; omega), ← e1]
          congr 1
          rw [← Array.foldl_toList, Array.toList_zipIdx]
        · cases h
end Go.SX
