/- SX, part 2: symbolic values, symbolic memory, and how they stand to the model's world. -/
import Derived.Test.YtpkfeinnhdnfiaaSXTerm
import Derived.Orders
import Derived.OrdersHeld
import Derived.Laws.Sem
import Derived.Laws.Cells
import Derived.Laws.World
import Derived.Laws.Rows
import Derived.Below
namespace Go.SX

/-! a map from small numbers -/
inductive Tr (α : Type) where
  | nil
  | node (v : Option α) (l r : Tr α)
def Tr.get {α : Type} : Tr α → Nat → Option α
  | .nil, _ => none
  | .node v l r, n => match n with
    | 0 => v
    | m + 1 => bif Nat.beq (m % 2) 0 then l.get (m / 2) else r.get (m / 2)
/-- the fuel is above the number -/
def Tr.set {α : Type} : Nat → Tr α → Nat → α → Tr α
  | 0, t, _, _ => t
  | k + 1, t, n, x =>
    let (v, l, r) : Option α × Tr α × Tr α := match t with | .nil => (none, .nil, .nil) | .node v l r => (v, l, r)
    match n with
    | 0 => .node (some x) l r
    | m + 1 => bif Nat.beq (m % 2) 0 then .node v (Tr.set k l (m / 2) x) r else .node v l (Tr.set k r (m / 2) x)
def Tr.put {α : Type} (t : Tr α) (n : Nat) (x : α) : Tr α := Tr.set (n + 1) t n x
theorem Tr.get_set {α : Type} : ∀ (k : Nat) (t : Tr α) (n : Nat) (x : α), n < k → ∀ m, (Tr.set k t n x).get m = if m = n then some x else t.get m := by
  intro k
  induction k with
  | zero => intro t n x h; omega
  | succ k ih =>
    intro t n x h m
    have key : ∀ (v : Option α) (l r : Tr α), (match n with
        | 0 => Tr.node (some x) l r
        | m + 1 => bif Nat.beq (m % 2) 0 then .node v (Tr.set k l (m / 2) x) r else .node v l (Tr.set k r (m / 2) x)).get m =
        if m = n then some x else (Tr.node v l r).get m := by
      intro v l r
      cases n with
      | zero => cases m <;> simp [Tr.get]
      | succ n =>
        dsimp only
        cases hb : Nat.beq (n % 2) 0
        · cases m with
          | zero => simp [Tr.get]
          | succ m =>
            simp only [cond_false, Tr.get]
            cases hm : Nat.beq (m % 2) 0
            · simp only [cond_false]
              rw [ih r (n / 2) x (by omega)]
              have h1 : n % 2 ≠ 0 := fun h => by rw [h] at hb; cases hb
              have h2 : m % 2 ≠ 0 := fun h => by rw [h] at hm; cases hm
              by_cases e : m = n
              · simp [e]
              · have e2 : ¬ m / 2 = n / 2 := by omega
                simp [e, e2]
            · simp only [cond_true]
              have h1 : n % 2 ≠ 0 := fun h => by rw [h] at hb; cases hb
              have h2 : m % 2 = 0 := Nat.eq_of_beq_eq_true hm
              have e : ¬ m = n := by omega
              simp [e]
        · cases m with
          | zero => simp [Tr.get]
          | succ m =>
            simp only [cond_true, Tr.get]
            cases hm : Nat.beq (m % 2) 0
            · simp only [cond_false]
              have h1 : n % 2 = 0 := Nat.eq_of_beq_eq_true hb
              have h2 : m % 2 ≠ 0 := fun h => by rw [h] at hm; cases hm
              have e : ¬ m = n := by omega
              simp [e]
            · simp only [cond_true]
              rw [ih l (n / 2) x (by omega)]
              have h1 : n % 2 = 0 := Nat.eq_of_beq_eq_true hb
              have h2 : m % 2 = 0 := Nat.eq_of_beq_eq_true hm
              by_cases e : m = n
              · simp [e]
              · have e2 : ¬ m / 2 = n / 2 := by omega
                simp [e, e2]
    cases t with
    | nil => rw [show Tr.get (.nil : Tr α) m = (Tr.node none .nil .nil : Tr α).get m by cases m <;> simp [Tr.get]]; exact key none .nil .nil
    | node v l r => exact key v l r
theorem Tr.get_put {α : Type} (t : Tr α) (n : Nat) (x : α) (m : Nat) : (t.put n x).get m = if m = n then some x else t.get m :=
  Tr.get_set (n + 1) t n x (by omega) m

/-! symbolic values -/
/-- the kind of an unknown cell -/
inductive CK where
  | b
  | i (k : IntKind)
inductive SV where
  | bool (b : B)
  | int (k : IntKind) (t : T)
  | nilp
  | ptr (id : Nat) (idx : T) (off : Nat)
  | nils
  | slice (id : Nat) (idx : T) (off : Nat) (len : T) (cap : Option T)
  | fn (f : Nat) (caps : List SV)
  | agg (cs : List SV)
  | tup (vs : List SV)
  | raw (v : Value)
/-- where a symbolic block lies: its block, its first cell, cells an element, how many elements (stride 0: one row), and whether it may not be written -/
structure Blk where
  blk : Nat
  base : Nat
  stride : Nat
  cnt : Nat
  ro : Bool
abbrev Bet := List Blk

mutual
def SV.rel (ρ : Env) (β : Bet) : SV → Value → Prop
  | .bool b, v => v = .bool (b.ev ρ)
  | .int k t, v => v = .int k (t.ev ρ) ∧ inK k (t.ev ρ) = true
  | .nilp, v => v = .pointer none
  | .ptr id idx off, v => ∃ e, β[id]? = some e ∧ 0 ≤ idx.ev ρ ∧ (e.stride ≠ 0 → idx.ev ρ < e.cnt) ∧ v = .pointer (some ⟨e.blk, e.base + (idx.ev ρ).toNat * e.stride + off, none⟩)
  | .nils, v => v = .slice none 0 0
  | .slice id idx off len cap, v => ∃ e, ∃ l c : Nat, β[id]? = some e ∧ 0 ≤ idx.ev ρ ∧ len.ev ρ = l ∧ l ≤ c ∧ c ≤ 9223372036854775807 ∧ (∀ t, cap = some t → t.ev ρ = c ∨ (t.ev ρ = -1 ∧ e.stride = 0 ∧ c ≤ e.cnt)) ∧
      v = .slice (some ⟨e.blk, e.base + (idx.ev ρ).toNat * e.stride + off, none⟩) l c
  | .fn f caps, v => ∃ l, relL ρ β caps l ∧ v = .func (.func f) #[] l.toArray
  | .agg cs, v => ∃ l, relL ρ β cs l ∧ v = .agg l.toArray
  | .tup vs, v => ∃ l, relL ρ β vs l ∧ v = .tuple l.toArray
  | .raw u, v => v = u ∧ u.oneCell' = true
def relL (ρ : Env) (β : Bet) : List SV → List Value → Prop
  | [], l => l = []
  | s :: ss, l => ∃ v vs, l = v :: vs ∧ SV.rel ρ β s v ∧ relL ρ β ss vs
end
mutual
theorem SV.rel_mono {ρ : Env} {β : Bet} (γ : Bet) : ∀ (s : SV) (v : Value), s.rel ρ β v → s.rel ρ (β ++ γ) v
  | .bool _, _, h | .int _ _, _, h | .nilp, _, h | .nils, _, h | .raw _, _, h => h
  | .ptr _ _ _, _, h => by
    obtain ⟨e, he, r⟩ := h
    exact ⟨e, by rw [List.getElem?_append_left (List.getElem?_eq_some_iff.1 he).1]; exact he, r⟩
  | .slice _ _ _ _ _, _, h => by
    obtain ⟨e, l, c, he, r⟩ := h
    exact ⟨e, l, c, by rw [List.getElem?_append_left (List.getElem?_eq_some_iff.1 he).1]; exact he, r⟩
  | .fn _ caps, _, h => by obtain ⟨l, hl, r⟩ := h; exact ⟨l, relL_mono γ caps l hl, r⟩
  | .agg cs, _, h => by obtain ⟨l, hl, r⟩ := h; exact ⟨l, relL_mono γ cs l hl, r⟩
  | .tup cs, _, h => by obtain ⟨l, hl, r⟩ := h; exact ⟨l, relL_mono γ cs l hl, r⟩
theorem relL_mono {ρ : Env} {β : Bet} (γ : Bet) : ∀ (ss : List SV) (l : List Value), relL ρ β ss l → relL ρ (β ++ γ) ss l
  | [], _, h => h
  | s :: ss, _, h => by
    obtain ⟨v, vs, rfl, h1, h2⟩ := h
    exact ⟨v, vs, rfl, SV.rel_mono γ s v h1, relL_mono γ ss vs h2⟩
end
theorem relL_length {ρ : Env} {β : Bet} : ∀ {ss : List SV} {l : List Value}, relL ρ β ss l → l.length = ss.length
  | [], _, h => by rw [h]; rfl
  | s :: ss, _, h => by obtain ⟨v, vs, rfl, _, h2⟩ := h; simp [relL_length h2]
theorem relL_get {ρ : Env} {β : Bet} : ∀ {ss : List SV} {l : List Value}, relL ρ β ss l → ∀ {i : Nat} {s : SV}, ss[i]? = some s → ∃ v, l[i]? = some v ∧ s.rel ρ β v
  | [], _, _, i, s, hs => by simp at hs
  | s :: ss, _, h, i, s', hs => by
    obtain ⟨v, vs, rfl, h1, h2⟩ := h
    cases i with
    | zero => simp at hs; subst hs; exact ⟨v, rfl, h1⟩
    | succ i => simp at hs; obtain ⟨u, hu, r⟩ := relL_get h2 hs; exact ⟨u, by simpa using hu, r⟩
theorem relL_of_get {ρ : Env} {β : Bet} : ∀ {ss : List SV} {l : List Value}, l.length = ss.length → (∀ (i : Nat) (s : SV), ss[i]? = some s → ∃ v, l[i]? = some v ∧ s.rel ρ β v) → relL ρ β ss l
  | [], l, hl, _ => by simpa [relL] using hl
  | s :: ss, [], hl, _ => by simp at hl
  | s :: ss, v :: vs, hl, h => by
    obtain ⟨u, hu, r⟩ := h 0 s rfl
    simp at hu; subst hu
    refine ⟨v, vs, rfl, r, relL_of_get (by simpa using hl) fun i s' hs => ?_⟩
    obtain ⟨u, hu, r⟩ := h (i + 1) s' (by simpa using hs)
    exact ⟨u, by simpa using hu, r⟩
theorem relL_append {ρ : Env} {β : Bet} {ss tt : List SV} {l m : List Value} (h : relL ρ β ss l) (h' : relL ρ β tt m) : relL ρ β (ss ++ tt) (l ++ m) := by
  induction ss generalizing l with
  | nil => rw [show l = [] from h]; exact h'
  | cons s ss ih => obtain ⟨v, vs, rfl, h1, h2⟩ := h; exact ⟨v, vs ++ m, rfl, h1, ih h2⟩
theorem relL_drop {ρ : Env} {β : Bet} : ∀ {ss : List SV} {l : List Value} (n : Nat), relL ρ β ss l → relL ρ β (ss.drop n) (l.drop n)
  | _, _, 0, h => h
  | [], _, n + 1, h => by rw [show _ = [] from h]; rfl
  | s :: ss, _, n + 1, h => by obtain ⟨v, vs, rfl, _, h2⟩ := h; exact relL_drop n h2
theorem relL_take {ρ : Env} {β : Bet} : ∀ {ss : List SV} {l : List Value} (n : Nat), relL ρ β ss l → relL ρ β (ss.take n) (l.take n)
  | _, _, 0, _ => rfl
  | [], _, n + 1, h => by rw [show _ = [] from h]; rfl
  | s :: ss, _, n + 1, h => by obtain ⟨v, vs, rfl, h1, h2⟩ := h; exact ⟨v, vs.take n, rfl, h1, relL_take n h2⟩

/-! memory -/
/-- an array of rows, all unknown but one, that is written; 'gen': cells that are known in all others -/
structure SArr where
  wr : Bool
  r : Nat
  stride : Nat
  ks : List CK
  len : T
  row : Option (T × List SV)
  gk : Nat
  gen : List (Nat × SV)
inductive SObj where
  | cells (wr : Bool) (cs : List SV)
  | arr (A : SArr)
  /-- a block of unknown room, that a slice grew: its first cells -/
  | buf (el : TypeId) (sz : Nat) (cs : List SV)
def mkCell (r : Nat) (i : T) (f : Nat) : CK → SV
  | .b => .bool (.cell r i f)
  | .i k => .int k (.cell r i f)
def baseRow (r : Nat) (i : T) : List CK → Nat → List SV
  | [], _ => []
  | k :: ks, f => mkCell r i f k :: baseRow r i ks (f + 1)
def setAll : List (Nat × SV) → List SV → List SV
  | [], l => l
  | (f, v) :: r, l => (setAll r l).set f v
/-- a row's template: the cell at an index -/
def instSV (k : Nat) (i : T) : SV → SV
  | .bool b => .bool (instB k i b)
  | .int q t => .int q (instT k i t)
  | s => s
def okSV (k : Nat) : SV → Bool
  | .bool b => okB k b
  | .int _ t => okT k t
  | .nilp => true
  | .nils => true
  | .raw _ => true
  | _ => false
def instG (k : Nat) (i : T) : List (Nat × SV) → List (Nat × SV)
  | [] => []
  | (f, s) :: r => (f, instSV k i s) :: instG k i r
def genOk (k : Nat) : List (Nat × SV) → Bool
  | [] => true
  | (_, s) :: r => okSV k s && genOk k r
theorem instSV_rel {k : Nat} {i : T} {ρ : Env} {β : Bet} {s : SV} {v : Value} (h : okSV k s = true) : (instSV k i s).rel ρ β v ↔ s.rel (ρ.at k (i.ev ρ)) β v := by
  cases s <;> simp only [okSV, Bool.false_eq_true] at h <;> simp only [instSV, SV.rel]
  · rw [instB_ev h]
  · rw [instT_ev h]
def SArr.base (A : SArr) (i : T) : List SV := setAll (instG A.gk i A.gen) (baseRow A.r i A.ks 0)
/-- what row j is -/
def SArr.at (A : SArr) (ρ : Env) (j : Nat) : List SV :=
  match A.row with
  | some (t, cs) => if t.ev ρ = j then cs else A.base (.lit j)
  | none => A.base (.lit j)
def objRel (ρ : Env) (β : Bet) (e : Blk) (w : World) : SObj → Prop
  | .cells wr cs => (wr = true → e.ro = false) ∧ e.base = 0 ∧ e.stride = 0 ∧ ∃ arr el fr, w.heap[e.blk]? = some (.cells arr el fr) ∧ (e.ro = false → fr = (0, 0)) ∧ relL ρ β cs arr.toList
  | .arr A => (A.wr = true → e.ro = false) ∧ e.stride = A.stride ∧ 0 < A.stride ∧ A.ks.length = A.stride ∧ A.len.ev ρ = e.cnt ∧ (genOk A.gk A.gen = true ∧ ∀ t cs, A.row = some (t, cs) → cs.length = A.stride) ∧
      ∃ arr el fr, w.heap[e.blk]? = some (.cells arr el fr) ∧ (e.ro = false → fr = (0, 0)) ∧
        ∀ j, j < e.cnt → ∀ f sv, (A.at ρ j)[f]? = some sv → ∃ v, arr[e.base + j * e.stride + f]? = some v ∧ sv.rel ρ β v
  | .buf el sz cs => e.ro = false ∧ e.base = 0 ∧ e.stride = 0 ∧ ∃ arr, w.heap[e.blk]? = some (.cells arr el (0, 0)) ∧ arr.size = e.cnt * sz ∧ ∃ vs rest, arr.toList = vs ++ rest ∧ relL ρ β cs vs
structure Mem where
  tr : Tr SObj
  nx : Nat
structure MemRel (ρ : Env) (β : Bet) (m : Mem) (w : World) : Prop where
  nx : m.nx = β.length
  obj : ∀ id o, m.tr.get id = some o → ∃ e, β[id]? = some e ∧ objRel ρ β e w o
  lt : ∀ e ∈ β, e.blk < w.heap.size
  apart : ∀ (i j : Nat) (e e' : Blk), β[i]? = some e → β[j]? = some e' → i ≠ j → e.blk = e'.blk → e.ro = true ∧ e'.ro = true
  dom : ∀ id, m.nx ≤ id → m.tr.get id = none

/-- the part of it that reading wants -/
structure MemO (ρ : Env) (β : Bet) (m : Mem) (w : World) : Prop where
  obj : ∀ id o, m.tr.get id = some o → ∃ e, β[id]? = some e ∧ objRel ρ β e w o
  apart : ∀ (i j : Nat) (e e' : Blk), β[i]? = some e → β[j]? = some e' → i ≠ j → e.blk = e'.blk → e.ro = true ∧ e'.ro = true
theorem MemRel.o {ρ : Env} {β : Bet} {m : Mem} {w : World} (h : MemRel ρ β m w) : MemO ρ β m w := ⟨h.obj, h.apart⟩
/-- two worlds that are one at the blocks that are known -/
def Same (β : Bet) (m : Mem) (w w' : World) : Prop := ∀ id o e, m.tr.get id = some o → β[id]? = some e → w'.heap[e.blk]? = w.heap[e.blk]?
theorem Same.refl (β : Bet) (m : Mem) (w : World) : Same β m w w := fun _ _ _ _ _ => rfl

/-- what a step may do to the world -/
structure Stp (β : Bet) (lk : List Nat) (w : World) (β' : Bet) (w' : World) : Prop where
  ext : ∃ γ, β' = β ++ γ ∧ ∀ e ∈ γ, w.heap.size ≤ e.blk
  os : w'.os = w.os
  tape : w'.tape = w.tape
  output : w'.output = w.output
  size : w.heap.size ≤ w'.heap.size
  keep : ∀ k, k < w.heap.size → (∀ e ∈ β, e.ro = false → e.blk ≠ k) → w'.heap[k]? = w.heap[k]?
  lock : ∀ id ∈ lk, ∀ e, β[id]? = some e → w'.heap[e.blk]? = w.heap[e.blk]?
theorem Stp.refl (β : Bet) (lk : List Nat) (w : World) : Stp β lk w β w :=
  ⟨⟨[], by simp, by simp⟩, rfl, rfl, rfl, Nat.le_refl _, fun _ _ _ => rfl, fun _ _ _ _ => rfl⟩
theorem Stp.trans {β β₁ β₂ : Bet} {lk : List Nat} {w w₁ w₂ : World} (h : Stp β lk w β₁ w₁) (k : Stp β₁ lk w₁ β₂ w₂) : Stp β lk w β₂ w₂ := by
  obtain ⟨γ, rfl, hγ⟩ := h.ext
  obtain ⟨δ, rfl, hδ⟩ := k.ext
  refine ⟨⟨γ ++ δ, by simp, fun e he => ?_⟩, k.os.trans h.os, k.tape.trans h.tape, k.output.trans h.output, Nat.le_trans h.size k.size, fun b hb hn => ?_, fun id hid e he => ?_⟩
  · rcases List.mem_append.1 he with h1 | h1
    · exact hγ e h1
    · exact Nat.le_trans h.size (hδ e h1)
  · rw [k.keep b (Nat.lt_of_lt_of_le hb h.size) fun e he hr => ?_, h.keep b hb hn]
    rcases List.mem_append.1 he with h1 | h1
    · exact hn e h1 hr
    · have := hγ e h1; omega
  · rw [k.lock id hid e (by rw [List.getElem?_append_left (List.getElem?_eq_some_iff.1 he).1]; exact he), h.lock id hid e he]
theorem Stp.unlock {β β' : Bet} {lk lk' : List Nat} {w w' : World} (h : Stp β lk w β' w') (hs : ∀ id ∈ lk', id ∈ lk) : Stp β lk' w β' w' :=
  ⟨h.ext, h.os, h.tape, h.output, h.size, h.keep, fun id hid => h.lock id (hs id hid)⟩
theorem Stp.rel {ρ : Env} {β β' : Bet} {lk : List Nat} {w w' : World} (h : Stp β lk w β' w') {s : SV} {v : Value} (hs : s.rel ρ β v) : s.rel ρ β' v := by
  obtain ⟨γ, rfl, _⟩ := h.ext; exact SV.rel_mono γ s v hs
theorem Stp.relL {ρ : Env} {β β' : Bet} {lk : List Nat} {w w' : World} (h : Stp β lk w β' w') {s : List SV} {v : List Value} (hs : relL ρ β s v) : relL ρ β' s v := by
  obtain ⟨γ, rfl, _⟩ := h.ext; exact relL_mono γ s v hs
/-- all lie apart, none may be read only: what 'Below' wants -/
theorem Stp.below {β β' : Bet} {lk : List Nat} {w w' : World} (h : Stp β lk w β' w') (hro : ∀ e ∈ β, e.ro = true) : RowKit.Below w.heap.size w w' :=
  ⟨h.os, h.tape, h.output, h.size, fun k hk => h.keep k hk fun e he hr => by rw [hro e he] at hr; cases hr⟩
/-- drawing changes nothing -/
theorem Stp.drew (β : Bet) (lk : List Nat) (w : World) (n : Nat) : Stp β lk w β { w with drawn := n } :=
  ⟨⟨[], by simp, by simp⟩, rfl, rfl, rfl, Nat.le_refl _, fun _ _ _ => rfl, fun _ _ _ _ => rfl⟩
theorem objRel_heap {ρ : Env} {β : Bet} {e : Blk} {w w' : World} {o : SObj} (h : objRel ρ β e w o) (hw : w'.heap[e.blk]? = w.heap[e.blk]?) : objRel ρ β e w' o := by
  cases o with
  | cells wr cs => simpa only [objRel, hw] using h
  | arr A => simpa only [objRel, hw] using h
  | buf el sz cs => simpa only [objRel, hw] using h
theorem MemO.same {ρ : Env} {β : Bet} {m : Mem} {w w' : World} (h : MemO ρ β m w) (hs : Same β m w w') : MemO ρ β m w' :=
  ⟨fun id o ho => let ⟨e, he, r⟩ := h.obj id o ho; ⟨e, he, objRel_heap r (hs id o e ho he)⟩, h.apart⟩
theorem MemRel.drew {ρ : Env} {β : Bet} {m : Mem} {w : World} (h : MemRel ρ β m w) (n : Nat) : MemRel ρ β m { w with drawn := n } :=
  ⟨h.nx, fun id o ho => let ⟨e, he, r⟩ := h.obj id o ho; ⟨e, he, objRel_heap r rfl⟩, h.lt, h.apart, h.dom⟩
theorem objRel_mono {ρ : Env} {β : Bet} (γ : Bet) {e : Blk} {w : World} {o : SObj} (h : objRel ρ β e w o) : objRel ρ (β ++ γ) e w o := by
  cases o with
  | cells wr cs =>
    obtain ⟨h0, h1, h2, arr, el, fr, h3, h4, h5⟩ := h
    exact ⟨h0, h1, h2, arr, el, fr, h3, h4, relL_mono γ _ _ h5⟩
  | arr A =>
    obtain ⟨h0, h1, h2, h2', h2a, h2b, arr, el, fr, h3, h4, h5⟩ := h
    exact ⟨h0, h1, h2, h2', h2a, h2b, arr, el, fr, h3, h4, fun j hj f sv hs => let ⟨v, hv, r⟩ := h5 j hj f sv hs; ⟨v, hv, SV.rel_mono γ _ _ r⟩⟩
  | buf el sz cs =>
    obtain ⟨h0, h1, h2, arr, h3, h4, vs, rest, h5, h6⟩ := h
    exact ⟨h0, h1, h2, arr, h3, h4, vs, rest, h5, relL_mono γ _ _ h6⟩
def Mem.push (m : Mem) (o : SObj) : Mem := ⟨m.tr.put m.nx o, m.nx + 1⟩
/-- a new block of cells -/
theorem MemRel.alloc {ρ : Env} {β : Bet} {m : Mem} {w : World} (h : MemRel ρ β m w) {cs : List SV} {arr : Array Value} (el : TypeId) (hc : relL ρ β cs arr.toList) :
    MemRel ρ (β ++ [⟨w.heap.size, 0, 0, 0, false⟩]) (m.push (.cells true cs)) { w with heap := w.heap.push (.cells arr el) } := by
  have hold : ∀ k, k < w.heap.size → (w.heap.push (.cells arr el))[k]? = w.heap[k]? := fun k hk => by rw [Array.getElem?_push, if_neg (by omega)]
  refine ⟨by simp [Mem.push, h.nx], fun id o ho => ?_, fun e he => ?_, fun i j e e' hi hj hne hb => ?_, fun id hid => ?_⟩
  · simp only [Mem.push, Tr.get_put] at ho
    by_cases hid : id = m.nx
    · rw [if_pos hid] at ho
      cases ho
      refine ⟨⟨w.heap.size, 0, 0, 0, false⟩, by rw [hid, h.nx]; simp, fun _ => rfl, rfl, rfl, arr, el, (0, 0), by simp, fun _ => rfl, relL_mono _ _ _ hc⟩
    · rw [if_neg hid] at ho
      obtain ⟨e, he, r⟩ := h.obj id o ho
      have hlt := (List.getElem?_eq_some_iff.1 he).1
      refine ⟨e, by rw [List.getElem?_append_left hlt]; exact he, objRel_mono _ (objRel_heap r ?_)⟩
      exact hold _ (h.lt e (List.mem_of_getElem? he))
  · rcases List.mem_append.1 he with h1 | h1
    · have := h.lt e h1; simp; omega
    · simp at h1; subst h1; simp
  · by_cases hi' : i < β.length
    · rw [List.getElem?_append_left hi'] at hi
      by_cases hj' : j < β.length
      · rw [List.getElem?_append_left hj'] at hj
        exact h.apart i j e e' hi hj hne hb
      · have hx : e' = ⟨w.heap.size, 0, 0, 0, false⟩ := by
          have := List.mem_of_getElem? (l := [_]) (by rw [List.getElem?_append_right (by omega)] at hj; exact hj); simpa using this
        have := h.lt e (List.mem_of_getElem? hi)
        rw [hx] at hb; simp at hb; omega
    · by_cases hj' : j < β.length
      · rw [List.getElem?_append_left hj'] at hj
        have hx : e = ⟨w.heap.size, 0, 0, 0, false⟩ := by
          have := List.mem_of_getElem? (l := [_]) (by rw [List.getElem?_append_right (by omega)] at hi; exact hi); simpa using this
        have := h.lt e' (List.mem_of_getElem? hj)
        rw [hx] at hb; simp at hb; omega
      · have h1 := (List.getElem?_eq_some_iff.1 hi).1
        have h2 := (List.getElem?_eq_some_iff.1 hj).1
        simp at h1 h2; omega
  · simp only [Mem.push] at hid ⊢
    rw [Tr.get_put, if_neg (by omega)]
    exact h.dom id (by omega)
theorem Stp.alloc {β : Bet} (lk : List Nat) {w : World} (hlt : ∀ e ∈ β, e.blk < w.heap.size) (o : Obj) (e : Blk) (he : e.blk = w.heap.size) : Stp β lk w (β ++ [e]) { w with heap := w.heap.push o } :=
  ⟨⟨[e], rfl, by simp [he]⟩, rfl, rfl, rfl, by simp, fun k hk _ => by simp only; rw [Array.getElem?_push, if_neg (by omega)], fun id _ e' he' => by
    have := hlt e' (List.mem_of_getElem? he')
    simp only
    rw [Array.getElem?_push, if_neg (by omega)]⟩
end Go.SX
