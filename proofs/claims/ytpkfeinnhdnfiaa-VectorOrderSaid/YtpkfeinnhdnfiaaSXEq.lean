/- SX, part 9b: equality by structure of values, memories and states; ends that are one are made one. -/
import Derived.Test.YtpkfeinnhdnfiaaSXMemOp
namespace Go.SX
open Go

def veq : Value → Value → Bool
  | .string a, .string b => leqB a.data.toList b.data.toList
  | .nilFunc, .nilFunc => true
  | .nilIface, .nilIface => true
  | .map none, .map none => true
  | _, _ => false
theorem veq_eq {a b : Value} (h : veq a b = true) : a = b := by
  unfold veq at h
  split at h
  · rename_i a b
    have := leqB_eq h
    obtain ⟨a⟩ := a
    obtain ⟨b⟩ := b
    simp only at this
    rw [← Array.toList_inj.1 this]
  · rfl
  · rfl
  · rfl
  · cases h
def oeqT : Option T → Option T → Bool
  | none, none => true
  | some a, some b => T.beq a b
  | _, _ => false
theorem oeqT_eq {a b : Option T} (h : oeqT a b = true) : a = b := by
  cases a <;> cases b <;> simp [oeqT] at h <;> first | rfl | rw [T.beq_eq h]
mutual
def SV.beq : SV → SV → Bool
  | .bool a, .bool b => B.beq a b
  | .int k a, .int l b => Nat.beq (kindNo k) (kindNo l) && T.beq a b
  | .nilp, .nilp => true
  | .ptr i a o, .ptr j b p => Nat.beq i j && T.beq a b && Nat.beq o p
  | .nils, .nils => true
  | .slice i a o l c, .slice j b p m d => Nat.beq i j && T.beq a b && Nat.beq o p && T.beq l m && oeqT c d
  | .fn f a, .fn g b => Nat.beq f g && beqL a b
  | .agg a, .agg b => beqL a b
  | .tup a, .tup b => beqL a b
  | .raw a, .raw b => veq a b
  | _, _ => false
def beqL : List SV → List SV → Bool
  | [], [] => true
  | a :: l, b :: m => SV.beq a b && beqL l m
  | _, _ => false
end
mutual
theorem SV.beq_eq : ∀ {a b : SV}, SV.beq a b = true → a = b
  | .bool a, b, h => by cases b <;> simp [SV.beq] at h; rw [B.beq_eq h]
  | .int k a, b, h => by
    cases b <;> simp only [SV.beq, Bool.and_eq_true, Bool.false_eq_true] at h
    rw [kindNo_inj h.1, T.beq_eq h.2]
  | .nilp, b, h => by cases b <;> simp [SV.beq] at h; rfl
  | .nils, b, h => by cases b <;> simp [SV.beq] at h; rfl
  | .ptr i a o, b, h => by
    cases b <;> simp only [SV.beq, Bool.and_eq_true, Bool.false_eq_true] at h
    rw [Nat.eq_of_beq_eq_true h.1.1, T.beq_eq h.1.2, Nat.eq_of_beq_eq_true h.2]
  | .slice i a o l c, b, h => by
    cases b <;> simp only [SV.beq, Bool.and_eq_true, Bool.false_eq_true] at h
    rw [Nat.eq_of_beq_eq_true h.1.1.1.1, T.beq_eq h.1.1.1.2, Nat.eq_of_beq_eq_true h.1.1.2, T.beq_eq h.1.2, oeqT_eq h.2]
  | .fn f a, b, h => by
    cases b <;> simp only [SV.beq, Bool.and_eq_true, Bool.false_eq_true] at h
    rw [Nat.eq_of_beq_eq_true h.1, beqL_eq h.2]
  | .agg a, b, h => by cases b <;> simp only [SV.beq, Bool.false_eq_true] at h; rw [beqL_eq h]
  | .tup a, b, h => by cases b <;> simp only [SV.beq, Bool.false_eq_true] at h; rw [beqL_eq h]
  | .raw a, b, h => by cases b <;> simp only [SV.beq, Bool.false_eq_true] at h; rw [veq_eq h]
theorem beqL_eq : ∀ {a b : List SV}, beqL a b = true → a = b
  | [], b, h => by cases b <;> simp [beqL] at h; rfl
  | x :: a, b, h => by
    cases b <;> simp only [beqL, Bool.and_eq_true, Bool.false_eq_true] at h
    rw [SV.beq_eq h.1, beqL_eq h.2]
end
def oeq {α : Type} (f : α → α → Bool) : Option α → Option α → Bool
  | none, none => true
  | some a, some b => f a b
  | _, _ => false
theorem oeq_eq {α : Type} {f : α → α → Bool} (hf : ∀ a b, f a b = true → a = b) {a b : Option α} (h : oeq f a b = true) : a = b := by
  cases a <;> cases b <;> simp [oeq] at h <;> first | rfl | rw [hf _ _ h]
def Tr.beq {α : Type} (f : α → α → Bool) : Tr α → Tr α → Bool
  | .nil, .nil => true
  | .node a l r, .node b m s => oeq f a b && Tr.beq f l m && Tr.beq f r s
  | _, _ => false
theorem Tr.beq_eq {α : Type} {f : α → α → Bool} (hf : ∀ a b, f a b = true → a = b) : ∀ {a b : Tr α}, Tr.beq f a b = true → a = b
  | .nil, b, h => by cases b <;> simp [Tr.beq] at h; rfl
  | .node x l r, b, h => by
    cases b <;> simp only [Tr.beq, Bool.and_eq_true, Bool.false_eq_true] at h
    rw [oeq_eq hf h.1.1, Tr.beq_eq hf h.1.2, Tr.beq_eq hf h.2]
def ckBeq : CK → CK → Bool
  | .b, .b => true
  | .i k, .i l => Nat.beq (kindNo k) (kindNo l)
  | _, _ => false
theorem ckBeq_eq {x y : CK} (h : ckBeq x y = true) : x = y := by
  cases x <;> cases y <;> simp only [ckBeq, Bool.false_eq_true] at h <;> first | rfl | rw [kindNo_inj h]
def leq {α : Type} (f : α → α → Bool) : List α → List α → Bool
  | [], [] => true
  | a :: l, b :: m => f a b && leq f l m
  | _, _ => false
theorem leq_eq {α : Type} {f : α → α → Bool} (hf : ∀ a b, f a b = true → a = b) : ∀ {a b : List α}, leq f a b = true → a = b
  | [], b, h => by cases b <;> simp [leq] at h; rfl
  | x :: a, b, h => by
    cases b <;> simp only [leq, Bool.and_eq_true, Bool.false_eq_true] at h
    rw [hf _ _ h.1, leq_eq hf h.2]
def genBeq (a b : Nat × SV) : Bool := Nat.beq a.1 b.1 && SV.beq a.2 b.2
theorem genBeq_eq (a b : Nat × SV) (h : genBeq a b = true) : a = b := by
  obtain ⟨a1, a2⟩ := a
  obtain ⟨b1, b2⟩ := b
  simp only [genBeq, Bool.and_eq_true] at h
  rw [Nat.eq_of_beq_eq_true h.1, SV.beq_eq h.2]
def rowBeq (a b : T × List SV) : Bool := T.beq a.1 b.1 && beqL a.2 b.2
theorem rowBeq_eq (a b : T × List SV) (h : rowBeq a b = true) : a = b := by
  obtain ⟨a1, a2⟩ := a
  obtain ⟨b1, b2⟩ := b
  simp only [rowBeq, Bool.and_eq_true] at h
  rw [T.beq_eq h.1, beqL_eq h.2]
def SArr.beq (A D : SArr) : Bool := (A.wr == D.wr) && Nat.beq A.r D.r && Nat.beq A.stride D.stride && T.beq A.len D.len && oeq rowBeq A.row D.row && leq genBeq A.gen D.gen && leq ckBeq A.ks D.ks && Nat.beq A.gk D.gk
theorem SArr.beq_eq {A D : SArr} (h : SArr.beq A D = true) : A = D := by
  obtain ⟨a1, a2, a3, a4, a5, a6, a8, a7⟩ := A
  obtain ⟨b1, b2, b3, b4, b5, b6, b8, b7⟩ := D
  simp only [SArr.beq, Bool.and_eq_true, beq_iff_eq] at h
  obtain ⟨⟨⟨⟨⟨⟨⟨h1, h2⟩, h3⟩, h4⟩, h5⟩, h6⟩, h7⟩, h8⟩ := h
  rw [h1, Nat.eq_of_beq_eq_true h2, Nat.eq_of_beq_eq_true h3, T.beq_eq h4, oeq_eq rowBeq_eq h5, leq_eq genBeq_eq h6, leq_eq (fun _ _ => ckBeq_eq) h7, Nat.eq_of_beq_eq_true h8]
def SObj.beq : SObj → SObj → Bool
  | .cells w a, .cells x b => (w == x) && beqL a b
  | .arr A, .arr D => SArr.beq A D
  | .buf e z a, .buf e' z' b => Nat.beq e e' && Nat.beq z z' && beqL a b
  | _, _ => false
theorem SObj.beq_eq {a b : SObj} (h : SObj.beq a b = true) : a = b := by
  cases a <;> cases b <;> simp only [SObj.beq, Bool.and_eq_true, beq_iff_eq, Bool.false_eq_true] at h
  · rw [h.1, beqL_eq h.2]
  · rw [SArr.beq_eq h]
  · rw [Nat.eq_of_beq_eq_true h.1.1, Nat.eq_of_beq_eq_true h.1.2, beqL_eq h.2]
def Mem.beq (a b : Mem) : Bool := Nat.beq a.nx b.nx && Tr.beq SObj.beq a.tr b.tr
theorem Mem.beq_eq {a b : Mem} (h : Mem.beq a b = true) : a = b := by
  obtain ⟨a1, a2⟩ := a
  obtain ⟨b1, b2⟩ := b
  simp only [Mem.beq, Bool.and_eq_true] at h
  rw [Nat.eq_of_beq_eq_true h.1, Tr.beq_eq (fun _ _ => SObj.beq_eq) h.2]
def pcItem (a b : B × Bool) : Bool := (a.2 == b.2) && B.beq a.1 b.1
theorem pcItem_eq (a b : B × Bool) (h : pcItem a b = true) : a = b := by
  obtain ⟨a1, a2⟩ := a
  obtain ⟨b1, b2⟩ := b
  simp only [pcItem, Bool.and_eq_true, beq_iff_eq] at h
  rw [h.1, B.beq_eq h.2]

/-! ends of a call that changes nothing that was there -/
mutual
def SV.scalar : SV → Bool
  | .bool _ => true
  | .int _ _ => true
  | .nilp => true
  | .nils => true
  | .raw _ => true
  | .agg cs => scalarL cs
  | .tup cs => scalarL cs
  | _ => false
def scalarL : List SV → Bool
  | [] => true
  | s :: ss => SV.scalar s && scalarL ss
end
def sameBelow (m0 m : Mem) : Nat → Bool
  | 0 => true
  | n + 1 => oeq SObj.beq (m.tr.get n) (m0.tr.get n) && sameBelow m0 m n
/-- the value, if all is as it was -/
def forgot (m0 : Mem) (o : COut) : Option SV := match o.ex with
  | .ret v => bif SV.scalar v && sameBelow m0 o.mem m0.nx then some v else none
  | _ => none
/-- a value that came on some way; is the way still known? -/
def insG (pc0 pc : PC) (v : SV) : List (PC × SV) → List (PC × SV)
  | [] => [(pc, v)]
  | (q, u) :: r => bif SV.beq v u then (pc0, u) :: r else (q, u) :: insG pc0 pc v r
def grouped (m0 : Mem) (pc0 : PC) : List COut → List (PC × SV) × List COut
  | [] => ([], [])
  | o :: os => (match grouped m0 pc0 os with
    | (gs, rs) => (match forgot m0 o with
      | some v => (insG pc0 o.pc v gs, rs)
      | none => (gs, o :: rs)))
def mergeC (m0 : Mem) (pc0 : PC) (l : List COut) : List COut := match grouped m0 pc0 l with
  | (gs, rs) => gs.map (fun g => ⟨g.1, m0, .ret g.2⟩) ++ rs
end Go.SX
