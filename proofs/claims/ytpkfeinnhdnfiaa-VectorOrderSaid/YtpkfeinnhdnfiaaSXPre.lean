/- SX, part 10a: states, ends, ways that can not be. -/
import Derived.Test.YtpkfeinnhdnfiaaSXGrow
import Derived.Tactics
namespace Go.SX
open Go

structure St where
  tm : Tr SV
  mem : Mem
  pc : PC
  fid : Nat
inductive XE where
  | norm
  | exit (id : Nat)
  | ret
  | stuck (why : Nat)
structure Out where
  ex : XE
  st : St
inductive Task where
  | code (c : Code)
  | ops (all rest : List Oper)
  | drw (all : List Oper) (listed : List Bool) (k : Nat) (K : List Nat)
  | dop (all : List Oper) (listed : List Bool) (k : Nat) (K : List Nat) (i : Nat)
def St.know (st : St) (b : B) (v : Bool) : St := { st with pc := addPc b v st.pc }
def St.put (nt : Nat) (st : St) (d : Option Tmp) (v : SV) : St := match d with
  | none => st
  | some d => bif Nat.blt d nt then { st with tm := st.tm.put d v } else st
def app : Option (List Out) → Option (List Out) → Option (List Out)
  | some a, some b => some (a ++ b)
  | _, _ => none
def bindL (f : Out → Option (List Out)) : List Out → Option (List Out)
  | [] => some []
  | o :: os => app (f o) (bindL f os)
def bindN (r : Option (List Out)) (f : St → Option (List Out)) : Option (List Out) := match r with
  | none => none
  | some l => bindL (fun o => match o.ex with | .norm => f o.st | _ => some [o]) l
def blockX (id : Nat) (o : Out) : Out := match o.ex with
  | .exit i => bif Nat.beq i id then ⟨.norm, o.st⟩ else o
  | _ => o
/-- ends that are one -/
def xeBeq : XE → XE → Bool
  | .norm, .norm => true
  | .exit i, .exit j => Nat.beq i j
  | .ret, .ret => true
  | .stuck i, .stuck j => Nat.beq i j
  | _, _ => false
theorem xeBeq_eq {a b : XE} (h : xeBeq a b = true) : a = b := by
  cases a <;> cases b <;> simp [xeBeq] at h <;> first | rfl | rw [h]
def outBeq (a b : Out) : Bool := xeBeq a.ex b.ex && leq pcItem a.st.pc b.st.pc && Tr.beq SV.beq a.st.tm b.st.tm && Mem.beq a.st.mem b.st.mem && Nat.beq a.st.fid b.st.fid
theorem outBeq_eq {a b : Out} (h : outBeq a b = true) : a = b := by
  obtain ⟨a1, a2, a3, a4, a5⟩ := a
  obtain ⟨b1, b2, b3, b4, b5⟩ := b
  simp only [outBeq, Bool.and_eq_true] at h
  obtain ⟨⟨⟨⟨h1, h2⟩, h3⟩, h4⟩, h5⟩ := h
  rw [xeBeq_eq h1, leq_eq pcItem_eq h2, Tr.beq_eq (fun _ _ => SV.beq_eq) h3, Mem.beq_eq h4, Nat.eq_of_beq_eq_true h5]
def dedup : List Out → List Out
  | [] => []
  | o :: os => bif os.any (outBeq o) then dedup os else o :: dedup os
theorem dedup_mem : ∀ {l : List Out} {o : Out}, o ∈ l → o ∈ dedup l
  | x :: l, o, h => by
    simp only [dedup]
    cases ha : l.any (outBeq x)
    · simp only [cond_false]
      cases h with
      | head => exact .head _
      | tail _ h => exact .tail _ (dedup_mem h)
    · simp only [cond_true]
      cases h with
      | head =>
        obtain ⟨y, hy, hb⟩ := List.any_eq_true.1 ha
        rw [outBeq_eq hb]; exact dedup_mem hy
      | tail _ h => exact dedup_mem h
/-- does an operation run? -/
inductive Want where
  | yes
  | no
  | split (b : B)
  | lost
def wantX (all : List Oper) (st : St) (o : Oper) : Want := match o.guard with
  | none => .yes
  | some (j, want) => (match all[j]? with
    | some oj => (match oj.dst with
      | some d => (match st.tm.get d with
        | some (.bool b) => (match simpB st.pc b with | .lit v => (bif v == want then .yes else .no) | b' => .split b')
        | some (.tup []) => .no
        | _ => .lost)
      | none => .no)
    | none => .no)
def undefX : SV := .tup []
/-- the callee and its arguments -/
def calleeX (tm : Tr SV) (op : Op) : Option (Nat × List SV) := match op with
  | .call c => (match c.callee with
    | .value f => (match evX tm f, evXL tm c.args.toList with
      | some (.fn id caps), some args => some (id, args ++ caps)
      | _, _ => none)
    | _ => none)
  | _ => none
def initTm : List SV → Nat → Tr SV → Tr SV
  | [], _, t => t
  | s :: ss, i, t => initTm ss (i + 1) (t.put i s)
def resX (C : Cfg) (st : St) : List ResultVar → Option (List SV)
  | [] => some []
  | .tmp t :: r => (match st.tm.get t, resX C st r with | some s, some ss => some (s :: ss) | _, _ => none)
  | .cell a t :: r => (match st.tm.get a with
    | some p => (match xLoad C st.pc st.mem t p, resX C st r with | .ok s, some ss => some (s :: ss) | _, _ => none)
    | none => none)
def oneX : List SV → SV
  | [s] => s
  | l => .tup l
def toC (C : Cfg) (fn : Func) (o : Out) : COut := match o.ex with
  | .norm => (match resX C o.st fn.results.toList with | some l => ⟨o.st.pc, o.st.mem, .ret (oneX l)⟩ | none => ⟨o.st.pc, o.st.mem, .stuck 30⟩)
  | .ret => (match resX C o.st fn.results.toList with | some l => ⟨o.st.pc, o.st.mem, .ret (oneX l)⟩ | none => ⟨o.st.pc, o.st.mem, .stuck 30⟩)
  | .exit _ => ⟨o.st.pc, o.st.mem, .stuck 31⟩
  | .stuck k => ⟨o.st.pc, o.st.mem, .stuck k⟩
def bindC (f : COut → Option (List Out)) : List COut → Option (List Out)
  | [] => some []
  | o :: os => app (f o) (bindC f os)
/-- what follows a call -/
def afterC (nt : Nat) (st : St) (dst : Option Tmp) (next : St → Option (List Out)) (o : COut) : Option (List Out) := match o.ex with
  | .ret v => next (St.put nt { st with mem := o.mem, pc := o.pc } dst v)
  | .panic _ => some [⟨.stuck 32, { st with mem := o.mem, pc := o.pc }⟩]
  | .stuck k => some [⟨.stuck k, { st with mem := o.mem, pc := o.pc }⟩]

/-- a way that can't be -/
def emptyBd (b : Bd) : Bool := match b with | (some l, some h) => ilt h l | _ => false
def emptyIn (pc : PC) : B → Bool
  | .eqI a _ => emptyBd (rng pc a)
  | .ltI a b => emptyBd (rng pc a) || emptyBd (rng pc b)
  | _ => false
theorem emptyBd_ok {b : Bd} {n : Int} (h : emptyBd b = true) : ¬ b.ok n := fun hb => by
  unfold emptyBd at h
  split at h
  · rename_i l u
    have h1 := hb.1 l rfl
    have h2 := hb.2 u rfl
    rw [ilt_iff] at h
    simp at h; omega
  · cases h
theorem emptyIn_ok {ρ : Env} {pc : PC} {b : B} (h : emptyIn pc b = true) : ¬ PcH ρ pc := fun hp => by
  unfold emptyIn at h
  split at h
  · exact emptyBd_ok h (rng_ok hp _)
  · rw [Bool.or_eq_true] at h
    rcases h with h | h
    · exact emptyBd_ok h (rng_ok hp _)
    · exact emptyBd_ok h (rng_ok hp _)
  · cases h
/-- a fact that the others deny -/
def deny (pc : PC) (x : B × Bool) : Bool := match simpB (pc.filter fun y => !(pcItem x y)) x.1 with | .lit u => !(u == x.2) | _ => false
theorem deny_ok {ρ : Env} {pc : PC} {x : B × Bool} (hx : x ∈ pc) (h : deny pc x = true) : ¬ PcH ρ pc := fun hp => by
  unfold deny at h
  have h1 := hp x hx
  have h2 := simpB_ev (ρ := ρ) (pc := pc.filter fun y => !(pcItem x y)) (fun y hy => hp y (List.mem_filter.1 hy).1) x.1
  split at h
  · rename_i u hu
    rw [hu, h1] at h2
    simp only [B.ev] at h2
    rw [h2] at h
    simp at h
  · cases h
def deadPc (pc : PC) : Bool := pc.any fun x => (match knownR pc x.1 with | .lit u => !(u == x.2) | _ => false) || emptyIn pc x.1 || deny pc x
theorem deadPc_ok {ρ : Env} {pc : PC} (h : deadPc pc = true) : ¬ PcH ρ pc := fun hp => by
  obtain ⟨x, hx, hb⟩ := List.any_eq_true.1 h
  rw [Bool.or_eq_true, Bool.or_eq_true] at hb
  rcases hb with (hb | hb) | hb
  rotate_left
  · exact emptyIn_ok hb hp
  · exact deny_ok hx hb hp
  have h1 := hp x hx
  have h2 := knownR_ev hp x.1
  split at hb
  · rename_i u hu
    rw [hu, h1] at h2
    simp only [B.ev] at h2
    rw [h2] at hb
    simp at hb
  · cases hb
def live (l : List COut) : List COut := l.filter fun o => !(deadPc o.pc)
theorem live_mem {ρ : Env} {l : List COut} {o : COut} (ho : o ∈ l) (hp : PcH ρ o.pc) : o ∈ live l := by
  refine List.mem_filter.2 ⟨ho, ?_⟩
  cases h : deadPc o.pc
  · rfl
  · exact (deadPc_ok h hp).elim
/-- an end, what is new in memory forgotten -/
def truncO (m0 : Mem) (o : COut) : COut := match joinC m0.nx [] [o] with
  | some (v, t, _) => ⟨o.pc, ⟨t, m0.nx⟩, .ret v⟩
  | none => o
def endBeq : CEnd → CEnd → Bool
  | .ret a, .ret b => SV.beq a b
  | _, _ => false
theorem endBeq_eq {a b : CEnd} (h : endBeq a b = true) : a = b := by
  cases a <;> cases b <;> simp [endBeq] at h
  rw [SV.beq_eq h]
def coutBeq (a b : COut) : Bool := endBeq a.ex b.ex && leq pcItem a.pc b.pc && Mem.beq a.mem b.mem
theorem coutBeq_eq {a b : COut} (h : coutBeq a b = true) : a = b := by
  obtain ⟨a1, a2, a3⟩ := a
  obtain ⟨b1, b2, b3⟩ := b
  simp only [coutBeq, Bool.and_eq_true] at h
  rw [endBeq_eq h.1.1, leq_eq pcItem_eq h.1.2, Mem.beq_eq h.2]
def dedupC : List COut → List COut
  | [] => []
  | o :: os => bif os.any (coutBeq o) then dedupC os else o :: dedupC os
theorem dedupC_mem : ∀ {l : List COut} {o : COut}, o ∈ l → o ∈ dedupC l
  | x :: l, o, h => by
    simp only [dedupC]
    cases ha : l.any (coutBeq x)
    · simp only [cond_false]
      cases h with
      | head => exact .head _
      | tail _ h => exact .tail _ (dedupC_mem h)
    · simp only [cond_true]
      cases h with
      | head =>
        obtain ⟨y, hy, hb⟩ := List.any_eq_true.1 ha
        rw [coutBeq_eq hb]; exact dedupC_mem hy
      | tail _ h => exact dedupC_mem h
def fewer (m0 : Mem) (l : List COut) : List COut := dedupC ((live l).map (truncO m0))
def enterF (fid id : Nat) : Nat := fid / 65536 * 65536 + id
def Tr.zip {α : Type} (f : α → α → Option α) : Tr α → Tr α → Tr α
  | .node a l r, .node b m s => .node (match a, b with | some x, some y => f x y | _, _ => none) (Tr.zip f l m) (Tr.zip f r s)
  | _, _ => .nil
theorem Tr.get_zip {α : Type} {f : α → α → Option α} : ∀ {a b : Tr α} {n : Nat} {z : α}, (Tr.zip f a b).get n = some z → ∃ x y, a.get n = some x ∧ b.get n = some y ∧ f x y = some z
  | .nil, b, n, z, h => by simp [Tr.zip, Tr.get] at h
  | .node _ _ _, .nil, n, z, h => by simp [Tr.zip, Tr.get] at h
  | .node a l r, .node b m s, n, z, h => by
    simp only [Tr.zip] at h
    cases n with
    | zero =>
      simp only [Tr.get] at h ⊢
      split at h
      · exact ⟨_, _, rfl, rfl, h⟩
      · cases h
    | succ n =>
      simp only [Tr.get] at h ⊢
      cases hb : Nat.beq (n % 2) 0
      · rw [hb] at h; exact Tr.get_zip h
      · rw [hb] at h; exact Tr.get_zip h
def NoStuck (ρ : Env) (outs : List Out) : Prop := ∀ o ∈ outs, ∀ k, o.ex = .stuck k → ¬ PcH ρ o.st.pc
end Go.SX
