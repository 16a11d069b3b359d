/- SX, part 10: the executor, and that it is right. -/
import Derived.Test.YtpkfeinnhdnfiaaSXRen
namespace Go.SX
open Go

/-- ends of a call, made fewer -/
def joined0 (C : Cfg) (id : Nat) (lk : List Nat) (m0 : Mem) (pc0 : PC) (l : List COut) : List COut := bif C.jn id then joinRets lk m0 pc0 l else bif C.mrg id then mergeC m0 pc0 l else l
/-- the way to an end forgotten -/
def forgetO (pc0 : PC) (o : COut) : COut := match o.ex with
  | .ret v => ⟨pc0, o.mem, .ret v⟩
  | _ => o
def joined (C : Cfg) (id : Nat) (lk : List Nat) (m0 : Mem) (pc0 : PC) (l : List COut) : List COut := bif C.mrg (id + 200000) then (joined0 C id lk m0 pc0 l).map (forgetO pc0) else joined0 C id lk m0 pc0 l
/-- two ways that a condition parts, as few as can be -/
def joinN (on : Bool) (lk : List Nat) (st : St) (x y : Option (List Out)) : Option (List Out) := match app x y with
  | some l => some (bif on then joinL true lk st.tm st.mem st.pc l else l)
  | none => none

/-- what is asked, of a truth that is not known -/
def sp (C : Cfg) (st : St) (b : B) : B := bif C.jc (st.fid % 65536) then b else atomB b
/-- the blocks that a call may not write: all that are there, if it is known to write none -/
def lockC (C : Cfg) (id : Nat) (m : Mem) (lk : List Nat) : List Nat := bif C.mrg (id + 500000) then List.range m.nx ++ lk else lk
theorem lockC_sub (C : Cfg) (id : Nat) (m : Mem) (lk : List Nat) : ∀ i ∈ lk, i ∈ lockC C id m lk := fun i hi => by
  unfold lockC
  cases C.mrg (id + 500000)
  · exact hi
  · exact List.mem_append_right _ hi
def eachV (f : SV × Mem → Option (List Out)) : List (SV × Mem) → Option (List Out)
  | [] => some []
  | x :: l => app (f x) (eachV f l)
/-- one operation, and what follows; 'again': the same with more known -/
def stepOp (C : Cfg) (run : List Nat → Nat → Code → St → Option (List Out)) (lk : List Nat) (nt : Nat) (all : List Oper) (o : Oper) (st : St) (next again : St → Option (List Out)) : Option (List Out) :=
  match wantX all st o with
  | .lost => some [⟨.stuck 35, st⟩]
  | .split b => app (again (st.know (sp C st b) true)) (again (st.know (sp C st b) false))
  | .no => next (st.put nt o.dst undefX)
  | .yes => (match calleeX st.tm o.op with
    | some (id, args) => (match C.fn id with
      | some fn => (match fn.body with
        | some body => (match C.hook id args st.mem st.pc lk with
          | some couts => bindC (afterC nt st o.dst next) couts
          | none => (match run (lockC C id st.mem lk) (args.length + (fn.ntmps - args.length)) body ⟨initTm args 0 .nil, st.mem, st.pc, enterF st.fid id⟩ with
            | some outs => bindC (afterC nt st o.dst next) (joined C id (lockC C id st.mem lk) st.mem st.pc (outs.map (toC C fn)))
            | none => none))
        | none => some [⟨.stuck 36, st⟩])
      | none => some [⟨.stuck 36, st⟩])
    | none => (match opM C lk st.mem st.tm o.op with
      | .val s m => next (St.put nt { st with mem := m } o.dst s)
      | .skip m => next (St.put nt { st with mem := m } o.dst undefX)
      | .no => (match opN C lk st.pc st.mem st.tm o.op with
        | some l => eachV (fun x => next (St.put nt { st with mem := x.2 } o.dst x.1)) l
        | none => (match opA C st.pc st.mem st.tm o.op with
        | .val s m => next (St.put nt { st with mem := m } o.dst s)
        | .split b => app (again (st.know (sp C st b) true)) (again (st.know (sp C st b) false))
        | .no => (match opP C st.pc st.mem st.tm o.op with
          | .ok s => next (st.put nt o.dst s)
          | .split b => app (again (st.know (sp C st b) true)) (again (st.know (sp C st b) false))
          | .stuck k => some [⟨.stuck k, st⟩])))))

/-! regions that draw their order -/
def bindsA (e : Edge) : Bool := match e.ground with
  | .textOnly _ => false
  | .gcOnly _ => false
  | _ => true
def edgesIn (listed : List Bool) : List Edge → Bool
  | [] => true
  | e :: es => (bif bindsA e then listed.getD e.on false else true) && edgesIn listed es
def readyGo (listed : List Bool) : List Oper → Nat → List Nat
  | [], _ => []
  | o :: os, i => bif !(listed.getD i true) && edgesIn listed o.after.toList then i :: readyGo listed os (i + 1) else readyGo listed os (i + 1)
def readyL (all : List Oper) (listed : List Bool) : List Nat := readyGo listed all 0
def notSel : Op → Bool
  | .select _ _ => false
  | _ => true
def noSelL : List Oper → Bool
  | [] => true
  | o :: os => notSel o.op && noSelL os
def freeGo (all : List Oper) (listed : List Bool) (i : Nat) (oi : Oper) : List Oper → Nat → Bool
  | [], _ => true
  | o :: os, j => (Nat.beq j i || listed.getD j true || o.after.toList.any (fun e => bindsA e && Nat.beq e.on i) || oi.apart all.toArray o) && freeGo all listed i oi os (j + 1)
def setT : List Bool → Nat → List Bool
  | [], _ => []
  | _ :: l, 0 => true :: l
  | b :: l, n + 1 => b :: setT l n
def restrictTo (m : Mem) : List Nat → Tr SObj → Tr SObj
  | [], t => t
  | id :: K, t => (match m.tr.get id with | some o => restrictTo m K (t.put id o) | none => restrictTo m K t)
def Mem.only (m : Mem) (K : List Nat) : Mem := ⟨restrictTo m K .nil, m.nx⟩
/-- may an operation be taken first, and what does it yield? -/
def takeX (C : Cfg) (all : List Oper) (listed : List Bool) (st : St) (K : List Nat) (i : Nat) : Option SV :=
  match all[i]? with
  | none => none
  | some o => (match wantX all st o with
    | .no => bif noSelL all && freeGo all listed i o all 0 then some undefX else none
    | .yes => (match calleeX st.tm o.op, opM C [] st.mem st.tm o.op with
      | none, .no => (match opP C st.pc (st.mem.only K) st.tm o.op with
        | .ok s => bif noSelL all && freeGo all listed i o all 0 then some s else none
        | _ => none)
      | _, _ => none)
    | _ => none)
def firstTake (C : Cfg) (all : List Oper) (listed : List Bool) (st : St) (K : List Nat) : List Nat → Option (Nat × SV)
  | [] => none
  | i :: is => (match takeX C all listed st K i with | some s => some (i, s) | none => firstTake C all listed st K is)
/-- a guard that is to be known first -/
def splitOf (all : List Oper) (st : St) : List Nat → Option B
  | [] => none
  | i :: is => (match all[i]? with
    | some o => (match wantX all st o with | .split b => some b | _ => splitOf all st is)
    | none => splitOf all st is)
def eachR (f : Nat → Option (List Out)) : List Nat → Option (List Out)
  | [] => some []
  | i :: is => app (f i) (eachR f is)
/-- the blocks that are loaded from in what may be taken at once -/
def preK (C : Cfg) (all : List Oper) (nt : Nat) : Nat → List Bool → St → List Nat → List Nat
  | 0, _, _, K => K
  | k + 1, listed, st, K =>
    (match firstTake C all listed st (List.range st.mem.nx) (readyL all listed) with
    | none => K
    | some (i, s) => (match all[i]? with
      | some o => (match o.op with
        | .load _ p => (match evX st.tm p with
          | some (.ptr id _ _) => preK C all nt k (setT listed i) (st.put nt o.dst s) (bif memB id K then K else id :: K)
          | _ => preK C all nt k (setT listed i) (st.put nt o.dst s) K)
        | _ => preK C all nt k (setT listed i) (st.put nt o.dst s) K)
      | none => K))
mutual
/-- the blocks a value points into -/
def blksV : SV → List Nat
  | .ptr id _ _ => [id]
  | .slice id _ _ _ _ => [id]
  | .fn _ cs => blksVL cs
  | .agg cs => blksVL cs
  | .tup cs => blksVL cs
  | _ => []
def blksVL : List SV → List Nat
  | [] => []
  | s :: ss => blksV s ++ blksVL ss
end
/-- in the text's order, guards let be: the blocks that are loaded from, and those that may be written -/
def seenK (C : Cfg) (nt : Nat) : List Oper → St → List Nat → List Nat → List Nat × List Nat
  | [], _, K, X => (K, X)
  | o :: os, st, K, X =>
    (match o.op with
    | .call c => (match evX st.tm (match c.callee with | .value f => f | _ => .tmp 0), evXL st.tm c.args.toList with
      | some f, some args => seenK C nt os st K (blksV f ++ blksVL args ++ X)
      | _, some args => seenK C nt os st K (blksVL args ++ X)
      | _, _ => seenK C nt os st K X)
    | .store _ p _ => (match evX st.tm p with
      | some s => seenK C nt os st K (blksV s ++ X)
      | none => seenK C nt os st K X)
    | .load _ p => (match evX st.tm p, opP C st.pc st.mem st.tm o.op with
      | some (.ptr id _ _), .ok s => seenK C nt os (st.put nt o.dst s) (id :: K) X
      | some (.ptr id _ _), _ => seenK C nt os st (id :: K) X
      | _, _ => seenK C nt os st K X)
    | _ => (match opP C st.pc st.mem st.tm o.op with
      | .ok s => seenK C nt os (st.put nt o.dst s) K X
      | _ => seenK C nt os st K X))
def addK : List Nat → List Nat → List Nat → List Nat
  | [], _, K => K
  | i :: l, X, K => bif memB i X || memB i K then addK l X K else addK l X (i :: K)
/-- the blocks that a region itself stores into -/
def storedK (C : Cfg) (nt : Nat) : List Oper → St → List Nat
  | [], _ => []
  | o :: os, st => (match o.op with
    | .store _ p _ => (match evX st.tm p with | some s => blksV s ++ storedK C nt os st | none => storedK C nt os st)
    | .call _ => storedK C nt os st
    | _ => (match opP C st.pc st.mem st.tm o.op with
      | .ok s => storedK C nt os (st.put nt o.dst s)
      | _ => storedK C nt os st))
def dropK : List Nat → List Nat → List Nat
  | [], _ => []
  | i :: l, X => bif memB i X then dropK l X else i :: dropK l X
def lockK (C : Cfg) (all : List Oper) (nt : Nat) (st : St) : List Nat :=
  let K := preK C all nt all.length (List.replicate all.length false) st []
  bif C.mrg (st.fid % 65536 + 100000) then K else (match seenK C nt all st [] [] with | (L, X) => addK L (bif C.mrg (st.fid % 65536 + 300000) then storedK C nt all st else X) (dropK K (storedK C nt all st)))
def dstOf (all : List Oper) (i : Nat) : Option Tmp := match all[i]? with | some o => o.dst | none => none

/-! a loop of unknown length: one round, at an index -/
def deeper (fid : Nat) : Nat := fid + 65536
def kNum (fid : Nat) : Nat := 700000 + fid / 65536
/-- the rows' and truths' number, beside a variable's -/
def qNum (k : Nat) : Nat := k + 100000
def firstReg : Code → Option (List Oper)
  | .seq a b => (match firstReg a with | some r => some r | none => firstReg b)
  | .region _ ops _ => some ops.toList
  | .block _ c => firstReg c
  | _ => none
def lessOp : List Oper → Option Tmp
  | [] => none
  | o :: os => (match o.op with
    | .binOp .lss _ (.tmp a) _ _ => some a
    | _ => lessOp os)
def movedFrom (a : Tmp) : List Oper → Tmp
  | [] => a
  | o :: os => (match o.dst, o.op with
    | some d, .move (.tmp b) => bif Nat.beq d a then b else movedFrom a os
    | _, _ => movedFrom a os)
def loopVar (c : Code) : Option Tmp := match firstReg c with
  | some ops => (match lessOp ops with | some a => some (movedFrom a ops) | none => none)
  | none => none
/-- what a round changes: nothing; a row of a block; a truth -/
inductive Mod where
  | none
  | map (id : Nat)
  | acc (id k : Nat)
  | bad
def diffs : List SV → List SV → Nat → List Nat
  | a :: l, b :: m, i => bif SV.beq a b then diffs l m (i + 1) else i :: diffs l m (i + 1)
  | [], [], _ => []
  | _, _, i => [i, i]
def modObj (id : Nat) : SObj → SObj → Mod
  | .arr _, .arr _ => .map id
  | .cells _ x, .cells _ y => (match diffs x y 0 with | [k] => .acc id k | _ => .bad)
  | _, _ => .bad
def modU : Mod → Mod → Mod
  | .none, b => b
  | a, .none => a
  | .map i, .map j => bif Nat.beq i j then .map i else .bad
  | .acc i k, .acc j l => bif Nat.beq i j && Nat.beq k l then .acc i k else .bad
  | _, _ => .bad
def modOf (m0 m : Mem) : Nat → Mod
  | 0 => .none
  | n + 1 => (match m0.tr.get n, m.tr.get n with
    | none, none => modOf m0 m n
    | some a, some b => bif SObj.beq a b then modOf m0 m n else modU (modObj n a b) (modOf m0 m n)
    | _, _ => .bad)
def isNorm (o : Out) : Bool := match o.ex with | .norm => true | _ => false
def modAll (m0 : Mem) : List Out → Mod
  | [] => .none
  | o :: os => bif isNorm o then modU (modOf m0 o.st.mem m0.nx) (modAll m0 os) else modAll m0 os
def SArr.fresh (A : SArr) (k : Nat) : SArr := { A with r := qNum k, row := none, gk := 0, gen := [] }
def memAt (k : Nat) (md : Mod) (m0 : Mem) : Option Mem := match md with
  | .none => some m0
  | .map id => (match m0.tr.get id with | some (.arr A) => some (m0.set id (.arr (A.fresh k))) | _ => none)
  | .acc id j => (match m0.tr.get id with | some (.cells w cs) => some (m0.set id (.cells w (cs.set j (.bool (.var (qNum k)))))) | _ => none)
  | .bad => none
def Tr.sub {α : Type} (f : α → α → Bool) : Tr α → Tr α → Bool
  | .nil, _ => true
  | .node a l r, .nil => (match a with | some _ => false | none => true) && Tr.sub f l .nil && Tr.sub f r .nil
  | .node a l r, .node b m s => (match a with | some x => (match b with | some y => f x y | none => false) | none => true) && Tr.sub f l m && Tr.sub f r s
/-- facts on lengths and arguments alone -/
def numT : T → Bool
  | .lit _ => true
  | .var _ => true
  | .cell _ (.lit _) _ => true
  | .wrap _ t => numT t
  | .bin _ a b => numT a && numT b
  | _ => false
def numB : B → Bool
  | .eqI a b => numT a && numT b
  | .ltI a b => numT a && numT b
  | _ => false
def numPc (pc : PC) : PC := pc.filter fun x => numB x.1
theorem numPc_ok {ρ : Env} {pc : PC} (h : PcH ρ pc) : PcH ρ (numPc pc) := fun x hx => h x (List.mem_filter.1 hx).1
def stAt (k : Nat) (τ : Tmp) (st : St) (tm : Tr SV) (mem : Mem) : St := ⟨tm.put τ (.int .i64 (.var k)), mem, (.ltI (.var k) (.lit 0), false) :: numPc st.pc, deeper st.fid⟩
def lenIn (k : Nat) : PC → Option T
  | [] => none
  | (.ltI (.var n) l, false) :: r => bif Nat.beq n k then (match l with | .lit (.ofNat 0) => lenIn k r | l => some l) else lenIn k r
  | _ :: r => lenIn k r
def lenOuts (k : Nat) : List Out → Option T
  | [] => none
  | o :: os => (match o.ex with | .exit _ => (match lenIn k o.st.pc with | some l => some l | none => lenOuts k os) | _ => lenOuts k os)
def hasFact (pc : PC) (b : B) (v : Bool) : Bool := pc.any fun p => pcItem p (b, v)
/-- what a round leaves of the one that it changes -/
def payload (k : Nat) (md : Mod) (memK : Mem) (o : Out) : Option (List SV) := match md with
  | .none => some []
  | .map id => (match memK.tr.get id, o.st.mem.tr.get id with
    | some (.arr A), some (.arr D) => bif sameArr A D then (match D.row with
        | none => some (A.base (.var k))
        | some (t, cs) => bif T.beq t (.var k) && underL memK.nx cs then some cs else none) else none
    | _, _ => none)
  | .acc id j => (match memK.tr.get id, o.st.mem.tr.get id with
    | some (.cells w cs), some (.cells x ds) => bif (w == x) && beqL (ds.set j (.bool (.var (qNum k)))) cs then (match ds[j]? with | some (.bool b) => some [.bool b] | _ => none) else none
    | _, _ => none)
  | .bad => none
def joinP (k : Nat) (md : Mod) (memK : Mem) (pc0 : PC) : List Out → Option (List SV × List PC)
  | [] => none
  | [o] => (match payload k md memK o with | some l => some (l, [factsOf pc0 o.st.pc]) | none => none)
  | o :: o' :: os => (match payload k md memK o, joinP k md memK pc0 (o' :: os) with
    | some l, some (l', fs) => bif fs.all (excl (factsOf pc0 o.st.pc)) then (match iteL (conj (factsOf pc0 o.st.pc)) l l' with | some u => some (u, factsOf pc0 o.st.pc :: fs) | none => none) else none
    | _, _ => none)
def tiL (l : List SV) (f : Nat) : Option T := match l[f]? with | some (.int _ t) => some t | _ => none
def biL (l : List SV) (f : Nat) : Option B := match l[f]? with | some (.bool b) => some b | _ => none
/-- the cells that are other than the base -/
def genFrom (r : Nat) (k : Nat) : List SV → List CK → Nat → List (Nat × SV)
  | s :: ss, q :: ks, f => bif SV.beq s (mkCell r (.var k) f q) then genFrom r k ss ks (f + 1) else (f, s) :: genFrom r k ss ks (f + 1)
  | _, _, _ => []
/-- rows changed, all of them -/
def mapped (k : Nat) (A : SArr) (l : List SV) : Option SArr :=
  match subL ⟨k, qNum k, .var k, tiL (A.base (.var k)), biL (A.base (.var k)), .lit false⟩ l with
  | none => none
  | some g =>
    let gen := genFrom A.r k g A.ks 0
    bif !(genOk k gen) then none else (match A.row with
    | none => some { A with gk := k, gen := gen }
    | some (t, rc) => (match subL ⟨k, qNum k, t, tiL rc, biL rc, .lit false⟩ l with
      | some rc' => some { A with gk := k, gen := gen, row := some (t, rc') }
      | none => none))
def memEnd (k : Nat) (md : Mod) (m0 : Mem) (len : T) (l : List SV) : Option Mem := match md with
  | .none => some m0
  | .map id => (match m0.tr.get id with
    | some (.arr A) => bif T.beq A.len len && Nat.beq l.length A.ks.length then (match mapped k A l with | some D => bif kindA A && kindA D then some (m0.set id (.arr D)) else none | none => none) else none
    | _ => none)
  | .acc id j => (match m0.tr.get id, l with
    | some (.cells w cs), [.bool b] => (match cs[j]?, subB ⟨k, qNum k, .var k, fun _ => none, fun _ => none, .lit true⟩ b, subB ⟨k, qNum k, .var k, fun _ => none, fun _ => none, .lit false⟩ b with
      | some (.bool a0), some p1, some (.lit false) => some (m0.set id (.cells w (cs.set j (.bool (mkAnd a0 (mkAll k len p1))))))
      | _, _, _ => none)
    | _, _ => none)
  | .bad => none
/-- many facts one behind the other, as they are -/
def conjR : PC → B
  | [] => .lit true
  | (b, v) :: r => andR (bif v then b else mkNot b) (conjR r)
theorem conjR_ev (ρ : Env) : ∀ l : PC, (conjR l).ev ρ = (conj l).ev ρ
  | [] => rfl
  | (b, v) :: r => by simp only [conjR, conj, andR_ev, mkAnd_ev, conjR_ev ρ r]
def conjS (l : PC) : B := bif Nat.blt 8 l.length then conjR l else conj l
theorem conjS_ev (ρ : Env) (l : PC) : (conjS l).ev ρ = (conj l).ev ρ := by
  unfold conjS
  cases Nat.blt 8 l.length
  · rfl
  · exact conjR_ev ρ l
def contB (pc0 : PC) : List Out → B
  | [] => .lit false
  | o :: os => mkOr (conjS (factsOf pc0 o.st.pc)) (contB pc0 os)
def Mod.isNone : Mod → Bool
  | .none => true
  | _ => false
def frPC (k : Nat) : PC → Bool
  | [] => true
  | (b, _) :: r => frB k (qNum k) b && frPC k r
def frMem (k : Nat) (m : Mem) : Nat → Bool
  | 0 => true
  | n + 1 => (match m.tr.get n with | some o => frObj k (qNum k) o | none => true) && frMem k m n
/-- the one block that a round may write, as it was -/
def sameAt (md : Mod) (memK m : Mem) : Bool := match md with
  | .none => true
  | .map W => oeq SObj.beq (m.tr.get W) (memK.tr.get W)
  | .acc W _ => oeq SObj.beq (m.tr.get W) (memK.tr.get W)
  | .bad => false
/-- the blocks that a round may not write -/
def lockM (md : Mod) (nx : Nat) : List Nat := match md with
  | .map W => (List.range nx).filter fun i => !(Nat.beq i W)
  | .acc W _ => (List.range nx).filter fun i => !(Nat.beq i W)
  | _ => List.range nx
def stepsUp (k : Nat) (τ : Tmp) (tm : Tr SV) : Bool := match tm.get τ with
  | some (.int .i64 t) => T.beq t (.wrap .i64 (.bin .add (.var k) (.lit 1)))
  | _ => false
/-- an end of a round: as it should be? -/
def okRound (k : Nat) (τ : Tmp) (i : Nat) (len : T) (tmI : Tr SV) (md : Mod) (memK : Mem) (o : Out) : Bool := Tr.sub SV.beq tmI o.st.tm && (match o.ex with
  | .norm => stepsUp k τ o.st.tm && hasFact o.st.pc (.ltI (.var k) len) true
  | .exit j => bif hasFact o.st.pc (.ltI (.var k) len) false then Nat.beq i j && sameAt md memK o.st.mem else md.isNone && hasFact o.st.pc (.ltI (.var k) len) true
  | .ret => md.isNone && hasFact o.st.pc (.ltI (.var k) len) true
  | .stuck _ => false)
def isEarly (k : Nat) (len : T) (o : Out) : Bool := match o.ex with
  | .ret => true
  | .exit _ => !(hasFact o.st.pc (.ltI (.var k) len) false)
  | _ => false
def exitId (k : Nat) (len : T) : List Out → Option Nat
  | [] => none
  | o :: os => (match o.ex with | .exit i => bif hasFact o.st.pc (.ltI (.var k) len) false then some i else exitId k len os | _ => exitId k len os)
def earlyOut (k : Nat) (st : St) (len : T) (c : B) (norms : List Out) (pc1 : PC) (o : Out) : Out :=
  ⟨o.ex, ⟨Tr.zip (fun x _ => bif frSV k (qNum k) x && under st.mem.nx x then some x else none) o.st.tm o.st.tm, st.mem,
    (bif norms.all (fun n => excl (factsOf pc1 o.st.pc) (factsOf pc1 n.st.pc)) then addPc (mkAll k len c) false st.pc else st.pc), st.fid⟩⟩
def finishL (k : Nat) (τ : Tmp) (md : Mod) (st : St) (tmI : Tr SV) (memK : Mem) (outs : List Out) : Option (List Out) :=
  let pc1 := (B.ltI (.var k) (.lit 0), false) :: numPc st.pc
  match lenOuts k outs with
  | none => none
  | some len => (match exitId k len outs with
    | none => none
    | some i =>
      let norms := outs.filter isNorm
      let early := outs.filter (isEarly k len)
      let c := bif early.isEmpty then B.lit true else contB pc1 norms
      bif frT k (qNum k) len && frPC k st.pc && frMem k st.mem st.mem.nx && hiLe (rng st.pc len) 9223372036854775807 && outs.all (okRound k τ i len tmI md memK) && okB k c then
        (match joinP k md memK pc1 norms with
        | some (l, _) => (match memEnd k md st.mem len l with
          | some m' => some (⟨.exit i, ⟨tmI, m', (bif early.isEmpty then st.pc else addPc (mkAll k len c) true st.pc), st.fid⟩⟩ :: early.map (earlyOut k st len c norms pc1))
          | none => none)
        | none => none) else none)
/-- the same, with no row known in what may be written: to see what a round changes -/
def looseTr (k : Nat) (m : Mem) : Nat → Tr SObj → Tr SObj
  | 0, t => t
  | n + 1, t => (match m.tr.get n with
    | some (.arr A) => bif A.wr then looseTr k m n (t.put n (.arr (A.fresh k))) else looseTr k m n t
    | _ => looseTr k m n t)
def loose (k : Nat) (m : Mem) : Mem := ⟨looseTr k m m.nx m.tr, m.nx⟩
/-- the slots that a loop's code sets -/
def setsOps : List Oper → Tr Unit → Tr Unit
  | [], t => t
  | o :: os, t => setsOps os (match o.dst with | some d => t.put d () | none => t)
def setsOf : Code → Tr Unit → Tr Unit
  | .seq a b, t => setsOf b (setsOf a t)
  | .cond _ a b, t => setsOf b (setsOf a t)
  | .block _ c, t => setsOf c t
  | .loop c, t => setsOf c t
  | .region _ ops _, t => setsOps ops.toList t
  | _, t => t
def Tr.less {α : Type} (f : α → Bool) : Tr α → Tr Unit → Tr α
  | .nil, _ => .nil
  | .node a l r, u => .node (match (match u with | .node b _ _ => b | .nil => none) with
      | some _ => none
      | none => (match a with | some x => bif f x then some x else none | none => none))
    (Tr.less f l (match u with | .node _ m _ => m | .nil => .nil)) (Tr.less f r (match u with | .node _ _ s => s | .nil => .nil))
theorem Tr.get_less {α : Type} {f : α → Bool} : ∀ {t : Tr α} {u : Tr Unit} {n : Nat} {x : α}, (Tr.less f t u).get n = some x → t.get n = some x ∧ f x = true
  | .nil, u, n, x, h => by simp [Tr.less, Tr.get] at h
  | .node a l r, u, n, x, h => by
    simp only [Tr.less] at h
    cases n with
    | zero =>
      simp only [Tr.get] at h ⊢
      split at h
      · cases h
      · split at h
        · rename_i y
          cases hf : f y <;> rw [hf] at h
          · cases h
          · cases h; exact ⟨rfl, hf⟩
        · cases h
    | succ n =>
      simp only [Tr.get] at h ⊢
      cases hb : Nat.beq (n % 2) 0
      · rw [hb] at h; exact Tr.get_less h
      · rw [hb] at h; exact Tr.get_less h
def orElseL (a b : Option (List Out)) : Option (List Out) := match a with
  | some l => some l
  | none => b
def genericL (C : Cfg) (run : List Nat → St → Option (List Out)) (c : Code) (st : St) : Option (List Out) :=
  bif C.lp (st.fid % 65536) then (match loopVar c with
    | none => none
    | some τ => (match st.tm.get τ with
      | some (.int .i64 (.lit (.ofNat 0))) =>
        let k := kNum st.fid
        let tmI := Tr.less (frSV k (qNum k)) st.tm (setsOf c .nil)
        orElseL (bif C.mrg (st.fid % 65536 + 400000) then none else (match run (lockM .none st.mem.nx) (stAt k τ st tmI st.mem) with
          | none => none
          | some outs => finishL k τ .none st tmI st.mem outs))
        (let memL := loose k st.mem
        (match run [] (stAt k τ st tmI memL) with
        | none => none
        | some outs1 =>
          let md := modAll memL outs1
          (match memAt k md st.mem with
          | none => none
          | some memK => (match run (lockM md st.mem.nx) (stAt k τ st tmI memK) with
            | none => none
            | some outs2 => finishL k τ md st tmI memK outs2))))
      | _ => none)) else none

/-- rounds of a loop; behind each the ends of one form are one -/
def loopX (run : St → Option (List Out)) (few : List Out → List Out) : Nat → St → Option (List Out)
  | 0, st => some [⟨.stuck 41, st⟩]
  | k + 1, st => (match run st with
    | some l => bindL (fun o => match o.ex with
      | .norm => loopX run few k o.st
      | _ => some [o]) (few l)
    | none => none)
def exec (C : Cfg) : Nat → List Nat → Nat → Task → St → Option (List Out)
  | 0, _, _, _, _ => none
  | n + 1, lk, nt, .code c, st => (match c with
    | .skip => some [⟨.norm, st⟩]
    | .label _ => some [⟨.norm, st⟩]
    | .exit id => some [⟨.exit id, st⟩]
    | .ret => some [⟨.ret, st⟩]
    | .seq a b => bindN (exec C n lk nt (.code a) st) (fun st' => exec C n lk nt (.code b) st')
    | .cond x a b => (match evX st.tm x with
      | some (.bool b0) => (match simpB st.pc b0 with
        | .lit true => exec C n lk nt (.code a) st
        | .lit false => exec C n lk nt (.code b) st
        | b1 => bif C.jc (st.fid % 65536) || B.beq (atomB b1) b1 then joinN (C.jc (st.fid % 65536) && !(C.mrg (st.fid % 65536 + 700000))) lk st (exec C n lk nt (.code a) (st.know b1 true)) (exec C n lk nt (.code b) (st.know b1 false))
          else app (exec C n lk nt (.code (.cond x a b)) (st.know (atomB b1) true)) (exec C n lk nt (.code (.cond x a b)) (st.know (atomB b1) false)))
      | _ => some [⟨.stuck 33, st⟩])
    | .block id c => (match exec C n lk nt (.code c) st with | some l => some (bif C.jc (st.fid % 65536) && !(C.mrg (st.fid % 65536 + 700000)) then joinL true lk st.tm st.mem st.pc (l.map (blockX id)) else l.map (blockX id)) | none => none)
    | .loop c => (match genericL C (fun L st' => exec C n (L ++ lk) nt (.code c) st') c st with
      | some outs => some outs
      | none => loopX (fun st' => exec C n lk nt (.code c) st') (fewM lk st.tm st.mem) (bif C.lp (st.fid % 65536) then 3 else n) st)
    | .region _ ops false => (match exec C n lk nt (.ops ops.toList ops.toList) st with | some l => some (bif !(C.mrg (st.fid % 65536 + 600000)) then joinL false lk st.tm st.mem st.pc l else l) | none => none)
    | .region _ ops true =>
      let all := ops.toList
      let no := List.replicate all.length false
      let K := lockK C all nt st
      (match exec C n (K ++ lk) nt (.drw all no all.length K) st with | some l => some (bif !(C.mrg (st.fid % 65536 + 600000)) then joinL false lk st.tm st.mem st.pc l else fewL lk st.tm st.mem l) | none => none)
    | _ => some [⟨.stuck 34, st⟩])
  | _ + 1, _, _, .ops _ [], st => some [⟨.norm, st⟩]
  | n + 1, lk, nt, .ops all (o :: rest), st =>
    stepOp C (fun lk' nt' c st' => exec C n lk' nt' (.code c) st') lk nt all o st (fun st' => exec C n lk nt (.ops all rest) st') (fun st' => exec C n lk nt (.ops all (o :: rest)) st')
  | n + 1, lk, nt, .drw all listed k K, st => (match readyL all listed with
    | [] => some [⟨.norm, st⟩]
    | rs => (match k with
      | 0 => some [⟨.stuck 37, st⟩]
      | k + 1 => (match firstTake C all listed st K rs with
        | some (i, s) => exec C n lk nt (.drw all (setT listed i) k K) (st.put nt (dstOf all i) s)
        | none => (match splitOf all st rs with
          | some b => app (exec C n lk nt (.drw all listed (k + 1) K) (st.know (sp C st b) true)) (exec C n lk nt (.drw all listed (k + 1) K) (st.know (sp C st b) false))
          | none => eachR (fun i => exec C n lk nt (.dop all listed k K i) st) rs))))
  | n + 1, lk, nt, .dop all listed k K i, st => (match all[i]? with
    | none => some [⟨.stuck 38, st⟩]
    | some o => stepOp C (fun lk' nt' c st' => exec C n lk' nt' (.code c) st') lk nt all o st (fun st' => exec C n lk nt (.drw all (setT listed i) k K) st') (fun st' => exec C n lk nt (.dop all listed k K i) st'))

/-! its meaning -/
structure ActR (ρ : Env) (β : Bet) (nt : Nat) (st : St) (a : Act) : Prop where
  tm : TmRel ρ β st.tm a
  nt : a.tmps.size = nt
  df : a.defers = []
def ExR : XE → Exit → Prop
  | .norm, .normal => True
  | .exit i, .exit j => i = j
  | .ret, .ret => True
  | _, _ => False
def Post (ρ : Env) (β : Bet) (lk : List Nat) (nt : Nat) (w : World) (outs : List Out) (e : Exit) (a' : Act) (w' : World) : Prop :=
  ∃ o ∈ outs, PcH ρ o.st.pc ∧ ExR o.ex e ∧ ∃ β', Stp β lk w β' w' ∧ ActR ρ β' nt o.st a' ∧ MemRel ρ β' o.st.mem w'
def HookOk (C : Cfg) (ρ : Env) : Prop := ∀ f args mem pc lk outs, C.hook f args mem pc lk = some outs → ∀ (β : Bet) (w : World) (vs : List Value),
  PcH ρ pc → relL ρ β args vs → MemRel ρ β mem w → NoStuckC ρ outs → Calls C.P f vs.toArray w (CPost ρ β lk w outs)
theorem Post.some {ρ : Env} {β : Bet} {lk : List Nat} {nt : Nat} {w : World} {outs : List Out} {e : Exit} {a' : Act} {w' : World} (h : Post ρ β lk nt w outs e a' w') :
    a'.tmps.size = nt ∧ a'.defers = [] ∧ SomeG ρ β lk w w' (fun n => a'.tmps[n]?) (fun x => ExR x e) outs := by
  obtain ⟨o, ho, hp, hx, β', hs, ha, hm⟩ := h
  exact ⟨ha.nt, ha.df, o, ho, hx, hp, β', hs, ha.tm.get, hm⟩
theorem Post.ofSome {ρ : Env} {β : Bet} {lk : List Nat} {nt : Nat} {w : World} {outs : List Out} {e : Exit} {a' : Act} {w' : World} (h1 : a'.tmps.size = nt) (h2 : a'.defers = [])
    (h : SomeG ρ β lk w w' (fun n => a'.tmps[n]?) (fun x => ExR x e) outs) : Post ρ β lk nt w outs e a' w' := by
  obtain ⟨o, ho, hx, hp, β', hs, ht, hm⟩ := h
  exact ⟨o, ho, hp, hx, β', hs, ⟨⟨ht⟩, h1, h2⟩, hm⟩
theorem Post.joinL {ρ : Env} {β : Bet} {lk : List Nat} {nt : Nat} {w : World} {outs : List Out} {e : Exit} {a' : Act} {w' : World} {mk : Bool} {st : St} (hp : PcH ρ st.pc) (hm : MemRel ρ β st.mem w) (h : Post ρ β lk nt w outs e a' w') :
    Post ρ β lk nt w (joinL mk lk st.tm st.mem st.pc outs) e a' w' :=
  let ⟨h1, h2, h3⟩ := h.some; Post.ofSome h1 h2 (joinL_ok hp hm h3)
theorem Post.fewL {ρ : Env} {β : Bet} {lk : List Nat} {nt : Nat} {w : World} {outs : List Out} {e : Exit} {a' : Act} {w' : World} {st : St} (hm : MemRel ρ β st.mem w) (h : Post ρ β lk nt w outs e a' w') :
    Post ρ β lk nt w (fewL lk st.tm st.mem outs) e a' w' :=
  let ⟨h1, h2, h3⟩ := h.some; Post.ofSome h1 h2 (fewL_ok hm h3)
theorem Post.fewM {ρ : Env} {β : Bet} {lk : List Nat} {nt : Nat} {w : World} {outs : List Out} {e : Exit} {a' : Act} {w' : World} {st : St} (hm : MemRel ρ β st.mem w) (h : Post ρ β lk nt w outs e a' w') :
    Post ρ β lk nt w (fewM lk st.tm st.mem outs) e a' w' :=
  let ⟨h1, h2, h3⟩ := h.some; Post.ofSome h1 h2 (fewM_ok hm h3)
/-- joined, or as they were -/
theorem Post.joinIf {ρ : Env} {β : Bet} {lk : List Nat} {nt : Nat} {w : World} {outs : List Out} {e : Exit} {a' : Act} {w' : World} {mk : Bool} {st : St} (hp : PcH ρ st.pc) (hm : MemRel ρ β st.mem w) (on : Bool) (h : Post ρ β lk nt w outs e a' w') :
    Post ρ β lk nt w (bif on then SX.joinL mk lk st.tm st.mem st.pc outs else outs) e a' w' := by
  cases on
  · exact h
  · exact h.joinL hp hm
theorem NoStuck.ofIf {ρ : Env} {mk : Bool} {lk : List Nat} {st : St} {on : Bool} {l : List Out} (h : NoStuck ρ (bif on then SX.joinL mk lk st.tm st.mem st.pc l else l)) : NoStuck ρ l := by
  cases on
  · exact h
  · exact joinL_stuck h
theorem ActR.know {ρ : Env} {β : Bet} {nt : Nat} {st : St} {a : Act} (h : ActR ρ β nt st a) (b : B) (v : Bool) : ActR ρ β nt (st.know b v) a := ⟨h.tm, h.nt, h.df⟩
theorem ActR.put {ρ : Env} {β : Bet} {nt : Nat} {st : St} {a : Act} (h : ActR ρ β nt st a) (d : Option Tmp) {s : SV} {v : Value} (hr : s.rel ρ β v) : ActR ρ β nt (st.put nt d s) (a.put d v) := by
  cases d with
  | none => exact h
  | some d =>
    simp only [St.put]
    cases hb : Nat.blt d nt
    · have hge : ¬ d < nt := fun hlt => by
        have : Nat.blt d nt = true := Nat.ble_eq_true_of_le hlt
        rw [hb] at this; cases this
      simp only [cond_false]
      have : a.put (some d) v = a := by
        simp only [Act.put]
        have : a.tmps.setIfInBounds d v = a.tmps := by rw [Array.setIfInBounds_eq_of_size_le (by rw [h.nt]; exact Nat.le_of_not_lt hge)]
        rw [this]
      rw [this]; exact h
    · have hlt : d < nt := Nat.le_of_ble_eq_true hb
      simp only [cond_true]
      refine ⟨⟨fun t s' hs => ?_⟩, by simp [Act.put, h.nt], h.df⟩
      simp only [Tr.get_put] at hs
      simp only [Act.put]
      by_cases e : t = d
      · rw [if_pos e] at hs; cases hs; subst e
        exact ⟨v, by rw [Array.getElem?_setIfInBounds_self_of_lt (by rw [h.nt]; exact hlt)], hr⟩
      · rw [if_neg e] at hs
        rw [Array.getElem?_setIfInBounds_ne (fun h => e h.symm)]
        exact h.tm.get t s' hs
theorem ActR.stp {ρ : Env} {β β' : Bet} {lk : List Nat} {w w' : World} {nt : Nat} {st : St} {a : Act} (h : ActR ρ β nt st a) (hs : Stp β lk w β' w') : ActR ρ β' nt st a :=
  ⟨⟨fun t s ht => let ⟨v, hv, r⟩ := h.tm.get t s ht; ⟨v, hv, hs.rel r⟩⟩, h.nt, h.df⟩
theorem St.put_pc (nt : Nat) (st : St) (d : Option Tmp) (v : SV) : (st.put nt d v).pc = st.pc := by
  unfold St.put; split
  · rfl
  · cases Nat.blt _ _ <;> rfl
theorem St.put_mem (nt : Nat) (st : St) (d : Option Tmp) (v : SV) : (st.put nt d v).mem = st.mem := by
  unfold St.put; split
  · rfl
  · cases Nat.blt _ _ <;> rfl
theorem Post.mono {ρ : Env} {β : Bet} {lk : List Nat} {nt : Nat} {w : World} {outs outs' : List Out} (h : ∀ o ∈ outs, o ∈ outs') {e : Exit} {a : Act} {w' : World} (hp : Post ρ β lk nt w outs e a w') : Post ρ β lk nt w outs' e a w' :=
  let ⟨o, ho, r⟩ := hp; ⟨o, h o ho, r⟩
theorem Post.from {ρ : Env} {β β₁ : Bet} {lk : List Nat} {nt : Nat} {w w₁ : World} {outs : List Out} (hs : Stp β lk w β₁ w₁) {e : Exit} {a : Act} {w' : World} (hp : Post ρ β₁ lk nt w₁ outs e a w') : Post ρ β lk nt w outs e a w' :=
  let ⟨o, ho, h1, h2, β', h3, h4⟩ := hp; ⟨o, ho, h1, h2, β', hs.trans h3, h4⟩
theorem app_some {x y : Option (List Out)} {l : List Out} (h : app x y = some l) : ∃ a b, x = some a ∧ y = some b ∧ l = a ++ b := by
  unfold app at h; split at h
  · cases h; exact ⟨_, _, rfl, rfl, rfl⟩
  · cases h
theorem NoStuck.left {ρ : Env} {a b : List Out} (h : NoStuck ρ (a ++ b)) : NoStuck ρ a := fun o ho => h o (List.mem_append_left _ ho)
theorem NoStuck.right {ρ : Env} {a b : List Out} (h : NoStuck ρ (a ++ b)) : NoStuck ρ b := fun o ho => h o (List.mem_append_right _ ho)
/-- of what is bound: each part is there -/
theorem bindL_some {f : Out → Option (List Out)} : ∀ {l outs : List Out}, bindL f l = some outs → ∀ o ∈ l, ∃ r, f o = some r ∧ ∀ x ∈ r, x ∈ outs
  | [], _, _, o, ho => by cases ho
  | x :: l, outs, h, o, ho => by
    obtain ⟨a, b, h1, h2, rfl⟩ := app_some h
    cases ho with
    | head => exact ⟨a, h1, fun y hy => List.mem_append_left _ hy⟩
    | tail _ ho => obtain ⟨r, hr, hm⟩ := bindL_some h2 o ho; exact ⟨r, hr, fun y hy => List.mem_append_right _ (hm y hy)⟩
theorem bindC_some {f : COut → Option (List Out)} : ∀ {l : List COut} {outs : List Out}, bindC f l = some outs → ∀ o ∈ l, ∃ r, f o = some r ∧ ∀ x ∈ r, x ∈ outs
  | [], _, _, o, ho => by cases ho
  | x :: l, outs, h, o, ho => by
    obtain ⟨a, b, h1, h2, rfl⟩ := app_some h
    cases ho with
    | head => exact ⟨a, h1, fun y hy => List.mem_append_left _ hy⟩
    | tail _ ho => obtain ⟨r, hr, hm⟩ := bindC_some h2 o ho; exact ⟨r, hr, fun y hy => List.mem_append_right _ (hm y hy)⟩

end Go.SX
