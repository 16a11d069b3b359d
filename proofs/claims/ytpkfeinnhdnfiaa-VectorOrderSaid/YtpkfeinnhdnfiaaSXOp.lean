/- SX, part 7: all operations that change no memory, in one function, and that it is right. -/
import Derived.Test.YtpkfeinnhdnfiaaSXFill
import Derived.Laws.Tables
namespace Go.SX
open Go

structure TmRel (ρ : Env) (β : Bet) (tm : Tr SV) (a : Act) : Prop where
  get : ∀ t s, tm.get t = some s → ∃ v, a.tmps[t]? = some v ∧ s.rel ρ β v
def evX (tm : Tr SV) : Operand → Option SV
  | .tmp t => tm.get t
  | .const v => liftV v
  | .func f => some (.fn f [])
  | .global _ => none
theorem evX_ok {ρ : Env} {β : Bet} {tm : Tr SV} {a : Act} (h : TmRel ρ β tm a) {x : Operand} {s : SV} (hx : evX tm x = some s) : s.rel ρ β (a.eval x) := by
  cases x with
  | tmp t =>
    obtain ⟨v, hv, r⟩ := h.get t s hx
    have : a.eval (.tmp t) = v := by simp [Act.eval, hv]
    rw [this]; exact r
  | const v => exact liftV_ok hx
  | global g => cases hx
  | func f => cases hx; exact ⟨[], rfl, rfl⟩
def evXL (tm : Tr SV) : List Operand → Option (List SV)
  | [] => some []
  | x :: xs => (match evX tm x, evXL tm xs with | some s, some ss => some (s :: ss) | _, _ => none)
theorem evXL_ok {ρ : Env} {β : Bet} {tm : Tr SV} {a : Act} (h : TmRel ρ β tm a) : ∀ {xs : List Operand} {ss : List SV}, evXL tm xs = some ss → relL ρ β ss (xs.map a.eval)
  | [], ss, hx => by cases hx; rfl
  | x :: xs, ss, hx => by
    simp only [evXL] at hx
    split at hx
    · rename_i s ss' h1 h2; cases hx; exact ⟨_, _, rfl, evX_ok h h1, evXL_ok h h2⟩
    · cases hx
def evXP (tm : Tr SV) : List (Nat × Operand) → Option (List (Nat × SV))
  | [] => some []
  | (i, x) :: xs => (match evX tm x, evXP tm xs with | some s, some ss => some ((i, s) :: ss) | _, _ => none)
theorem evXP_ok {ρ : Env} {β : Bet} {tm : Tr SV} {a : Act} (h : TmRel ρ β tm a) : ∀ {xs : List (Nat × Operand)} {ss : List (Nat × SV)}, evXP tm xs = some ss → PartsRel ρ β ss (xs.map fun p => (p.1, a.eval p.2))
  | [], ss, hx => by cases hx; exact .nil
  | (i, x) :: xs, ss, hx => by
    simp only [evXP] at hx
    split at hx
    · rename_i s ss' h1 h2; cases hx; exact .cons (evX_ok h h1) (evXP_ok h h2)
    · cases hx

/-- an index that is a number -/
inductive LI where
  | lit (k : Nat)
  | split (b : B)
  | none
def atTop (hi : Option Int) (j : Nat) : Bool := match hi with | some h => !(ilt (.ofNat j) h) | none => false
def litScan (pc : PC) (t : T) (hi : Option Int) : Nat → Nat → LI
  | 0, _ => .none
  | n + 1, j => bif atTop hi j then .lit j else (match simpB pc (mkEqI t (.lit (.ofNat j))) with | .lit false => litScan pc t hi n (j + 1) | .lit true => .lit j | b => .split b)
def topOf (b : Bd) : Option Int := match b.1 with | some l => bif ilt l 0 then none else b.2 | none => none
def litIx (pc : PC) (t : T) (n : Nat) : LI := match simpT pc t with
  | .lit (.ofNat k) => .lit k
  | .lit (.negSucc _) => .none
  | t' => litScan pc t' (topOf (rng pc t')) n 0
theorem litScan_ok {ρ : Env} {pc : PC} (hp : PcH ρ pc) {t : T} {hi : Option Int} (hhi : ∀ h, hi = some h → t.ev ρ ≤ h) : ∀ {n j k : Nat}, (hi.isSome = true → (j : Int) ≤ t.ev ρ) → litScan pc t hi n j = .lit k → t.ev ρ = k
  | 0, _, _, _, h => by cases h
  | n + 1, j, k, hj, h => by
    simp only [litScan] at h
    cases ha : atTop hi j
    · rw [ha] at h
      simp only [cond_false] at h
      have := simpB_ev hp (mkEqI t (.lit (.ofNat j)))
      split at h
      · rename_i hs
        rw [hs, mkEqI_ev] at this
        refine litScan_ok hp hhi (fun hs => ?_) h
        have h1 := hj hs
        have h2 : ¬ t.ev ρ = j := by simpa [B.ev, T.ev] using this.symm
        omega
      · rename_i hs
        cases h
        rw [hs, mkEqI_ev] at this
        simpa [B.ev, T.ev] using this.symm
      · cases h
    · rw [ha] at h
      cases h
      cases hi with
      | none => cases ha
      | some x =>
        have h1 := hhi x rfl
        have h2 := hj rfl
        simp only [atTop, ilt_iff] at ha
        simp at ha
        omega
theorem litIx_ok {ρ : Env} {pc : PC} (hp : PcH ρ pc) {t : T} {n k : Nat} (h : litIx pc t n = .lit k) : t.ev ρ = k := by
  unfold litIx at h
  have := simpT_ev hp t
  split at h
  · rename_i hs; cases h; rw [hs] at this; exact this.symm
  · cases h
  · rw [← this]
    have hr := rng_ok hp (simpT pc t)
    refine litScan_ok hp (fun x hx => ?_) (fun hs => ?_) h
    · unfold topOf at hx
      split at hx
      · rename_i l hl
        cases hc : ilt l 0 <;> rw [hc] at hx
        · exact hr.2 x hx
        · cases hx
      · cases hx
    · unfold topOf at hs
      split at hs
      · rename_i l hl
        have hc : ilt l 0 = false := by
          cases hc : ilt l 0
          · rfl
          · rw [hc] at hs; cases hs
        rw [ilt_iff] at hc
        have h1 := of_decide_eq_false hc
        have := hr.1 l hl
        simp; omega
      · cases hs
def onLit (l : LI) (f : Nat → PR) : PR := match l with
  | .lit k => f k
  | .split b => .split b
  | .none => .stuck 5

/-! the operations -/
/-- why a row can't be read: is it the one that was written? -/
def whichRow (pc : PC) (m : Mem) (id : Nat) (idx : T) : PR := match m.tr.get id with
  | some (.arr A) => (match A.row with
    | some (t, _) => (match simpB pc (.eqI t idx) with | .lit _ => .stuck 6 | b => .split b)
    | none => .stuck 6)
  | _ => .stuck 6
theorem whichRow_no (pc : PC) (m : Mem) (id : Nat) (idx : T) (s : SV) : whichRow pc m id idx ≠ .ok s := by
  unfold whichRow
  split
  · split
    · split <;> simp
    · simp
  · simp
def xLoad (C : Cfg) (pc : PC) (m : Mem) (t : TypeId) (p : SV) : PR := match p, C.ti t with
  | .ptr id idx off, some i =>
    bif isAggD i.und then (match m.read pc id idx off i.size with | some l => .ok (.agg l) | none => whichRow pc m id idx)
    else (match m.read pc id idx off 1 with | some [s] => .ok s | _ => whichRow pc m id idx)
  | _, _ => .stuck 6
theorem xLoad_ok {C : Cfg} (hC : C.Types) {ρ : Env} {β : Bet} {pc : PC} {m : Mem} {w : World} (hp : PcH ρ pc) (hm : MemO ρ β m w) {t : TypeId} {p s : SV} {v : Value} (hv : p.rel ρ β v)
    (h : xLoad C pc m t p = .ok s) : ∃ u, s.rel ρ β u ∧ ∀ w', Same β m w w' → (Instr.loadAt t v).run C.P w' = .ok u w' := by
  unfold xLoad at h
  split at h
  · rename_i id idx off i hi
    obtain ⟨e, he, h0, hlt, rfl⟩ := hv
    obtain ⟨j, hj, hsz, hz, hu⟩ := hC.ti t i hi
    cases ha : isAggD i.und
    · rw [ha] at h
      simp only [cond_false] at h
      split at h
      · rename_i s' hs
        cases h
        obtain ⟨vs, hr, hl, hc, hrun⟩ := Mem.read_ok C.P hp hm he h0 hlt hs
        obtain ⟨u, us, rfl, r1, r2⟩ := hr
        rw [show us = [] from r2] at hc
        refine ⟨u, r1, fun w' hw => ?_⟩
        have := hc w' hw 0 u rfl
        simp only [Nat.add_zero] at this
        simp [Instr.loadAt, Instr.sureAddr, loadVar, run_isAgg' hu, ha, this]
      · exact (whichRow_no _ _ _ _ _ h).elim
    · rw [ha] at h
      simp only [cond_true] at h
      split at h
      · rename_i l hl
        cases h
        obtain ⟨vs, hr, hlen, hc, hrun⟩ := Mem.read_ok C.P hp hm he h0 hlt hl
        exact ⟨.agg vs.toArray, ⟨vs, hr, rfl⟩, fun w' hw => by simp [Instr.loadAt, Instr.sureAddr, loadVar, run_isAgg' hu, ha, run_sizeOf' hj, hsz, hrun w' hw]⟩
      · exact (whichRow_no _ _ _ _ _ h).elim
  · cases h
def isShift : BinOp → Bool | .shl => true | .shr => true | _ => false
def allU8 (ks : List CK) : Bool := (ks.all fun k => match k with | .i .u8 => true | _ => false) || (ks.all fun k => match k with | .i .i64 => true | _ => false)
def xBin (C : Cfg) (pc : PC) (m : Mem) (op : BinOp) (xt : TypeId) (x y : SV) : PR := match x, y with
  | .int k a, .int kb b => bif isShift op || Nat.beq (kindNo kb) (kindNo k) then xInt pc op k (tag k a) (tag kb b) else .stuck 7
  | .bool a, .bool b => (match C.ti xt with | some ⟨.bool, _, _⟩ => eqOf op (mkEqB a b) | _ => .stuck 7)
  | .agg a, .agg b => (match C.eqk xt with
    | some ks => (match aggEq ks a b with | some r => eqOf op (bif allU8 ks then asOne r else r) | none => .stuck 8)
    | none => .stuck 8)
  | x, y => (match C.ti xt with
    | some ⟨.pointer el, _, _⟩ => (match C.ti el with
      | some i => bif Nat.beq i.size 0 then .stuck 9 else (match xPtrEq m x y with | some r => eqOf op r | none => .stuck 9)
      | none => .stuck 9)
    | _ => .stuck 9)
theorem xBin_ok {C : Cfg} (hC : C.Types) {ρ : Env} {β : Bet} {pc : PC} {m : Mem} {w : World} (hp : PcH ρ pc) (hm : MemO ρ β m w) {op : BinOp} {xt : TypeId} {x y : SV} {xo yo : Operand} {u v : Value}
    (hu : x.rel ρ β u) (hv : y.rel ρ β v) {s : SV} (h : xBin C pc m op xt x y = .ok s) : (cmp op xt xo yo u v).run C.P w = .ok (svI ρ s) w ∧ s.rel ρ β (svI ρ s) := by
  unfold xBin at h
  split at h
  · rename_i k a kb b
    obtain ⟨rfl, ha⟩ := hu
    obtain ⟨rfl, hb⟩ := hv
    have ta := tag_ev ha
    have tb := tag_ev hb
    have ha' : inK k ((tag k a).ev ρ) = true := by rw [ta]; exact ha
    rw [← ta, ← tb]
    clear ta tb ha hb
    have ha := ha'
    clear ha'
    cases hk : isShift op || Nat.beq (kindNo kb) (kindNo k)
    · rw [hk] at h; cases h
    · rw [hk] at h
      obtain ⟨r1, r2⟩ := xInt_ok (P := C.P) hp w ha h xt kb (fun h1 h2 => by
        rw [Bool.or_eq_true] at hk
        rcases hk with hk | hk
        · cases op <;> first | exact absurd rfl h1 | exact absurd rfl h2 | cases hk
        · exact kindNo_inj hk)
      refine ⟨?_, r2 β⟩
      simp only [Sem.run_bind]
      rw [guard_plain op xt xo yo _ _ w (by simp) (by simp)]
      simp only [Result.andThen_ok]; exact r1
  · rename_i a b
    rw [show u = .bool (a.ev ρ) from hu, show v = .bool (b.ev ρ) from hv]
    split at h
    · rename_i sz z hi
      obtain ⟨j, hj, hsz, hz, hund⟩ := hC.ti xt _ hi
      have := eqOf_ok (P := C.P) (x := xo) (y := yo) (w := w) (t := xt) h (mkEqB_ev ρ a b) (u := .bool (a.ev ρ)) (v := .bool (b.ev ρ)) (fun op => guard_plain op xt xo yo _ _ w (by simp) (by simp))
        (run_equalIn_bool w 9999 xt _ _ hund) rfl rfl
      exact ⟨this.1, this.2 β⟩
    · cases h
  · rename_i a b
    obtain ⟨l, hl, rfl⟩ := hu
    obtain ⟨l', hl', rfl⟩ := hv
    split at h
    · rename_i ks hks
      split at h
      · rename_i r hr
        obtain ⟨hg, hq⟩ := hC.eqk xt ks hks
        obtain ⟨k1, k2, k3⟩ := aggEq_ok hr hl hl'
        have := eqOf_ok (P := C.P) (ρ := ρ) (x := xo) (y := yo) (w := w) (t := xt) h (show _ = r.ev ρ by cases allU8 ks <;> simp only [cond_true, cond_false, asOne_ev]) (u := .agg l.toArray) (v := .agg l'.toArray) (fun op => run_eqGuard_agg w op xt xo yo _ _ hg)
          (by rw [hq w _ _ (by simpa using k1) (by simpa using k2)]; simp [k3]) rfl rfl
        exact ⟨this.1, this.2 β⟩
      · cases h
    · cases h
  · rename_i hx1 hx2 hx3
    split at h
    · rename_i el sz z hi
      obtain ⟨j, hj, hsz, hz, hund⟩ := hC.ti xt _ hi
      split at h
      · rename_i i hel
        obtain ⟨j', hj', hsz', hz', hund'⟩ := hC.ti el i hel
        cases hb : Nat.beq i.size 0
        · rw [hb] at h
          simp only [cond_false] at h
          split at h
          · rename_i r hr
            have hne : j'.size ≠ 0 := fun e => by rw [← hsz', e] at hb; simp at hb
            obtain ⟨q, ⟨p1, rfl⟩, p2, rfl⟩ := xPtrEq_ok (P := C.P) hm hr hu hv hund hj' hne 9999
            have := eqOf_ok (P := C.P) (x := xo) (y := yo) (w := w) (t := xt) h rfl (u := .pointer p1) (v := .pointer p2) (fun op => guard_plain op xt xo yo _ _ w (by simp) (by simp)) q rfl rfl
            exact ⟨this.1, this.2 β⟩
          · cases h
        · rw [hb] at h; cases h
      · cases h
    · cases h
def xUn (op : UnOp) (x : SV) : PR := match op, x with
  | .not, .bool b => .ok (.bool (mkNot b))
  | .neg, .int k t => .ok (.int k (mkWrap k (mkBin .sub (.lit 0) t)))
  | .xor, .int k t => .ok (.int k (mkBin (.bxor k) (.lit (if k.signed then -1 else k.max)) t))
  | _, _ => .stuck 10
theorem xUn_ok {P : Program} {ρ : Env} {β : Bet} {op : UnOp} {x s : SV} {v : Value} (hv : x.rel ρ β v) (h : xUn op x = .ok s) (w : World) : (Op.unary op v).run P w = .ok (svI ρ s) w ∧ s.rel ρ β (svI ρ s) := by
  unfold xUn at h
  split at h
  · cases h; rw [show v = _ from hv]; exact ⟨by simp [Op.unary, svI, mkNot_ev], by simp [SV.rel, svI, mkNot_ev]⟩
  · cases h; obtain ⟨rfl, _⟩ := hv
    exact ⟨by simp [Op.unary, Op.intArith, svI, mkWrap_ev, mkBin_ev, TOp.ev, T.ev], by simp [SV.rel, svI, mkWrap_ev, wrap_inK]⟩
  · cases h; obtain ⟨rfl, _⟩ := hv
    exact ⟨by simp [Op.unary, Op.intBits, svI, mkBin_ev, TOp.ev, T.ev], by simp [SV.rel, svI, mkBin_ev, TOp.ev, wrap_inK]⟩
  · cases h
def xConv (C : Cfg) (src dst : TypeId) (x : SV) : PR := match C.ti src, C.ti dst, x with
  | some _, some ⟨.int k, _, _⟩, .int k' t => .ok (.int k (mkConv k' k t))
  | some ⟨.string, _, _⟩, some ⟨.string, _, _⟩, .raw (.string s) => .ok (.raw (.string s))
  | _, _, _ => .stuck 11
theorem xConv_ok {C : Cfg} (hC : C.Types) {ρ : Env} {β : Bet} {src dst : TypeId} {x s : SV} {v : Value} (hv : x.rel ρ β v) (h : xConv C src dst x = .ok s) :
    ∃ u, s.rel ρ β u ∧ ∀ w : World, (convert src dst v).run C.P w = .ok u w := by
  unfold xConv at h
  split at h
  · rename_i i k sz z k' t h1 h2
    cases h
    obtain ⟨rfl, hk⟩ := hv
    obtain ⟨_, _, _, _, hu1⟩ := hC.ti src _ h1
    obtain ⟨_, _, _, _, hu2⟩ := hC.ti dst _ h2
    obtain ⟨c1, c2⟩ := mkConv_ok (b := k) hk
    exact ⟨.int k (k.wrap (t.ev ρ)), by rw [← c1]; exact ⟨rfl, c2⟩, fun w => by simp [convert, run_underlying hu1, run_underlying hu2, Conv.intToInt]⟩
  · rename_i sz z sz' z' st h1 h2
    cases h
    obtain ⟨rfl, hk⟩ := hv
    obtain ⟨_, _, _, _, hu1⟩ := hC.ti src _ h1
    obtain ⟨_, _, _, _, hu2⟩ := hC.ti dst _ h2
    exact ⟨.string st, ⟨rfl, hk⟩, fun w => by simp [convert, run_underlying hu1, run_underlying hu2]⟩
  · cases h
def xFieldAddr (C : Cfg) (st : TypeId) (p : SV) (f : Nat) : PR := match C.ti st, p with
  | some ⟨.struct fs, _, _⟩, .ptr id idx off => (match fs.toList[f]? with
    | some fl => (match C.ti fl.type with
      | some i => bif Nat.beq i.size 0 then .stuck 12 else .ok (.ptr id idx (off + fl.offset))
      | none => .stuck 12)
    | none => .stuck 12)
  | _, _ => .stuck 12
theorem xFieldAddr_ok {C : Cfg} (hC : C.Types) {ρ : Env} {β : Bet} {st : TypeId} {f : Nat} {x s : SV} {v : Value} (hv : x.rel ρ β v) (h : xFieldAddr C st x f = .ok s) :
    ∃ u, s.rel ρ β u ∧ ∀ w : World, (Instr.fieldAt st v f).run C.P w = .ok u w := by
  unfold xFieldAddr at h
  split at h
  · rename_i fs sz z id idx off h1
    obtain ⟨e, he, h0, hlt, rfl⟩ := hv
    obtain ⟨_, _, _, _, hu⟩ := hC.ti st _ h1
    split at h
    · rename_i fl hfl
      split at h
      · rename_i i hi
        cases hb : Nat.beq i.size 0
        · rw [hb] at h
          cases h
          obtain ⟨j, hj, hsz, _, _⟩ := hC.ti _ _ hi
          have hne : ¬ j.size = 0 := fun e => by rw [← hsz, e] at hb; simp at hb
          have hfl' : fs[f]? = some fl := by rw [← Array.getElem?_toList]; exact hfl
          refine ⟨_, ⟨e, he, h0, hlt, rfl⟩, fun w => ?_⟩
          simp [Instr.fieldAt, Instr.sureAddr, run_underlying hu, hfl', fieldPlace, run_sizeOf' hj, hne, add_off, Nat.add_assoc]
        · rw [hb] at h; cases h
      · cases h
    · cases h
  · cases h
def xField (C : Cfg) (st : TypeId) (x : SV) (f : Nat) : PR := match C.ti st, x with
  | some ⟨.struct fs, _, _⟩, .agg cs => (match fs.toList[f]? with
    | some fl => (match C.ti fl.type with | some i => xPart (isAggD i.und) i.size cs fl.offset | none => .stuck 13)
    | none => .stuck 13)
  | _, _ => .stuck 13
theorem xField_ok {C : Cfg} (hC : C.Types) {ρ : Env} {β : Bet} {st : TypeId} {f : Nat} {x s : SV} {v : Value} (hv : x.rel ρ β v) (h : xField C st x f = .ok s) :
    ∃ u, s.rel ρ β u ∧ ∀ w : World, (Instr.field st v f).run C.P w = .ok u w := by
  unfold xField at h
  split at h
  · rename_i fs sz z cs h1
    obtain ⟨l, hl, rfl⟩ := hv
    obtain ⟨_, _, _, _, hu⟩ := hC.ti st _ h1
    split at h
    · rename_i fl hfl
      split at h
      · rename_i i hi
        obtain ⟨j, hj, hsz, _, hu'⟩ := hC.ti _ _ hi
        have hfl' : fs[f]? = some fl := by rw [← Array.getElem?_toList]; exact hfl
        rw [← hsz] at h
        obtain ⟨u, r2, r1⟩ := xPart_ok hu' hj hl h
        exact ⟨u, r2, fun w => by simp [Instr.field, run_underlying hu, hfl', asAgg, r1]⟩
      · cases h
    · cases h
  · cases h
def xIndex (C : Cfg) (pc : PC) (xt : TypeId) (x ix : SV) : PR := match C.ti xt, x, ix with
  | some ⟨.array n el, _, _⟩, .agg cs, .int _ t => (match C.ti el with
    | some i => onLit (litIx pc t n) fun k => bif Nat.blt k n then xPart (isAggD i.und) i.size cs (k * i.size) else .stuck 14
    | none => .stuck 14)
  | some ⟨.string, _, _⟩, .raw (.string s), .int _ t => onLit (litIx pc t s.size) fun k => (match s.data.toList[k]? with | some b => .ok (.int .u8 (.lit (.ofNat b.toNat))) | none => .stuck 14)
  | _, _, _ => .stuck 14
theorem onLit_ok {ρ : Env} {pc : PC} (hp : PcH ρ pc) {t : T} {n : Nat} {f : Nat → PR} {s : SV} (h : onLit (litIx pc t n) f = .ok s) : ∃ k : Nat, t.ev ρ = k ∧ f k = .ok s := by
  unfold onLit at h
  split at h
  · rename_i k hk; exact ⟨k, litIx_ok hp hk, h⟩
  · cases h
  · cases h
theorem xIndex_ok {C : Cfg} (hC : C.Types) {ρ : Env} {β : Bet} {pc : PC} (hp : PcH ρ pc) {xt : TypeId} {x ix s : SV} {v iv : Value} (hv : x.rel ρ β v) (hi : ix.rel ρ β iv) (h : xIndex C pc xt x ix = .ok s) :
    ∃ u, s.rel ρ β u ∧ ∀ w : World, (Instr.index xt v iv).run C.P w = .ok u w := by
  unfold xIndex at h
  split at h
  · rename_i n el sz z cs k t h1
    obtain ⟨l, hl, rfl⟩ := hv
    obtain ⟨rfl, _⟩ := hi
    obtain ⟨_, _, _, _, hu⟩ := hC.ti xt _ h1
    split at h
    · rename_i i hi
      obtain ⟨j, hj, hsz, _, hu'⟩ := hC.ti _ _ hi
      obtain ⟨q, hq, h⟩ := onLit_ok hp h
      cases hb : Nat.blt q n
      · rw [hb] at h; cases h
      · rw [hb] at h
        simp only [cond_true] at h
        have hlt : q < n := Nat.le_of_ble_eq_true hb
        rw [← hsz] at h
        obtain ⟨u, r2, r1⟩ := xPart_ok hu' hj hl h
        exact ⟨u, r2, fun w => by simp [Instr.index, asIntOf, run_underlying hu, hq, hlt, run_sizeOf' hj, r1]⟩
    · cases h
  · rename_i sz z st k t h1
    obtain ⟨rfl, _⟩ := hv
    obtain ⟨rfl, _⟩ := hi
    obtain ⟨_, _, _, _, hu⟩ := hC.ti xt _ h1
    obtain ⟨q, hq, h⟩ := onLit_ok hp h
    split at h
    · rename_i b hb
      cases h
      have hlt := (List.getElem?_eq_some_iff.1 hb).1
      have hb' : st[q]? = some b := by
        have : q < st.size := by simpa using hlt
        rw [getElem?_pos st q this]
        rw [List.getElem?_eq_getElem hlt] at hb
        simp only [Option.some.injEq] at hb ⊢
        rw [← hb]; simp; rfl
      refine ⟨.int .u8 b.toNat, ⟨rfl, ?_⟩, fun w => by simp [Instr.index, asIntOf, run_underlying hu, hq, hb']⟩
      rw [inK_iff]
      have := b.toNat_lt
      simp only [T.ev, kLo, kHi, Int.ofNat_eq_natCast]
      omega
    · cases h
  · cases h
def xIndexAddr (C : Cfg) (pc : PC) (m : Mem) (xt : TypeId) (x ix : SV) : PR := match C.ti xt, x, ix with
  | some ⟨.slice el, _, _⟩, .slice id i0 off len _, .int _ t => (match C.ti el, m.tr.get id with
    | some i, some (.arr A) => bif isZero i0 && Nat.beq off 0 && Nat.beq i.size A.stride && T.beq len A.len then
        dec pc (mkLtI t (.lit 0)) (.stuck 15) (dec pc (mkLtI t len) (.ok (.ptr id t 0)) (.stuck 15)) else .stuck 16
    | some i, some (.cells _ cs) => bif isZero i0 then onLit (litIx pc t (cs.length)) fun k => dec pc (mkLtI (.lit (.ofNat k)) len) (.ok (.ptr id (.lit 0) (off + k * i.size))) (.stuck 15) else .stuck 16
    | _, _ => .stuck 16)
  | some ⟨.array n el, _, _⟩, .ptr id idx off, .int _ t => (match C.ti el with
    | some i => onLit (litIx pc t n) fun k => bif Nat.blt k n then .ok (.ptr id idx (off + k * i.size)) else .stuck 15
    | none => .stuck 16)
  | _, _, _ => .stuck 16
theorem xIndexAddr_ok {C : Cfg} (hC : C.Types) {ρ : Env} {β : Bet} {pc : PC} {m : Mem} {w : World} (hp : PcH ρ pc) (hm : MemO ρ β m w) {xt : TypeId} {x ix s : SV} {v iv : Value} (hv : x.rel ρ β v) (hi : ix.rel ρ β iv)
    (h : xIndexAddr C pc m xt x ix = .ok s) : ∃ u, s.rel ρ β u ∧ ∀ w : World, (Instr.indexAt xt v iv).run C.P w = .ok u w := by
  unfold xIndexAddr at h
  split at h
  · rename_i el sz z id i0 off len cap k t h1
    obtain ⟨e, l, c, he, h0, hlen, hlc, hcb, _, rfl⟩ := hv
    obtain ⟨rfl, _⟩ := hi
    obtain ⟨_, _, _, _, hu⟩ := hC.ti xt _ h1
    split at h
    · rename_i i A hi hA
      obtain ⟨j, hj, hsz, _, hu'⟩ := hC.ti _ _ hi
      obtain ⟨e', he', hr⟩ := hm.obj id _ hA
      rw [he] at he'; cases he'
      obtain ⟨_, hst, hpos, _, hcnt, _⟩ := hr
      cases hc : isZero i0 && Nat.beq off 0 && Nat.beq i.size A.stride && T.beq len A.len
      · rw [hc] at h; cases h
      · rw [hc] at h
        simp only [cond_true] at h
        simp only [Bool.and_eq_true] at hc
        obtain ⟨⟨⟨c1, c2⟩, c3⟩, c4⟩ := hc
        have c2 := Nat.eq_of_beq_eq_true c2
        have c3 := Nat.eq_of_beq_eq_true c3
        have c4 := T.beq_eq c4
        rcases dec_ok hp h with ⟨_, h⟩ | ⟨ht0, h⟩
        · cases h
        · rcases dec_ok hp h with ⟨htl, h⟩ | ⟨_, h⟩
          · cases h
            rw [mkLtI_ev] at ht0 htl
            have ht0 : 0 ≤ t.ev ρ := by have := of_decide_eq_false ht0; simp only [T.ev] at this; omega
            have htl : t.ev ρ < l := by rw [← hlen]; simpa using htl
            have htc : t.ev ρ < e.cnt := by rw [← hcnt, ← c4, hlen]; exact htl
            refine ⟨_, ⟨e, he, ht0, fun _ => htc, rfl⟩, fun w => ?_⟩
            simp [Instr.indexAt, asIntOf, run_underlying hu, ht0, htl, run_sizeOf' hj, add_off, isZero_ok c1 ρ, c2, hsz, c3, hst]
          · cases h
    · rename_i i wr cs hi hA
      obtain ⟨j, hj, hsz, _, hu'⟩ := hC.ti _ _ hi
      obtain ⟨e', he', hr⟩ := hm.obj id _ hA
      rw [he] at he'; cases he'
      obtain ⟨_, hbase, hst, _⟩ := hr
      cases hc : isZero i0
      · rw [hc] at h; cases h
      · rw [hc] at h
        simp only [cond_true] at h
        obtain ⟨q, hq, h⟩ := onLit_ok hp h
        rcases dec_ok hp h with ⟨htl, h⟩ | ⟨_, h⟩
        · cases h
          rw [mkLtI_ev, hlen] at htl
          have htl : q < l := by simpa [T.ev] using htl
          refine ⟨_, ⟨e, he, by simp [T.ev], fun hne => absurd hst hne, rfl⟩, fun w => ?_⟩
          simp [Instr.indexAt, asIntOf, run_underlying hu, hq, htl, run_sizeOf' hj, add_off, isZero_ok hc ρ, hsz, hst, T.ev, Nat.add_assoc]
        · cases h
    · cases h
  · rename_i n el sz z id idx off k t h1
    obtain ⟨e, he, h0, hlt, rfl⟩ := hv
    obtain ⟨rfl, _⟩ := hi
    obtain ⟨_, _, _, _, hu⟩ := hC.ti xt _ h1
    split at h
    · rename_i i hi
      obtain ⟨j, hj, hsz, _, hu'⟩ := hC.ti _ _ hi
      obtain ⟨q, hq, h⟩ := onLit_ok hp h
      cases hb : Nat.blt q n
      · rw [hb] at h; cases h
      · rw [hb] at h
        cases h
        have hlt' : q < n := Nat.le_of_ble_eq_true hb
        refine ⟨_, ⟨e, he, h0, hlt, rfl⟩, fun w => ?_⟩
        simp [Instr.indexAt, Instr.sureAddr, asIntOf, run_underlying hu, hq, hlt', run_sizeOf' hj, add_off, hsz, Nat.add_assoc]
    · cases h
  · cases h
end Go.SX
