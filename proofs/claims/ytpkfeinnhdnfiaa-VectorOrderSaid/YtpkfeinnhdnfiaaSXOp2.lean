/- SX, part 8: builtins, literals, and all of it in one. -/
import Derived.Test.YtpkfeinnhdnfiaaSXOp
namespace Go.SX
open Go

def xLen (C : Cfg) (t : TypeId) (x : SV) : PR := match C.ti t, x with
  | some ⟨.slice _, _, _⟩, .slice _ _ _ len _ => .ok (.int .i64 len)
  | some ⟨.slice _, _, _⟩, .nils => .ok (.int .i64 (.lit 0))
  | some ⟨.string, _, _⟩, .raw (.string s) => bif Nat.ble s.size 9223372036854775807 then .ok (.int .i64 (.lit (.ofNat s.size))) else .stuck 17
  | some ⟨.array n _, _, _⟩, _ => bif Nat.ble n 9223372036854775807 then .ok (.int .i64 (.lit (.ofNat n))) else .stuck 17
  | _, _ => .stuck 17
theorem nat_inK {n : Nat} (h : n ≤ 9223372036854775807) : inK .i64 (n : Int) = true := by
  rw [inK_iff]; simp only [kLo, kHi]; omega
theorem xLen_ok {C : Cfg} (hC : C.Types) {ρ : Env} {β : Bet} {t : TypeId} {x s : SV} {v : Value} (hv : x.rel ρ β v) (h : xLen C t x = .ok s) (ts : Array TypeId) (ht : ts[0]? = some t) (r : TypeId) :
    ∃ u, s.rel ρ β u ∧ ∀ w : World, (Builtin.len_ ts r #[v]).run C.P w = .ok u w := by
  have h0 : (#[v] : Array Value)[0]? = some v := rfl
  unfold xLen at h
  split at h
  · rename_i el sz z id idx off len cap h1
    cases h
    obtain ⟨_, _, _, _, hu⟩ := hC.ti t _ h1
    obtain ⟨e, l, c, he, _, hlen, hlc, hcb, _, rfl⟩ := hv
    refine ⟨goInt l, ⟨by rw [← hlen]; rfl, by rw [hlen]; exact nat_inK (by omega)⟩, fun w => ?_⟩
    simp only [Builtin.len_, ht, h0]; simp [run_underlying hu]
  · rename_i el sz z h1
    cases h
    obtain ⟨_, _, _, _, hu⟩ := hC.ti t _ h1
    rw [show v = .slice none 0 0 from hv] at h0 ⊢
    refine ⟨goInt 0, ⟨rfl, rfl⟩, fun w => ?_⟩
    simp only [Builtin.len_, ht, h0]; simp [run_underlying hu]
  · rename_i sz z st h1
    obtain ⟨_, _, _, _, hu⟩ := hC.ti t _ h1
    obtain ⟨rfl, _⟩ := hv
    cases hb : Nat.ble st.size 9223372036854775807
    · rw [hb] at h; cases h
    · rw [hb] at h; cases h
      refine ⟨goInt st.size, ⟨rfl, nat_inK (Nat.le_of_ble_eq_true hb)⟩, fun w => ?_⟩
      simp only [Builtin.len_, ht, h0]; simp [run_underlying hu]
  · rename_i x' n el sz z h1
    obtain ⟨_, _, _, _, hu⟩ := hC.ti t _ h1
    cases hb : Nat.ble n 9223372036854775807
    · rw [hb] at h; cases h
    · rw [hb] at h; cases h
      refine ⟨goInt n, ⟨rfl, nat_inK (Nat.le_of_ble_eq_true hb)⟩, fun w => ?_⟩
      simp only [Builtin.len_, ht, h0]; simp [run_underlying hu]
  · cases h
/-- min, max of two -/
def xM (o : TOp) (x y : SV) : PR := match x, y with
  | .int k a, .int kb b => bif Nat.beq (kindNo kb) (kindNo k) then .ok (.int k (mkBin o a b)) else .stuck 18
  | _, _ => .stuck 18
theorem xMax_ok {P : Program} {ρ : Env} {β : Bet} {x y s : SV} {u v : Value} (hu : x.rel ρ β u) (hv : y.rel ρ β v) (h : xM .mx x y = .ok s) (ts : Array TypeId) (r : TypeId) (w : World) :
    (Builtin.max_ ts r #[u, v]).run P w = .ok (svI ρ s) w ∧ s.rel ρ β (svI ρ s) := by
  unfold xM at h
  split at h
  · rename_i k a kb b
    obtain ⟨rfl, ha⟩ := hu
    obtain ⟨rfl, hb'⟩ := hv
    cases hb : Nat.beq (kindNo kb) (kindNo k)
    · rw [hb] at h; cases h
    · rw [hb] at h; cases h
      have := kindNo_inj hb
      subst this
      refine ⟨by simp [Builtin.max_, Builtin.max2, svI, mkBin_ev, TOp.ev], ?_⟩
      simp only [SV.rel, svI, mkBin_ev, TOp.ev, true_and]
      split <;> assumption
  · cases h
theorem xMin_ok {P : Program} {ρ : Env} {β : Bet} {x y s : SV} {u v : Value} (hu : x.rel ρ β u) (hv : y.rel ρ β v) (h : xM .mn x y = .ok s) (ts : Array TypeId) (r : TypeId) (w : World) :
    (Builtin.min_ ts r #[u, v]).run P w = .ok (svI ρ s) w ∧ s.rel ρ β (svI ρ s) := by
  unfold xM at h
  split at h
  · rename_i k a kb b
    obtain ⟨rfl, ha⟩ := hu
    obtain ⟨rfl, hb'⟩ := hv
    cases hb : Nat.beq (kindNo kb) (kindNo k)
    · rw [hb] at h; cases h
    · rw [hb] at h; cases h
      have := kindNo_inj hb
      subst this
      refine ⟨by simp [Builtin.min_, Builtin.min2, svI, mkBin_ev, TOp.ev], ?_⟩
      simp only [SV.rel, svI, mkBin_ev, TOp.ev, true_and]
      split <;> assumption
  · cases h
def placesOf (C : Cfg) : List Field → Option (List (Nat × Nat))
  | [] => some []
  | f :: fs => (match C.ti f.type, placesOf C fs with | some i, some r => some ((f.offset, i.size) :: r) | _, _ => none)
theorem placesOf_ok {C : Cfg} (hC : C.Types) : ∀ {fs : List Field} {l : List (Nat × Nat)}, placesOf C fs = some l → fs.mapM (fun f => (C.P.info? f.type).map fun i => (f.offset, i.size)) = some l
  | [], l, h => by cases h; rfl
  | f :: fs, l, h => by
    simp only [placesOf] at h
    split at h
    · rename_i i r h1 h2
      cases h
      obtain ⟨j, hj, hsz, _, _⟩ := hC.ti _ _ h1
      simp [List.mapM_cons, hj, hsz, placesOf_ok hC h2]
    · cases h
def xBuild (C : Cfg) (t : TypeId) (ps : List (Nat × SV)) : PR := match C.ti t with
  | some ⟨.struct fs, _, some z⟩ => (match placesOf C fs.toList, liftCL z.cells.toList with
    | some pl, some cells => (match fillX (fun i => pl[i]?) cells ps with | some c => .ok (.agg c) | none => .stuck 19)
    | _, _ => .stuck 19)
  | some ⟨.array _ el, _, some z⟩ => (match C.ti el, liftCL z.cells.toList with
    | some i, some cells => (match fillX (fun k => some (k * i.size, i.size)) cells ps with | some c => .ok (.agg c) | none => .stuck 19)
    | _, _ => .stuck 19)
  | _ => .stuck 19
theorem xBuild_ok {C : Cfg} (hC : C.Types) {ρ : Env} {β : Bet} {t : TypeId} {ps : List (Nat × SV)} {qs : Array (Nat × Value)} {s : SV} (hr : PartsRel ρ β ps qs.toList) (h : xBuild C t ps = .ok s) :
    ∃ u, s.rel ρ β u ∧ ∀ w : World, (Instr.build t qs).run C.P w = .ok u w := by
  unfold xBuild at h
  split at h
  · rename_i fs sz z h1
    obtain ⟨j, hj, _, hz, hu⟩ := hC.ti t _ h1
    split at h
    · rename_i pl cells hpl hc
      split at h
      · rename_i c hf
        cases h
        obtain ⟨arr, e1, e2⟩ := fillX_ok hr (liftCL_ok hc) hf
        refine ⟨.agg arr, ⟨arr.toList, e2, by simp⟩, fun w => ?_⟩
        refine run_build w t qs arr ?_
        unfold Program.built
        simp only [hj, hu, hz, placesOf_ok hC hpl]
        simpa using e1
      · cases h
    · cases h
  · rename_i n el sz z h1
    obtain ⟨j, hj, _, hz, hu⟩ := hC.ti t _ h1
    split at h
    · rename_i i cells hi hc
      obtain ⟨j', hj', hsz', _, _⟩ := hC.ti el _ hi
      split at h
      · rename_i c hf
        cases h
        rw [← hsz'] at hf
        obtain ⟨arr, e1, e2⟩ := fillX_ok hr (liftCL_ok hc) hf
        refine ⟨.agg arr, ⟨arr.toList, e2, by simp⟩, fun w => ?_⟩
        refine run_build w t qs arr ?_
        unfold Program.built
        simp only [hj, hu, hz, hj']
        exact e1
      · cases h
    · cases h
  · cases h

/-- what an operation that changes no memory yields -/
def opP0 (C : Cfg) (pc : PC) (m : Mem) (tm : Tr SV) (op : Op) : PR := match op with
  | .move x => (match evX tm x with | some s => .ok s | none => .stuck 20)
  | .assign x => (match evX tm x with | some s => .ok s | none => .stuck 20)
  | .pick c a b => (match evX tm c with
    | some (.bool c) => dec pc c (match evX tm a with | some s => .ok s | none => .stuck 20) (match evX tm b with | some s => .ok s | none => .stuck 20)
    | _ => .stuck 20)
  | .load t p => (match evX tm p with | some p => xLoad C pc m t p | none => .stuck 20)
  | .nilCheck x => (match evX tm x with | some (.ptr i a o) => .ok (.ptr i a o) | some (.fn f cs) => .ok (.fn f cs) | _ => .stuck 21)
  | .binOp op xt x y _ => (match evX tm x, evX tm y with | some x, some y => xBin C pc m op xt x y | _, _ => .stuck 20)
  | .unOp op _ x => (match evX tm x with | some x => xUn op x | none => .stuck 20)
  | .convert src dst x => (match evX tm x with | some x => xConv C src dst x | none => .stuck 20)
  | .fieldAddr st x f => (match evX tm x with | some x => xFieldAddr C st x f | none => .stuck 20)
  | .field st x f => (match evX tm x with | some x => xField C st x f | none => .stuck 20)
  | .index xt x i => (match evX tm x, evX tm i with | some x, some i => xIndex C pc xt x i | _, _ => .stuck 20)
  | .indexAddr xt x i => (match evX tm x, evX tm i with | some x, some i => xIndexAddr C pc m xt x i | _, _ => .stuck 20)
  | .extract x i => (match evX tm x with | some (.tup vs) => (match vs[i]? with | some s => .ok s | none => .stuck 22) | _ => .stuck 22)
  | .build t ps => (match evXP tm ps.toList with | some ps => xBuild C t ps | none => .stuck 20)
  | .makeFunc (.func f) first caps => (match first.toList, evXL tm caps.toList with | [], some cs => .ok (.fn f cs) | _, _ => .stuck 23)
  | .call c => (match c.callee, evXL tm c.args.toList, c.argTypes.toList with
    | .builtin .len, some [x], t :: _ => xLen C t x
    | .builtin .max, some [x, y], _ => xM .mx x y
    | .builtin .min, some [x, y], _ => xM .mn x y
    | _, _, _ => .stuck 24)
  | _ => .stuck 25
theorem relL_two {ρ : Env} {β : Bet} {x y : SV} {l : List Value} (h : relL ρ β [x, y] l) : ∃ u v, l = [u, v] ∧ x.rel ρ β u ∧ y.rel ρ β v := by
  obtain ⟨u, us, rfl, h1, v, vs, rfl, h2, h3⟩ := h
  rw [show vs = [] from h3]
  exact ⟨u, v, rfl, h1, h2⟩
theorem relL_single {ρ : Env} {β : Bet} {x : SV} {l : List Value} (h : relL ρ β [x] l) : ∃ u, l = [u] ∧ x.rel ρ β u := by
  obtain ⟨u, us, rfl, h1, h3⟩ := h
  rw [show us = [] from h3]
  exact ⟨u, rfl, h1⟩
theorem opP0_ok {C : Cfg} (hC : C.Types) {ρ : Env} {β : Bet} {pc : PC} {m : Mem} {w : World} {tm : Tr SV} {a : Act} (hp : PcH ρ pc) (hm : MemO ρ β m w) (ht : TmRel ρ β tm a) {o : Oper} {s : SV}
    (h : opP0 C pc m tm o.op = .ok s) : ∃ v, s.rel ρ β v ∧ ∀ w', Same β m w w' → (execOp a.eval o).run C.P w' = .ok (.value v) w' := by
  obtain ⟨dst, op, type, pos, after, guard⟩ := o
  simp only at h
  cases op <;> simp only [opP0] at h <;> try (cases h; done)
  case move x =>
    split at h
    · rename_i s' hs; cases h; exact ⟨_, evX_ok ht hs, fun w' _ => rfl⟩
    · cases h
  case assign x =>
    split at h
    · rename_i s' hs; cases h; exact ⟨_, evX_ok ht hs, fun w' _ => rfl⟩
    · cases h
  case pick c x y =>
    split at h
    · rename_i b hb
      have hc : a.eval c = .bool (b.ev ρ) := evX_ok ht hb
      rcases dec_ok hp h with ⟨hv, h⟩ | ⟨hv, h⟩
      · split at h
        · rename_i s' hs; cases h
          exact ⟨a.eval x, evX_ok ht hs, fun w' _ => by simp [execOp, hc, hv, asBool]⟩
        · cases h
      · split at h
        · rename_i s' hs; cases h
          exact ⟨a.eval y, evX_ok ht hs, fun w' _ => by simp [execOp, hc, hv, asBool]⟩
        · cases h
    · cases h
  case load t p =>
    split at h
    · rename_i p' hp'
      obtain ⟨u, h2, h1⟩ := xLoad_ok hC hp hm (evX_ok ht hp') h
      exact ⟨u, h2, fun w' hw => by simp [execOp, h1 w' hw]⟩
    · cases h
  case nilCheck x =>
    split at h
    · rename_i i idx off hx
      cases h
      have := evX_ok ht hx
      obtain ⟨e, he, h0, hlt, hv⟩ := this
      exact ⟨_, ⟨e, he, h0, hlt, rfl⟩, fun w' _ => by simp [execOp, hv]⟩
    · rename_i f cs hx
      cases h
      have := evX_ok ht hx
      obtain ⟨l, hl, hv⟩ := this
      exact ⟨_, ⟨l, hl, rfl⟩, fun w' _ => by simp [execOp, hv]⟩
    · cases h
  case binOp op xt x y yt =>
    split at h
    · rename_i sx sy hx hy
      have key := fun w' (hw : Same β m w w') => xBin_ok hC hp (hm.same hw) (xo := x) (yo := y) (evX_ok ht hx) (evX_ok ht hy) h
      refine ⟨_, (key w (Same.refl _ _ _)).2, fun w' hw => ?_⟩
      have h1 := (key w' hw).1
      simp only [execOp, Sem.run_bind]
      simp only [Sem.run_bind] at h1
      rw [h1]; rfl
    · cases h
  case unOp op xt x =>
    split at h
    · rename_i sx hx
      have key := xUn_ok (P := C.P) (evX_ok ht hx) h
      exact ⟨_, (key w).2, fun w' _ => by simp [execOp, (key w').1]⟩
    · cases h
  case convert src dst x =>
    split at h
    · rename_i sx hx
      obtain ⟨u, h2, h1⟩ := xConv_ok hC (evX_ok ht hx) h
      exact ⟨u, h2, fun w' _ => by simp [execOp, h1]⟩
    · cases h
  case fieldAddr st x f =>
    split at h
    · rename_i sx hx
      obtain ⟨u, h2, h1⟩ := xFieldAddr_ok hC (evX_ok ht hx) h
      exact ⟨u, h2, fun w' _ => by simp [execOp, h1]⟩
    · cases h
  case field st x f =>
    split at h
    · rename_i sx hx
      obtain ⟨u, h2, h1⟩ := xField_ok hC (evX_ok ht hx) h
      exact ⟨u, h2, fun w' _ => by simp [execOp, h1]⟩
    · cases h
  case index xt x i =>
    split at h
    · rename_i sx si hx hi
      obtain ⟨u, h2, h1⟩ := xIndex_ok hC hp (evX_ok ht hx) (evX_ok ht hi) h
      exact ⟨u, h2, fun w' _ => by simp [execOp, h1]⟩
    · cases h
  case indexAddr xt x i =>
    split at h
    · rename_i sx si hx hi
      obtain ⟨u, h2, h1⟩ := xIndexAddr_ok hC hp hm (evX_ok ht hx) (evX_ok ht hi) h
      exact ⟨u, h2, fun w' _ => by simp [execOp, h1]⟩
    · cases h
  case extract x i =>
    split at h
    · rename_i vs hx
      split at h
      · rename_i s' hs
        cases h
        obtain ⟨l, hl, hv⟩ := evX_ok ht hx
        obtain ⟨v, hv', r⟩ := relL_get hl hs
        exact ⟨v, r, fun w' _ => by simp [execOp, hv, Instr.extract, hv']⟩
      · cases h
    · cases h
  case build t ps =>
    split at h
    · rename_i ps' hps
      obtain ⟨u, h2, h1⟩ := xBuild_ok hC (qs := ps.map fun p => (p.1, a.eval p.2)) (by simpa using evXP_ok ht hps) h
      exact ⟨u, h2, fun w' _ => by simp [execOp, h1]⟩
    · cases h
  case makeFunc fn first caps =>
    cases fn <;> simp only at h <;> try (cases h; done)
    split at h
    · rename_i cs hf hc
      cases h
      have := evXL_ok ht hc
      refine ⟨_, ⟨_, this, rfl⟩, fun w' _ => ?_⟩
      have hf' : first = #[] := by simpa using hf
      simp only [execOp, Instr.makeFunc, hf']
      simp [← Array.toList_inj]
    · cases h
  case call c =>
    split at h
    · rename_i x t ts hc hx hts
      obtain ⟨u, hu, r⟩ := relL_single (evXL_ok ht hx)
      have hargs : c.args.map a.eval = #[u] := by rw [← Array.toList_inj]; simpa using hu
      obtain ⟨z, h2, h1⟩ := xLen_ok hC r h c.argTypes (by rw [← Array.getElem?_toList, hts]; rfl) type
      exact ⟨z, h2, fun w' _ => by simp [execOp, resolve, hc, hargs, invoke, builtin, h1]⟩
    · rename_i x y hc hx
      obtain ⟨u, v, hu, r1, r2⟩ := relL_two (evXL_ok ht hx)
      have hargs : c.args.map a.eval = #[u, v] := by rw [← Array.toList_inj]; simpa using hu
      have key := xMax_ok (P := C.P) r1 r2 h c.argTypes type
      exact ⟨_, (key w).2, fun w' _ => by simp [execOp, resolve, hc, hargs, invoke, builtin, (key w').1]⟩
    · rename_i x y hc hx
      obtain ⟨u, v, hu, r1, r2⟩ := relL_two (evXL_ok ht hx)
      have hargs : c.args.map a.eval = #[u, v] := by rw [← Array.toList_inj]; simpa using hu
      have key := xMin_ok (P := C.P) r1 r2 h c.argTypes type
      exact ⟨_, (key w).2, fun w' _ => by simp [execOp, resolve, hc, hargs, invoke, builtin, (key w').1]⟩
    · cases h
end Go.SX
