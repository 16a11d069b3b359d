/- SX, part 8b: strings that are known; slices of slices. -/
import Derived.Test.YtpkfeinnhdnfiaaSXOp2
import Derived.Laws.BytesString
import Derived.Laws.IdiomStrings
import Derived.Laws.Strings
import Derived.Laws.Slices
namespace Go.SX
open Go

def leqB : List UInt8 → List UInt8 → Bool
  | [], [] => true
  | a :: l, b :: m => Nat.beq a.toNat b.toNat && leqB l m
  | _, _ => false
theorem leqB_eq : ∀ {l m : List UInt8}, leqB l m = true → l = m
  | [], [], _ => rfl
  | a :: l, b :: m, h => by
    simp only [leqB, Bool.and_eq_true] at h
    rw [UInt8.toNat_inj.1 (Nat.eq_of_beq_eq_true h.1), leqB_eq h.2]
  | [], _ :: _, h => by cases h
  | _ :: _, [], h => by cases h
theorem leqB_refl : ∀ l : List UInt8, leqB l l = true
  | [] => rfl
  | a :: l => by simp [leqB, leqB_refl l]
theorem leqB_iff (l m : List UInt8) : leqB l m = (l == m) := by
  cases h : leqB l m
  · cases h2 : l == m
    · rfl
    · have := eq_of_beq h2
      subst this
      rw [leqB_refl] at h; cases h
  · rw [leqB_eq h]; simp
def litN (t : T) : Option Nat := match t with | .lit (.ofNat n) => some n | _ => none
theorem litN_ok {t : T} {n : Nat} (h : litN t = some n) (ρ : Env) : t.ev ρ = n := by
  unfold litN at h; split at h
  · cases h; rfl
  · cases h
/-- a block of one row -/
def flatO (m : Mem) (id : Nat) : Bool := match m.tr.get id with
  | some (.cells _ _) => true
  | some (.buf _ _ _) => true
  | _ => false
theorem flatO_ok {ρ : Env} {β : Bet} {m : Mem} {w : World} (hm : MemO ρ β m w) {id : Nat} (h : flatO m id = true) {e : Blk} (he : β[id]? = some e) : e.stride = 0 := by
  unfold flatO at h
  split at h
  · rename_i wr cs ho
    obtain ⟨e', he', hr⟩ := hm.obj id _ ho
    rw [he] at he'; cases he'
    exact hr.2.2.1
  · rename_i el sz cs ho
    obtain ⟨e', he', hr⟩ := hm.obj id _ ho
    rw [he] at he'; cases he'
    exact hr.2.2.1
  · cases h
def u8L : List SV → Option (List UInt8)
  | [] => some []
  | .int .u8 (.lit (.ofNat k)) :: r => bif Nat.blt k 256 then (match u8L r with | some l => some (UInt8.ofNat k :: l) | none => none) else none
  | _ => none
theorem u8L_ok {ρ : Env} {β : Bet} : ∀ {l : List SV} {bs : List UInt8} {vs : List Value}, u8L l = some bs → relL ρ β l vs → bs.length = l.length ∧ ∀ j (hj : j < bs.length), vs[j]? = some (.int .u8 (bs[j].toNat : Int))
  | [], bs, vs, h, _ => by cases h; exact ⟨rfl, fun j hj => by simp at hj⟩
  | s :: r, bs, vs, h, hr => by
    obtain ⟨v, us, rfl, h1, h2⟩ := hr
    unfold u8L at h
    split at h
    · rename_i heq; cases heq
    · rename_i k r' heq
      cases heq
      cases hb : Nat.blt k 256
      · rw [hb] at h; cases h
      · rw [hb] at h
        simp only [cond_true] at h
        split at h
        · rename_i l hl
          cases h
          obtain ⟨i1, i2⟩ := u8L_ok hl h2
          refine ⟨by simp [i1], fun j hj => ?_⟩
          have hk : k < 256 := Nat.le_of_ble_eq_true hb
          cases j with
          | zero => simp only [List.getElem?_cons_zero, List.getElem_cons_zero]; rw [h1.1]; simp [T.ev]; omega
          | succ j => simp only [List.getElem?_cons_succ, List.getElem_cons_succ]; exact i2 j (by simpa using hj)
        · cases h
    · cases h
def strOpX (op : BinOp) (a b : ByteArray) : PR := match op with
  | .eql => .ok (.bool (.lit (leqB a.data.toList b.data.toList)))
  | .neq => .ok (.bool (.lit (!(leqB a.data.toList b.data.toList))))
  | _ => .stuck 62
/-- the bounds of a slice, as far as they are given -/
def bndX (tm : Tr SV) : Option Operand → Option (Option T)
  | none => some none
  | some x => (match evX tm x with | some (.int _ t) => some (some t) | _ => none)
def sliceS (id : Nat) (idx : T) (off sz : Nat) (len : T) (cap : Option T) (lo hi mx : Option T) : PR :=
  match lo, hi, mx with
  | none, some h, some m => bif T.beq h len && T.beq m len then .ok (.slice id idx off len (some len)) else .stuck 63
  | _, _, none =>
    (match litN len, (match lo with | none => some 0 | some t => litN t), (match hi with | none => litN len | some t => litN t) with
    | some n, some l, some h => bif Nat.ble l h && Nat.ble h n then
        (bif Nat.beq l 0 then .ok (.slice id idx off (.lit (.ofNat h)) cap)
        else bif Nat.blt l h then .ok (.slice id idx (off + l * sz) (.lit (.ofNat (h - l))) (match cap with | some (.lit (.ofNat k)) => some (.lit (.ofNat (k - l))) | _ => none))
        else .stuck 63) else .stuck 63
    | _, _, _ => .stuck 63)
  | _, _, _ => .stuck 63
def litZ' (t : T) : Bool := match t with | .lit (.ofNat 0) => true | _ => false
def zOr (t : Option T) : Bool := match t with | none => true | some t => litZ' t
/-- bounds that are 0 -/
def nil3 (l h m : Option T) : Bool := zOr l && zOr h && zOr m && (match m, h with | some _, none => false | _, _ => true)
def opS (C : Cfg) (pc : PC) (m : Mem) (tm : Tr SV) (op : Op) : PR := match op with
  | .convert src dst x => (match C.ti src, C.ti dst, evX tm x with
    | some ⟨.slice e, _, _⟩, some ⟨.string, _, _⟩, some s => (match C.ti e with
      | some ⟨.int .u8, _, _⟩ => (match s with
        | .nils => .ok (.raw (.string .empty))
        | .slice id idx off len _ => (match litN len with
          | some n => (match m.read pc id idx off n with
            | some l => (match u8L l with | some bs => bif flatO m id then .ok (.raw (.string ⟨bs.toArray⟩)) else .stuck 61 | none => .stuck 61)
            | none => .stuck 61)
          | none => .stuck 61)
        | _ => .stuck 61)
      | _ => .stuck 61)
    | _, _, _ => .stuck 61)
  | .binOp op _ x y _ => (match evX tm x, evX tm y with
    | some (.raw (.string a)), some (.raw (.string b)) => strOpX op a b
    | _, _ => .stuck 62)
  | .slice t x lo hi mx => (match C.ti t, evX tm x, bndX tm lo, bndX tm hi, bndX tm mx with
    | some ⟨.slice el, _, _⟩, some (.slice id idx off len cap), some l, some h, some m => (match C.ti el with
      | some i => sliceS id idx off i.size len cap l h m
      | none => .stuck 63)
    | some ⟨.slice el, _, _⟩, some .nils, some l, some h, some m => (match C.ti el with
      | some _ => bif nil3 l h m then .ok .nils else .stuck 63
      | none => .stuck 63)
    | _, _, _, _, _ => .stuck 63)
  | _ => .stuck 25
theorem litZ'_ok {t : T} (h : litZ' t = true) (ρ : Env) : t.ev ρ = 0 := by
  unfold litZ' at h; split at h
  · rfl
  · cases h
theorem bounds_run {P : Program} (w : World) (len cap : Nat) (lo hi mx : Option Value) (L H M : Nat) (hlo : (lo = none ∧ L = 0) ∨ ∃ k, lo = some (.int k L)) (hhi : (hi = none ∧ mx = none ∧ H = len) ∨ ∃ k, hi = some (.int k H))
    (hmx : (mx = none ∧ M = cap) ∨ ∃ k, mx = some (.int k M)) (h1 : L ≤ H) (h2 : H ≤ M) (h3 : M ≤ cap) : (Instr.sliceBounds true len cap lo hi mx).run P w = .ok (L, H, M) w := by
  have b1 : ∀ k (i y : Nat) code, i ≤ y → (Instr.sliceBound (.int k i) y code).run P w = .ok i w := fun k i y code h => by
    rw [run_sliceBound w k i y code (by omega) (by omega)]; simp
  rcases hmx with ⟨rfl, rfl⟩ | ⟨km, rfl⟩
  · rcases hhi with ⟨rfl, _, rfl⟩ | ⟨kh, rfl⟩
    · rcases hlo with ⟨rfl, rfl⟩ | ⟨kl, rfl⟩
      · simp [Instr.sliceBounds]
      · simp [Instr.sliceBounds, b1 kl L H _ h1]
    · rcases hlo with ⟨rfl, rfl⟩ | ⟨kl, rfl⟩
      · simp [Instr.sliceBounds, b1 kh H M _ h2]
      · simp [Instr.sliceBounds, b1 kh H M _ h2, b1 kl L H _ h1]
  · rcases hhi with ⟨rfl, h, rfl⟩ | ⟨kh, rfl⟩
    · cases h
    · rcases hlo with ⟨rfl, rfl⟩ | ⟨kl, rfl⟩
      · simp [Instr.sliceBounds, b1 km M cap _ h3, b1 kh H M _ h2]
      · simp [Instr.sliceBounds, b1 km M cap _ h3, b1 kh H M _ h2, b1 kl L H _ h1]
theorem slice_run {P : Program} (w : World) (t el : TypeId) (i : TypeInfo) (ht : P.underlying t = some (.slice el)) (hi : P.info? el = some i) (a : Option Addr) (len cap : Nat) (lo hi' mx : Option Value) (L H M : Nat)
    (hb : (Instr.sliceBounds true len cap lo hi' mx).run P w = .ok (L, H, M) w) :
    (Instr.sliceAt t (.slice a len cap) lo hi' mx).run P w = .ok (.slice (if M = L then a else a.map (·.add (L * i.size))) (H - L) (M - L)) w := by
  have e : P.elem t = el := by simp [Program.elem, ht]
  rw [run_sliceAt_slice w t _ lo hi' mx (by rw [e]; exact ht), run_slice_any w t a len cap (by rw [e]; exact ht), hb, e]
  simp [run_sizeOf' hi, sliced]
theorem bndX_ok {ρ : Env} {β : Bet} {tm : Tr SV} {a : Act} (ht : TmRel ρ β tm a) {o : Option Operand} {t : Option T} (h : bndX tm o = some t) :
    (o.map a.eval = none ∧ t = none) ∨ ∃ k u, t = some u ∧ o.map a.eval = some (.int k (u.ev ρ)) := by
  cases o with
  | none => cases h; exact .inl ⟨rfl, rfl⟩
  | some x =>
    simp only [bndX] at h
    split at h
    · rename_i k u hx
      cases h
      have := evX_ok ht hx
      exact .inr ⟨k, u, rfl, by simp [this.1]⟩
    · cases h
theorem sliceS_ok {C : Cfg} {ρ : Env} {β : Bet} {t el : TypeId} {i : TypeInfo} (ht : C.P.underlying t = some (.slice el)) (hi : C.P.info? el = some i) {id : Nat} {idx : T} {off : Nat} {len : T} {cap lo hi' mx : Option T} {v : Value} {s : SV}
    {vl vh vm : Option Value} (hv : (SV.slice id idx off len cap).rel ρ β v) (hl : (vl = none ∧ lo = none) ∨ ∃ k u, lo = some u ∧ vl = some (.int k (u.ev ρ))) (hh : (vh = none ∧ hi' = none) ∨ ∃ k u, hi' = some u ∧ vh = some (.int k (u.ev ρ)))
    (hmx : (vm = none ∧ mx = none) ∨ ∃ k u, mx = some u ∧ vm = some (.int k (u.ev ρ))) (h : sliceS id idx off i.size len cap lo hi' mx = .ok s) : ∃ u, s.rel ρ β u ∧ ∀ w : World, (Instr.sliceAt t v vl vh vm).run C.P w = .ok u w := by
  obtain ⟨e, l, c, he, h0, hlen, hlc, hck, hcap, rfl⟩ := hv
  unfold sliceS at h
  split at h
  · rename_i uh um
    obtain ⟨h1, h2⟩ : T.beq uh len = true ∧ T.beq um len = true := by
      cases hc : T.beq uh len && T.beq um len
      · rw [hc] at h; cases h
      · simpa using hc
    rw [h1, h2] at h
    cases h
    have e1 := T.beq_eq h1
    have e2 := T.beq_eq h2
    subst e1; subst e2
    rcases hl with ⟨rfl, _⟩ | ⟨_, _, h, _⟩
    · rcases hh with ⟨_, h⟩ | ⟨kh, _, h, rfl⟩
      · cases h
      · cases h
        rcases hmx with ⟨_, h⟩ | ⟨km, _, h, rfl⟩
        · cases h
        · cases h
          refine ⟨_, ⟨e, l, l, he, h0, hlen, Nat.le_refl _, by omega, fun t ht => by cases ht; exact .inl hlen, rfl⟩, fun w => ?_⟩
          have := slice_run w t el i ht hi (some ⟨e.blk, e.base + (idx.ev ρ).toNat * e.stride + off, none⟩) l c none (some (.int kh l)) (some (.int km l)) 0 l l (bounds_run w l c _ _ _ 0 l l (.inl ⟨rfl, rfl⟩) (.inr ⟨kh, rfl⟩) (.inr ⟨km, rfl⟩) (by omega) (Nat.le_refl _) hlc)
          rw [hlen, this]
          simp only [Nat.zero_mul, Nat.sub_zero, Option.map_some, add_off, Nat.add_zero, ite_self]
    · cases h
  · split at h
    · rename_i n L H hn hL hH
      obtain ⟨h1, h2⟩ : L ≤ H ∧ H ≤ n := by
        cases hc : Nat.ble L H && Nat.ble H n
        · rw [hc] at h; cases h
        · rw [Bool.and_eq_true] at hc
          exact ⟨Nat.le_of_ble_eq_true hc.1, Nat.le_of_ble_eq_true hc.2⟩
      have hc : (Nat.ble L H && Nat.ble H n) = true := by rw [Bool.and_eq_true]; exact ⟨Nat.ble_eq_true_of_le h1, Nat.ble_eq_true_of_le h2⟩
      rw [hc] at h
      simp only [cond_true] at h
      have hnl : n = l := by have := litN_ok hn ρ; omega
      subst hnl
      have hmv : vm = none := by
        rcases hmx with ⟨h, _⟩ | ⟨_, _, h, _⟩
        · exact h
        · cases h
      have hlv : (vl = none ∧ L = 0) ∨ ∃ k, vl = some (.int k L) := by
        rcases hl with ⟨rfl, rfl⟩ | ⟨k, u, rfl, rfl⟩
        · simp at hL; exact .inl ⟨rfl, hL.symm⟩
        · exact .inr ⟨k, by rw [litN_ok hL ρ]⟩
      have hhv : (vh = none ∧ vm = none ∧ H = n) ∨ ∃ k, vh = some (.int k H) := by
        rcases hh with ⟨rfl, rfl⟩ | ⟨k, u, rfl, rfl⟩
        · simp only [hn, Option.some.injEq] at hH; exact .inl ⟨rfl, hmv, hH.symm⟩
        · exact .inr ⟨k, by rw [litN_ok hH ρ]⟩
      have hrun := fun w : World => slice_run w t el i ht hi (some ⟨e.blk, e.base + (idx.ev ρ).toNat * e.stride + off, none⟩) n c vl vh vm L H c (bounds_run w n c _ _ _ L H c hlv hhv (.inl ⟨hmv, rfl⟩) h1 (by omega) (Nat.le_refl _))
      cases hL0 : Nat.beq L 0
      · rw [hL0] at h
        simp only [cond_false] at h
        cases hlt : Nat.blt L H
        · rw [hlt] at h; cases h
        · rw [hlt] at h
          cases h
          have hlt : L < H := Nat.le_of_ble_eq_true hlt
          refine ⟨_, ⟨e, H - L, c - L, he, h0, rfl, by omega, by omega, fun t ht => ?_, rfl⟩, fun w => ?_⟩
          · split at ht
            · rename_i k
              cases ht
              rcases hcap _ rfl with h | ⟨h, _⟩
              · have : (k : Int) = c := h
                left; simp [T.ev]; omega
              · exact absurd h (by simp only [T.ev, Int.ofNat_eq_natCast]; omega)
            · cases ht
          · rw [hrun w, if_neg (by omega)]
            simp only [Option.map_some, add_off, Nat.add_assoc]
      · have hL0 := Nat.eq_of_beq_eq_true hL0
        subst hL0
        simp only [Nat.beq_refl, cond_true, PR.ok.injEq] at h
        subst h
        refine ⟨_, ⟨e, H, c, he, h0, rfl, by omega, hck, hcap, rfl⟩, fun w => ?_⟩
        rw [hrun w]
        simp only [Nat.zero_mul, Nat.sub_zero, Option.map_some, add_off, Nat.add_zero, ite_self]
    · cases h
  · cases h
theorem opS_ok {C : Cfg} (hC : C.Types) {ρ : Env} {β : Bet} {pc : PC} {m : Mem} {w : World} {tm : Tr SV} {a : Act} (hp : PcH ρ pc) (hm : MemO ρ β m w) (ht : TmRel ρ β tm a) {o : Oper} {s : SV}
    (h : opS C pc m tm o.op = .ok s) : ∃ v, s.rel ρ β v ∧ ∀ w', Same β m w w' → (execOp a.eval o).run C.P w' = .ok (.value v) w' := by
  obtain ⟨dst, op, type, pos, after, guard⟩ := o
  simp only at h
  cases op <;> simp only [opS] at h <;> try (cases h; done)
  case convert src dst x =>
    split at h
    · rename_i e sz z sz' z' sx h1 h2 hx
      obtain ⟨_, _, _, _, hu1⟩ := hC.ti src _ h1
      obtain ⟨_, _, _, _, hu2⟩ := hC.ti dst _ h2
      have r := evX_ok ht hx
      split at h
      · rename_i sz2 z2 h3
        obtain ⟨_, _, _, _, hu3⟩ := hC.ti e _ h3
        split at h
        · cases h
          refine ⟨.string .empty, ⟨rfl, rfl⟩, fun w' _ => ?_⟩
          have r' : a.eval x = .slice none 0 0 := r
          simp [execOp, r', run_convert_bytes_string w' src dst e none 0 0 hu1 hu3 hu2, Conv.bytesToString]
        · rename_i id idx off len cap
          split at h
          · rename_i n hn
            split at h
            · rename_i l hl
              split at h
              · rename_i bs hbs
                cases hfl : flatO m id
                · rw [hfl] at h; cases h
                rw [hfl] at h
                cases h
                obtain ⟨e', l', c, he, h0, hlen, hlc, hck, hcap, hv⟩ := r
                have hnl : n = l' := by have := litN_ok hn ρ; omega
                subst hnl
                have hst := flatO_ok hm hfl he
                obtain ⟨vs, hr, hvl, hcell, _⟩ := Mem.read_ok C.P hp hm he h0 (fun h => absurd hst h) hl
                obtain ⟨b1, b2⟩ := u8L_ok hbs hr
                have hbl : bs.length = n := by rw [b1, ← relL_length hr, hvl]
                refine ⟨.string ⟨bs.toArray⟩, ⟨rfl, rfl⟩, fun w' hw => ?_⟩
                have := run_convert_bytes_back (P := C.P) w' src dst e ⟨e'.blk, e'.base + (idx.ev ρ).toNat * e'.stride + off, none⟩ c bs hu1 hu3 hu2 (fun j hj => by rw [add_off]; exact hcell w' hw j _ (b2 j hj))
                rw [hbl] at this
                simp only [execOp, hv, Sem.run_bind, this, Result.andThen_ok]
                rfl
              · cases h
            · cases h
          · cases h
        · cases h
      · cases h
    · cases h
  case binOp op xt x y yt =>
    split at h
    · rename_i sa sb hx hy
      have r1 := (evX_ok ht hx).1
      have r2 := (evX_ok ht hy).1
      have hg : ∀ w' : World, (eqGuard op xt x y (.string sa) (.string sb)).run C.P w' = .ok () w' := fun w' => guard_plain op xt x y _ _ w' (by simp) (by simp)
      cases op <;> simp only [strOpX] at h <;> try (cases h; done)
      · cases h
        refine ⟨_, rfl, fun w' _ => ?_⟩
        simp only [execOp, r1, r2, Sem.run_bind, hg, Result.andThen_ok]
        simp [binOp, Op.stringOp, ByteArray.toList_eq, leqB_iff, B.ev]
      · cases h
        refine ⟨_, rfl, fun w' _ => ?_⟩
        simp only [execOp, r1, r2, Sem.run_bind, hg, Result.andThen_ok]
        simp [binOp, Op.stringOp, ByteArray.toList_eq, leqB_iff, B.ev]
    · cases h
  case slice t x lo hi mx =>
    split at h
    · rename_i el sz z id idx off len cap l hh mm h1 hx hlo hhi hmx
      obtain ⟨_, _, _, _, hu⟩ := hC.ti t _ h1
      split at h
      · rename_i i hi'
        obtain ⟨j, hj, hsz, _, _⟩ := hC.ti el _ hi'
        rw [← hsz] at h
        obtain ⟨u, r, hrun⟩ := sliceS_ok (C := C) hu hj (evX_ok ht hx) (bndX_ok ht hlo) (bndX_ok ht hhi) (bndX_ok ht hmx) h
        exact ⟨u, r, fun w' _ => by simp [execOp, hrun w']⟩
      · cases h
    · rename_i el sz z l hh mm h1 hx hlo hhi hmx
      obtain ⟨_, _, _, _, hu⟩ := hC.ti t _ h1
      have r' : a.eval x = .slice none 0 0 := evX_ok ht hx
      split at h
      · rename_i i hi'
        obtain ⟨j, hj, hsz, _, _⟩ := hC.ti el _ hi'
        have b1 := bndX_ok ht hlo
        have b2 := bndX_ok ht hhi
        have b3 := bndX_ok ht hmx
        have one : ∀ (o : Option Value) (t : Option T), ((o = none ∧ t = none) ∨ ∃ k u, t = some u ∧ o = some (.int k (u.ev ρ))) → zOr t = true → (o = none ∧ t = none) ∨ ∃ k, o = some (.int k (0 : Nat)) := by
          intro o t h hz
          rcases h with h | ⟨k, u, rfl, rfl⟩
          · exact .inl h
          · exact .inr ⟨k, by rw [litZ'_ok (show litZ' u = true from hz) ρ]; rfl⟩
        cases hc : nil3 l hh mm
        · rw [hc] at h; cases h
        rw [hc] at h
        cases h
        simp only [nil3, Bool.and_eq_true] at hc
        obtain ⟨⟨⟨c1, c2⟩, c3⟩, c4⟩ := hc
        refine ⟨.slice none 0 0, rfl, fun w' _ => ?_⟩
        have hl' : (lo.map a.eval = none ∧ (0 : Nat) = 0) ∨ ∃ k, lo.map a.eval = some (.int k (0 : Nat)) := (one _ _ b1 c1).imp (fun h => ⟨h.1, rfl⟩) id
        have hm' : (mx.map a.eval = none ∧ (0 : Nat) = 0) ∨ ∃ k, mx.map a.eval = some (.int k (0 : Nat)) := (one _ _ b3 c3).imp (fun h => ⟨h.1, rfl⟩) id
        have hh' : (hi.map a.eval = none ∧ mx.map a.eval = none ∧ (0 : Nat) = 0) ∨ ∃ k, hi.map a.eval = some (.int k (0 : Nat)) := by
          rcases one _ _ b2 c2 with ⟨h1, h2⟩ | h
          · rcases one _ _ b3 c3 with ⟨h3, _⟩ | ⟨k, hk⟩
            · exact .inl ⟨h1, h3, rfl⟩
            · rcases b3 with ⟨h4, _⟩ | ⟨_, u, h4, _⟩
              · rw [h4] at hk; cases hk
              · rw [h4, h2] at c4; cases c4
          · exact .inr h
        have := slice_run w' t el j hu hj none 0 0 (lo.map a.eval) (hi.map a.eval) (mx.map a.eval) 0 0 0 (bounds_run w' 0 0 _ _ _ 0 0 0 hl' hh' hm' (Nat.le_refl _) (Nat.le_refl _) (Nat.le_refl _))
        simp [execOp, r', this]
      · cases h
    · cases h
/-- what an operation that changes no memory yields, strings and slices too -/
def opP (C : Cfg) (pc : PC) (m : Mem) (tm : Tr SV) (op : Op) : PR := match opP0 C pc m tm op with
  | .stuck k => (match opS C pc m tm op with | .stuck _ => .stuck k | r => r)
  | r => r
theorem opP_ok {C : Cfg} (hC : C.Types) {ρ : Env} {β : Bet} {pc : PC} {m : Mem} {w : World} {tm : Tr SV} {a : Act} (hp : PcH ρ pc) (hm : MemO ρ β m w) (ht : TmRel ρ β tm a) {o : Oper} {s : SV}
    (h : opP C pc m tm o.op = .ok s) : ∃ v, s.rel ρ β v ∧ ∀ w', Same β m w w' → (execOp a.eval o).run C.P w' = .ok (.value v) w' := by
  unfold opP at h
  split at h
  · split at h
    · cases h
    · exact opS_ok hC hp hm ht h
  · exact opP0_ok hC hp hm ht h
end Go.SX
