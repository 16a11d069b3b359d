/- SX, part 9: operations that make or write memory. -/
import Derived.Test.YtpkfeinnhdnfiaaSXStr
namespace Go.SX
open Go

inductive MR where
  | val (v : SV) (m : Mem)
  | skip (m : Mem)
  | no
def repL : Nat → List SV → List SV
  | 0, _ => []
  | n + 1, l => l ++ repL n l
theorem repL_length (l : List SV) : ∀ n, (repL n l).length = n * l.length
  | 0 => by simp [repL]
  | n + 1 => by simp [repL, repL_length l n, Nat.succ_mul, Nat.add_comm]
theorem repL_get (l : List SV) : ∀ n i, i < n * l.length → (repL n l)[i]? = l[i % l.length]?
  | 0, i, h => by simp at h
  | n + 1, i, h => by
    simp only [repL, List.getElem?_append]
    by_cases c : i < l.length
    · rw [if_pos c, Nat.mod_eq_of_lt c]
    · rw [if_neg c, repL_get l n (i - l.length) (by rw [Nat.succ_mul] at h; omega)]
      congr 1
      rw [Nat.mod_eq_sub_mod (Nat.le_of_not_lt c)]
def opM (C : Cfg) (lk : List Nat) (m : Mem) (tm : Tr SV) (op : Op) : MR := match op with
  | .alloc el => (match C.ti el with
    | some ⟨_, _, some z⟩ => (match liftCL z.cells.toList with | some cs => .val (.ptr m.nx (.lit (.ofNat 0)) 0) (m.push (.cells true cs)) | none => .no)
    | _ => .no)
  | .box _ x => (match evX tm x with | some s => .val (.ptr m.nx (.lit (.ofNat 0)) 0) (m.push (.cells true (cellsX s))) | none => .no)
  | .buildSlice t len ps => (match C.ti t with
    | some ⟨.slice el, _, _⟩ => (match C.ti el, evXP tm ps.toList with
      | some ⟨_, sz, some z⟩, some ps => (match liftCL z.cells.toList with
        | some zs => bif Nat.beq zs.length sz && Nat.ble (len * sz) 16777216 && !(Nat.beq sz 0) then
            (match fillX (fun i => some (i * sz, sz)) (repL len zs) ps with
            | some cs => .val (.slice m.nx (.lit (.ofNat 0)) 0 (.lit (.ofNat len)) (some (.lit (.ofNat len)))) (m.push (.cells true cs))
            | none => .no) else .no
        | none => .no)
      | _, _ => .no)
    | _ => .no)
  | .store t p x => (match C.ti t, evX tm p, evX tm x with
    | some i, some (.ptr id idx off), some s => bif Nat.beq (cellsX s).length i.size then (match m.store lk id idx off (cellsX s) with | some m' => .skip m' | none => .no) else .no
    | _, _, _ => .no)
  | _ => .no
/-- what is shown of such an operation -/
def MPost (C : Cfg) (ρ : Env) (β : Bet) (lk : List Nat) (w : World) (s : Sem Next) (val : Option SV) (m' : Mem) : Prop :=
  ∃ w' β', Stp β lk w β' w' ∧ MemRel ρ β' m' w' ∧ match val with
    | some sv => ∃ v, s.run C.P w = .ok (.value v) w' ∧ sv.rel ρ β' v
    | none => s.run C.P w = .ok .skip w'
theorem alloc_ok {ρ : Env} {β : Bet} (lk : List Nat) {m : Mem} {w : World} (hm : MemRel ρ β m w) {cs : List SV} {arr : Array Value} (el : TypeId) (hc : relL ρ β cs arr.toList) :
    ∃ β', Stp β lk w β' (w.alloc (.cells arr el)) ∧ MemRel ρ β' (m.push (.cells true cs)) (w.alloc (.cells arr el)) ∧ (SV.ptr m.nx (.lit (.ofNat 0)) 0).rel ρ β' (.pointer (some ⟨w.heap.size, 0, none⟩)) ∧ β'[m.nx]? = some ⟨w.heap.size, 0, 0, 0, false⟩ := by
  have hget : (β ++ [⟨w.heap.size, 0, 0, 0, false⟩])[m.nx]? = some ⟨w.heap.size, 0, 0, 0, false⟩ := by rw [hm.nx]; simp
  refine ⟨_, Stp.alloc lk hm.lt (.cells arr el) ⟨w.heap.size, 0, 0, 0, false⟩ rfl, MemRel.alloc hm el hc, ⟨_, hget, by simp [T.ev], fun h => absurd rfl h, by simp⟩, hget⟩
theorem run_bs {P : Program} (w : World) (t e : TypeId) (len : Nat) (parts : Array (Nat × Value)) (cells : Array Value) (ie : TypeInfo) (z : Value)
    (hu : P.underlying t = some (.slice e)) (hie : P.info? e = some ie) (hz : ie.zero = some z) (hsmall : len * ie.size ≤ 16777216)
    (h : Instr.fill (fun i => some (i * ie.size, ie.size)) ((Array.range (len * ie.size)).map (z.cells[· % z.cells.size]!)) parts.toList = some cells) :
    (Instr.buildSlice t len parts).run P w = .ok (.slice (some ⟨w.heap.size, 0, none⟩) len len) (w.alloc (.cells cells e)) := by
  have hs : ¬ len * ie.size > 2 ^ 24 := by omega
  by_cases h0 : len * ie.size = 0
  · rw [h0] at h
    have h1 : ∀ f : Nat → Value, (Array.range 0).map f = #[] := fun f => by simp
    rw [h1] at h
    simp only [Instr.buildSlice, Sem.run_bind, run_underlying hu, Result.andThen_ok, run_sizeOf' hie]
    rw [Sem.run_ite, if_neg hs]
    simp only [h0, if_true, Sem.run_pure, Result.andThen_ok, h1, h, newRow, Sem.run_bind, run_newObj]
    rfl
  · simp [Instr.buildSlice, run_underlying hu, sizeOf, typeInfo, zeroValue, hie, hz, hs, h0, h, newRow]
theorem opM_ok {C : Cfg} (hC : C.Types) {ρ : Env} {β : Bet} {lk : List Nat} {m : Mem} {w : World} {tm : Tr SV} {a : Act} (hm : MemRel ρ β m w) (ht : TmRel ρ β tm a) (o : Oper) :
    (∀ s m', opM C lk m tm o.op = .val s m' → MPost C ρ β lk w (execOp a.eval o) (some s) m') ∧ (∀ m', opM C lk m tm o.op = .skip m' → MPost C ρ β lk w (execOp a.eval o) none m') := by
  obtain ⟨dst, op, type, pos, after, guard⟩ := o
  cases op <;> simp only [opM] <;> try (exact ⟨(fun _ _ h => by cases h), (fun _ h => by cases h)⟩)
  case alloc el =>
    refine ⟨fun s m' h => ?_, fun m' h => ?_⟩
    · split at h
      · rename_i und sz z hi
        obtain ⟨j, hj, _, hz, _⟩ := hC.ti el _ hi
        split at h
        · rename_i cs hcs
          cases h
          obtain ⟨β', h1, h2, h3, _⟩ := alloc_ok lk hm el (arr := z.cells) (liftCL_ok hcs)
          exact ⟨_, β', h1, h2, _, by simp [execOp, Instr.alloc, zeroValue, typeInfo, hj, hz, newVar, newRow], h3⟩
        · cases h
      · cases h
    · split at h
      · split at h <;> cases h
      · cases h
  case box el x =>
    refine ⟨fun s m' h => ?_, fun m' h => ?_⟩
    · split at h
      · rename_i s' hs
        cases h
        obtain ⟨β', h1, h2, h3, _⟩ := alloc_ok lk hm el (arr := (a.eval x).cells) (cellsX_ok (evX_ok ht hs))
        exact ⟨_, β', h1, h2, _, by simp [execOp, Instr.box, newVar, newRow], h3⟩
      · cases h
    · split at h <;> cases h
  case buildSlice t len ps =>
    refine ⟨fun s m' h => ?_, fun m' h => ?_⟩
    · split at h
      · rename_i el sz0 z0 hi
        obtain ⟨_, _, _, _, hu⟩ := hC.ti t _ hi
        split at h
        · rename_i und sz z ps' hel hps
          obtain ⟨j, hj, hsz, hz, _⟩ := hC.ti el _ hel
          split at h
          · rename_i zs hzs
            cases hc : Nat.beq zs.length sz && Nat.ble (len * sz) 16777216 && !(Nat.beq sz 0)
            · rw [hc] at h; cases h
            · rw [hc] at h
              simp only [cond_true] at h
              simp only [Bool.and_eq_true, Bool.not_eq_true'] at hc
              obtain ⟨⟨c1, c2⟩, c3⟩ := hc
              have c1 := Nat.eq_of_beq_eq_true c1
              have c2 := Nat.le_of_ble_eq_true c2
              have c3 : sz ≠ 0 := fun e => by rw [e] at c3; simp at c3
              split at h
              · rename_i cs hf
                cases h
                have hzr : relL ρ β zs z.cells.toList := liftCL_ok hzs
                have hzl := relL_length hzr
                have hbase : relL ρ β (repL len zs) ((Array.range (len * sz)).map (z.cells[· % z.cells.size]!)).toList := by
                  refine relL_of_get (by simp [repL_length, c1]) fun k s hk => ?_
                  have hk' : k < len * zs.length := by have := (List.getElem?_eq_some_iff.1 hk).1; rwa [repL_length] at this
                  rw [repL_get zs len k hk'] at hk
                  obtain ⟨v, hv, r⟩ := relL_get hzr hk
                  refine ⟨v, ?_, r⟩
                  have hzs' : z.cells.size = zs.length := by simpa using hzl
                  have hlt : k % zs.length < z.cells.size := by rw [hzs']; exact Nat.mod_lt _ (by omega)
                  rw [c1] at hk'
                  rw [Array.getElem?_toList] at hv
                  simp only [Array.toList_map, Array.toList_range, List.getElem?_map, List.getElem?_range hk', Option.map_some, Option.some.injEq, hzs']
                  rw [getElem!_pos z.cells _ hlt]
                  rw [Array.getElem?_eq_getElem hlt] at hv
                  simpa using hv
                obtain ⟨arr, e1, e2⟩ := fillX_ok (evXP_ok ht hps) hbase hf
                obtain ⟨β', h1, h2, h3, hb⟩ := alloc_ok lk hm el (arr := arr) e2
                refine ⟨_, β', h1, h2, .slice (some ⟨w.heap.size, 0, none⟩) len len, ?_, ⟨_, len, len, hb, by simp [T.ev], rfl, Nat.le_refl _, by
                  have : len * 1 ≤ len * sz := Nat.mul_le_mul_left _ (by omega)
                  omega, fun t ht => by cases ht; exact .inl rfl, by simp⟩⟩
                have hpz : (ps.map fun x => (x.1, a.eval x.2)).toList = ps.toList.map fun p => (p.1, a.eval p.2) := by simp
                have hrun := run_bs w t el len (ps.map fun x => (x.1, a.eval x.2)) arr j z hu hj hz (by rw [hsz]; simp only; omega) (by rw [hsz, hpz]; exact e1)
                simp only [execOp, Sem.run_bind, hrun, Result.andThen_ok]
                rfl
              · cases h
          · cases h
        · cases h
      · cases h
    · split at h
      · split at h
        · split at h
          · rename_i zs hzs
            generalize (Nat.beq zs.length _ && _ && _) = c at h
            cases c
            · cases h
            · simp only [cond_true] at h; split at h <;> cases h
          · cases h
        · cases h
      · cases h
  case store t p x =>
    refine ⟨fun s m' h => ?_, fun m' h => ?_⟩
    · split at h
      · rename_i i id idx off s' hi hp hx
        generalize Nat.beq _ _ = c at h
        cases c
        · cases h
        · simp only [cond_true] at h; split at h <;> cases h
      · cases h
    · split at h
      · rename_i i id idx off s' hi hp hx
        obtain ⟨j, hj, hsz, _, _⟩ := hC.ti t _ hi
        cases hb : Nat.beq (cellsX s').length i.size
        · rw [hb] at h; cases h
        · rw [hb] at h
          simp only [cond_true] at h
          split at h
          · rename_i m1 hst
            cases h
            have hb := Nat.eq_of_beq_eq_true hb
            obtain ⟨e, he, h0, hlt, hv⟩ := evX_ok ht hp
            have hc := cellsX_ok (evX_ok ht hx)
            obtain ⟨w', h1, h2, h3⟩ := Mem.store_ok C.P hm he h0 hlt hc hst
            refine ⟨w', β, h3, h2, ?_⟩
            have hcs : (a.eval x).cells.size = j.size := by have := relL_length hc; rw [hsz, ← hb, ← this]; simp
            simp [execOp, Instr.storeAt, Instr.sureAddr, hv, storeVar, run_sizeOf' hj, hcs, h1]
          · cases h
      · cases h
end Go.SX
