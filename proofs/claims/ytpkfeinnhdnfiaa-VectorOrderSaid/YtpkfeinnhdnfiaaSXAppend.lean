/- SX, part 9e: append: of nothing; of the whole of a slice of unknown length to an empty one. -/
import Derived.Test.YtpkfeinnhdnfiaaSXJoin
import Derived.Laws.AppendOwn
namespace Go.SX
open Go

/-- a new block, of whatever form -/
theorem MemRel.allocO {ρ : Env} {β : Bet} {m : Mem} {w w' : World} (h : MemRel ρ β m w) {o : SObj} {e : Blk} (he : e.blk = w.heap.size) (hsz : w'.heap.size = w.heap.size + 1) (hold : ∀ k, k < w.heap.size → w'.heap[k]? = w.heap[k]?)
    (ho : objRel ρ (β ++ [e]) e w' o) : MemRel ρ (β ++ [e]) (m.push o) w' := by
  refine ⟨by simp [Mem.push, h.nx], fun id o' ho' => ?_, fun x hx => ?_, fun i j x y hi hj hne hb => ?_, fun id hid => ?_⟩
  · simp only [Mem.push, Tr.get_put] at ho'
    by_cases hid : id = m.nx
    · rw [if_pos hid] at ho'; cases ho'
      exact ⟨e, by rw [hid, h.nx]; simp, ho⟩
    · rw [if_neg hid] at ho'
      obtain ⟨x, hx, r⟩ := h.obj id o' ho'
      have hlt := (List.getElem?_eq_some_iff.1 hx).1
      exact ⟨x, by rw [List.getElem?_append_left hlt]; exact hx, objRel_mono _ (objRel_heap r (hold _ (h.lt x (List.mem_of_getElem? hx))))⟩
  · rcases List.mem_append.1 hx with h1 | h1
    · have := h.lt x h1; omega
    · simp at h1; subst h1; omega
  · by_cases hi' : i < β.length
    · rw [List.getElem?_append_left hi'] at hi
      by_cases hj' : j < β.length
      · rw [List.getElem?_append_left hj'] at hj
        exact h.apart i j x y hi hj hne hb
      · have hy : y = e := by
          have := List.mem_of_getElem? (l := [_]) (by rw [List.getElem?_append_right (by omega)] at hj; exact hj); simpa using this
        have := h.lt x (List.mem_of_getElem? hi)
        rw [hy] at hb; omega
    · by_cases hj' : j < β.length
      · rw [List.getElem?_append_left hj'] at hj
        have hy : x = e := by
          have := List.mem_of_getElem? (l := [_]) (by rw [List.getElem?_append_right (by omega)] at hi; exact hi); simpa using this
        have := h.lt y (List.mem_of_getElem? hj)
        rw [hy] at hb; omega
      · have h1 := (List.getElem?_eq_some_iff.1 hi).1
        have h2 := (List.getElem?_eq_some_iff.1 hj).1
        simp at h1 h2; omega
  · simp only [Mem.push] at hid ⊢
    rw [Tr.get_put, if_neg (by omega)]
    exact h.dom id (by omega)
inductive AR where
  | val (v : SV) (m : Mem)
  | split (b : B)
  | no
def litZ (t : T) : Bool := match t with | .lit (.ofNat 0) => true | _ => false
theorem litZ_ok {t : T} (h : litZ t = true) (ρ : Env) : t.ev ρ = 0 := isZero_ok (by unfold litZ at h; unfold isZero; exact h) ρ
def emptyS : SV → Bool
  | .nils => true
  | .slice _ _ _ l (some c) => litZ l && litZ c
  | _ => false
def hiLe (b : Bd) (n : Nat) : Bool := match b.2 with | some h => !(ilt (.ofNat n) h) | none => false
def opA (C : Cfg) (pc : PC) (m : Mem) (tm : Tr SV) (op : Op) : AR := match op with
  | .call c => (match c.callee, evXL tm c.args.toList, c.argTypes.toList with
    | .builtin .append, some [s, x], [t, u] => bif !(Nat.beq t u) then .no else
      (match C.ti t with
      | some ⟨.slice el, _, _⟩ => (match C.ti el, C.byt el, x with
        | some _, some _, .nils => (match s with
          | .nils => .val .nils m
          | .slice i a o l c => .val (.slice i a o l c) m
          | _ => .no)
        | some i, some by_, .slice id idx off len _ => (match simpB pc (mkEqI len (.lit 0)) with
          | .lit true => (match s with
            | .nils => .val .nils m
            | .slice i a o l c => .val (.slice i a o l c) m
            | _ => .no)
          | .lit false => (match m.tr.get id, i.zero with
            | some (.arr A), some _ => bif emptyS s && isZero idx && Nat.beq off 0 && Nat.beq i.size A.stride && T.beq len A.len && hiLe (rng pc len) (281474976710656 / (by_ + 1)) then
                .val (.slice m.nx (.lit (.ofNat 0)) 0 len none) (m.push (.arr { A with wr := true })) else .no
            | _, _ => .no)
          | b => .split b)
        | _, _, _ => .no)
      | _ => .no)
    | _, _, _ => .no)
  | _ => .no
theorem run_append_zero {P : Program} (w : World) (t ty e : TypeId) (i : TypeInfo) (ht : P.underlying t = some (.slice e)) (hi : P.info? e = some i) (a : Option Addr) (n c : Nat) (hnc : n ≤ c) (x : Value)
    (hx : x = .slice none 0 0 ∨ ∃ b k, x = .slice (some b) 0 k) : (Builtin.append_ #[t, t] ty #[.slice a n c, x]).run P w = .ok (.slice a n c) w := by
  have hl : (Builtin.lenOf x).run P w = .ok 0 w := by
    rcases hx with rfl | ⟨b, k, rfl⟩ <;> rfl
  have hf : (Builtin.firstCells i.size 0 x).run P w = .ok #[] w := by
    rcases hx with rfl | ⟨b, k, rfl⟩
    · rfl
    · simp [Builtin.firstCells, loadCells, loadCellsFrom]
  cases a with
  | none => simp [Builtin.append_, run_underlying ht, run_sizeOf' hi, hl, hf, hnc]
  | some a => simp [Builtin.append_, run_underlying ht, run_sizeOf' hi, hl, hf, hnc, storeCells]
theorem arr_cells {ρ : Env} {β : Bet} {e : Blk} {w : World} {A : SArr} (h : objRel ρ β e w (.arr A)) : ∃ arr el fr, w.heap[e.blk]? = some (.cells arr el fr) ∧
    ∀ k, k < e.cnt * A.stride → ∃ v, arr[e.base + k]? = some v := by
  obtain ⟨_, hst, hpos, hks, _, hrow, arr, el, fr, hh, _, hr⟩ := h
  refine ⟨arr, el, fr, hh, fun k hk => ?_⟩
  have hj : k / A.stride < e.cnt := Nat.div_lt_of_lt_mul (by rw [Nat.mul_comm]; exact hk)
  have hf : k % A.stride < A.stride := Nat.mod_lt _ hpos
  have hlen : (A.at ρ (k / A.stride)).length = A.stride := by
    unfold SArr.at
    split
    · rename_i t cs hA
      split
      · exact hrow.2 t cs hA
      · rw [SArr.base_length, hks]
    · rw [SArr.base_length, hks]
  obtain ⟨v, hv, _⟩ := hr _ hj (k % A.stride) ((A.at ρ (k / A.stride))[k % A.stride]'(by omega)) (List.getElem?_eq_getElem _)
  refine ⟨v, ?_⟩
  rw [← hv, hst]
  congr 1
  have := Nat.div_add_mod k A.stride
  rw [Nat.mul_comm] at this
  omega
def APost (C : Cfg) (ρ : Env) (β : Bet) (lk : List Nat) (w : World) (s : Sem Next) (sv : SV) (m' : Mem) : Prop :=
  ∃ w' β', Stp β lk w β' w' ∧ MemRel ρ β' m' w' ∧ ∃ v, s.run C.P w = .ok (.value v) w' ∧ sv.rel ρ β' v
theorem opA_ok {C : Cfg} (hC : C.Types) {ρ : Env} {β : Bet} {lk : List Nat} {pc : PC} {m m' : Mem} {w : World} {tm : Tr SV} {a : Act} (hp : PcH ρ pc) (hm : MemRel ρ β m w) (ht : TmRel ρ β tm a) (o : Oper) {sv : SV}
    (h : opA C pc m tm o.op = .val sv m') : APost C ρ β lk w (execOp a.eval o) sv m' := by
  obtain ⟨dst, op, type, pos, after, guard⟩ := o
  cases op <;> simp only [opA] at h <;> try (cases h; done)
  rename_i c
  split at h
  · rename_i s x t u hcal hx hts
    cases htu : Nat.beq t u
    · simp [htu] at h
    simp only [htu, Bool.not_true, cond_false] at h
    have htu := Nat.eq_of_beq_eq_true htu
    subst htu
    obtain ⟨vs, vx, hvs, r1, r2⟩ := relL_two (evXL_ok ht hx)
    have hargs : c.args.map a.eval = #[vs, vx] := by rw [← Array.toList_inj]; simpa using hvs
    have hat : c.argTypes = #[t, t] := by rw [← Array.toList_inj]; simpa using hts
    have start : ∀ v w', (Builtin.append_ #[t, t] type #[vs, vx]).run C.P w = .ok v w' → (execOp a.eval ⟨dst, .call c, type, pos, after, guard⟩).run C.P w = .ok (.value v) w' := fun v w' hr => by
      simp [execOp, resolve, hcal, hargs, hat, invoke, builtin, hr]
    split at h
    · rename_i el sz0 z0 hti
      obtain ⟨_, _, _, _, hu⟩ := hC.ti t _ hti
      -- nothing is appended
      have nothing : ∀ i, C.P.info? el = some i → (vx = .slice none 0 0 ∨ ∃ b k, vx = .slice (some b) 0 k) → (match s with | .nils => AR.val .nils m | .slice i a o l c => .val (.slice i a o l c) m | _ => .no) = .val sv m' →
          APost C ρ β lk w (execOp a.eval ⟨dst, .call c, type, pos, after, guard⟩) sv m' := by
        intro i hi hvx hs
        split at hs
        · cases hs
          rw [show vs = .slice none 0 0 from r1] at start
          exact ⟨w, β, Stp.refl _ _ _, hm, _, start _ _ (run_append_zero w t type el i hu hi none 0 0 (Nat.le_refl _) vx hvx), rfl⟩
        · cases hs
          have r1' := r1
          obtain ⟨e, l, k, he, h0, hl, hlc, hck, hcap, rfl⟩ := r1
          exact ⟨w, β, Stp.refl _ _ _, hm, _, start _ _ (run_append_zero w t type el i hu hi _ l k hlc vx hvx), r1'⟩
        · cases hs
      split at h
      · rename_i i1 b1 hi hby
        obtain ⟨j, hj, _⟩ := hC.ti el _ hi
        exact nothing j hj (.inl r2) h
      · rename_i i1 by_ id idx off len cap hi hby
        obtain ⟨j, hj, hsz, hz, _⟩ := hC.ti el _ hi
        obtain ⟨j', hj', hbytes⟩ := hC.byt el _ hby
        rw [hj] at hj'; cases hj'
        have hsb := simpB_ev hp (mkEqI len (.lit 0))
        obtain ⟨e, n, k, he, h0, hlen, hlc, hck, hcap, hvx⟩ := r2
        split at h
        · rename_i hb
          rw [hb, mkEqI_ev] at hsb
          have hn : n = 0 := by
            have : len.ev ρ = 0 := by simpa [B.ev, T.ev] using hsb.symm
            omega
          exact nothing j hj (.inr ⟨_, k, by rw [hvx, hn]⟩) h
        · rename_i hb
          rw [hb, mkEqI_ev] at hsb
          have hn : 0 < n := by
            have : ¬ len.ev ρ = 0 := by simpa [B.ev, T.ev] using hsb.symm
            omega
          split at h
          · rename_i A z hA hzz
            cases hc : emptyS s && isZero idx && Nat.beq off 0 && Nat.beq i1.size A.stride && T.beq len A.len && hiLe (rng pc len) (281474976710656 / (by_ + 1))
            · rw [hc] at h; cases h
            rw [hc] at h
            simp only [cond_true, AR.val.injEq] at h
            obtain ⟨rfl, rfl⟩ := h
            simp only [Bool.and_eq_true] at hc
            obtain ⟨⟨⟨⟨⟨c1, c2⟩, c3⟩, c4⟩, c5⟩, c6⟩ := hc
            have c2 := isZero_ok c2 ρ
            have c3 := Nat.eq_of_beq_eq_true c3
            have c4 := Nat.eq_of_beq_eq_true c4
            have c5 := T.beq_eq c5
            obtain ⟨e', he', hr⟩ := hm.obj id _ hA
            rw [he] at he'; cases he'
            obtain ⟨arr, elx, fr, hh, hcells⟩ := arr_cells hr
            obtain ⟨hwr, hst, hpos, hks, hcnt, hrow, arr', el', fr', hh', hfr, hrr⟩ := hr
            rw [hh] at hh'; cases hh'
            have hcn : e.cnt = n := by rw [← c5, hlen] at hcnt; omega
            have hjs : j.size = A.stride := by rw [hsz, c4]
            -- the source's cells
            have key : ∀ k : Nat, k < n * A.stride → arr[e.base + k]? = some (arr.getD (e.base + k) undef) := fun k hk => by
              obtain ⟨v, hv⟩ := hcells k (by rw [hcn]; exact hk)
              rw [Array.getD_eq_getD_getElem?, hv]; rfl
            let news : List Value := (List.range (n * A.stride)).map fun k => arr.getD (e.base + k) undef
            have hnl : news.length = n * j.size := by simp [news, hjs]
            have hng : ∀ k, k < n * A.stride → news[k]? = some (arr.getD (e.base + k) undef) := fun k hk => by simp [news, hk]
            have hnews : ∀ q v, news[q]? = some v → w.cell? ((⟨e.blk, e.base, none⟩ : Addr).add q) = some v := fun q v hv => by
              have hq : q < n * A.stride := by have := (List.getElem?_eq_some_iff.1 hv).1; simpa [news] using this
              rw [hng q hq] at hv
              rw [add_off, cell?_heap hh, key q hq]; exact hv
            have hvx' : vx = .slice (some ⟨e.blk, e.base, none⟩) n k := by rw [hvx, c2, c3]; simp
            have hroom : n * (by_ + 1) ≤ 281474976710656 := by
              unfold hiLe at c6
              have hb := rng_ok hp len
              split at c6
              · rename_i hi' hhi
                rw [ilt_iff] at c6
                have h2 := hb.2 hi' hhi
                have : ¬ ((281474976710656 / (by_ + 1) : Nat) : Int) < hi' := by simpa using c6
                have : n ≤ 281474976710656 / (by_ + 1) := by omega
                exact Nat.le_trans (Nat.mul_le_mul_right _ this) (Nat.div_mul_le_self _ _)
              · cases c6
            have h48 : n * j.bytes ≤ 281474976710656 := by
              rw [hbytes]; exact Nat.le_trans (Nat.mul_le_mul_left _ (Nat.le_succ _)) hroom
            have h63 : (n : Int) ≤ 9223372036854775807 := by omega
            have hzi : ∃ z', j.zero = some z' := ⟨z, by rw [hz]; exact hzz⟩
            obtain ⟨z', hz'⟩ := hzi
            have hrun : ∃ cells : Array Value, (∃ rest : Array Value, cells = news.toArray ++ rest) ∧ (Builtin.append_ #[t, t] type #[vs, vx]).run C.P w =
                .ok (.slice (some ⟨w.heap.size, 0, none⟩) n (grownCap w n 0 el)) (w.drew.alloc (.cells cells el)) := by
              rw [hvx']
              cases s <;> simp only [emptyS, Bool.false_eq_true] at c1
              case nils =>
                rw [show vs = .slice none 0 0 from r1]
                exact ⟨_, ⟨_, rfl⟩, run_append_nil w t type el j z' hu hj hz' ⟨e.blk, e.base, none⟩ n k news hnl hnews hn h63 h48⟩
              case slice i2 a2 o2 l2 c2' =>
                cases c2' with
                | none => cases c1
                | some c2' =>
                  rw [Bool.and_eq_true] at c1
                  obtain ⟨e2, l, k2, he2, h20, hl2, hlc2, hck2, hcap2, rfl⟩ := r1
                  have hl0 : l = 0 := by rw [litZ_ok c1.1 ρ] at hl2; omega
                  have hk0 : k2 = 0 := by rcases hcap2 c2' rfl with this | ⟨this, _⟩ <;> rw [litZ_ok c1.2 ρ] at this <;> omega
                  subst hl0; subst hk0
                  have := run_append_grow (P := C.P) w t type el j z' hu hj hz' ⟨e2.blk, e2.base + (a2.ev ρ).toNat * e2.stride + o2, none⟩ 0 0 [] (by simp) (by simp) ⟨e.blk, e.base, none⟩ n k news hnl hnews (by omega) (by simpa using h63) (by rw [Nat.zero_add, nextslicecap_zero hn]; exact h48)
                  simp only [Nat.zero_add] at this
                  exact ⟨_, ⟨_, by rw [show (([] : List Value).toArray) = #[] from rfl, Array.empty_append]⟩, this⟩
            obtain ⟨cells, ⟨rest, hcells'⟩, hrun⟩ := hrun
            have hsz' : (w.drew.alloc (.cells cells el)).heap.size = w.heap.size + 1 := by simp
            have hold : ∀ q, q < w.heap.size → (w.drew.alloc (.cells cells el)).heap[q]? = w.heap[q]? := fun q hq => RowKit.Below.heap_alloc w.drew _ q hq
            refine ⟨_, β ++ [⟨w.heap.size, 0, A.stride, n, false⟩], ?_, hm.allocO (e := ⟨w.heap.size, 0, A.stride, n, false⟩) rfl hsz' hold ?_, _, start _ _ hrun, ?_⟩
            · exact ⟨⟨[_], rfl, by simp⟩, rfl, rfl, rfl, by rw [hsz']; omega, fun q hq _ => hold q hq, fun id _ e' he' => hold _ (hm.lt e' (List.mem_of_getElem? he'))⟩
            · refine ⟨fun _ => rfl, rfl, hpos, hks, by rw [← c5]; exact hlen, hrow, cells, el, (0, 0), by show (w.heap.push _)[w.heap.size]? = _; simp, fun _ => rfl, fun q hq f s' hs' => ?_⟩
              obtain ⟨v, hv, r⟩ := hrr q (by rw [hcn]; exact hq) f s' hs'
              have hf : f < A.stride := by
                have h1 := (List.getElem?_eq_some_iff.1 hs').1
                have h2 : (SArr.at { A with wr := true } ρ q).length = A.stride := by
                  unfold SArr.at
                  split
                  · rename_i t' cs' hA'
                    split
                    · exact hrow.2 t' cs' hA'
                    · rw [SArr.base_length]; exact hks
                  · rw [SArr.base_length]; exact hks
                omega
              have hlt : q * A.stride + f < n * A.stride := by
                have : (q + 1) * A.stride ≤ n * A.stride := Nat.mul_le_mul_right _ hq
                rw [Nat.succ_mul] at this; omega
              refine ⟨v, ?_, SV.rel_mono _ _ _ r⟩
              simp only [Nat.zero_add]
              rw [hcells', Array.getElem?_append_left (by simpa [news] using hlt)]
              simp only [List.getElem?_toArray]
              rw [hng _ hlt, ← key _ hlt, ← hv, hst]
              congr 1; omega
            · refine ⟨⟨w.heap.size, 0, A.stride, n, false⟩, n, _, by rw [hm.nx]; simp, by simp [T.ev], hlen, grownCap_ge w n 0 el, ?_, (fun t ht => by cases ht), by simp [T.ev]⟩
              have := grownCap_le_maxLen w n 0 el (by unfold maxLen; omega)
              unfold maxLen at this; omega
          · cases h
        · cases h
      · cases h
    · cases h
  · cases h
end Go.SX
