/- SX, part 9f: append of what is known: in place, or to a new block of unknown room. -/
import Derived.Test.YtpkfeinnhdnfiaaSXAppend
namespace Go.SX
open Go

def roomT : T := .lit (.negSucc 0)
def isRoom (t : T) : Bool := match t with | .lit (.negSucc 0) => true | _ => false
theorem isRoom_ok {t : T} (h : isRoom t = true) (ρ : Env) : t.ev ρ = -1 := by
  unfold isRoom at h; split at h
  · rfl
  · cases h
/-- a new block -/
def growM (m : Mem) (el sz k : Nat) (cs : List SV) : SV × Mem := (.slice m.nx (.lit (.ofNat 0)) 0 (.lit (.ofNat k)) (some roomT), m.push (.buf el sz cs))
/-- the same block -/
def roomM (lk : List Nat) (m : Mem) (id el sz L k : Nat) (news : List SV) : Option (SV × Mem) := match m.tr.get id with
  | some (.buf el' sz' cs) => bif !(memB id lk) && Nat.beq el el' && Nat.beq sz sz' && Nat.ble (L * sz) cs.length then
      some (.slice id (.lit (.ofNat 0)) 0 (.lit (.ofNat k)) (some roomT), m.set id (.buf el sz (cs.take (L * sz) ++ news ++ cs.drop (L * sz + news.length)))) else none
  | _ => none
def growN (lk : List Nat) (pc : PC) (m : Mem) (el sz by_ : Nat) (s : SV) (n : Nat) (news : List SV) : Option (List (SV × Mem)) := match s with
  | .nils => bif Nat.ble (n * (by_ + 1)) 140737488355328 then some [growM m el sz n news] else none
  | .slice id idx off len (some c) => (match litN len with
    | some L => bif Nat.ble ((L + n) * (by_ + 1)) 140737488355328 && flatO m id then
      (match m.read pc id idx off (L * sz) with
      | some olds =>
        bif isRoom c then (bif isZero idx && Nat.beq off 0 then (match roomM lk m id el sz L (L + n) news with
          | some r => some [r, growM m el sz (L + n) (olds ++ news)]
          | none => none) else none)
        else (match litN c with
          | some k => bif Nat.ble (L + n) k then none else some [growM m el sz (L + n) (olds ++ news)]
          | none => none)
      | none => none) else none
    | none => none)
  | _ => none
def opN (C : Cfg) (lk : List Nat) (pc : PC) (m : Mem) (tm : Tr SV) (op : Op) : Option (List (SV × Mem)) := match op with
  | .call c => (match c.callee, evXL tm c.args.toList, c.argTypes.toList with
    | .builtin .append, some [s, x], [t, u] => bif !(Nat.beq t u) then none else
      (match C.ti t, x with
      | some ⟨.slice el, _, _⟩, .slice id idx off len _ => (match C.ti el, C.byt el, litN len with
        | some ⟨_, sz, some z⟩, some by_, some n => bif Nat.beq z.cells.size sz && !(Nat.beq n 0) && flatO m id then
          (match m.read pc id idx off (n * sz) with
          | some news => bif news.all SV.one then growN lk pc m el sz by_ s n news else none
          | none => none) else none
        | _, _, _ => none)
      | _, _ => none)
    | _, _, _ => none)
  | _ => none
theorem grow_mem {ρ : Env} {β : Bet} {lk : List Nat} {m : Mem} {w : World} (hm : MemRel ρ β m w) {el sz k c : Nat} {cs : List SV} {vs : List Value} (zs : Array Value) (hr : relL ρ β cs vs) (hkc : k ≤ c) (hck : c ≤ 9223372036854775807)
    (hsz : (vs.toArray ++ zs).size = c * sz) :
    ∃ β', Stp β lk w β' (w.drew.alloc (.cells (vs.toArray ++ zs) el)) ∧ MemRel ρ β' (growM m el sz k cs).2 (w.drew.alloc (.cells (vs.toArray ++ zs) el)) ∧ (growM m el sz k cs).1.rel ρ β' (.slice (some ⟨w.heap.size, 0, none⟩) k c) := by
  have hsz' : (w.drew.alloc (.cells (vs.toArray ++ zs) el)).heap.size = w.heap.size + 1 := by simp
  have hold : ∀ q, q < w.heap.size → (w.drew.alloc (.cells (vs.toArray ++ zs) el)).heap[q]? = w.heap[q]? := fun q hq => RowKit.Below.heap_alloc w.drew _ q hq
  refine ⟨β ++ [⟨w.heap.size, 0, 0, c, false⟩], ⟨⟨[_], rfl, by simp⟩, rfl, rfl, rfl, by rw [hsz']; omega, fun q hq _ => hold q hq, fun id _ e' he' => hold _ (hm.lt e' (List.mem_of_getElem? he'))⟩, hm.allocO (e := ⟨w.heap.size, 0, 0, c, false⟩) rfl hsz' hold ?_, ?_⟩
  · exact ⟨rfl, rfl, rfl, _, by show (w.heap.push _)[w.heap.size]? = _; simp, hsz, vs, zs.toList, by simp, relL_mono _ _ _ hr⟩
  · exact ⟨⟨w.heap.size, 0, 0, c, false⟩, k, c, by rw [hm.nx]; simp, by simp [T.ev], rfl, hkc, hck, fun t ht => by cases ht; exact .inr ⟨rfl, rfl, Nat.le_refl _⟩, by simp [T.ev]⟩
theorem opN_ok {C : Cfg} (hC : C.Types) {ρ : Env} {β : Bet} {lk : List Nat} {pc : PC} {m : Mem} {w : World} {tm : Tr SV} {a : Act} (hp : PcH ρ pc) (hm : MemRel ρ β m w) (ht : TmRel ρ β tm a) (o : Oper) {l : List (SV × Mem)}
    (h : opN C lk pc m tm o.op = some l) : ∃ x ∈ l, APost C ρ β lk w (execOp a.eval o) x.1 x.2 := by
  obtain ⟨dst, op, type, pos, after, guard⟩ := o
  cases op <;> simp only [opN] at h <;> try (cases h; done)
  rename_i c
  split at h
  · rename_i s x t u hcal hx hts
    cases htu : Nat.beq t u
    · simp [htu] at h
    simp only [htu, Bool.not_true, cond_false] at h
    have htu := Nat.eq_of_beq_eq_true htu
    subst htu
    obtain ⟨vs, vx, hvs, r1, r2⟩ := relL_two (evXL_ok ht hx)
    have hargs : c.args.map a.eval = #[vs, vx] := by rw [← Array.toList_inj]; simpa using hvs
    have hat : c.argTypes = #[t, t] := by rw [← Array.toList_inj]; simpa using hts
    have start : ∀ v w', (Builtin.append_ #[t, t] type #[vs, vx]).run C.P w = .ok v w' → (execOp a.eval ⟨dst, .call c, type, pos, after, guard⟩).run C.P w = .ok (.value v) w' := fun v w' hr => by
      simp [execOp, resolve, hcal, hargs, hat, invoke, builtin, hr]
    clear hvs hargs hat
    split at h
    · rename_i el sz0 z0 id idx off len cap hti
      obtain ⟨_, _, _, _, hu⟩ := hC.ti t _ hti
      split at h
      · rename_i und sz z by_ n hi hby hn
        obtain ⟨j, hj, hjsz, hjz, _⟩ := hC.ti el _ hi
        obtain ⟨j', hj', hbytes⟩ := hC.byt el _ hby
        rw [hj] at hj'; cases hj'
        simp only at hjsz hjz
        subst hjsz
        subst hbytes
        cases hc : Nat.beq z.cells.size j.size && !(Nat.beq n 0) && flatO m id
        · rw [hc] at h; cases h
        rw [hc] at h
        simp only [cond_true] at h
        simp only [Bool.and_eq_true, Bool.not_eq_true'] at hc
        obtain ⟨⟨c1, c2⟩, c3⟩ := hc
        have hzs := Nat.eq_of_beq_eq_true c1
        have hn0 : 0 < n := Nat.pos_of_ne_zero fun e => by rw [e] at c2; simp at c2
        split at h
        · rename_i news hnews
          cases hone : news.all SV.one
          · rw [hone] at h; cases h
          rw [hone] at h
          simp only [cond_true] at h
          obtain ⟨e, n', k, he, h0, hlen, hlc, hck, _, hvx⟩ := r2
          have hnn : n' = n := by have := litN_ok hn ρ; omega
          subst hnn
          have hst := flatO_ok hm.o c3 he
          obtain ⟨nv, hnr, hnl, hncell, _⟩ := Mem.read_ok C.P hp hm.o he h0 (fun h => absurd hst h) hnews
          have hone' := relL_one hone hnr
          subst hvx
          have hnc : ∀ q v, nv[q]? = some v → w.cell? ((⟨e.blk, e.base + (idx.ev ρ).toNat * e.stride + off, none⟩ : Addr).add q) = some v := fun q v hv => by
            rw [add_off]; exact hncell w (Same.refl _ _ _) q v hv
          -- a new block
          have fresh : ∀ (L old : Nat) (olds : List SV) (ov : List Value), relL ρ β olds ov → ov.length = L * j.size → (L + n') * (j.bytes + 1) ≤ 140737488355328 →
              (Builtin.append_ #[t, t] type #[vs, .slice (some ⟨e.blk, e.base + (idx.ev ρ).toNat * e.stride + off, none⟩) n' k]).run C.P w =
                .ok (.slice (some ⟨w.heap.size, 0, none⟩) (L + n') (grownCap w (L + n') old el)) (w.drew.alloc (.cells (ov.toArray ++ nv.toArray ++ Builtin.zeroCells z.cells (grownCap w (L + n') old el - (L + n'))) el)) →
              APost C ρ β lk w (execOp a.eval ⟨dst, .call c, type, pos, after, guard⟩) (growM m el j.size (L + n') (olds ++ news)).1 (growM m el j.size (L + n') (olds ++ news)).2 := by
            intro L old olds ov hor hol hb hrun
            have hsmall : L + n' ≤ 9223372036854775807 := by
              have : (L + n') * 1 ≤ (L + n') * (j.bytes + 1) := Nat.mul_le_mul_left _ (by omega)
              omega
            have hge := grownCap_ge w (L + n') old el
            have hle := grownCap_le_maxLen w (L + n') old el (by unfold maxLen; omega)
            have hcc : ov.toArray ++ nv.toArray = (ov ++ nv).toArray := by simp
            rw [hcc] at hrun
            obtain ⟨β', g1, g2, g3⟩ := grow_mem (lk := lk) hm (el := el) (sz := j.size) (k := L + n') (c := grownCap w (L + n') old el) (Builtin.zeroCells z.cells (grownCap w (L + n') old el - (L + n'))) (relL_append hor hnr) hge (by unfold maxLen at hle; omega) (by
              rw [Array.size_append, size_zeroCells, hzs]
              simp only [List.size_toArray, List.length_append, hol, hnl]
              rw [← Nat.add_mul, ← Nat.add_mul]
              congr 1; omega)
            exact ⟨_, β', g1, g2, _, start _ _ hrun, g3⟩
          unfold growN at h
          split at h
          · cases hb : Nat.ble (n' * (j.bytes + 1)) 140737488355328
            · rw [hb] at h; cases h
            rw [hb] at h
            cases h
            have hb := Nat.le_of_ble_eq_true hb
            rw [show vs = .slice none 0 0 from r1] at start fresh
            have h48 : n' * j.bytes ≤ 140737488355328 := Nat.le_trans (Nat.mul_le_mul_left _ (Nat.le_succ _)) hb
            have hsm : n' ≤ 140737488355328 := Nat.le_trans (by have : n' * 1 ≤ n' * (j.bytes + 1) := Nat.mul_le_mul_left _ (by omega)
                                                                omega) hb
            have hr := run_append_nil w t type el j z hu hj hjz _ n' k nv hnl hnc hn0 (by omega) (by omega)
            have := fresh 0 0 [] [] rfl (by simp) (by simpa using hb) (by simpa using hr)
            simp only [Nat.zero_add, List.nil_append] at this
            exact ⟨_, .head _, this⟩
          · rename_i id2 idx2 off2 len2 c2
            split at h
            · rename_i L hL
              cases hb : Nat.ble ((L + n') * (j.bytes + 1)) 140737488355328 && flatO m id2
              · rw [hb] at h; cases h
              rw [hb] at h
              simp only [cond_true] at h
              rw [Bool.and_eq_true] at hb
              obtain ⟨hb, hfl⟩ := hb
              have hb := Nat.le_of_ble_eq_true hb
              obtain ⟨e2, L', k2, he2, h20, hlen2, hlc2, hck2, hcap2, rfl⟩ := r1
              have hLL : L' = L := by have := litN_ok hL ρ; omega
              subst hLL
              have hst2 := flatO_ok hm.o hfl he2
              have h48 : (L' + n') * j.bytes ≤ 140737488355328 := Nat.le_trans (Nat.mul_le_mul_left _ (Nat.le_succ _)) hb
              have hsm : L' + n' ≤ 140737488355328 := Nat.le_trans (by have : (L' + n') * 1 ≤ (L' + n') * (j.bytes + 1) := Nat.mul_le_mul_left _ (by omega)
                                                                       omega) hb
              split at h
              · rename_i olds hold
                obtain ⟨ov, hor, hol, hocell, _⟩ := Mem.read_ok C.P hp hm.o he2 h20 (fun h => absurd hst2 h) hold
                have hoc : ∀ q v, ov[q]? = some v → w.cell? ((⟨e2.blk, e2.base + (idx2.ev ρ).toNat * e2.stride + off2, none⟩ : Addr).add q) = some v := fun q v hv => by
                  rw [add_off]; exact hocell w (Same.refl _ _ _) q v hv
                have grown : k2 < L' + n' → APost C ρ β lk w (execOp a.eval ⟨dst, .call c, type, pos, after, guard⟩) (growM m el j.size (L' + n') (olds ++ news)).1 (growM m el j.size (L' + n') (olds ++ news)).2 := fun hlt =>
                  fresh L' k2 olds ov hor hol hb (run_append_grow w t type el j z hu hj hjz _ L' k2 ov hol hoc _ n' k nv hnl hnc hlt (by omega) (growslice_fits hlt h48))
                cases hro : isRoom c2
                · rw [hro] at h
                  simp only [cond_false] at h
                  split at h
                  · rename_i kk hkk
                    cases hle : Nat.ble (L' + n') kk
                    · rw [hle] at h
                      cases h
                      have hkk' := litN_ok hkk ρ
                      have : k2 = kk := by
                        rcases hcap2 _ rfl with h | ⟨h, _⟩ <;> omega
                      subst this
                      have hlt : k2 < L' + n' := Nat.lt_of_not_le fun hh => by rw [Nat.ble_eq_true_of_le hh] at hle; cases hle
                      exact ⟨_, .head _, grown hlt⟩
                    · rw [hle] at h; cases h
                  · cases h
                · rw [hro] at h
                  simp only [cond_true] at h
                  cases hz : isZero idx2 && Nat.beq off2 0
                  · rw [hz] at h; cases h
                  rw [hz] at h
                  simp only [cond_true] at h
                  rw [Bool.and_eq_true] at hz
                  have hi0 := isZero_ok hz.1 ρ
                  have ho0 := Nat.eq_of_beq_eq_true hz.2
                  subst ho0
                  split at h
                  · rename_i r hr
                    cases h
                    by_cases hroom : L' + n' ≤ k2
                    · refine ⟨_, .head _, ?_⟩
                      unfold roomM at hr
                      split at hr
                      · rename_i el' sz' cs hob
                        cases hcc : !(memB id2 lk) && Nat.beq el el' && Nat.beq j.size sz' && Nat.ble (L' * j.size) cs.length
                        · rw [hcc] at hr; cases hr
                        rw [hcc] at hr
                        cases hr
                        simp only [Bool.and_eq_true, Bool.not_eq_true'] at hcc
                        obtain ⟨⟨⟨d1, d2⟩, d3⟩, d4⟩ := hcc
                        have d2 := Nat.eq_of_beq_eq_true d2
                        have d3 := Nat.eq_of_beq_eq_true d3
                        have d4 := Nat.le_of_ble_eq_true d4
                        subst d2
                        obtain ⟨e3, he3, hrel⟩ := hm.obj id2 _ hob
                        rw [he2] at he3; cases he3
                        obtain ⟨q0, q1, q2, arr, q3, q4, us, rest, q5, q6⟩ := hrel
                        rw [← d3] at q4
                        have hcl : us.length = cs.length := relL_length q6
                        have hasz : arr.size = us.length + rest.length := by have := congrArg List.length q5; simpa using this
                        have hk2 : k2 ≤ e2.cnt := by
                          rcases hcap2 _ rfl with h | ⟨_, _, h⟩
                          · rw [isRoom_ok hro ρ] at h; omega
                          · exact h
                        have hadr : (⟨e2.blk, e2.base + (idx2.ev ρ).toNat * e2.stride + 0, none⟩ : Addr) = ⟨e2.blk, 0, none⟩ := by rw [hi0, q1, q2]; simp
                        have hfit : L' * j.size + nv.length ≤ arr.size := by
                          rw [hnl, q4, ← Nat.add_mul]
                          exact Nat.mul_le_mul_right _ (Nat.le_trans hroom hk2)
                        have hrun := run_append_room w t type el j hu hj e2.blk L' k2 arr q3 _ n' k nv hnl hnc hone' hroom hfit
                        rw [← hadr] at hrun
                        have hnlen : news.length = nv.length := (relL_length hnr).symm
                        refine ⟨_, β, Stp.setRow he2 q0 (memB_ok d1) (hm.apart' he2 q0) _, ?_, _, start _ _ hrun, ?_⟩
                        · refine hm.set he2 q0 (by simp) (fun k hk => heap_setRow w _ _ k hk) ⟨q0, q1, q2, _, setRow_heap w _ _ _ _ _ q3, ?_, us.take (L' * j.size) ++ nv ++ us.drop (L' * j.size + nv.length), rest.drop (L' * j.size + nv.length - us.length), ?_, ?_⟩
                          · simp only [List.size_toArray, List.length_append, List.length_take, List.length_drop, Array.length_toList]
                            rw [q4] at hfit ⊢
                            omega
                          · simp only [q5]
                            rw [List.take_append_of_le_length (by omega), List.drop_append]
                            simp [List.append_assoc]
                          · rw [hnlen]
                            exact relL_append (relL_append (relL_take _ q6) hnr) (relL_drop _ q6)
                        · exact ⟨e2, L' + n', k2, he2, by simp [T.ev], rfl, hroom, hck2, fun t ht => by cases ht; exact .inr ⟨rfl, q2, hk2⟩, by rw [hi0]; simp [T.ev]⟩
                      · cases hr
                    · exact ⟨_, .tail _ (.head _), grown (by omega)⟩
                  · cases h
              · cases h
            · cases h
          · cases h
        · cases h
      · cases h
    · cases h
  · cases h
end Go.SX
