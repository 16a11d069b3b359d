/- SX, part 16: a law's call: run on symbolic arguments; what the row asks of it. -/
import Derived.Test.YtpkfeinnhdnfiaaSXByte
import Derived.Test.YtpkfeinnhdnfiaaSXMain
namespace Go.SX
open Go

def callX (C : Cfg) (fuel : Nat) (id : Nat) (args : List SV) (mem : Mem) (pc : PC) : Option (List COut) :=
  match C.fn id with
  | some fn => (match fn.body with
    | some body => (match exec C fuel [] (args.length + (fn.ntmps - args.length)) (.code body) ⟨initTm args 0 .nil, mem, pc, id⟩ with
      | some outs => some (outs.map (toC C fn))
      | none => none)
    | none => none)
  | none => none
theorem callX_ok {C : Cfg} (hC : C.Types) {ρ : Env} (hH : ∀ ρ, HookOk C ρ) {fuel id : Nat} {args : List SV} {mem : Mem} {pc : PC} {outs : List COut} (h : callX C fuel id args mem pc = some outs)
    {β : Bet} {w : World} {vs : List Value} (hp : PcH ρ pc) (hr : relL ρ β args vs) (hm : MemRel ρ β mem w) (hn : NoStuckC ρ outs) : Calls C.P id vs.toArray w (CPost ρ β [] w outs) := by
  unfold callX at h
  split at h
  · rename_i fn hfn
    obtain ⟨hf1, _⟩ := hC.fn id fn hfn
    split at h
    · rename_i body hbody
      split at h
      · rename_i outs1 h1
        cases h
        have hn1 : NoStuck ρ outs1 := fun x hx k hk hpc => hn (toC C fn x) (List.mem_map_of_mem hx) k (by simp [toC, hk]) (by simpa [toC, hk] using hpc)
        refine calls_of_body (nt := args.length + (fn.ntmps - args.length)) hC hf1 hbody hn ?_
        have := exec_sound hC hH fuel [] _ (.code body) _ _ h1 trivial ρ β _ w hp (init_act hr mem pc fn.ntmps) hm hn1
        exact this
      · cases h
    · cases h
  · cases h
def R0 : Nat := 1000000
def startPc : Nat → PC
  | 0 => []
  | n + 1 => (.ltI (.var n) (.lit 0), false) :: (.ltI (.lit 9223372036854775807) (.var n), false) :: startPc n
theorem startPc_ok {ρ : Env} : ∀ n, (∀ i, i < n → 0 ≤ ρ.v i ∧ ρ.v i ≤ 9223372036854775807) → PcH ρ (startPc n)
  | 0, _ => PcH.nil ρ
  | n + 1, h => by
    have := h n (by omega)
    refine PcH.cons ?_ (PcH.cons ?_ (startPc_ok n fun i hi => h i (by omega)))
    · exact decide_eq_false (by simp only [T.ev]; omega)
    · exact decide_eq_false (by simp only [T.ev]; omega)
theorem cnt_ok {w : World} : ∀ {fs : List FK} {vs : List Value}, goodL w fs vs → ∀ e ∈ blksOf fs vs, e.cnt ≤ 9223372036854775807
  | [], _, _, e, he => by simp [blksOf] at he
  | .c k :: fs, _, h, e, he => by
    obtain ⟨v, vs, rfl, h1, h2⟩ := h
    exact cnt_ok h2 e (by simpa [blksOf] using he)
  | .sl ks :: fs, _, h, e, he => by
    obtain ⟨v, vs, rfl, h1, h2⟩ := h
    rcases h1 with rfl | ⟨b, off, len, cap, arr, el, fr, rfl, hlc, hcm, _⟩
    · exact cnt_ok h2 e (by simpa [blksOf] using he)
    · simp [blksOf] at he
      rcases he with rfl | he
      · simp; omega
      · exact cnt_ok h2 e he
theorem blks_le {w : World} : ∀ {fs : List FK} {vs : List Value}, goodL w fs vs → (blksOf fs vs).length ≤ fs.length
  | [], _, _ => by simp [blksOf]
  | .c k :: fs, _, h => by
    obtain ⟨v, vs, rfl, h1, h2⟩ := h
    have := blks_le h2
    simp [blksOf]; omega
  | .sl ks :: fs, _, h => by
    obtain ⟨v, vs, rfl, h1, h2⟩ := h
    have := blks_le h2
    rcases h1 with rfl | ⟨b, off, len, cap, arr, el, fr, rfl, hlc, hcm, _⟩ <;> simp [blksOf] <;> omega
theorem symM_nx : ∀ (fs : List FK) (w : World) (vs : List Value), goodL w fs vs → ∀ m, (symM fs (patOf fs vs) m).nx = m.nx + (blksOf fs vs).length
  | [], _, _, _, m => by simp [symM, blksOf]
  | .c k :: fs, w, _, h, m => by
    obtain ⟨v, vs, rfl, h1, h2⟩ := h
    have := symM_nx fs w vs h2 m
    simpa [symM, patOf, blksOf] using this
  | .sl ks :: fs, w, _, h, m => by
    obtain ⟨v, vs, rfl, h1, h2⟩ := h
    rcases h1 with rfl | ⟨b, off, len, cap, arr, el, fr, rfl, hlc, hcm, _⟩
    · have := symM_nx fs w vs h2 m
      simpa [symM, patOf, blksOf] using this
    · have := symM_nx fs w vs h2 (m.push (.arr ⟨false, m.nx, ks.length, ks, .var m.nx, none, 0, []⟩))
      simp only [symM, patOf, blksOf, List.length_cons]; rw [this]; simp only [Mem.push]; omega

/-- a law's run at one form of its arguments -/
def lawX (C : Cfg) (fuel id : Nat) (is : List (Bool × Nat)) (ks : List FK) (p : List Bool) : Option (List COut) :=
  let m := symM ks p ⟨.nil, 0⟩
  callX C fuel id (argsS is (symL R0 ks p 0 0)) m (startPc m.nx)
def goodOut (ρ : Env) (o : COut) : Prop := ∃ b, o.ex = .ret (.bool b) ∧ b.ev ρ = true
theorem law_calls {H : Type} {enc : TypeId × Value → H} {C : Cfg} (hC : C.Types) (hH : ∀ ρ, HookOk C ρ) {fuel id : Nat} {ts : List TypeId} {is : List (Bool × Nat)} {ks : List FK} (hps : paramsS C.P ts = some (is, ks)) (hks : ks.length ≤ R0)
    (hx : ∀ p ∈ patsOf ks, ∃ outs, lawX C fuel id is ks p = some outs ∧ ∀ ρ, ∀ o ∈ outs, PcH ρ o.pc → goodOut ρ o)
    {W : World} {base : Nat} {vs : List Value} {ds : List (DataW H)} {ps : List MemPlace} {b0 : Nat} {sp : Nat → Bool} {held : Bool} {r : Reach}
    (hok : ∀ (j : Nat) t v, ts[j]? = some t → vs[j]? = some v → Value.okWide C.P W r base t v) (ht : DataW.TrodAll enc C.P W b0 sp held ts vs ds ps) :
    Calls C.P id vs.toArray W fun e W' => e = .returned (.bool true) ∧ RowKit.Below W.heap.size W W' := by
  obtain ⟨L, hg, hargs⟩ := open_args hps ht hok
  have hbl := blks_le hg
  have hrel := symL_rel (R := R0) (bl := blksOf ks L) (L := L) hg [] [] [] rfl (by simp)
  have hm0 : MemRel (envOf W R0 (blksOf ks L) L) [] ⟨.nil, 0⟩ W := ⟨rfl, fun id o h => by simp [Tr.get] at h, fun e he => (by simp at he), fun i j e e' he => (by simp at he), fun id _ => by simp [Tr.get]⟩
  obtain ⟨hm, hro⟩ := symM_rel (R := R0) (bl := blksOf ks L) (L := L) (by omega) hg [] _ (by simp) (by simp) hm0
  obtain ⟨outs, ho, hgood⟩ := hx _ (patOf_mem hg)
  unfold lawX at ho
  have hnx : (symM ks (patOf ks L) ⟨.nil, 0⟩).nx = (blksOf ks L).length := by rw [symM_nx ks W L hg]; simp
  have hpc : PcH (envOf W R0 (blksOf ks L) L) (startPc (symM ks (patOf ks L) ⟨.nil, 0⟩).nx) := startPc_ok _ fun i hi => by
    rw [hnx] at hi
    simp only [envOf, List.getElem?_eq_getElem hi]
    have := cnt_ok hg _ (List.getElem_mem hi)
    omega
  refine (callX_ok hC hH ho hpc (hargs _ _ _ hrel) hm (fun o hoo k hk hp => ?_)).mono fun e W' ⟨o, hoo, hp, β', hs, hm', he⟩ => ?_
  · obtain ⟨b, hb, _⟩ := hgood _ o hoo hp
    rw [hb] at hk; cases hk
  · obtain ⟨b, hb, hv⟩ := hgood _ o hoo hp
    rw [hb] at he
    cases e <;> simp only [EndR] at he
    refine ⟨?_, hs.below hro⟩
    rw [show _ = Value.bool _ from he, hv]
/-- what the row asks, from that -/
theorem law_post {H : Type} {enc : TypeId × Value → H} {P : Program} {f : Func} {s : ChangeSpec} {tb : TypeId} {ds gs : List (DataW H)} {before : List MemPlace} {W W' : World} {args : Array Value} (hv : s.vars = []) (hres : f.resultTypes = #[tb])
    (htb : P.underlying tb = some .bool) (hl : laidOutB P = true) (hpar : f.params.toList.all (fun t => P.readableRec t && decide (t < P.types.size)) = true)
    (hs : s.fn H ds = { results := [.lit (.bool true)], args := ds }) (hW : DataW.Whole enc P f.params.toList s.vars false W args.toList ds gs before) (hb : RowKit.Below W.heap.size W W') :
    s.post enc P f false true false false W args (.bool true) W' := by
  have hlt := hW.lt
  obtain ⟨p, q, h1, h2, rfl, h3, h4⟩ := hW
  have hW' : DataW.Whole enc P f.params.toList s.vars false W args.toList ds gs (p ++ q) := ⟨p, q, h1, h2, rfl, h3, h4⟩
  rw [hv] at h2
  have hgs : gs = [] ∧ q = [] := by
    cases gs with
    | nil => exact ⟨rfl, h2⟩
    | cons g gs => exact h2.elim
  obtain ⟨rfl, rfl⟩ := hgs
  have hargs : ∀ (ts : List TypeId) (vs : List Value) (xs : List (DataW H)) (p : List MemPlace), ts.all (fun t => P.readableRec t && decide (t < P.types.size)) = true → DataW.TrodAll enc P W 0 (fun _ => true) true ts vs xs p →
      (∀ x ∈ p, x.block < W.heap.size) → DataW.TrodAll enc P W' 0 (fun b => decide (b < W.heap.size)) true ts vs xs p := by
    intro ts
    induction ts with
    | nil => intro vs xs p _ h _; cases vs <;> cases xs <;> first | exact h | exact h.elim
    | cons t ts ih =>
      intro vs xs p ha h hlt
      cases vs with
      | nil => cases xs <;> simp [DataW.TrodAll] at h
      | cons v vs =>
        cases xs with
        | nil => exact h.elim
        | cons x xs =>
          obtain ⟨p1, q1, t1, t2, rfl⟩ := h
          simp only [List.all_cons, Bool.and_eq_true, decide_eq_true_eq] at ha
          exact ⟨p1, q1, RowKit.Below.trod hl ha.1.1 ha.1.2 t1 hb fun y hy => hlt y (by simp [hy]), ih vs xs q1 (by simpa using ha.2) t2 (fun y hy => hlt y (by simp [hy])), rfl⟩
  refine ⟨ds, [], p ++ [], [], p, [], hW', ?_, ?_, ?_, hb.frame _, fun h => by cases h⟩
  · rw [hres, List.append_nil, hs]
    exact ⟨[], [], RowKit.shut_bool htb true, rfl, rfl⟩
  · rw [List.append_nil, hs]
    exact hargs _ _ _ _ hpar h1 fun x hx => hlt x (by simp [hx])
  · rw [List.append_nil, hs, hv]; rfl

/-! all of it as one truth -/
/-! numbers one behind the other -/
def edges (x : T) : B × Bool → List T
  | (.ltI a b, true) => bif T.beq a x then [b] else []
  | (.ltI a b, false) => bif T.beq b x then [a] else []
  | (.eqI a b, true) => (bif T.beq a x then [b] else []) ++ (bif T.beq b x then [a] else [])
  | _ => []
theorem edges_ok {ρ : Env} {x z : T} {p : B × Bool} (h : z ∈ edges x p) (hp : p.1.ev ρ = p.2) : x.ev ρ ≤ z.ev ρ := by
  unfold edges at h
  split at h
  · rename_i a b
    cases hb : T.beq a x <;> rw [hb] at h <;> simp at h
    subst h
    have := T.beq_eq hb
    subst this
    simp only [B.ev, decide_eq_true_eq] at hp
    omega
  · rename_i a b
    cases hb : T.beq b x <;> rw [hb] at h <;> simp at h
    subst h
    have := T.beq_eq hb
    subst this
    simp only [B.ev, decide_eq_false_iff_not] at hp
    omega
  · rename_i a b
    simp only [B.ev, beq_iff_eq] at hp
    rcases List.mem_append.1 h with h | h
    · cases hb : T.beq a x <;> rw [hb] at h <;> simp at h
      subst h
      have := T.beq_eq hb
      subst this
      omega
    · cases hb : T.beq b x <;> rw [hb] at h <;> simp at h
      subst h
      have := T.beq_eq hb
      subst this
      omega
  · cases h
def reach : Nat → PC → T → T → Bool
  | 0, _, x, y => T.beq x y
  | n + 1, pc, x, y => T.beq x y || pc.any fun p => (edges x p).any fun z => reach n pc z y
theorem reach_ok {ρ : Env} {pc : PC} (hp : PcH ρ pc) : ∀ {n : Nat} {x y : T}, reach n pc x y = true → x.ev ρ ≤ y.ev ρ
  | 0, x, y, h => by rw [T.beq_eq h]; exact Int.le_refl _
  | n + 1, x, y, h => by
    simp only [reach, Bool.or_eq_true] at h
    rcases h with h | h
    · rw [T.beq_eq h]; exact Int.le_refl _
    · obtain ⟨p, hpm, hq⟩ := List.any_eq_true.1 h
      obtain ⟨z, hz, hr⟩ := List.any_eq_true.1 hq
      exact Int.le_trans (edges_ok hz (hp p hpm)) (reach_ok hp hr)
def orderDead (pc : PC) : Bool := pc.any fun p => match p with
  | (.ltI u v, true) => reach 3 pc v u
  | (.eqI u v, false) => reach 3 pc u v && reach 3 pc v u
  | _ => false
theorem orderDead_ok {ρ : Env} {pc : PC} (h : orderDead pc = true) : ¬ PcH ρ pc := fun hp => by
  obtain ⟨p, hpm, hq⟩ := List.any_eq_true.1 h
  have h1 := hp p hpm
  split at hq
  · rename_i u v
    have := reach_ok hp hq
    simp only [B.ev, decide_eq_true_eq] at h1
    omega
  · rename_i u v
    rw [Bool.and_eq_true] at hq
    have a1 := reach_ok hp hq.1
    have a2 := reach_ok hp hq.2
    simp only [B.ev, beq_eq_false_iff_ne] at h1
    omega
  · cases hq
/-- by cases -/
def provedB : Nat → PC → B → Bool
  | 0, _, _ => false
  | n + 1, pc, b => (match simpB pc b with
    | .lit true => true
    | .lit false => deadPc pc || orderDead pc
    | b' => provedB n (addPc (atomB b') true pc) b' && provedB n (addPc (atomB b') false pc) b')
theorem provedB_ok {ρ : Env} : ∀ {n : Nat} {pc : PC} {b : B}, provedB n pc b = true → PcH ρ pc → b.ev ρ = true
  | 0, _, _, h, _ => by cases h
  | n + 1, pc, b, h, hp => by
    simp only [provedB] at h
    rw [← simpB_ev hp b]
    split at h
    · rename_i hs; rw [hs]; rfl
    · rw [Bool.or_eq_true] at h
      rcases h with h | h
      · exact (deadPc_ok h hp).elim
      · exact (orderDead_ok h hp).elim
    · rename_i h1 h2
      generalize simpB pc b = b' at h
      rw [Bool.and_eq_true] at h
      cases ha : (atomB b').ev ρ
      · exact provedB_ok h.2 (addPc_ok _ false ha hp)
      · exact provedB_ok h.1 (addPc_ok _ true ha hp)
/-- by parts: what is joined by 'and' one by one, of all rows one row; K: a truth that is known -/
def partB : Nat → B → PC → B → Bool
  | 0, _, _, _ => false
  | n + 1, K, pc, b => (match simpB pc b with
    | .lit true => true
    | .lit false => (match K with | .lit false => true | _ => deadPc pc || orderDead pc)
    | .and x y => partB n K pc x && partB n K pc y
    | .ite c x y => (match mkAnd K (mkNot (.ite c x y)) with
      | .lit false => true
      | _ => partB n (cofB c true K) (addPc c true pc) x && partB n (cofB c false K) (addPc c false pc) y)
    | .all k len x => (frPC k pc && frT k (qNum k) len && partB n (bif frB k (qNum k) K then K else .lit true) (addPc (.ltI (.var k) len) true (addPc (.ltI (.var k) (.lit 0)) false pc)) x) || provedB n pc (.all k len x)
    | b' => (match mkAnd K (mkNot b') with
      | .lit false => true
      | _ => provedB 64 pc b'))
theorem known_not {ρ : Env} {K b : B} (hK : K.ev ρ = true) (h : mkAnd K (mkNot b) = .lit false) : b.ev ρ = true := by
  have := mkAnd_ev ρ K (mkNot b)
  rw [h, mkNot_ev, hK] at this
  simp only [B.ev] at this
  cases hb : b.ev ρ
  · rw [hb] at this; cases this
  · rfl
theorem partB_ok : ∀ {n : Nat} {ρ : Env} {K : B} {pc : PC} {b : B}, partB n K pc b = true → K.ev ρ = true → PcH ρ pc → b.ev ρ = true
  | 0, _, _, _, _, h, _, _ => by cases h
  | n + 1, ρ, K, pc, b, h, hK, hp => by
    simp only [partB] at h
    rw [← simpB_ev hp b]
    split at h
    · rename_i hs; rw [hs]; rfl
    · split at h
      · cases hK
      · rw [Bool.or_eq_true] at h
        rcases h with h | h
        · exact (deadPc_ok h hp).elim
        · exact (orderDead_ok h hp).elim
    · rename_i x y hs
      rw [Bool.and_eq_true] at h
      rw [hs]
      simp only [B.ev, partB_ok h.1 hK hp, partB_ok h.2 hK hp, Bool.and_true]
    · rename_i c x y hs
      rw [hs]
      split at h
      · rename_i hk; exact known_not hK hk
      · rw [Bool.and_eq_true] at h
        simp only [B.ev]
        cases hc : c.ev ρ
        · exact partB_ok h.2 (by rw [cofB_ev hc]; exact hK) (addPc_ok c false hc hp)
        · exact partB_ok h.1 (by rw [cofB_ev hc]; exact hK) (addPc_ok c true hc hp)
    · rename_i k len x hs
      rw [hs]
      rw [Bool.or_eq_true] at h
      rcases h with h | h
      · simp only [Bool.and_eq_true] at h
        obtain ⟨⟨h1, h2⟩, h3⟩ := h
        simp only [B.ev, List.all_eq_true, List.mem_range]
        intro j hj
        have hag := Env.at_agree ρ k (qNum k) (j : Int)
        refine partB_ok h3 ?_ (addPc_ok _ true ?_ (addPc_ok _ false ?_ (frPC_ok rfl hag h1 hp)))
        · cases hf : frB k (qNum k) K
          · rfl
          · rw [cond_true, ← frB_ev hf hag]; exact hK
        · have hv : (ρ.at k (j : Int)).v k = j := by simp [Env.at]
          simp only [B.ev, T.ev, decide_eq_true_eq, hv]
          rw [← frT_ev h2 hag]
          omega
        · have hv : (ρ.at k (j : Int)).v k = j := by simp [Env.at]
          simp only [B.ev, T.ev, decide_eq_false_iff_not, hv]
          omega
      · exact provedB_ok h hp
    · split at h
      · rename_i hk; exact known_not hK hk
      · exact provedB_ok h hp
def bigB : B → Bool
  | .eqI a b => !(plainT a && plainT b)
  | .ltI a b => !(plainT a && plainT b)
  | .not a => bigB a
  | .and _ _ => true
  | .eqB _ _ => true
  | .ite _ _ _ => true
  | _ => false
def goodB0 (o : COut) : Bool := (match o.ex with
  | .ret (.bool b) => (match simpB o.pc b with | .lit true => true | _ => false)
  | _ => false) || deadPc o.pc
/-- by cases: the truth, or that a fact can't be -/
def goodC (o : COut) : Bool := (match o.ex with
  | .ret (.bool b) => (match simpB o.pc b with | .lit false => false | b' => provedB 64 o.pc b')
  | _ => false) || o.pc.any fun x => bigB x.1 && provedB 64 (o.pc.filter fun y => !(pcItem x y)) (bif x.2 then mkNot x.1 else x.1)
/-- by cases over all that is known at once -/
def allB (pc : PC) (b : B) : B := mkNot (mkAnd (conj (pc.filter fun x => bigB x.1)) (mkNot b))
def goodD (o : COut) : Bool := match o.ex with
  | .ret (.bool b) => provedB 64 (o.pc.filter fun x => !(bigB x.1)) (allB o.pc b)
  | _ => false
def goodP (o : COut) : Bool := match o.ex with
  | .ret (.bool b) => partB 1000 (conj o.pc) o.pc b
  | _ => false
/-- all facts at once can't be -/
def deadB (pc : PC) : Bool := match conj pc with | .lit false => true | _ => false
theorem deadB_ok {ρ : Env} {pc : PC} (h : deadB pc = true) : ¬ PcH ρ pc := fun hp => by
  unfold deadB at h
  have := conj_ev hp
  split at h
  · rename_i hc; rw [hc] at this; cases this
  · cases h
/-- by the values of a byte -/
def goodY (o : COut) : Bool := match o.ex with
  | .ret (.bool b) => provedY 64 o.pc b
  | _ => false
def bigZ : B → Bool
  | .all _ _ _ => true
  | b => bigB b
/-- a fact that can't be, by parts -/
def goodZ (o : COut) : Bool := o.pc.any fun x => bigZ x.1 && (let r := o.pc.filter fun y => !(pcItem x y); partB 1000 (conj r) r (bif x.2 then mkNot x.1 else x.1))
theorem goodZ_ok {o : COut} (h : goodZ o = true) {ρ : Env} (hp : PcH ρ o.pc) : False := by
  obtain ⟨x, hx, hb⟩ := List.any_eq_true.1 h
  rw [Bool.and_eq_true] at hb
  have hr : PcH ρ (o.pc.filter fun y => !(pcItem x y)) := fun y hy => hp y (List.mem_filter.1 hy).1
  have h1 := partB_ok hb.2 (conj_ev hr) hr
  have h2 := hp x hx
  cases hv : x.2
  · rw [hv] at h1 h2; rw [cond_false, h2] at h1; cases h1
  · rw [hv] at h1 h2; rw [cond_true, mkNot_ev, h2] at h1; cases h1
def goodB (o : COut) : Bool := (goodB0 o || goodP o || deadB o.pc || goodD o || goodC o) || goodY o || goodZ o
theorem goodB0_ok {ρ : Env} {o : COut} (h : goodB0 o = true) (hp : PcH ρ o.pc) : goodOut ρ o := by
  unfold goodB0 at h
  rw [Bool.or_eq_true] at h
  rcases h with h | h
  · split at h
    · rename_i b hb
      refine ⟨b, hb, ?_⟩
      split at h
      · rename_i hs
        rw [← simpB_ev hp b, hs]; rfl
      · cases h
    · cases h
  · exact (deadPc_ok h hp).elim
theorem goodB_ok {ρ : Env} {o : COut} (h : goodB o = true) (hp : PcH ρ o.pc) : goodOut ρ o := by
  unfold goodB at h
  rw [Bool.or_eq_true, Bool.or_eq_true] at h
  rcases h with (h | h) | h
  rotate_left
  rotate_left
  · exact (goodZ_ok h hp).elim
  rotate_left
  · unfold goodY at h
    split at h
    · rename_i b hb
      exact ⟨b, hb, provedY_ok h hp⟩
    · cases h
  rw [Bool.or_eq_true, Bool.or_eq_true, Bool.or_eq_true, Bool.or_eq_true] at h
  rcases h with (((h | h) | h) | h) | h
  · exact goodB0_ok h hp
  · unfold goodP at h
    split at h
    · rename_i b hb
      exact ⟨b, hb, partB_ok h (conj_ev hp) hp⟩
    · cases h
  · exact (deadB_ok h hp).elim
  · unfold goodD at h
    split at h
    · rename_i b hb
      refine ⟨b, hb, ?_⟩
      have h1 := provedB_ok h fun x hx => hp x (List.mem_filter.1 hx).1
      have h2 : (conj (o.pc.filter fun x => bigB x.1)).ev ρ = true := conj_ev fun x hx => hp x (List.mem_filter.1 hx).1
      simp only [allB, mkNot_ev, mkAnd_ev, h2] at h1
      simpa using h1
    · cases h
  · unfold goodC at h
    rw [Bool.or_eq_true] at h
    rcases h with h | h
    · split at h
      · rename_i b hb
        refine ⟨b, hb, ?_⟩
        rw [← simpB_ev hp b]
        split at h
        · cases h
        · exact provedB_ok h hp
      · cases h
    · obtain ⟨x, hx, hb⟩ := List.any_eq_true.1 h
      rw [Bool.and_eq_true] at hb
      have h1 := provedB_ok (ρ := ρ) hb.2 fun y hy => hp y (List.mem_filter.1 hy).1
      have h2 := hp x hx
      cases hv : x.2
      · rw [hv] at h1 h2; rw [cond_false, h2] at h1; cases h1
      · rw [hv] at h1 h2; rw [cond_true, mkNot_ev, h2] at h1; cases h1
def lawGood (C : Cfg) (fuel id : Nat) (is : List (Bool × Nat)) (ks : List FK) (p : List Bool) : Bool := match lawX C fuel id is ks p with
  | some outs => outs.all goodB
  | none => false
def lawAll (C : Cfg) (fuel id : Nat) (ts : List TypeId) : Bool := match paramsS C.P ts with
  | some (is, ks) => Nat.ble ks.length R0 && (patsOf ks).all (lawGood C fuel id is ks)
  | none => false
theorem law_all {H : Type} {enc : TypeId × Value → H} {C : Cfg} (hC : C.Types) (hH : ∀ ρ, HookOk C ρ) {fuel id : Nat} {ts : List TypeId} (h : lawAll C fuel id ts = true)
    {W : World} {base : Nat} {args : Array Value} {ds : List (DataW H)} {ps : List MemPlace} {b0 : Nat} {sp : Nat → Bool} {held : Bool} {r : Reach}
    (hok : ∀ (j : Nat) t v, ts[j]? = some t → args[j]? = some v → Value.okWide C.P W r base t v) (ht : DataW.TrodAll enc C.P W b0 sp held ts args.toList ds ps) :
    Calls C.P id args W fun e W' => e = .returned (.bool true) ∧ RowKit.Below W.heap.size W W' := by
  unfold lawAll at h
  split at h
  · rename_i is ks hps
    rw [Bool.and_eq_true] at h
    have := law_calls hC hH (fuel := fuel) (id := id) hps (Nat.le_of_ble_eq_true h.1) (fun p hp => by
      have := List.all_eq_true.1 h.2 p hp
      unfold lawGood at this
      split at this
      · rename_i outs ho
        exact ⟨outs, ho, fun ρ o hoo hpc => goodB_ok (List.all_eq_true.1 this o hoo) hpc⟩
      · cases this) (vs := args.toList) (fun j t v h1 h2 => hok j t v h1 (by simpa using h2)) ht
    simpa using this
  · cases h
/-- the tables of a program -/
def mkCfg (P : Program) (hook : Nat → List SV → Mem → PC → List Nat → Option (List COut)) (mrg jn jc lp : Nat → Bool) : Cfg :=
  { P := P, ti := getO (tiTr P), fn := getO (fnTr P), eqk := eqAt P, byt := bytAt P, hook := hook, mrg := mrg, jn := jn, jc := jc, lp := lp }
theorem mkCfg_types (P : Program) (hook : Nat → List SV → Mem → PC → List Nat → Option (List COut)) (mrg jn jc lp : Nat → Bool) (h : P.follows .mixedOrders = true) : (mkCfg P hook mrg jn jc lp).Types :=
  ⟨fun _ _ h => tiTr_ok h, fun _ _ h => fnTr_ok h, fun _ _ h => eqAt_ok h, fun _ _ h => bytAt_ok h, h⟩
def noHook : Nat → List SV → Mem → PC → List Nat → Option (List COut) := fun _ _ _ _ _ => none
theorem noHook_ok (P : Program) (mrg jn jc lp : Nat → Bool) (ρ : Env) : HookOk (mkCfg P noHook mrg jn jc lp) ρ := fun _ _ _ _ _ _ h => by cases h
theorem trodAll_len {H : Type} {enc : TypeId × Value → H} {P : Program} {w : World} {b0 : Nat} {sp : Nat → Bool} {held : Bool} : ∀ {ts : List TypeId} {vs : List Value} {ds : List (DataW H)} {ps : List MemPlace},
    DataW.TrodAll enc P w b0 sp held ts vs ds ps → ds.length = ts.length
  | [], [], [], _, _ => rfl
  | _ :: _, _ :: _, _ :: _, _, h => by
    obtain ⟨_, _, _, h, _⟩ := h
    simp [trodAll_len h]
  | [], [], _ :: _, _, h => h.elim
  | [], _ :: _, _, _, h => h.elim
  | _ :: _, [], _, _, h => by simp [DataW.TrodAll] at h
  | _ :: _, _ :: _, [], _, h => h.elim
/-- a type's zero -/
def zeroV (P : Program) (t : TypeId) : Value := match P.info? t with
  | some i => (match i.zero with | some z => z | none => undef)
  | none => undef
end Go.SX
