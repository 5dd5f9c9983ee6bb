/-
  A region that draws its order and ends with an operation that hangs on all the others (a store): the invariant may turn with it.
-/
import Derived.Test.YtlobedanjbcfkaaRely
namespace Go.Proofs.Ytlobedanjbcfkaa
open Go

section
variable {P : Program} {ops : Array Oper} {Q : Exit → Act → World → Prop} {a : Act}
/-- what holds when some have been done -/
structure Mid2 (ops : Array Oper) (deps : Nat → List Nat) (I : Bool → World → Prop) (p : Nat) (V : Nat → World → Value → Prop) (a : Act) (listed : Array Bool) (b : Act) (w : World) (vs : Nat → Value) : Prop where
  size : listed.size = ops.size
  closed : ∀ j, listed.getD j false = true → ∀ i ∈ deps j, listed.getD i false = true
  inv : I (listed.getD p false) w
  vals : ∀ i, listed.getD i false = true → V i w (vs i)
  defers : b.defers = a.defers
  tsize : b.tmps.size = a.tmps.size
  at_ : ∀ i t, listed.getD i false = true → dstOf ops i = some t → b.tmps[t]? = if t < a.tmps.size then some (vs i) else none
  other : ∀ t, (∀ i, listed.getD i false = true → dstOf ops i ≠ some t) → b.tmps[t]? = a.tmps[t]?

theorem rely_st (deps : Nat → List Nat) (hB : relyB ops deps = true) (I : Bool → World → Prop) (p : Nat) (hp : p < ops.size) (hlast : ∀ j, j < ops.size → j ≠ p → j ∈ deps p) (R : World → World → Prop) (V : Nat → World → Value → Prop)
    (hV : ∀ i w1 w2 v, R w1 w2 → V i w1 v → V i w2 v)
    (hstep : ∀ j o, ops[j]? = some o → ∀ (vs : Nat → Value) (w' : World), I false w' → (∀ i ∈ deps j, V i w' (vs i)) →
      wpList P ops (StepQ (actOf ops a (deps j) vs) o fun v w'' => V j w'' v ∧ R w' w'' ∧ I (decide (j = p)) w'') [o] (actOf ops a (deps j) vs) w')
    (hdone : ∀ (vs : Nat → Value) (w' : World), I true w' → (∀ i, i < ops.size → V i w' (vs i)) → Q .normal (actOf ops a (List.range ops.size) vs) w') :
    ∀ (fuel : Nat) (listed : Array Bool) (b : Act) (w : World) (vs : Nat → Value), Mid2 ops deps I p V a listed b w vs → (listed.toList.filter (! ·)).length ≤ fuel → wpAny P .any ops Q fuel listed b w := by
  have hap := relyB_apart hB
  -- when nothing is ready, all are listed
  have full : ∀ (listed : Array Bool) (b : Act) (w : World) (vs : Nat → Value), Mid2 ops deps I p V a listed b w vs → (∀ i, i < ops.size → listed.getD i false = true) → Q .normal b w := by
    intro listed b w vs hm hall
    have hb : b = actOf ops a (List.range ops.size) vs := by
      refine Act.ext' (by rw [hm.defers, actOf_defers]) fun t => ?_
      by_cases ht : ∃ i, i < ops.size ∧ dstOf ops i = some t
      · obtain ⟨i, hi, hd⟩ := ht
        rw [hm.at_ i t (hall i hi) hd, actOf_at ops hap _ vs a t i (List.mem_range.2 hi) hd]
      · have hno : ∀ i, dstOf ops i ≠ some t := fun i hd => by
          by_cases hi : i < ops.size
          · exact ht ⟨i, hi, hd⟩
          · have : ops[i]? = none := by simp; omega
            simp [dstOf, this] at hd
        rw [hm.other t fun i _ => hno i, actOf_other ops _ vs a t fun i _ => hno i]
    rw [hb]
    exact hdone vs w (by have := hm.inv; rwa [hall p hp] at this) fun i hi => hm.vals i (hall i hi)
  -- the least that isn't listed is ready
  have least : ∀ (listed : Array Bool), Region.ready .any ops listed = [] → ∀ i, i < ops.size → listed.size = ops.size → listed.getD i false = true := by
    intro listed hr i
    induction i using Nat.strongRecOn with
    | _ i ih =>
      intro hi hs
      cases hl : listed.getD i false with
      | true => rfl
      | false =>
        exfalso
        obtain ⟨o, ho⟩ : ∃ o, ops[i]? = some o := ⟨_, Array.getElem?_eq_getElem hi⟩
        have hmem : i ∈ Region.ready .any ops listed := by
          refine List.mem_filter.2 ⟨List.mem_range.2 hi, ?_⟩
          have e1 : listed.getD i true = false := by
            have : i < listed.size := by omega
            simp only [Array.getD, this, dif_pos] at hl ⊢
            exact hl
          simp only [e1, Bool.not_false, Bool.true_and, ho, Option.map_some, Option.getD_some]
          refine Array.all_eq_true'.2 fun e he => ?_
          cases hb : Region.binds .any e with
          | false => rfl
          | true =>
            have hlt := (relyB_at hB ho).2.1 e he hb
            rw [ih e.on hlt (by omega) hs]
            rfl
        rw [hr] at hmem
        cases hmem
  intro fuel
  induction fuel with
  | zero =>
    intro listed b w vs hm hf
    have hall : ∀ i, i < ops.size → listed.getD i false = true := fun i hi => by
      cases hl : listed.getD i false with
      | true => rfl
      | false =>
        exfalso
        have hi' : i < listed.size := by rw [hm.size]; exact hi
        have : false ∈ listed.toList.filter (! ·) := by
          refine List.mem_filter.2 ⟨?_, rfl⟩
          simp only [Array.getD, hi', dif_pos] at hl
          rw [← hl]
          exact Array.getElem_mem_toList hi'
        have := List.length_pos_of_mem this
        omega
    refine ⟨?_, full listed b w vs hm hall⟩
    refine List.filter_eq_nil_iff.2 fun i hi => ?_
    have hi' := List.mem_range.1 hi
    have e1 : listed.getD i true = true := by
      have := hall i hi'
      have hs : i < listed.size := by rw [hm.size]; exact hi'
      simp only [Array.getD, hs, dif_pos] at this ⊢
      exact this
    simp [e1]
  | succ fuel ih =>
    intro listed b w vs hm hf
    refine ⟨fun hr => full listed b w vs hm fun i hi => least listed hr i hi hm.size, fun j hj => ?_⟩
    obtain ⟨hjr, hjc⟩ := List.mem_filter.1 hj
    have hjlt := List.mem_range.1 hjr
    obtain ⟨o, ho⟩ : ∃ o, ops[j]? = some o := ⟨_, Array.getElem?_eq_getElem hjlt⟩
    simp only [ho, Option.map_some, Option.getD_some, Bool.and_eq_true, Bool.not_eq_true'] at hjc
    obtain ⟨hjn, hjall⟩ := hjc
    have hjs : j < listed.size := by rw [hm.size]; exact hjlt
    have hjf : listed.getD j false = false := by
      simp only [Array.getD, hjs, dif_pos] at hjn ⊢
      exact hjn
    obtain ⟨hsel, _, hdep, hdst⟩ := relyB_at hB ho
    have hafter : ∀ e ∈ o.after, Region.binds .any e = true → listed.getD e.on false = true := fun e he hb => by
      have := Array.all_eq_true'.1 hjall e he
      simpa [hb] using this
    have hdl : ∀ i ∈ deps j, listed.getD i false = true := fun i hi => by
      obtain ⟨_, _, e, he, hb, h⟩ := hdep i hi
      rcases h with h | h
      · rw [← h]; exact hafter e he hb
      · exact hm.closed e.on (hafter e he hb) i h
    have hslot : ∀ t, t ∈ o.looksAt ops → b.tmps[t]? = (actOf ops a (deps j) vs).tmps[t]? := fun t ht => by
      by_cases hex : ∃ i, dstOf ops i = some t
      · obtain ⟨i, hd⟩ := hex
        rcases (hdst i t hd).2 ht with h | h
        · rw [hm.at_ i t (hdl i h) hd, actOf_at ops hap _ vs a t i h hd]
        · have hil : listed.getD i false ≠ true := fun e => by
            have := hm.closed i e j h
            rw [hjf] at this; cases this
          rw [hm.other t fun k hk e => hil (hap k i t e hd ▸ hk), actOf_other ops _ vs a t fun k hk e => hil (hap k i t e hd ▸ hdl k hk)]
      · rw [hm.other t fun k _ e => hex ⟨k, e⟩, actOf_other ops _ vs a t fun k _ e => hex ⟨k, e⟩]
    have hex : execOp b.eval o = execOp (actOf ops a (deps j) vs).eval o := execOp_congr o hsel fun x hx => eval_congr fun t e => hslot t (by
      subst e
      exact List.mem_append_left _ (List.mem_filterMap.2 ⟨.tmp t, by simpa using hx, rfl⟩))
    have hwant : Region.wanted o (yielded ops b.tmps) = Region.wanted o (yielded ops (actOf ops a (deps j) vs).tmps) := by
      cases hg : o.guard with
      | none => simp [Region.wanted, hg]
      | some gw =>
        obtain ⟨g, want⟩ := gw
        simp only [Region.wanted, hg]
        congr 1
        simp only [yielded]
        cases hgd : (ops[g]?).bind (·.dst) with
        | none => rfl
        | some t =>
          have : t ∈ o.looksAt ops := by
            refine List.mem_append_right _ ?_
            rw [hg]
            simp only [hgd]
            simp
          simp only [Option.bind_some]
          rw [hslot t this]
    have hsz : b.tmps.size = (actOf ops a (deps j) vs).tmps.size := by rw [hm.tsize, actOf_size]
    have hp0 : listed.getD p false = false := by
      cases h : listed.getD p false with
      | false => rfl
      | true =>
        by_cases hjp : j = p
        · subst hjp; rw [hjf] at h; cases h
        · have := hm.closed p h j (hlast j hjlt hjp)
          rw [hjf] at this; cases this
    have hcont : ∀ v w'', (V j w'' v ∧ R w w'' ∧ I (decide (j = p)) w'') → wpAny P .any ops Q fuel (listed.setIfInBounds j true) (b.put o.dst v) w'' := by
      rintro v w'' ⟨hv, hr, hinv⟩
      have hdj : dstOf ops j = o.dst := by simp [dstOf, ho]
      have hset : ∀ i, (listed.setIfInBounds j true).getD i false = true ↔ i = j ∨ listed.getD i false = true := fun i => by
        by_cases hij : j = i
        · subst hij
          simp [Array.getD, hjs]
        · have hne : ¬ i = j := fun e => hij e.symm
          simp [Array.getElem?_setIfInBounds_ne hij, hne]
      refine ih _ _ _ (fun i => if i = j then v else vs i) ⟨by simp [hm.size], fun k hk i hi => ?_, (by
        have e : (listed.setIfInBounds j true).getD p false = decide (j = p) := by
          by_cases hjp : j = p
          · rw [decide_eq_true hjp]; exact (hset p).2 (.inl hjp.symm)
          · rw [decide_eq_false hjp, ← Bool.not_eq_true, hset]
            rintro (h | h)
            · exact hjp h.symm
            · rw [hp0] at h; cases h
        rw [e]; exact hinv), fun i hl => ?_, by rw [put_defers, hm.defers], by rw [put_size, hm.tsize], fun i t hl hd => ?_, fun t hno => ?_⟩ ?_
      · rcases (hset k).1 hk with rfl | hk
        · exact (hset i).2 (.inr (hdl i hi))
        · exact (hset i).2 (.inr (hm.closed k hk i hi))
      · rcases (hset i).1 hl with rfl | hl
        · simpa using hv
        · by_cases hij : i = j
          · subst hij; simpa using hv
          · simp only [hij, if_false]
            exact hV i w w'' _ hr (hm.vals i hl)
      · rw [put_get]
        by_cases hij : i = j
        · subst hij
          rw [hdj] at hd
          simp [hd, hm.tsize]
        · have hne : o.dst ≠ some t := fun e => hij (hap i j t hd (hdj.trans e))
          rcases (hset i).1 hl with h | hl
          · exact absurd h hij
          · rw [if_neg hne, hm.at_ i t hl hd]
            simp [hij]
      · rw [put_get, if_neg (by rw [← hdj]; exact hno j ((hset j).2 (.inl rfl)))]
        exact hm.other t fun i hl => hno i ((hset i).2 (.inr hl))
      · have : (listed.setIfInBounds j true).toList.filter (! ·) = (listed.toList.set j true).filter (! ·) := by simp
        rw [this]
        have hcnt := filter_set_lt listed.toList j (by simpa using hjs) (by
          have : listed.toList[j]? = some false := by
            simp only [Array.getD, hjs, dif_pos] at hjf
            rw [Array.getElem?_toList, Array.getElem?_eq_getElem hjs]
            exact congrArg some hjf
          exact this)
        omega
    have hs := hstep j o ho vs w (by have := hm.inv; rwa [hp0] at this) fun i hi => hm.vals i (hdl i hi)
    simp only [wpOp, ho]
    simp only [wpList] at hs
    rw [hwant]
    split
    · rename_i hw
      rw [if_pos hw] at hs
      rcases hs with hs | ⟨_, a', w', hbad⟩
      · left
        unfold Oper.wp at hs ⊢
        rw [hex]
        generalize (execOp (actOf ops a (deps j) vs).eval o).run P w = r at hs ⊢
        have hval : ∀ v w'', StepQ (actOf ops a (deps j) vs) o (fun v w'' => V j w'' v ∧ R w w'' ∧ I (decide (j = p)) w'') .normal ((actOf ops a (deps j) vs).put o.dst v) w'' → wpAny P .any ops Q fuel (listed.setIfInBounds j true) (b.put o.dst v) w'' := by
          rintro v w'' ⟨_, h⟩
          rw [put_left o (actOf ops a (deps j) vs) b v hsz]
          exact hcont _ w'' h
        cases r with
        | ok n w' =>
          cases n <;> simp only [Oper.upon] at hs ⊢
          case value v => exact hval v w' hs
          case skip => exact hval undef w' hs
          case enter f args =>
            refine Calls.mono hs fun e w'' he => ?_
            cases e with
            | returned v => exact hval v w'' he
            | panicked chain => exact False.elim he
            | outgrown => obtain ⟨_, _, hb⟩ := he; exact False.elim hb
          case row rw' args => exact Rows.mono hs fun v w'' he => hval v w'' he
          case defer d =>
            exfalso
            have := hs.1
            simp only [put_defers] at this
            exact absurd this (by simp)
        | halt x w' => cases x <;> simp only [Oper.upon] at hs <;> exact False.elim hs
      · exact False.elim hbad
    · rename_i hw
      rw [if_neg hw] at hs
      rw [put_left o (actOf ops a (deps j) vs) b undef hsz]
      exact hcont _ w hs.2
end

/-- A REGION THAT DRAWS ITS ORDER, BY WHAT EACH OPERATION GIVES. -/
theorem wp_region_rely2 {P : Program} {ops : Array Oper} {Q : Exit → Act → World → Prop} {a : Act} {w : World} {id : Nat} (hm : P.follows .mixedOrders = true) (deps : Nat → List Nat) (hB : relyB ops deps = true)
    (I : Bool → World → Prop) (p : Nat) (hp : p < ops.size) (hlast : ∀ j, j < ops.size → j ≠ p → j ∈ deps p) (R : World → World → Prop) (V : Nat → World → Value → Prop)
    (hV : ∀ i w1 w2 v, R w1 w2 → V i w1 v → V i w2 v) (hI : I false w.drew)
    (hstep : ∀ j o, ops[j]? = some o → ∀ (vs : Nat → Value) (w' : World), I false w' → (∀ i ∈ deps j, V i w' (vs i)) →
      wpList P ops (StepQ (actOf ops a (deps j) vs) o fun v w'' => V j w'' v ∧ R w' w'' ∧ I (decide (j = p)) w'') [o] (actOf ops a (deps j) vs) w')
    (hdone : ∀ (vs : Nat → Value) (w' : World), I true w' → (∀ i, i < ops.size → V i w' (vs i)) → Q .normal (actOf ops a (List.range ops.size) vs) w') :
    (Code.region id ops true).wp P Q a w := by
  refine wp_region_any hm (rely_st deps hB I p hp hlast R V hV hstep hdone _ _ _ _ (fun _ => undef) ⟨by simp, fun j hj => ?_, (by
    have e : (Array.replicate ops.size false).getD p false = false := by simp [Array.getD]
    rw [e]; exact hI), fun i hi => ?_, rfl, rfl, fun i t hi => ?_, fun _ _ => rfl⟩ (by simp))
  all_goals exfalso
  · by_cases h : j < ops.size <;> simp [Array.getD, h] at hj
  · by_cases h : i < ops.size <;> simp [Array.getD, h] at hi
  · by_cases h : i < ops.size <;> simp [Array.getD, h] at hi

/-- .. over a literal list of operations; 'dsts': their slots; 'ds': of each what it takes its operands from -/
theorem wp_region_rely2_lit {P : Program} {l : List Oper} {Q : Exit → Act → World → Prop} {a : Act} {w : World} {id : Nat} (hm : P.follows .mixedOrders = true) (dsts : List (Option Tmp)) (hdst : (l.map fun o => o.dst) = dsts) (ds : List (List Nat)) (hB : relyB l.toArray (fun j => ds.getD j []) = true)
    (I : Bool → World → Prop) (p : Nat) (hp : p < l.length) (hlast : ((List.range l.length).all fun j => j == p || (ds.getD p []).contains j) = true) (R : World → World → Prop) (V : Nat → World → Value → Prop)
    (hV : ∀ i w1 w2 v, R w1 w2 → V i w1 v → V i w2 v) (hI : I false w.drew)
    (hstep : EachOp (fun j o => ∀ (vs : Nat → Value) (w' : World), I false w' → (∀ i ∈ ds.getD j [], V i w' (vs i)) →
      wpList P (opsFor o l) (StepQ (actD dsts a (ds.getD j []) vs) o fun v w'' => V j w'' v ∧ R w' w'' ∧ I (decide (j = p)) w'') [o] (actD dsts a (ds.getD j []) vs) w') 0 l)
    (hdone : ∀ (vs : Nat → Value) (w' : World), I true w' → (∀ i, i < l.length → V i w' (vs i)) → Q .normal (actD dsts a (List.range l.length) vs) w') :
    (Code.region id l.toArray true).wp P Q a w := by
  subst hdst
  refine wp_region_rely2 hm (fun j => ds.getD j []) hB I p (by simpa using hp) (fun j hj hjp => by
    have := List.all_eq_true.1 hlast j (List.mem_range.2 (by simpa using hj))
    simpa [hjp] using this) R V hV hI (fun j o hj => ?_) (fun vs w' h1 h2 => ?_)
  · intro vs w' h1 h2
    have := EachOp.at_ l 0 hstep j o (by simpa using hj)
    rw [Nat.zero_add] at this
    have := this vs w' h1 h2
    rw [actD_eq]
    unfold opsFor at this
    cases hg : o.guard with
    | none => rw [hg] at this; exact wpList_unguarded hg this
    | some g => rw [hg] at this; exact this
  · rw [actD_eq, List.size_toArray]
    exact hdone vs w' h1 (by simpa using h2)
end Go.Proofs.Ytlobedanjbcfkaa
