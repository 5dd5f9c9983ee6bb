/-
  A region that draws its order, once for all orders: each operation is shown at whatever world the others may have left, given only what it hangs on.
-/
import Derived.WalkKit
import Derived.Orders
namespace Go.Proofs.Ythclkljdnmokcaa
open Go

def dstOf (ops : Array Oper) (i : Nat) : Option Tmp := (ops[i]?).bind fun o => o.dst
/-- the slots that an operation looks at are written by what it hangs on, or by what hangs on it, or by nobody; no slot is written twice; what it hangs on is closed -/
def relyB (ops : Array Oper) (deps : Nat → List Nat) : Bool :=
  (List.range ops.size).all fun j =>
    match ops[j]? with
    | none => false
    | some o =>
      (match o.op with | .select _ _ => false | _ => true) &&
      o.after.all (fun e => !Region.binds .any e || decide (e.on < j)) &&
      (deps j).all (fun i => i != j && decide (i < ops.size) && o.after.any fun e => Region.binds .any e && (e.on == i || (deps e.on).contains i)) &&
      (List.range ops.size).all fun i =>
        match dstOf ops i with
        | none => true
        | some d => (i == j || o.dst != some d) && (!(o.looksAt ops).contains d || (deps j).contains i || (deps i).contains j)

/-- the frame with the values of some operations laid -/
def actOf (ops : Array Oper) (a : Act) (is : List Nat) (vs : Nat → Value) : Act :=
  is.foldl (fun a i => a.put (dstOf ops i) (vs i)) a

/-- what an operation left in its slot -/
def left (o : Oper) (a : Act) : Value := match o.dst with | some d => a.tmps.getD d undef | none => undef
/-- how one operation ends: a value, a world -/
def StepQ (a : Act) (o : Oper) (K : Value → World → Prop) : Exit → Act → World → Prop
  | .normal, a', w => a'.defers = a.defers ∧ K (left o a') w
  | _, _, _ => False

theorem put_get (a : Act) (dst : Option Tmp) (v : Value) (t : Nat) :
    (a.put dst v).tmps[t]? = if dst = some t then (if t < a.tmps.size then some v else none) else a.tmps[t]? := by
  cases dst with
  | none => simp [Act.put]
  | some d =>
    simp only [Act.put, Array.getElem?_setIfInBounds, Option.some.injEq]
    by_cases h : d = t
    · subst h; rfl
    · simp [h]
theorem put_size (a : Act) (dst : Option Tmp) (v : Value) : (a.put dst v).tmps.size = a.tmps.size := by
  cases dst <;> simp [Act.put]
theorem put_defers (a : Act) (dst : Option Tmp) (v : Value) : (a.put dst v).defers = a.defers := by
  cases dst <;> rfl
theorem actOf_size (ops : Array Oper) (is : List Nat) (vs : Nat → Value) (a : Act) : (actOf ops a is vs).tmps.size = a.tmps.size := by
  induction is generalizing a with
  | nil => rfl
  | cons i is ih => show (actOf ops (a.put _ _) is vs).tmps.size = _; rw [ih, put_size]
theorem actOf_defers (ops : Array Oper) (is : List Nat) (vs : Nat → Value) (a : Act) : (actOf ops a is vs).defers = a.defers := by
  induction is generalizing a with
  | nil => rfl
  | cons i is ih => show (actOf ops (a.put _ _) is vs).defers = _; rw [ih, put_defers]
/-- no slot twice -/
def DApart (ops : Array Oper) : Prop := ∀ i j d, dstOf ops i = some d → dstOf ops j = some d → i = j
theorem actOf_other (ops : Array Oper) (is : List Nat) (vs : Nat → Value) (a : Act) (t : Nat) (h : ∀ i ∈ is, dstOf ops i ≠ some t) : (actOf ops a is vs).tmps[t]? = a.tmps[t]? := by
  induction is generalizing a with
  | nil => rfl
  | cons i is ih =>
    show (actOf ops (a.put _ _) is vs).tmps[t]? = _
    rw [ih _ (fun j hj => h j (by simp [hj])), put_get, if_neg (h i (by simp))]
theorem actOf_at (ops : Array Oper) (hap : DApart ops) (is : List Nat) (vs : Nat → Value) (a : Act) (t i : Nat) (hi : i ∈ is) (hd : dstOf ops i = some t) : (actOf ops a is vs).tmps[t]? = if t < a.tmps.size then some (vs i) else none := by
  induction is generalizing a with
  | nil => cases hi
  | cons j is ih =>
    show (actOf ops (a.put _ _) is vs).tmps[t]? = _
    by_cases hin : i ∈ is
    · rw [ih _ hin, put_size]
    · have hij : i = j := by simpa [hin] using hi
      subst hij
      rw [actOf_other ops is vs _ t (fun k hk e => hin ((hap k i t e hd) ▸ hk)), put_get, if_pos hd]

theorem put_left (o : Oper) (a b : Act) (v : Value) (hs : b.tmps.size = a.tmps.size) : b.put o.dst v = b.put o.dst (left o (a.put o.dst v)) := by
  cases hd : o.dst with
  | none => rfl
  | some d =>
    by_cases h : d < a.tmps.size
    · have : left o (a.put (some d) v) = v := by
        simp only [left, hd]
        have := put_get a (some d) v d
        simp only [if_true, h] at this
        rw [Array.getD_eq_getD_getElem?, this]; rfl
      rw [this]
    · have hd' : b.tmps.size ≤ d := by rw [hs]; exact Nat.le_of_not_lt h
      simp only [Act.put, Act.mk.injEq, and_true]
      rw [Array.setIfInBounds_eq_of_size_le hd', Array.setIfInBounds_eq_of_size_le hd']
theorem Act.ext' {a b : Act} (h1 : a.defers = b.defers) (h2 : ∀ t : Nat, a.tmps[t]? = b.tmps[t]?) : a = b := by
  cases a; cases b
  simp only [Act.mk.injEq]
  exact ⟨Array.ext_getElem? (by simpa using h2), h1⟩

theorem eval_congr {a b : Act} {x : Operand} (h : ∀ t, x = .tmp t → a.tmps[t]? = b.tmps[t]?) : a.eval x = b.eval x := by
  cases x with
  | tmp t => simp [Act.eval, h t rfl]
  | _ => rfl

theorem filter_set_lt (l : List Bool) (j : Nat) (hj : j < l.length) (h : l[j]? = some false) : ((l.set j true).filter (! ·)).length < (l.filter (! ·)).length := by
  induction l generalizing j with
  | nil => simp at hj
  | cons x l ih =>
    cases j with
    | zero =>
      obtain rfl : x = false := by simpa using h
      simp
    | succ j =>
      have := ih j (by simpa using hj) (by simpa using h)
      cases x <;> simp <;> omega
section
variable {P : Program} {ops : Array Oper} {Q : Exit → Act → World → Prop} {a : Act}
/-- what holds when some have been done -/
structure Mid (ops : Array Oper) (deps : Nat → List Nat) (I : World → Prop) (V : Nat → World → Value → Prop) (a : Act) (listed : Array Bool) (b : Act) (w : World) (vs : Nat → Value) : Prop where
  size : listed.size = ops.size
  closed : ∀ j, listed.getD j false = true → ∀ i ∈ deps j, listed.getD i false = true
  inv : I w
  vals : ∀ i, listed.getD i false = true → V i w (vs i)
  defers : b.defers = a.defers
  tsize : b.tmps.size = a.tmps.size
  at_ : ∀ i t, listed.getD i false = true → dstOf ops i = some t → b.tmps[t]? = if t < a.tmps.size then some (vs i) else none
  other : ∀ t, (∀ i, listed.getD i false = true → dstOf ops i ≠ some t) → b.tmps[t]? = a.tmps[t]?

theorem relyB_at {deps : Nat → List Nat} (hB : relyB ops deps = true) {j : Nat} {o : Oper} (hj : ops[j]? = some o) :
    (∀ cs b, o.op ≠ .select cs b) ∧ (∀ e ∈ o.after, Region.binds .any e = true → e.on < j) ∧ (∀ i ∈ deps j, i ≠ j ∧ i < ops.size ∧ ∃ e ∈ o.after, Region.binds .any e = true ∧ (e.on = i ∨ i ∈ deps e.on)) ∧
    (∀ i d, dstOf ops i = some d → (i = j ∨ o.dst ≠ some d) ∧ (d ∈ o.looksAt ops → i ∈ deps j ∨ j ∈ deps i)) := by
  have hlt : j < ops.size := (Array.getElem?_eq_some_iff.1 hj).1
  have := List.all_eq_true.1 hB j (List.mem_range.2 hlt)
  simp only [hj, Bool.and_eq_true] at this
  obtain ⟨⟨⟨h1, h0⟩, h2⟩, h3⟩ := this
  refine ⟨fun cs b e => (by rw [e] at h1; cases h1), fun e he hb => ?_, fun i hi => ?_, fun i d hd => ?_⟩
  · have := Array.all_eq_true'.1 h0 e he
    simpa [hb] using this
  · have := List.all_eq_true.1 h2 i hi
    simp only [Bool.and_eq_true, bne_iff_ne, ne_eq, decide_eq_true_eq, Array.any_eq_true'] at this
    obtain ⟨⟨h4, h5⟩, e, he, h6⟩ := this
    simp only [Bool.or_eq_true, beq_iff_eq, List.contains_iff_mem] at h6
    exact ⟨h4, h5, e, he, h6.1, h6.2⟩
  · have hi : i < ops.size := by
      cases ho : ops[i]? with
      | none => simp [dstOf, ho] at hd
      | some x => exact (Array.getElem?_eq_some_iff.1 ho).1
    have := List.all_eq_true.1 h3 i (List.mem_range.2 hi)
    simp only [hd, Bool.and_eq_true, Bool.or_eq_true, beq_iff_eq, bne_iff_ne, ne_eq, Bool.not_eq_true', List.contains_iff_mem] at this
    refine ⟨this.1, fun hl => ?_⟩
    rcases this.2 with (h | h) | h
    · rw [← Bool.not_eq_true, List.contains_iff_mem] at h; exact absurd hl h
    · exact .inl h
    · exact .inr h
theorem relyB_apart {deps : Nat → List Nat} (hB : relyB ops deps = true) : DApart ops := by
  intro i j d hi hj
  cases ho : ops[j]? with
  | none => simp [dstOf, ho] at hj
  | some o =>
    have hj' : o.dst = some d := by simpa [dstOf, ho] using hj
    have := ((relyB_at hB ho).2.2.2 i d hi).1
    rcases this with h | h
    · exact h
    · exact absurd hj' h

theorem rely_any (deps : Nat → List Nat) (hB : relyB ops deps = true) (I : World → Prop) (R : World → World → Prop) (V : Nat → World → Value → Prop)
    (hV : ∀ i w1 w2 v, R w1 w2 → V i w1 v → V i w2 v)
    (hstep : ∀ j o, ops[j]? = some o → ∀ (vs : Nat → Value) (w' : World), I w' → (∀ i ∈ deps j, V i w' (vs i)) →
      wpList P ops (StepQ (actOf ops a (deps j) vs) o fun v w'' => V j w'' v ∧ R w' w'' ∧ I w'') [o] (actOf ops a (deps j) vs) w')
    (hdone : ∀ (vs : Nat → Value) (w' : World), I w' → (∀ i, i < ops.size → V i w' (vs i)) → Q .normal (actOf ops a (List.range ops.size) vs) w') :
    ∀ (fuel : Nat) (listed : Array Bool) (b : Act) (w : World) (vs : Nat → Value), Mid ops deps I V a listed b w vs → (listed.toList.filter (! ·)).length ≤ fuel → wpAny P .any ops Q fuel listed b w := by
  have hap := relyB_apart hB
  -- when nothing is ready, all are listed
  have full : ∀ (listed : Array Bool) (b : Act) (w : World) (vs : Nat → Value), Mid ops deps I V a listed b w vs → (∀ i, i < ops.size → listed.getD i false = true) → Q .normal b w := by
    intro listed b w vs hm hall
    have hb : b = actOf ops a (List.range ops.size) vs := by
      refine Act.ext' (by rw [hm.defers, actOf_defers]) fun t => ?_
      by_cases ht : ∃ i, i < ops.size ∧ dstOf ops i = some t
      · obtain ⟨i, hi, hd⟩ := ht
        rw [hm.at_ i t (hall i hi) hd, actOf_at ops hap _ vs a t i (List.mem_range.2 hi) hd]
      · have hno : ∀ i, dstOf ops i ≠ some t := fun i hd => by
          by_cases hi : i < ops.size
          · exact ht ⟨i, hi, hd⟩
          · have : ops[i]? = none := by simp; omega
            simp [dstOf, this] at hd
        rw [hm.other t fun i _ => hno i, actOf_other ops _ vs a t fun i _ => hno i]
    rw [hb]
    exact hdone vs w hm.inv fun i hi => hm.vals i (hall i hi)
  -- the least that isn't listed is ready
  have least : ∀ (listed : Array Bool), Region.ready .any ops listed = [] → ∀ i, i < ops.size → listed.size = ops.size → listed.getD i false = true := by
    intro listed hr i
    induction i using Nat.strongRecOn with
    | _ i ih =>
      intro hi hs
      cases hl : listed.getD i false with
      | true => rfl
      | false =>
        exfalso
        obtain ⟨o, ho⟩ : ∃ o, ops[i]? = some o := ⟨_, Array.getElem?_eq_getElem hi⟩
        have hmem : i ∈ Region.ready .any ops listed := by
          refine List.mem_filter.2 ⟨List.mem_range.2 hi, ?_⟩
          have e1 : listed.getD i true = false := by
            have : i < listed.size := by omega
            simp only [Array.getD, this, dif_pos] at hl ⊢
            exact hl
          simp only [e1, Bool.not_false, Bool.true_and, ho, Option.map_some, Option.getD_some]
          refine Array.all_eq_true'.2 fun e he => ?_
          cases hb : Region.binds .any e with
          | false => rfl
          | true =>
            have hlt := (relyB_at hB ho).2.1 e he hb
            rw [ih e.on hlt (by omega) hs]
            rfl
        rw [hr] at hmem
        cases hmem
  intro fuel
  induction fuel with
  | zero =>
    intro listed b w vs hm hf
    have hall : ∀ i, i < ops.size → listed.getD i false = true := fun i hi => by
      cases hl : listed.getD i false with
      | true => rfl
      | false =>
        exfalso
        have hi' : i < listed.size := by rw [hm.size]; exact hi
        have : false ∈ listed.toList.filter (! ·) := by
          refine List.mem_filter.2 ⟨?_, rfl⟩
          simp only [Array.getD, hi', dif_pos] at hl
          rw [← hl]
          exact Array.getElem_mem_toList hi'
        have := List.length_pos_of_mem this
        omega
    refine ⟨?_, full listed b w vs hm hall⟩
    refine List.filter_eq_nil_iff.2 fun i hi => ?_
    have hi' := List.mem_range.1 hi
    have e1 : listed.getD i true = true := by
      have := hall i hi'
      have hs : i < listed.size := by rw [hm.size]; exact hi'
      simp only [Array.getD, hs, dif_pos] at this ⊢
      exact this
    simp [e1]
  | succ fuel ih =>
    intro listed b w vs hm hf
    refine ⟨fun hr => full listed b w vs hm fun i hi => least listed hr i hi hm.size, fun j hj => ?_⟩
    obtain ⟨hjr, hjc⟩ := List.mem_filter.1 hj
    have hjlt := List.mem_range.1 hjr
    obtain ⟨o, ho⟩ : ∃ o, ops[j]? = some o := ⟨_, Array.getElem?_eq_getElem hjlt⟩
    simp only [ho, Option.map_some, Option.getD_some, Bool.and_eq_true, Bool.not_eq_true'] at hjc
    obtain ⟨hjn, hjall⟩ := hjc
    have hjs : j < listed.size := by rw [hm.size]; exact hjlt
    have hjf : listed.getD j false = false := by
      simp only [Array.getD, hjs, dif_pos] at hjn ⊢
      exact hjn
    obtain ⟨hsel, _, hdep, hdst⟩ := relyB_at hB ho
    have hafter : ∀ e ∈ o.after, Region.binds .any e = true → listed.getD e.on false = true := fun e he hb => by
      have := Array.all_eq_true'.1 hjall e he
      simpa [hb] using this
    have hdl : ∀ i ∈ deps j, listed.getD i false = true := fun i hi => by
      obtain ⟨_, _, e, he, hb, h⟩ := hdep i hi
      rcases h with h | h
      · rw [← h]; exact hafter e he hb
      · exact hm.closed e.on (hafter e he hb) i h
    have hslot : ∀ t, t ∈ o.looksAt ops → b.tmps[t]? = (actOf ops a (deps j) vs).tmps[t]? := fun t ht => by
      by_cases hex : ∃ i, dstOf ops i = some t
      · obtain ⟨i, hd⟩ := hex
        rcases (hdst i t hd).2 ht with h | h
        · rw [hm.at_ i t (hdl i h) hd, actOf_at ops hap _ vs a t i h hd]
        · have hil : listed.getD i false ≠ true := fun e => by
            have := hm.closed i e j h
            rw [hjf] at this; cases this
          rw [hm.other t fun k hk e => hil (hap k i t e hd ▸ hk), actOf_other ops _ vs a t fun k hk e => hil (hap k i t e hd ▸ hdl k hk)]
      · rw [hm.other t fun k _ e => hex ⟨k, e⟩, actOf_other ops _ vs a t fun k _ e => hex ⟨k, e⟩]
    have hex : execOp b.eval o = execOp (actOf ops a (deps j) vs).eval o := execOp_congr o hsel fun x hx => eval_congr fun t e => hslot t (by
      subst e
      exact List.mem_append_left _ (List.mem_filterMap.2 ⟨.tmp t, by simpa using hx, rfl⟩))
    have hwant : Region.wanted o (yielded ops b.tmps) = Region.wanted o (yielded ops (actOf ops a (deps j) vs).tmps) := by
      cases hg : o.guard with
      | none => simp [Region.wanted, hg]
      | some gw =>
        obtain ⟨g, want⟩ := gw
        simp only [Region.wanted, hg]
        congr 1
        simp only [yielded]
        cases hgd : (ops[g]?).bind (·.dst) with
        | none => rfl
        | some t =>
          have : t ∈ o.looksAt ops := by
            refine List.mem_append_right _ ?_
            rw [hg]
            simp only [hgd]
            simp
          simp only [Option.bind_some]
          rw [hslot t this]
    have hsz : b.tmps.size = (actOf ops a (deps j) vs).tmps.size := by rw [hm.tsize, actOf_size]
    have hcont : ∀ v w'', (V j w'' v ∧ R w w'' ∧ I w'') → wpAny P .any ops Q fuel (listed.setIfInBounds j true) (b.put o.dst v) w'' := by
      rintro v w'' ⟨hv, hr, hi⟩
      have hdj : dstOf ops j = o.dst := by simp [dstOf, ho]
      have hset : ∀ i, (listed.setIfInBounds j true).getD i false = true ↔ i = j ∨ listed.getD i false = true := fun i => by
        by_cases hij : j = i
        · subst hij
          simp [Array.getD, hjs]
        · have hne : ¬ i = j := fun e => hij e.symm
          simp [Array.getElem?_setIfInBounds_ne hij, hne]
      refine ih _ _ _ (fun i => if i = j then v else vs i) ⟨by simp [hm.size], fun k hk i hi => ?_, hi, fun i hl => ?_, by rw [put_defers, hm.defers], by rw [put_size, hm.tsize], fun i t hl hd => ?_, fun t hno => ?_⟩ ?_
      · rcases (hset k).1 hk with rfl | hk
        · exact (hset i).2 (.inr (hdl i hi))
        · exact (hset i).2 (.inr (hm.closed k hk i hi))
      · rcases (hset i).1 hl with rfl | hl
        · simpa using hv
        · by_cases hij : i = j
          · subst hij; simpa using hv
          · simp only [hij, if_false]
            exact hV i w w'' _ hr (hm.vals i hl)
      · rw [put_get]
        by_cases hij : i = j
        · subst hij
          rw [hdj] at hd
          simp [hd, hm.tsize]
        · have hne : o.dst ≠ some t := fun e => hij (hap i j t hd (hdj.trans e))
          rcases (hset i).1 hl with h | hl
          · exact absurd h hij
          · rw [if_neg hne, hm.at_ i t hl hd]
            simp [hij]
      · rw [put_get, if_neg (by rw [← hdj]; exact hno j ((hset j).2 (.inl rfl)))]
        exact hm.other t fun i hl => hno i ((hset i).2 (.inr hl))
      · have : (listed.setIfInBounds j true).toList.filter (! ·) = (listed.toList.set j true).filter (! ·) := by simp
        rw [this]
        have hcnt := filter_set_lt listed.toList j (by simpa using hjs) (by
          have : listed.toList[j]? = some false := by
            simp only [Array.getD, hjs, dif_pos] at hjf
            rw [Array.getElem?_toList, Array.getElem?_eq_getElem hjs]
            exact congrArg some hjf
          exact this)
        omega
    have hs := hstep j o ho vs w hm.inv fun i hi => hm.vals i (hdl i hi)
    simp only [wpOp, ho]
    simp only [wpList] at hs
    rw [hwant]
    split
    · rename_i hw
      rw [if_pos hw] at hs
      rcases hs with hs | ⟨_, a', w', hbad⟩
      · left
        unfold Oper.wp at hs ⊢
        rw [hex]
        generalize (execOp (actOf ops a (deps j) vs).eval o).run P w = r at hs ⊢
        have hval : ∀ v w'', StepQ (actOf ops a (deps j) vs) o (fun v w'' => V j w'' v ∧ R w w'' ∧ I w'') .normal ((actOf ops a (deps j) vs).put o.dst v) w'' → wpAny P .any ops Q fuel (listed.setIfInBounds j true) (b.put o.dst v) w'' := by
          rintro v w'' ⟨_, h⟩
          rw [put_left o (actOf ops a (deps j) vs) b v hsz]
          exact hcont _ w'' h
        cases r with
        | ok n w' =>
          cases n <;> simp only [Oper.upon] at hs ⊢
          case value v => exact hval v w' hs
          case skip => exact hval undef w' hs
          case enter f args =>
            refine Calls.mono hs fun e w'' he => ?_
            cases e with
            | returned v => exact hval v w'' he
            | panicked chain => exact False.elim he
            | outgrown => obtain ⟨_, _, hb⟩ := he; exact False.elim hb
          case row rw' args => exact Rows.mono hs fun v w'' he => hval v w'' he
          case defer d =>
            exfalso
            have := hs.1
            simp only [put_defers] at this
            exact absurd this (by simp)
        | halt x w' => cases x <;> simp only [Oper.upon] at hs <;> exact False.elim hs
      · exact False.elim hbad
    · rename_i hw
      rw [if_neg hw] at hs
      rw [put_left o (actOf ops a (deps j) vs) b undef hsz]
      exact hcont _ w hs.2
end

/-- A REGION THAT DRAWS ITS ORDER, BY WHAT EACH OPERATION GIVES. -/
theorem wp_region_rely {P : Program} {ops : Array Oper} {Q : Exit → Act → World → Prop} {a : Act} {w : World} {id : Nat} (hm : P.follows .mixedOrders = true) (deps : Nat → List Nat) (hB : relyB ops deps = true)
    (I : World → Prop) (R : World → World → Prop) (V : Nat → World → Value → Prop)
    (hV : ∀ i w1 w2 v, R w1 w2 → V i w1 v → V i w2 v) (hI : I w.drew)
    (hstep : ∀ j o, ops[j]? = some o → ∀ (vs : Nat → Value) (w' : World), I w' → (∀ i ∈ deps j, V i w' (vs i)) →
      wpList P ops (StepQ (actOf ops a (deps j) vs) o fun v w'' => V j w'' v ∧ R w' w'' ∧ I w'') [o] (actOf ops a (deps j) vs) w')
    (hdone : ∀ (vs : Nat → Value) (w' : World), I w' → (∀ i, i < ops.size → V i w' (vs i)) → Q .normal (actOf ops a (List.range ops.size) vs) w') :
    (Code.region id ops true).wp P Q a w := by
  refine wp_region_any hm (rely_any deps hB I R V hV hstep hdone _ _ _ _ (fun _ => undef) ⟨by simp, fun j hj => ?_, hI, fun i hi => ?_, rfl, rfl, fun i t hi => ?_, fun _ _ => rfl⟩ (by simp))
  all_goals exfalso
  · by_cases h : j < ops.size <;> simp [Array.getD, h] at hj
  · by_cases h : i < ops.size <;> simp [Array.getD, h] at hi
  · by_cases h : i < ops.size <;> simp [Array.getD, h] at hi

/-- one claim for each operation -/
def EachOp (p : Nat → Oper → Prop) : Nat → List Oper → Prop
  | _, [] => True
  | j, o :: r => p j o ∧ EachOp p (j + 1) r
theorem EachOp.at_ {p : Nat → Oper → Prop} : ∀ (l : List Oper) (k : Nat), EachOp p k l → ∀ (j : Nat) (o : Oper), l[j]? = some o → p (k + j) o
  | [], _, _, j, o, h => by simp at h
  | x :: l, k, ⟨h1, h2⟩, 0, o, h => by
    obtain rfl : x = o := by simpa using h
    exact h1
  | x :: l, k, ⟨h1, h2⟩, j + 1, o, h => by
    have := EachOp.at_ l (k + 1) h2 j o (by simpa using h)
    rwa [show k + 1 + j = k + (j + 1) by omega] at this

/-- the frame with the values of some operations laid, by their slots alone -/
def actD (dsts : List (Option Tmp)) (a : Act) (is : List Nat) (vs : Nat → Value) : Act :=
  is.foldl (fun a i => a.put (dsts.getD i none) (vs i)) a
theorem actD_eq (l : List Oper) (a : Act) (is : List Nat) (vs : Nat → Value) : actOf l.toArray a is vs = actD (l.map fun o => o.dst) a is vs := by
  unfold actOf actD
  congr 1
  funext a i
  congr 1
  simp only [dstOf, List.getElem?_toArray, List.getD_eq_getElem?_getD, List.getElem?_map]
  cases l[i]? <;> rfl
theorem wpList_unguarded {P : Program} {ops ops' : Array Oper} {Q : Exit → Act → World → Prop} {o : Oper} {a : Act} {w : World} (hg : o.guard = none) (h : wpList P ops' Q [o] a w) : wpList P ops Q [o] a w := by
  simp only [wpList, Region.wanted, hg, if_true] at h ⊢
  exact h
/-- the operations that a guard asks: none where there is no guard -/
def opsFor (o : Oper) (l : List Oper) : Array Oper := match o.guard with | none => #[] | some _ => l.toArray

/-- .. over a literal list of operations; 'dsts': their slots; 'ds': of each what it takes its operands from -/
theorem wp_region_rely_lit {P : Program} {l : List Oper} {Q : Exit → Act → World → Prop} {a : Act} {w : World} {id : Nat} (hm : P.follows .mixedOrders = true) (dsts : List (Option Tmp)) (hdst : (l.map fun o => o.dst) = dsts) (ds : List (List Nat)) (hB : relyB l.toArray (fun j => ds.getD j []) = true)
    (I : World → Prop) (R : World → World → Prop) (V : Nat → World → Value → Prop)
    (hV : ∀ i w1 w2 v, R w1 w2 → V i w1 v → V i w2 v) (hI : I w.drew)
    (hstep : EachOp (fun j o => ∀ (vs : Nat → Value) (w' : World), I w' → (∀ i ∈ ds.getD j [], V i w' (vs i)) →
      wpList P (opsFor o l) (StepQ (actD dsts a (ds.getD j []) vs) o fun v w'' => V j w'' v ∧ R w' w'' ∧ I w'') [o] (actD dsts a (ds.getD j []) vs) w') 0 l)
    (hdone : ∀ (vs : Nat → Value) (w' : World), I w' → (∀ i, i < l.length → V i w' (vs i)) → Q .normal (actD dsts a (List.range l.length) vs) w') :
    (Code.region id l.toArray true).wp P Q a w := by
  subst hdst
  refine wp_region_rely hm (fun j => ds.getD j []) hB I R V hV hI (fun j o hj => ?_) (fun vs w' h1 h2 => ?_)
  · intro vs w' h1 h2
    have := EachOp.at_ l 0 hstep j o (by simpa using hj)
    rw [Nat.zero_add] at this
    have := this vs w' h1 h2
    rw [actD_eq]
    unfold opsFor at this
    cases hg : o.guard with
    | none => rw [hg] at this; exact wpList_unguarded hg this
    | some g => rw [hg] at this; exact this
  · rw [actD_eq, List.size_toArray]
    exact hdone vs w' h1 (by simpa using h2)
end Go.Proofs.Ythclkljdnmokcaa
