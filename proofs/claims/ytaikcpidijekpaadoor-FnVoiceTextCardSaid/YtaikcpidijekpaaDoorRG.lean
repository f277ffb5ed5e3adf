/- A region that draws its order: for each operation what it leaves in its slot is said (a predicate of the value and the world), and proved from what the operations before it left; whatever order is drawn, all of it holds behind the region. No function of the program. Conditions: none. -/
import Derived.Test.YtaikcpidijekpaaDoorB0
namespace Go.Proofs.YtaikcpidijekpaaDoor
open Go.RowKit
set_option linter.unusedSimpArgs false
set_option linter.unusedVariables false
set_option maxHeartbeats 1000000

/-- The frame with the operations' slots filled. -/
def fillA (a : Act) : List Oper → (Nat → Value) → Nat → Act
  | [], _, _ => a
  | o :: l, vs, k => fillA (a.put o.dst (vs k)) l vs (k + 1)
def updV (vs : Nat → Value) (i : Nat) (v : Value) : Nat → Value := fun j => if j = i then v else vs j
def dstsOk : List Oper → Bool
  | [] => true
  | o :: l => (match o.dst with | none => true | some d => l.all (fun o' => o'.dst != some d)) && dstsOk l
theorem fillA_upd (v : Value) (i : Nat) : ∀ (l : List Oper) (a : Act) (vs : Nat → Value) (k : Nat), i < k → fillA a l (updV vs i v) k = fillA a l vs k := by
  intro l
  induction l with
  | nil => intros; rfl
  | cons o l ih =>
    intro a vs k h
    show fillA (a.put o.dst (updV vs i v k)) l (updV vs i v) (k + 1) = fillA (a.put o.dst (vs k)) l vs (k + 1)
    rw [ih _ _ _ (by omega), show updV vs i v k = vs k by unfold updV; rw [if_neg (by omega)]]
theorem put_fillA (d : Option Tmp) (v : Value) : ∀ (l : List Oper) (a : Act) (vs : Nat → Value) (k : Nat), (∀ x, d = some x → ∀ o ∈ l, o.dst ≠ some x) → (fillA a l vs k).put d v = fillA (a.put d v) l vs k := by
  intro l
  induction l with
  | nil => intros; rfl
  | cons o l ih =>
    intro a vs k h
    show (fillA (a.put o.dst (vs k)) l vs (k + 1)).put d v = fillA ((a.put d v).put o.dst (vs k)) l vs (k + 1)
    rw [ih _ _ _ (fun x hx o' ho' => h x hx o' (List.mem_cons_of_mem _ ho'))]
    congr 1
    exact (Act.put_comm a v (vs k) (fun x hx => h x hx o (by simp))).symm
theorem put_put (a : Act) (d : Option Tmp) (u v : Value) : (a.put d u).put d v = a.put d v := by
  cases d with
  | none => rfl
  | some d => simp [Act.put]
theorem fillA_put (v : Value) : ∀ (l : List Oper) (a : Act) (vs : Nat → Value) (k i : Nat) (o : Oper), dstsOk l = true → l[i]? = some o → (fillA a l vs k).put o.dst v = fillA a l (updV vs (k + i) v) k := by
  intro l
  induction l with
  | nil => intro a vs k i o _ h; simp at h
  | cons p l ih =>
    intro a vs k i o hd hi
    simp only [dstsOk, Bool.and_eq_true] at hd
    obtain ⟨h1, h2⟩ := hd
    cases i with
    | zero =>
      simp at hi
      subst hi
      show (fillA (a.put p.dst (vs k)) l vs (k + 1)).put p.dst v = fillA (a.put p.dst (updV vs (k + 0) v k)) l (updV vs (k + 0) v) (k + 1)
      rw [put_fillA, put_put, fillA_upd _ _ _ _ _ _ (by omega), show updV vs (k + 0) v k = v by unfold updV; rw [if_pos (Nat.add_zero k).symm]]
      intro x hx o' ho'
      rw [hx] at h1
      simpa using List.all_eq_true.1 h1 o' ho'
    | succ i =>
      show (fillA (a.put p.dst (vs k)) l vs (k + 1)).put o.dst v = fillA (a.put p.dst (updV vs (k + (i + 1)) v k)) l (updV vs (k + (i + 1)) v) (k + 1)
      rw [ih _ _ _ i o h2 (by simpa using hi), show updV vs (k + (i + 1)) v k = vs k by unfold updV; rw [if_neg (by omega)], show k + 1 + i = k + (i + 1) by omega]
theorem fillA_self (a : Act) : ∀ (l : List Oper) (k : Nat), ∃ vs, fillA a l vs k = a := by
  intro l
  induction l with
  | nil => intro k; exact ⟨fun _ => undef, rfl⟩
  | cons o l ih =>
    intro k
    obtain ⟨vs, h⟩ := ih (k + 1)
    have key : ∃ u, a.put o.dst u = a := by
      cases hd : o.dst with
      | none => exact ⟨undef, rfl⟩
      | some d =>
        refine ⟨a.tmps.getD d undef, ?_⟩
        simp only [Act.put]
        congr 1
        apply Array.ext_getElem?
        intro j
        rw [Array.getElem?_setIfInBounds]
        split
        · rename_i hj
          subst hj
          split
          · rename_i hlt; simp [hlt]
          · rename_i hlt; simp at hlt; simp [hlt]
        · rfl
    obtain ⟨u, hu⟩ := key
    refine ⟨updV vs k u, ?_⟩
    show fillA (a.put o.dst (updV vs k u k)) l (updV vs k u) (k + 1) = a
    rw [show updV vs k u k = u by unfold updV; rw [if_pos rfl], hu, fillA_upd _ _ _ _ _ _ (by omega), h]

/-- What is still to be paid. -/
def leftC (tick : Nat → Nat) (done : Array Bool) : Nat → Nat
  | 0 => 0
  | n + 1 => leftC tick done n + (if done.getD n true then 0 else tick n)
theorem leftC_far (tick : Nat → Nat) (done : Array Bool) (i : Nat) : ∀ n, n ≤ i → leftC tick (done.setIfInBounds i true) n = leftC tick done n := by
  intro n
  induction n with
  | zero => intro _; rfl
  | succ n ih =>
    intro h
    unfold leftC
    rw [ih (by omega), getD_set_ne true (show i ≠ n by omega)]
theorem leftC_set (tick : Nat → Nat) (done : Array Bool) (i : Nat) (hi : done.getD i true = false) : ∀ n, i < n → leftC tick done n = leftC tick (done.setIfInBounds i true) n + tick i := by
  intro n
  induction n with
  | zero => intro h; omega
  | succ n ih =>
    intro h
    unfold leftC
    by_cases he : i = n
    · subst he
      rw [leftC_far _ _ _ _ (Nat.le_refl _), hi]
      have : (done.setIfInBounds i true).getD i true = true := by
        by_cases hl : i < done.size
        · simp [hl]
        · simp [hl]
      rw [this]
      simp
    · rw [ih (by omega), getD_set_ne true he]
      omega
/-- Each operation waits for earlier ones alone. -/
def backB : List Oper → Nat → Bool
  | [], _ => true
  | o :: l, k => o.after.all (fun e => !Region.binds .any e || decide (e.on < k)) && backB l (k + 1)
theorem backB_spec : ∀ (l : List Oper) (k i : Nat) (o : Oper), backB l k = true → l[i]? = some o → ∀ e ∈ o.after, Region.binds .any e = true → e.on < k + i := by
  intro l
  induction l with
  | nil => intro k i o _ h; simp at h
  | cons p l ih =>
    intro k i o h hi
    simp only [backB, Bool.and_eq_true] at h
    cases i with
    | zero =>
      simp at hi
      subst hi
      intro e he hb
      have := (Array.all_eq_true_iff_forall_mem.1 h.1) e he
      simpa [hb] using this
    | succ i =>
      intro e he hb
      have := ih (k + 1) i o h.2 (by simpa using hi) e he hb
      omega

section
variable {P : Program} {Q : Exit → Act → World → Prop} {F : (Nat → Value) → Act} {l : List Oper} {I : Nat → World → Prop} {J : Nat → Value → World → Prop} {tick : Nat → Nat} {fin : Nat → Bool} {m0 : Nat}
/-- What an operation must leave. -/
def RGGood (I : Nat → World → Prop) (J : Nat → Value → World → Prop) (m i : Nat) (f : Value → Act) (W : World) (a' : Act) (W' : World) : Prop :=
  ∃ v, a' = f v ∧ I m W' ∧ J i v W' ∧ ∀ j u, J j u W → J j u W'
/-- What is asked of operation i; F: the frame with the region's slots filled. -/
def RGStep (P : Program) (Q : Exit → Act → World → Prop) (F : (Nat → Value) → Act) (l : List Oper) (I : Nat → World → Prop) (J : Nat → Value → World → Prop) (tick : Nat → Nat) (fin : Nat → Bool) (m0 : Nat) (i : Nat) (o : Oper) : Prop :=
  ∀ (vs : Nat → Value) (W : World) (m : Nat), (fin i = true → m = m0) → I (m + tick i) W → (∀ e ∈ o.after, Region.binds .any e = true → J e.on (vs e.on) W) → ∀ K : Act → World → Prop,
    (∀ a' W', RGGood I J m i (fun v => (F vs).put o.dst v) W a' W' → K a' W') →
    if Region.wanted o (yielded l.toArray (F vs).tmps) = true then o.wp P (F vs) W K Q else K ((F vs).put o.dst undef) W
def RGAll (P : Program) (Q : Exit → Act → World → Prop) (F : (Nat → Value) → Act) (l : List Oper) (I : Nat → World → Prop) (J : Nat → Value → World → Prop) (tick : Nat → Nat) (fin : Nat → Bool) (m0 : Nat) : List Oper → Nat → Prop
  | [], _ => True
  | o :: r, k => RGStep P Q F l I J tick fin m0 k o ∧ RGAll P Q F l I J tick fin m0 r (k + 1)
theorem RGAll.nil {k : Nat} : RGAll P Q F l I J tick fin m0 [] k := trivial
theorem RGAll.cons {k : Nat} {o : Oper} {r : List Oper} (h : RGStep P Q F l I J tick fin m0 k o) (t : RGAll P Q F l I J tick fin m0 r (k + 1)) : RGAll P Q F l I J tick fin m0 (o :: r) k := ⟨h, t⟩
/-- An operation without a guard. -/
theorem RGAll.plain {k : Nat} {o : Oper} {r : List Oper} (hg : o.guard = none)
    (h : ∀ (vs : Nat → Value) (W : World) (m : Nat), (fin k = true → m = m0) → I (m + tick k) W → (∀ e ∈ o.after, Region.binds .any e = true → J e.on (vs e.on) W) → ∀ K : Act → World → Prop,
      (∀ a' W', RGGood I J m k (fun v => (F vs).put o.dst v) W a' W' → K a' W') → o.wp P (F vs) W K Q) (t : RGAll P Q F l I J tick fin m0 r (k + 1)) : RGAll P Q F l I J tick fin m0 (o :: r) k :=
  ⟨fun vs W m h0 h1 h2 K hK => by rw [if_pos (by simp [Region.wanted, hg])]; exact h vs W m h0 h1 h2 K hK, t⟩
theorem RGAll.get : ∀ (r : List Oper) (k i : Nat) (o : Oper), RGAll P Q F l I J tick fin m0 r k → r[i]? = some o → RGStep P Q F l I J tick fin m0 (k + i) o := by
  intro r
  induction r with
  | nil => intro k i o _ h; simp at h
  | cons p r ih =>
    intro k i o h hi
    cases i with
    | zero => simp at hi; subst hi; exact h.1
    | succ i =>
      have := ih (k + 1) i o h.2 (by simpa using hi)
      rwa [show k + 1 + i = k + (i + 1) by omega] at this
theorem depOf {o : Oper} {vs : Nat → Value} {W : World} (h : ∀ e ∈ o.after, Region.binds .any e = true → J e.on (vs e.on) W) (j : Nat) (hj : o.after.any (fun e => Region.binds .any e && e.on == j) = true) : J j (vs j) W := by
  obtain ⟨i, hi, he⟩ := Array.any_eq_true.1 hj
  simp only [Bool.and_eq_true, beq_iff_eq] at he
  have := h o.after[i] (Array.getElem_mem hi) he.1
  rwa [he.2] at this
theorem allDone (hb : backB l 0 = true) {done : Array Bool} (hs : done.size = l.length) (h : Region.ready .any l.toArray done = []) : ∀ n, ∀ j, j < n → j < l.length → done.getD j true = true := by
  intro n
  induction n with
  | zero => intro j h; omega
  | succ n ih =>
    intro j hj hl
    cases hd : done.getD j true with
    | true => rfl
    | false =>
      have hm : j ∈ Region.ready .any l.toArray done := mem_ready.2 ⟨hd, l[j], by simp [hl], fun e he hbe => by
        have hlt := backB_spec l 0 j l[j] hb (by simp [hl]) e he hbe
        have := ih e.on (by omega) (by omega)
        have hsz : e.on < done.size := by omega
        simp [hsz] at this ⊢
        exact this⟩
      rw [h] at hm
      cases hm
theorem getD_replicate_falseQ (n j : Nat) : (Array.replicate n false).getD j false = false := by
  by_cases h : j < n <;> simp [h]
/-- j comes before i. -/
def ancB (l : List Oper) : Nat → Nat → Nat → Bool
  | 0, _, _ => false
  | f + 1, i, j => match l[i]? with
    | none => false
    | some o => o.after.any (fun e => Region.binds .any e && (e.on == j || ancB l f e.on j))
theorem anc_done {done : Array Bool} (hcl : ∀ (j : Nat) (o : Oper), l[j]? = some o → done.getD j false = true → ∀ e ∈ o.after, Region.binds .any e = true → done.getD e.on false = true) :
    ∀ (f i j : Nat), ancB l f i j = true → (∀ o, l[i]? = some o → ∀ e ∈ o.after, Region.binds .any e = true → done.getD e.on false = true) → done.getD j false = true := by
  intro f
  induction f with
  | zero => intro i j h _; simp [ancB] at h
  | succ f ih =>
    intro i j h hd
    unfold ancB at h
    cases ho : l[i]? with
    | none => rw [ho] at h; cases h
    | some o =>
      rw [ho] at h
      obtain ⟨k, hk, he⟩ := Array.any_eq_true.1 h
      simp only [Bool.and_eq_true, Bool.or_eq_true, beq_iff_eq] at he
      have h1 := hd o ho o.after[k] (Array.getElem_mem hk) he.1
      rcases he.2 with h2 | h2
      · rw [← h2]; exact h1
      · exact ih _ j h2 (fun o' ho' => hcl _ o' ho' h1)
def finB (l : List Oper) (tick : Nat → Nat) (fin : Nat → Bool) : Bool :=
  (List.range l.length).all fun i => !fin i || (List.range l.length).all fun j => tick j == 0 || ancB l l.length i j
theorem wp_region_rg {id : Nat} {a : Act} {w : World} (F : (Nat → Value) → Act) (I : Nat → World → Prop) (J : Nat → Value → World → Prop) (tick : Nat → Nat) (fin : Nat → Bool) (m : Nat) (hF : ∀ vs, fillA a l vs 0 = F vs) (hm : P.follows .mixedOrders = true)
    (hd : dstsOk l = true) (hb : backB l 0 = true) (hfin : finB l tick fin = true) (h0 : I (m + leftC tick (Array.replicate l.length false) l.length) w.drew) (hs : RGAll P Q F l I J tick fin m l 0)
    (hend : ∀ (vs : Nat → Value) (W : World), I m W → (∀ j, j < l.length → J j (vs j) W) → Q .normal (F vs) W) : (Code.region id l.toArray true).wp P Q a w := by
  have hend := fun vs W h1 h2 => (hF vs).symm ▸ hend vs W h1 h2
  refine wp_region_any hm ?_
  have main : ∀ (fuel : Nat) (done : Array Bool) (vs : Nat → Value) (W : World), done.size = l.length → (leftC (fun _ => 1) done l.length ≤ fuel) → (∀ (j : Nat) (o : Oper), l[j]? = some o → done.getD j false = true → ∀ e ∈ o.after, Region.binds .any e = true → done.getD e.on false = true) → I (m + leftC tick done l.length) W →
      (∀ j, j < l.length → done.getD j true = true → J j (vs j) W) → wpAny P .any l.toArray Q fuel done (fillA a l vs 0) W := by
    intro fuel
    induction fuel with
    | zero =>
      intro done vs W hsz hf hcl hI hJ
      have hz : ∀ n, leftC (fun _ => 1) done n = 0 → ∀ j, j < n → done.getD j true = true := by
        intro n
        induction n with
        | zero => intro _ j h; omega
        | succ n ih =>
          intro h j hj
          unfold leftC at h
          by_cases he : j = n
          · subst he
            cases hdj : done.getD j true with
            | true => rfl
            | false => rw [hdj] at h; simp at h
          · exact ih (by omega) j (by omega)
      have hall := hz l.length (by omega)
      have hlz : ∀ n, n ≤ l.length → leftC tick done n = 0 := by
        intro n
        induction n with
        | zero => intro _; rfl
        | succ n ih => intro h; unfold leftC; rw [ih (by omega), hall n (by omega)]; rfl
      refine ⟨?_, hend vs W ?_ fun j hj => hJ j hj (hall j hj)⟩
      · rw [List.eq_nil_iff_forall_not_mem]
        intro j hj
        obtain ⟨h1, o, ho, _⟩ := mem_ready.1 hj
        have hlt : j < l.length := by simpa using (Array.getElem?_eq_some_iff.1 ho).1
        rw [hall j hlt] at h1
        cases h1
      · rw [hlz _ (Nat.le_refl _)] at hI
        exact hI
    | succ fuel ih =>
      intro done vs W hsz hf hcl hI hJ
      refine ⟨fun hr => ?_, fun i hi => ?_⟩
      · have hall := fun j hj => allDone hb hsz hr l.length j hj hj
        have hlz : ∀ n, n ≤ l.length → leftC tick done n = 0 := by
          intro n
          induction n with
          | zero => intro _; rfl
          | succ n ih => intro h; unfold leftC; rw [ih (by omega), hall n (by omega)]; rfl
        rw [hlz _ (Nat.le_refl _)] at hI
        exact hend vs W hI fun j hj => hJ j hj (hall j hj)
      · obtain ⟨h1, o, ho, hall⟩ := mem_ready.1 hi
        have hlt : i < l.length := by simpa using (Array.getElem?_eq_some_iff.1 ho).1
        have ho' : l[i]? = some o := by simpa using ho
        have hst := RGAll.get l 0 i o hs ho'
        rw [Nat.zero_add] at hst
        have e1 := leftC_set tick done i h1 _ hlt
        have e2 := leftC_set (fun _ => 1) done i h1 _ hlt
        rw [e1, ← Nat.add_assoc] at hI
        have hback := backB_spec l 0 i o hb ho'
        have hfm : fin i = true → m + leftC tick (done.setIfInBounds i true) l.length = m := fun hfi => by
          have h3 := List.all_eq_true.1 hfin i (by simpa using hlt)
          rw [hfi] at h3
          simp only [Bool.not_true, Bool.false_or] at h3
          have h4 : ∀ j, j < l.length → tick j = 0 ∨ done.getD j false = true := fun j hj => by
            have h5 := List.all_eq_true.1 h3 j (by simpa using hj)
            simp only [Bool.or_eq_true, beq_iff_eq] at h5
            exact h5.imp (fun h => h) fun h6 => anc_done hcl _ i j h6 (fun o' ho2 => by
              rw [ho'] at ho2
              cases ho2
              exact hall)
          have h7 : ∀ n, n ≤ l.length → leftC tick (done.setIfInBounds i true) n = 0 := by
            intro n
            induction n with
            | zero => intro _; rfl
            | succ n ih =>
              intro h
              unfold leftC
              rw [ih (by omega)]
              rcases h4 n (by omega) with h8 | h8
              · rw [h8]; simp
              · have h9 : (done.setIfInBounds i true).getD n true = true := by
                  have h10 := getD_set_true (i := i) h8
                  have hsz' : n < (done.setIfInBounds i true).size := by simp; omega
                  simp only [Array.getD, hsz', dite_true] at h10 ⊢
                  exact h10
                rw [h9]; simp
          rw [h7 _ (Nat.le_refl _)]
          rfl
        have step := hst vs W _ hfm hI (fun e he hbe => by
          have h3 := hall e he hbe
          have hlt2 : e.on < l.length := by have := hback e he hbe; omega
          refine hJ e.on hlt2 ?_
          have hsz' : e.on < done.size := by omega
          simp [hsz'] at h3 ⊢
          exact h3) (wpAny P .any l.toArray Q fuel (done.setIfInBounds i true)) (fun a' W' hg => by
            obtain ⟨v, ha', hI', hJi, hK⟩ := hg
            subst ha'
            show wpAny _ _ _ _ _ _ ((F vs).put o.dst v) _
            rw [← hF vs]
            rw [fillA_put v l a vs 0 i o hd ho', Nat.zero_add]
            refine ih _ _ _ (by simpa using hsz) (by omega) (fun j o' hj hdj e he hbe => ?_) hI' fun j hj hdj => ?_
            · by_cases hji : j = i
              · subst hji
                rw [ho'] at hj
                cases hj
                exact getD_set_true (hall e he hbe)
              · refine getD_set_true (hcl j o' hj ?_ e he hbe)
                rwa [getD_set_ne false (Ne.symm hji)] at hdj
            by_cases hji : j = i
            · subst hji
              rw [show updV vs j v j = v by unfold updV; rw [if_pos rfl]]
              exact hJi
            · rw [show updV vs i v j = vs j by unfold updV; rw [if_neg hji]]
              rw [getD_set_ne true (Ne.symm hji)] at hdj
              exact hK j _ (hJ j hj hdj))
        rw [← hF vs] at step
        unfold wpOp
        rw [ho]
        dsimp only
        split
        · rename_i hw
          rw [if_pos hw] at step
          exact .inl step
        · rename_i hw
          rw [if_neg hw] at step
          exact step
  obtain ⟨vs, hvs⟩ := fillA_self a l 0
  have := main l.toArray.size (Array.replicate l.length false) vs w.drew (by simp) ?_ (fun j o _ hdj => by rw [getD_replicate_falseQ] at hdj; cases hdj) h0 (fun j hj hdj => by simp [hj] at hdj)
  · rw [hvs] at this
    simpa using this
  · have hle : ∀ n, leftC (fun _ => 1) (Array.replicate l.length false) n ≤ n := by
      intro n
      induction n with
      | zero => exact Nat.le_refl _
      | succ n ih =>
        unfold leftC
        split <;> omega
    simpa using hle l.length
end
end Go.Proofs.YtaikcpidijekpaaDoor
