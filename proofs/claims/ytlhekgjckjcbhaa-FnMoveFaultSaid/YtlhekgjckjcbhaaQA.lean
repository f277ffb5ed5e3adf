/- A region that draws its order: its head reads, calls what makes new memory alone, AND MAKES ONE BLOCK (an 'alloc' that may come up at any time); its tail stores in a forced order. No function of the program. Conditions: none. -/
import Derived.Test.YtlhekgjckjcbhaaQT
import Derived.Test.YtlhekgjckjcbhaaB1
namespace Go.Proofs.Ytlhekgjckjcbhaa
open Go.RowKit
set_option linter.unusedSimpArgs false
set_option linter.unusedVariables false
set_option maxHeartbeats 1000000

/-- W' is W with new memory. -/
def Dm (W W' : World) : Prop := ∃ x, W' = more W x
theorem Dm.refl (W : World) : Dm W W := ⟨⟨#[], W.drawn⟩, by simp [more]⟩
theorem Dm.trans {a b c : World} (h : Dm a b) (k : Dm b c) : Dm a c := by
  obtain ⟨x, rfl⟩ := h
  obtain ⟨y, rfl⟩ := k
  exact ⟨⟨x.os ++ y.os, y.d⟩, by simp [more, Array.append_assoc]⟩
theorem Dm.alloc (W : World) (o : Obj) : Dm W (W.alloc o) := below_more (bel1 W o)
theorem Dm.below {W W' : World} (h : Dm W W') : Below W.heap.size W W' := by obtain ⟨x, rfl⟩ := h; exact more_below W x

section
variable {P : Program} {ops : Array Oper} {md : Region.Mode} {w0 : World}
def oG (P : Program) (w0 : World) (o : Oper) (a : Act) (v : Value) : Prop := ∀ W, Dm w0 W → o.quietAt P a (Dm W) W v
def qG (P : Program) (ops : Array Oper) (w0 : World) (i : Nat) (K : Act → Prop) (a : Act) : Prop :=
  match ops[i]? with
  | none => K a
  | some o => if Region.wanted o (yielded ops a.tmps) = true then ∃ v, oG P w0 o a v ∧ K (a.put o.dst v) else K (a.put o.dst undef)
def wpG (P : Program) (ops : Array Oper) (w0 : World) (Q : Act → Prop) : List Oper → Act → Prop
  | [], a => Q a
  | o :: rest, a => if Region.wanted o (yielded ops a.tmps) = true then ∃ v, oG P w0 o a v ∧ wpG P ops w0 Q rest (a.put o.dst v) else wpG P ops w0 Q rest (a.put o.dst undef)
theorem qG_mono {i : Nat} {a : Act} {K K' : Act → Prop} (h : ∀ a, K a → K' a) (hh : qG P ops w0 i K a) : qG P ops w0 i K' a := by
  unfold qG at *
  split
  · rename_i ho; rw [ho] at hh; exact h _ hh
  · rename_i o ho
    rw [ho] at hh
    dsimp only at hh
    split
    · rename_i hw; rw [if_pos hw] at hh; obtain ⟨v, h1, h2⟩ := hh; exact ⟨v, h1, h _ h2⟩
    · rename_i hw; rw [if_neg hw] at hh; exact h _ hh
theorem wp_of_oG {o : Oper} {a : Act} {v : Value} {K : Act → World → Prop} {Q : Exit → Act → World → Prop} {W : World} (hW : Dm w0 W) (h : ∀ W', Dm W W' → K (a.put o.dst v) W') (hh : oG P w0 o a v) : o.wp P a W K Q := by
  have h3 := hh W hW
  unfold Oper.quietAt at h3
  unfold Oper.wp
  generalize (execOp a.eval o).run P W = r at *
  cases r with
  | ok n w' =>
    cases n <;> simp only [Oper.quietUpon] at h3 <;> simp only [Oper.upon]
    case value u => obtain ⟨e1, e2⟩ := h3; rw [e1, e2]; exact h _ (Dm.refl _)
    case skip => obtain ⟨e1, e2⟩ := h3; rw [e1, ← e2]; exact h _ (Dm.refl _)
    case enter f args =>
      obtain ⟨e1, hc⟩ := h3
      rw [e1]
      exact hc.mono fun e w'' ⟨he, hw''⟩ => by subst he; exact h _ hw''
  | halt x w' => simp only [Oper.quietUpon] at h3
theorem wpOp_of_qG {i : Nat} {a : Act} {K : Act → Prop} {K' : Act → World → Prop} {Q : Exit → Act → World → Prop} {W : World} (hW : Dm w0 W) (h : ∀ a W', Dm W W' → K a → K' a W') (hh : qG P ops w0 i K a) : wpOp P ops Q i K' a W := by
  unfold qG at hh
  unfold wpOp
  split
  · rename_i ho; rw [ho] at hh; exact h _ _ (Dm.refl _) hh
  · rename_i o ho
    rw [ho] at hh
    dsimp only at hh
    split
    · rename_i hw; rw [if_pos hw] at hh; obtain ⟨v, h1, h2⟩ := hh; exact .inl (wp_of_oG hW (fun W' hW' => h _ _ hW' h2) h1)
    · rename_i hw; rw [if_neg hw] at hh; exact h _ _ (Dm.refl _) hh
/-- What one operation yields. -/
def yG (P : Program) (ops : Array Oper) (w0 : World) (o : Oper) (v : Value) (a : Act) : Prop :=
  (Region.wanted o (yielded ops a.tmps) = true ∧ oG P w0 o a v) ∨ (Region.wanted o (yielded ops a.tmps) = false ∧ v = undef)
theorem yG.q {i : Nat} {o : Oper} {v : Value} {a : Act} (hi : ops[i]? = some o) (hy : yG P ops w0 o v a) {K : Act → Prop} (h : K (a.put o.dst v)) : qG P ops w0 i K a := by
  unfold qG
  rw [hi]
  dsimp only
  rcases hy with ⟨hw, hv⟩ | ⟨hw, rfl⟩
  · rw [if_pos hw]; exact ⟨v, hv, h⟩
  · rw [if_neg (by rw [hw]; exact Bool.false_ne_true)]; exact h
theorem yG.same {o : Oper} {v : Value} {a a' : Act} (hy : yG P ops w0 o v a) (he : execOp a'.eval o = execOp a.eval o) (hw : Region.wanted o (yielded ops a'.tmps) = Region.wanted o (yielded ops a.tmps)) : yG P ops w0 o v a' := by
  unfold yG oG Oper.quietAt at *
  rw [he, hw]
  exact hy
theorem yG_of {i : Nat} {o : Oper} {a : Act} {K : Act → Prop} (hi : ops[i]? = some o) (h : qG P ops w0 i K a) : ∃ v, yG P ops w0 o v a ∧ K (a.put o.dst v) := by
  unfold qG at h
  rw [hi] at h
  dsimp only at h
  by_cases hw : Region.wanted o (yielded ops a.tmps) = true
  · rw [if_pos hw] at h; obtain ⟨v, h1, h2⟩ := h; exact ⟨v, .inl ⟨hw, h1⟩, h2⟩
  · rw [if_neg hw] at h; exact ⟨undef, .inr ⟨by simpa using hw, rfl⟩, h⟩
/-- One operation, apart from another: whether that one's value lies there already makes no difference. -/
theorem qG_put {j : Nat} {oi oj : Oper} {v : Value} (hj : ops[j]? = some oj) (hap : oi.apart ops oj = true) (hsi : ∀ cs b, oi.op ≠ .select cs b) (hsj : ∀ cs b, oj.op ≠ .select cs b) {K : Act → Prop} {a : Act}
    (hy : yG P ops w0 oi v a) (h : qG P ops w0 j K (a.put oi.dst v)) : qG P ops w0 j (fun a' => yG P ops w0 oi v a' ∧ K (a'.put oi.dst v)) a := by
  obtain ⟨h1, h2, h3⟩ := Oper.apart_spec hap
  obtain ⟨u, hu, hK⟩ := yG_of hj h
  refine yG.q hj (hu.same (execOp_put oj hsj a oi.dst v h1).symm (wanted_put oj a oi.dst v h1).symm) ⟨hy.same (execOp_put oi hsi a oj.dst u h3) (wanted_put oi a oj.dst u h3), ?_⟩
  rwa [← Act.put_comm a v u h2]
/-- .. the other way round. -/
theorem qG_over {j : Nat} {oi oj : Oper} {p : Value} (hj : ops[j]? = some oj) (hap : oi.apart ops oj = true) (hsj : ∀ cs b, oj.op ≠ .select cs b) {K : Act → Prop} {a : Act} (h : qG P ops w0 j K a) :
    qG P ops w0 j (fun a' => ∃ a'', a' = a''.put oi.dst p ∧ K a'') (a.put oi.dst p) := by
  obtain ⟨h1, h2, h3⟩ := Oper.apart_spec hap
  obtain ⟨u, hu, hK⟩ := yG_of hj h
  exact yG.q hj (hu.same (execOp_put oj hsj a oi.dst p h1) (wanted_put oj a oi.dst p h1)) ⟨a.put oj.dst u, (Act.put_comm a p u h2), hK⟩

/-- The head but for the operation 'al', in whatever order. -/
def HeadG (P : Program) (md : Region.Mode) (ops : Array Oper) (w0 : World) (n al : Nat) (L : Array Bool → Act → Prop) : Nat → Array Bool → Act → Prop
  | 0, done, a => L done a
  | k + 1, done, a => Region.ready md ops done ≠ [] ∧ ∀ i ∈ Region.ready md ops done, i < n ∧ i ≠ al ∧ qG P ops w0 i (HeadG P md ops w0 n al L k (done.setIfInBounds i true)) a

theorem HeadG.first {n al i : Nat} {oi : Oper} {v : Value} {L : Array Bool → Act → Prop} (hi : ops[i]? = some oi) (hsel : ∀ (j : Nat) (o : Oper) cs b, ops[j]? = some o → o.op ≠ .select cs b)
    (hs : Region.sinkB md ops n = true) (hc : Region.chainB md ops n = true) (hn : n < ops.size) (hin : i < n) (hial : i ≠ al) (hend : ∀ done a, L done a → ∀ j ∈ Region.ready md ops done, n ≤ j) :
    ∀ (k : Nat) (done : Array Bool) (a : Act), HeadInv md ops n done → done.getD al false = true →
      (∀ j oj, ops[j]? = some oj → j ≠ i → done.getD j true = false → (∀ e ∈ oj.after, Region.binds md e = true → e.on ≠ i) → oi.apart ops oj = true) →
      i ∈ Region.ready md ops done → yG P ops w0 oi v a → HeadG P md ops w0 n al L k (done.setIfInBounds i true) (a.put oi.dst v) → HeadG P md ops w0 n al L (k + 1) done a := by
  have notal : ∀ {done : Array Bool} {j : Nat}, done.getD al false = true → j ∈ Region.ready md ops done → j ≠ al := by
    intro done j hal hj hjal
    subst hjal
    have := (mem_ready.1 hj).1
    rw [getD_both this] at hal
    cases hal
  intro k
  induction k with
  | zero =>
    intro done a inv hal _ hr hy H
    have hun := (mem_ready.1 hr).1
    refine ⟨fun h0 => (by rw [h0] at hr; cases hr), fun j hj => ?_⟩
    have hjn : j < n := Nat.lt_of_not_le fun hle => tail_waits hs hc hn inv _ i rfl hin hun j hle hj
    refine ⟨hjn, notal hal hj, ?_⟩
    by_cases hji : j = i
    · subst hji; exact hy.q hi H
    · exact absurd (hend _ _ H j (ready_mono hj hji)) (by omega)
  | succ k ih =>
    intro done a inv hal hfree hr hy H
    have hun := (mem_ready.1 hr).1
    refine ⟨fun h0 => (by rw [h0] at hr; cases hr), fun j hj => ?_⟩
    have hjn : j < n := Nat.lt_of_not_le fun hle => tail_waits hs hc hn inv _ i rfl hin hun j hle hj
    refine ⟨hjn, notal hal hj, ?_⟩
    by_cases hji : j = i
    · subst hji; exact hy.q hi H
    · have hH := (H.2 j (ready_mono hj hji)).2.2
      obtain ⟨hjun, oj, hoj, hall⟩ := mem_ready.1 hj
      have hno : ∀ e ∈ oj.after, Region.binds md e = true → e.on ≠ i := by
        intro e he hb heq
        have := hall e he hb
        rw [heq, getD_both hun] at this
        cases this
      have hput := qG_put hoj (hfree j oj hoj hji hjun hno) (fun cs b => hsel i oi cs b hi) (fun cs b => hsel j oj cs b hoj) hy hH
      refine qG_mono (fun a' h3 => ih (done.setIfInBounds j true) a' (inv.set hj hjn) (getD_set_true hal) ?_ (ready_mono hr (Ne.symm hji)) h3.1 ?_) hput
      · intro q oq hq hqi hqun hqno
        refine hfree q oq hq hqi ?_ hqno
        by_cases hjq : j = q
        · subst hjq; exact hjun
        · rwa [getD_set_ne true hjq] at hqun
      · rw [Array.setIfInBounds_comm _ _ hji]
        exact h3.2
def lexA (md : Region.Mode) (ops : Array Oper) (g n : Nat) : Nat → Nat → Array Bool → Bool
  | 0, _, done => Region.seqB md ops g n done
  | f + 1, k, done => (Region.ready md ops done).contains k && Region.free md ops done k && lexA md ops g n f (k + 1) (done.setIfInBounds k true)
theorem HeadG.lex {n al g : Nat} {Lq : Act → Prop} (hsel : Region.noSelect ops = true) (hs : Region.sinkB md ops n = true) (hc : Region.chainB md ops n = true) (hn : n < ops.size) (hal : al < n) :
    ∀ (l : List Oper) (k : Nat) (done : Array Bool) (a : Act), (∀ j, j < l.length → l[j]? = ops[k + j]?) → k + l.length = al → HeadInv md ops n done → done.getD al false = true →
      lexA md ops g n l.length k done = true → wpG P ops w0 Lq l a → HeadG P md ops w0 n al (fun done' a' => Region.seqB md ops g n done' = true ∧ Lq a') l.length done a := by
  intro l
  induction l with
  | nil => intro k done a _ hk _ _ hB h; exact ⟨hB, h⟩
  | cons o l ih =>
    intro k done a hl hk inv hda hB h
    have h0 : ops[k]? = some o := by simpa using (hl 0 (by simp)).symm
    simp only [List.length_cons, lexA, Bool.and_eq_true] at hB
    obtain ⟨⟨hr, hf⟩, hB'⟩ := hB
    have hkal : k < al := by simp only [List.length_cons] at hk; omega
    have hr' : k ∈ Region.ready md ops done := by simpa using hr
    have hq : qG P ops w0 k (wpG P ops w0 Lq l) a := by unfold qG; rw [h0]; exact h
    obtain ⟨v, hy, hK⟩ := yG_of h0 hq
    refine HeadG.first h0 (Region.noSelect_spec hsel) hs hc hn (by omega) (by omega) (fun done' a' hL => seqB_ready hL.1) l.length done a inv hda (Region.free_spec h0 hf) hr' hy ?_
    refine ih (k + 1) _ _ (fun j hj => ?_) (by simp only [List.length_cons] at hk; omega) (inv.set hr' (by omega)) (getD_set_true hda) hB' hK
    have := hl (j + 1) (by simp; omega)
    simpa [Nat.add_assoc, Nat.add_comm 1 j] using this
/-- The block is there: what is left of the head, then the tail. -/
theorem HeadG.after {n al g : Nat} {oa : Oper} {z : Obj} {L : Array Bool → Act → Prop} {Q : Exit → Act → World → Prop} (hsel : ∀ (j : Nat) (o : Oper) cs b, ops[j]? = some o → o.op ≠ .select cs b)
    (hap : ∀ j oj, ops[j]? = some oj → j < n → j ≠ al → oa.apart ops oj = true) (hlt : n ≤ ops.size)
    (hL : ∀ done a W b, Dm w0 W → w0.heap.size ≤ b → W.heap[b]? = some z → L done a → wpAny P md ops Q g done (a.put oa.dst (.pointer (some ⟨b, 0, none⟩))) W) :
    ∀ (k : Nat) (done : Array Bool) (a : Act) (W : World) (b : Nat), Dm w0 W → w0.heap.size ≤ b → W.heap[b]? = some z → HeadG P md ops w0 n al L k done a → wpAny P md ops Q (k + g) done (a.put oa.dst (.pointer (some ⟨b, 0, none⟩))) W := by
  intro k
  induction k with
  | zero => intro done a W b hW hb hz h; rw [Nat.zero_add]; exact hL _ _ _ _ hW hb hz h
  | succ k ih =>
    intro done a W b hW hb hz h
    rw [show k + 1 + g = (k + g) + 1 by omega]
    refine ⟨fun h0 => absurd h0 h.1, fun i hi => ?_⟩
    obtain ⟨h1, h2, h3⟩ := h.2 i hi
    obtain ⟨oi, hoi⟩ : ∃ oi, ops[i]? = some oi := ⟨_, Array.getElem?_eq_getElem (by omega)⟩
    refine wpOp_of_qG hW ?_ (qG_over (p := .pointer (some ⟨b, 0, none⟩)) hoi (hap i oi hoi h1 h2) (fun cs b => hsel i oi cs b hoi) h3)
    rintro a' W' hW' ⟨a'', rfl, hK⟩
    exact ih _ _ _ _ (hW.trans hW') hb (below_heap hW'.below hz) hK
/-- The block is still to come. -/
theorem HeadG.before {n al g : Nat} {oa : Oper} {z : Obj} {L : Array Bool → Act → Prop} {Q : Exit → Act → World → Prop} (hsel : ∀ (j : Nat) (o : Oper) cs b, ops[j]? = some o → o.op ≠ .select cs b)
    (hs : Region.sinkB md ops n = true) (hc : Region.chainB md ops n = true) (hn : n < ops.size) (hal : al < n) (hoa : ops[al]? = some oa) (hafter : oa.after = #[])
    (hrun : ∀ (K : Act → World → Prop) (a : Act) (W : World), K (a.put oa.dst (.pointer (some ⟨W.heap.size, 0, none⟩))) (W.alloc z) → wpOp P ops Q al K a W)
    (hap : ∀ j oj, ops[j]? = some oj → j < n → j ≠ al → oa.apart ops oj = true) (hend : ∀ done a, L done a → ∀ j ∈ Region.ready md ops done, n ≤ j)
    (hL : ∀ done a W b, Dm w0 W → w0.heap.size ≤ b → W.heap[b]? = some z → L done a → wpAny P md ops Q g done (a.put oa.dst (.pointer (some ⟨b, 0, none⟩))) W) :
    ∀ (k : Nat) (done : Array Bool) (a : Act) (W : World), HeadInv md ops n done → done.getD al true = false → Dm w0 W → HeadG P md ops w0 n al L k (done.setIfInBounds al true) a → wpAny P md ops Q (k + g + 1) done a W := by
  have step : ∀ (k : Nat) (done : Array Bool) (a : Act) (W : World), Dm w0 W → HeadG P md ops w0 n al L k (done.setIfInBounds al true) a → wpOp P ops Q al (wpAny P md ops Q (k + g) (done.setIfInBounds al true)) a W := by
    intro k done a W hW h
    refine hrun _ _ _ (HeadG.after hsel hap (Nat.le_of_lt hn) hL k _ _ _ _ (hW.trans (Dm.alloc _ _)) ?_ (heap_alloc_new W z) h)
    exact hW.below.size
  intro k
  induction k with
  | zero =>
    intro done a W inv hda hW h
    have hra : al ∈ Region.ready md ops done := mem_ready.2 ⟨hda, oa, hoa, by rw [hafter]; intro e he; simp at he⟩
    refine ⟨fun h0 => (by rw [h0] at hra; cases hra), fun i hi => ?_⟩
    by_cases hia : i = al
    · subst hia; exact step 0 done a W hW h
    · have h1 := hend _ _ h i (ready_mono hi hia)
      exact absurd hi (tail_waits hs hc hn inv _ al rfl hal hda i h1)
  | succ k ih =>
    intro done a W inv hda hW h
    have hra : al ∈ Region.ready md ops done := mem_ready.2 ⟨hda, oa, hoa, by rw [hafter]; intro e he; simp at he⟩
    refine ⟨fun h0 => (by rw [h0] at hra; cases hra), fun i hi => ?_⟩
    by_cases hia : i = al
    · subst hia; exact step (k + 1) done a W hW h
    · obtain ⟨h1, h2, h3⟩ := h.2 i (ready_mono hi hia)
      refine wpOp_of_qG hW (fun a' W' hW' hK => ?_) h3
      rw [Array.setIfInBounds_comm _ _ (Ne.symm hia)] at hK
      have := ih (done.setIfInBounds i true) a' W' (inv.set hi h1) (by rw [getD_set_ne true hia]; exact hda) (hW.trans hW') hK
      rwa [show k + 1 + g = k + g + 1 by omega]
/-- A slot that the walk does not write. -/
theorem final_slot {C : World → Prop} {af : Act} {d : Nat} : ∀ (l : List Oper) (a : Act), wpQuiet P ops C (fun a' => a' = af) l a → (∀ o ∈ l, o.dst ≠ some d) → af.tmps[d]? = a.tmps[d]? := by
  intro l
  induction l with
  | nil => intro a h _; have h' : a = af := h; rw [h']
  | cons o l ih =>
    intro a h hd
    have key : ∀ v, (a.put o.dst v).tmps[d]? = a.tmps[d]? := by
      intro v
      have h1 := hd o (by simp)
      unfold Act.put
      cases ho : o.dst with
      | none => rfl
      | some e =>
        rw [ho] at h1
        have hne : e ≠ d := fun hh => h1 (by rw [hh])
        simp [Array.getElem?_setIfInBounds_ne hne]
    unfold wpQuiet at h
    split at h
    · obtain ⟨v, _, h2⟩ := h
      rw [ih _ h2 (fun o' ho' => hd o' (by simp [ho']))]
      exact key v
    · rw [ih _ h (fun o' ho' => hd o' (by simp [ho']))]
      exact key _
def headOk (l : List Oper) (N : Nat) : Bool := l.all (fun o => match o.dst with | some d => decide (d < N) | none => false) && decide ((l.map (·.dst)).Nodup)
theorem wpG_of {af : Act} : ∀ (l : List Oper) (a : Act), headOk l a.tmps.size = true → (∀ W0, Dm w0 W0 → wpQuiet P ops (Dm W0) (fun a' => a' = af) l a) → wpG P ops w0 (fun a' => a' = af) l a := by
  intro l
  induction l with
  | nil => intro a _ h; exact h w0 (Dm.refl _)
  | cons o l ih =>
    intro a hok h
    simp only [headOk, List.all_cons, List.map_cons, List.nodup_cons, Bool.and_eq_true, decide_eq_true_eq] at hok
    obtain ⟨⟨h1, h2⟩, h3, h4⟩ := hok
    cases hod : o.dst with
    | none => rw [hod] at h1; cases h1
    | some d =>
      rw [hod] at h1 h3
      have hd : d < a.tmps.size := by simpa using h1
      have hsz : ∀ v, (a.put o.dst v).tmps.size = a.tmps.size := by intro v; rw [hod]; simp [Act.put]
      have hslot : ∀ v, (a.put o.dst v).tmps[d]? = some v := by intro v; rw [hod]; simp [Act.put, hd]
      have hno : ∀ o' ∈ l, o'.dst ≠ some d := fun o' ho' hh => h3 (List.mem_map.2 ⟨o', ho', hh⟩)
      have hok' : ∀ v, headOk l (a.put o.dst v).tmps.size = true := by intro v; rw [hsz]; simp only [headOk, Bool.and_eq_true, decide_eq_true_eq]; exact ⟨h2, h4⟩
      unfold wpG
      by_cases hw : Region.wanted o (yielded ops a.tmps) = true
      · rw [if_pos hw]
        have each : ∀ W0, Dm w0 W0 → ∃ v, (∀ w, Dm W0 w → o.quietAt P a (Dm W0) w v) ∧ wpQuiet P ops (Dm W0) (fun a' => a' = af) l (a.put o.dst v) ∧ af.tmps[d]? = some v := by
          intro W0 hW0
          have := h W0 hW0
          unfold wpQuiet at this
          rw [if_pos hw] at this
          obtain ⟨v, e1, e2⟩ := this
          exact ⟨v, e1, e2, by rw [final_slot l _ e2 hno, hslot]⟩
        obtain ⟨v, e1, e2, e3⟩ := each w0 (Dm.refl _)
        have uni : ∀ W0, Dm w0 W0 → (∀ w, Dm W0 w → o.quietAt P a (Dm W0) w v) ∧ wpQuiet P ops (Dm W0) (fun a' => a' = af) l (a.put o.dst v) := by
          intro W0 hW0
          obtain ⟨v', f1, f2, f3⟩ := each W0 hW0
          rw [e3] at f3
          cases f3
          exact ⟨f1, f2⟩
        exact ⟨v, fun W hW => (uni W hW).1 W (Dm.refl _), ih _ (hok' v) (fun W0 hW0 => (uni W0 hW0).2)⟩
      · rw [if_neg hw]
        refine ih _ (hok' _) (fun W0 hW0 => ?_)
        have := h W0 hW0
        unfold wpQuiet at this
        rwa [if_neg hw] at this
def checkA (md : Region.Mode) (ops : Array Oper) (al : Nat) : Bool :=
  Region.noSelect ops && decide (al + 1 < ops.size) && Region.sinkB md ops (al + 1) && Region.chainB md ops (al + 1) && lexA md ops (ops.size - (al + 1)) (al + 1) al 0 ((Array.replicate ops.size false).setIfInBounds al true) &&
    (List.range al).all fun j => match ops[al]?, ops[j]? with | some x, some y => x.apart ops y | _, _ => true
end
theorem wp_region_more_alloc {P : Program} {id : Nat} {Q : Exit → Act → World → Prop} {a : Act} {w : World} {l : List Oper} (al : Nat) (af : Act) (oa : Oper) (z : Obj) (hm : P.follows .mixedOrders = true) (hB : checkA .any l.toArray al = true)
    (hoa : l[al]? = some oa) (hafter : oa.after = #[]) (hrun : ∀ (K : Act → World → Prop) (a : Act) (W : World), K (a.put oa.dst (.pointer (some ⟨W.heap.size, 0, none⟩))) (W.alloc z) → wpOp P l.toArray Q al K a W)
    (hds : headOk (l.take al) a.tmps.size = true) (h : ∀ W0, (∃ x, W0 = more w x) → wpQuiet P l.toArray (fun w' => ∃ x, w' = more W0 x) (fun a' => a' = af) (l.take al) a)
    (ht : ∀ W b, (∃ x, W = more w x) → w.heap.size ≤ b → W.heap[b]? = some z → wpList P l.toArray Q (l.drop (al + 1)) (af.put oa.dst (.pointer (some ⟨b, 0, none⟩))) W) : (Code.region id l.toArray true).wp P Q a w := by
  simp only [checkA, Bool.and_eq_true, decide_eq_true_eq] at hB
  obtain ⟨⟨⟨⟨⟨hsel, hn⟩, hs⟩, hc⟩, hlex⟩, hapB⟩ := hB
  have hn' : al + 1 < l.length := by simpa using hn
  have htl : (l.take al).length = al := by rw [List.length_take]; omega
  have hdl : (l.drop (al + 1)).length = l.toArray.size - (al + 1) := by simp
  have hoa' : l.toArray[al]? = some oa := by simpa using hoa
  have hap : ∀ j oj, l.toArray[j]? = some oj → j < al + 1 → j ≠ al → oa.apart l.toArray oj = true := by
    intro j oj hj hjn hjal
    have := List.all_eq_true.1 hapB j (List.mem_range.2 (by omega))
    rw [hoa', hj] at this
    exact this
  have inv0 : HeadInv .any l.toArray (al + 1) (Array.replicate l.toArray.size false) :=
    ⟨by simp, fun j oj _ hl => (by rw [getD_replicate_false] at hl; cases hl), fun t _ ht => getD_in (by simpa using ht) (getD_replicate_false _ _)⟩
  have hra : al ∈ Region.ready .any l.toArray (Array.replicate l.toArray.size false) := mem_ready.2 ⟨getD_in (by simp; omega) (getD_replicate_false _ _), oa, hoa', by rw [hafter]; intro e he; simp at he⟩
  have hD : Dm w { w with drawn := w.drawn + 1 } := ⟨⟨#[], w.drawn + 1⟩, by simp [more]⟩
  have hG : wpG P l.toArray { w with drawn := w.drawn + 1 } (fun a' => a' = af) (l.take al) a := wpG_of _ _ hds (fun W0 hW0 => h W0 (hD.trans hW0))
  have H := HeadG.lex (md := .any) (al := al) (g := l.toArray.size - (al + 1)) hsel hs hc hn (by omega) (l.take al) 0 _ a (fun j hj => by
    rw [htl] at hj
    simp [hj]) (by rw [htl]; omega) (inv0.set hra (by omega)) (by simp; omega) (by rw [htl]; exact hlex) hG
  refine wp_region_any hm ?_
  have hall := HeadG.before (md := .any) (g := l.toArray.size - (al + 1)) (Q := Q) (Region.noSelect_spec hsel) hs hc hn (by omega) hoa' hafter hrun hap (fun done a' hL => seqB_ready hL.1)
    (fun done a' W b hW hb hz hL => by
      have := wpAny_of_seq (md := .any) (ops := l.toArray) (Q' := Q) (l.drop (al + 1)) (al + 1) done (a'.put oa.dst (.pointer (some ⟨b, 0, none⟩))) W (fun j => by simp [List.getElem?_drop]) (by rw [hdl]; exact hL.1)
        (by have e : a' = af := hL.2; rw [e]; exact ht W b (hD.trans hW) hb hz)
      rwa [hdl] at this) (l.take al).length _ a { w with drawn := w.drawn + 1 } inv0 (getD_in (by simp; omega) (getD_replicate_false _ _)) (Dm.refl _) H
  rw [htl, show al + (l.toArray.size - (al + 1)) + 1 = l.toArray.size by omega] at hall
  exact hall
end Go.Proofs.Ytlhekgjckjcbhaa
