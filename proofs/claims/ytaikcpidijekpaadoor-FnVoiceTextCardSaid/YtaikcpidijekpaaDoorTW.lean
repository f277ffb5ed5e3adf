/- The voice with a text, in plain Lean: texts cut at spaces. Conditions: none. -/
import Derived.Test.YtaikcpidijekpaaDoorTM
import Derived.Test.YtaikcpidijekpaaDoorTV
import Derived.Lib.Split
import Derived.Lib.SplitLaws
namespace Go.Proofs.YtaikcpidijekpaaDoor
open Go.RowKit
set_option linter.unusedSimpArgs false
set_option linter.unusedVariables false
set_option maxHeartbeats 1000000
set_option maxRecDepth 100000
def consW (w : List UInt8) : List (List UInt8) → List (List UInt8)
  | [] => [w]
  | x :: s => (w ++ x) :: s
/-- The words between spaces. -/
def sp : List UInt8 → List (List UInt8)
  | [] => [[]]
  | c :: r => if c = 32 then [] :: sp r else consW [c] (sp r)
theorem consW_ne (w : List UInt8) (s : List (List UInt8)) : consW w s ≠ [] := by cases s <;> simp [consW]
theorem sp_ne (l : List UInt8) : sp l ≠ [] := by
  cases l with
  | nil => simp [sp]
  | cons c r =>
    unfold sp
    split
    · simp
    · exact consW_ne _ _
theorem consW_nil {s : List (List UInt8)} (h : s ≠ []) : consW [] s = s := by
  cases s with
  | nil => exact absurd rfl h
  | cons x s => rfl
theorem consW_consW (a b : List UInt8) {s : List (List UInt8)} (h : s ≠ []) : consW a (consW b s) = consW (a ++ b) s := by
  cases s with
  | nil => exact absurd rfl h
  | cons x s => simp [consW]
theorem sp_other {c : UInt8} (h : c ≠ 32) (w r : List UInt8) : consW w (sp (c :: r)) = consW (w ++ [c]) (sp r) := by
  have e : sp (c :: r) = consW [c] (sp r) := by rw [sp, if_neg h]
  rw [e]
  exact consW_consW _ _ (sp_ne r)
theorem sp_space (w r : List UInt8) : consW w (sp (32 :: r)) = w :: sp r := by
  have e : sp (32 :: r) = [] :: sp r := by rw [sp, if_pos rfl]
  rw [e]
  simp [consW]
theorem sp_end (w : List UInt8) : consW w (sp []) = [w] := by simp [consW, sp]
theorem sp_app (a : List UInt8) (h : ∀ x ∈ a, x ≠ 32) (b : List UInt8) : sp (a ++ 32 :: b) = a :: sp b := by
  induction a with
  | nil => simp [sp]
  | cons x a ih =>
    rw [List.cons_append, sp, if_neg (h x (by simp)), ih (fun y hy => h y (by simp [hy]))]
    rfl
theorem sp_none (a : List UInt8) (h : ∀ x ∈ a, x ≠ 32) : sp a = [a] := by
  induction a with
  | nil => rfl
  | cons x a ih =>
    rw [sp, if_neg (h x (by simp)), ih (fun y hy => h y (by simp [hy]))]
    rfl
theorem cut32 (l : List UInt8) : (∀ x ∈ l, x ≠ 32) ∨ ∃ a b, l = a ++ 32 :: b ∧ ∀ x ∈ a, x ≠ 32 := by
  induction l with
  | nil => exact .inl (by simp)
  | cons c l ih =>
    by_cases h : c = 32
    · exact .inr ⟨[], l, by simp [h], by simp⟩
    · rcases ih with h2 | ⟨a, b, rfl, h2⟩
      · exact .inl (by simp [h]; exact h2)
      · exact .inr ⟨c :: a, b, rfl, by simp [h]; exact h2⟩
theorem ixb_none (c : UInt8) : ∀ l : List UInt8, (∀ x ∈ l, x ≠ c) → Lib.indexByte l c = -1 := by
  intro l
  induction l with
  | nil => intro _; rfl
  | cons x l ih =>
    intro h
    have hx : (x == c) = false := beq_eq_false_iff_ne.2 (h x (by simp))
    unfold Lib.indexByte
    rw [hx, ih (fun y hy => h y (by simp [hy]))]
    rfl
theorem splitK_sp : ∀ (k : Nat) (l : List UInt8), l.count 32 ≤ k → Lib.splitK [32] 0 k l = sp l := by
  intro k
  induction k with
  | zero =>
    intro l h
    have : ∀ x ∈ l, x ≠ 32 := fun x hx e => by
      subst e
      have := List.count_pos_iff.2 hx
      omega
    rw [sp_none l this]
    rfl
  | succ k ih =>
    intro l h
    unfold Lib.splitK
    rw [Lib.index_one]
    rcases cut32 l with h2 | ⟨a, b, rfl, h2⟩
    · rw [ixb_none 32 l h2, sp_none l h2]
      rfl
    · rw [ixb_app 32 b a h2, sp_app a h2]
      have e : ((a.length : Int) == -1) = false := beq_eq_false_iff_ne.2 (by omega)
      rw [if_neg (by rw [e]; simp)]
      have hc : b.count 32 ≤ k := by
        rw [List.count_append, List.count_cons] at h
        simp at h
        omega
      have e2 : ((a ++ 32 :: b).drop ((a.length : Int).toNat + ([32] : List UInt8).length)) = b := by
        rw [Int.toNat_natCast, show a ++ 32 :: b = (a ++ [32]) ++ b by simp, show a.length + ([32] : List UInt8).length = (a ++ [32]).length by simp, List.drop_left]
      have e3 : ((a ++ 32 :: b).take ((a.length : Int).toNat + 0)) = a := by
        rw [Int.toNat_natCast, Nat.add_zero, List.take_left]
      rw [e2, e3, ih b hc]
theorem split_sp (l : List UInt8) : Lib.split l [32] = sp l := by
  unfold Lib.split
  rw [Lib.count_one]
  exact splitK_sp _ _ (Nat.le_refl _)
theorem join_cons2 (x : List UInt8) {s : List (List UInt8)} (h : s ≠ []) : Lib.join (x :: s) [32] = x ++ 32 :: Lib.join s [32] := by
  cases s with
  | nil => exact absurd rfl h
  | cons y r => rw [Lib.join_cons, Lib.join_cons]; simp [Lib.joinTail]
theorem join_consW (w : List UInt8) (s : List (List UInt8)) (h : s ≠ []) : Lib.join (consW w s) [32] = w ++ Lib.join s [32] := by
  cases s with
  | nil => exact absurd rfl h
  | cons y r => unfold consW; rw [Lib.join_cons, Lib.join_cons]; simp
theorem join_sp (l : List UInt8) : Lib.join (sp l) [32] = l := by
  induction l with
  | nil => rfl
  | cons c r ih =>
    unfold sp
    split
    · rename_i h
      rw [join_cons2 _ (sp_ne r), ih, h]
      rfl
    · rw [join_consW _ _ (sp_ne r), ih]
      rfl
theorem sp_join : ∀ (s : List (List UInt8)), s ≠ [] → (∀ x ∈ s, ∀ c ∈ x, c ≠ 32) → sp (Lib.join s [32]) = s := by
  intro s
  induction s with
  | nil => intro h; exact absurd rfl h
  | cons x s ih =>
    intro _ h
    by_cases hs : s = []
    · subst hs
      rw [Lib.join_one, sp_none x (h x (by simp))]
    · rw [join_cons2 x hs, sp_app x (h x (by simp)), ih hs (fun y hy => h y (by simp [hy]))]
theorem voice_notes {ns : List Nt} (h : voiceValid ns = true) : ns.length ≤ 60 ∧ ∀ n ∈ ns, noteValid n = true := by
  obtain ⟨h1, h2⟩ := voiceValid_iff.1 h
  refine ⟨h1, fun n hn => ?_⟩
  obtain ⟨i, hi, rfl⟩ := List.getElem_of_mem hn
  exact okAt_note hi (h2 i hi)
theorem sp_jn {ns : List Nt} (hn : ns ≠ []) (h : ∀ n ∈ ns, noteValid n = true) : sp (jn ns) = ns.map noteT := by
  unfold jn
  refine sp_join _ (by simpa using hn) ?_
  intro x hx c hc
  obtain ⟨n, hn, rfl⟩ := List.mem_map.1 hx
  exact noteT_space (h n hn) c hc
theorem map_noteT_inj : ∀ (a b : List Nt), (∀ n ∈ a, noteValid n = true) → (∀ n ∈ b, noteValid n = true) → a.map noteT = b.map noteT → a = b := by
  intro a
  induction a with
  | nil => intro b _ _ h; cases b with
    | nil => rfl
    | cons _ _ => simp at h
  | cons x a ih =>
    intro b ha hb h
    cases b with
    | nil => simp at h
    | cons y b =>
      simp only [List.map_cons, List.cons.injEq] at h
      rw [noteT_inj (ha x (by simp)) (hb y (by simp)) h.1, ih b (fun n hn => ha n (by simp [hn])) (fun n hn => hb n (by simp [hn])) h.2]
theorem jn_ne {ns : List Nt} (hn : ns ≠ []) (h : ∀ n ∈ ns, noteValid n = true) : jn ns ≠ [] := by
  cases ns with
  | nil => exact absurd rfl hn
  | cons x r =>
    unfold jn
    rw [List.map_cons, Lib.join_cons]
    intro e
    exact noteT_ne (h x (by simp)) (List.append_eq_nil_iff.1 e).1
open Classical in
/-- The voice with a text. -/
noncomputable def rdV (l : List UInt8) : List Nt × Bool := if h : ∃ v, voiceValid v = true ∧ jn v = l then (h.choose, true) else ([], false)
theorem jn_inj {a b : List Nt} (ha : voiceValid a = true) (hb : voiceValid b = true) (h : jn a = jn b) : a = b := by
  obtain ⟨_, ha2⟩ := voice_notes ha
  obtain ⟨_, hb2⟩ := voice_notes hb
  by_cases ea : a = []
  · subst ea
    by_cases eb : b = []
    · exact eb.symm
    · exact absurd h.symm (jn_ne eb hb2)
  · by_cases eb : b = []
    · subst eb
      exact absurd h (jn_ne ea ha2)
    · have := sp_jn ea ha2
      rw [h, sp_jn eb hb2] at this
      exact (map_noteT_inj _ _ hb2 ha2 this).symm
theorem rdV_yes {v : List Nt} {l : List UInt8} (hv : voiceValid v = true) (h : jn v = l) : rdV l = (v, true) := by
  have he : ∃ v, voiceValid v = true ∧ jn v = l := ⟨v, hv, h⟩
  unfold rdV
  rw [dif_pos he]
  have := he.choose_spec
  rw [jn_inj this.1 hv (this.2.trans h.symm)]
theorem rdV_no {l : List UInt8} (h : ∀ v, voiceValid v = true → jn v ≠ l) : rdV l = ([], false) := by
  unfold rdV
  rw [dif_neg]
  rintro ⟨v, h1, h2⟩
  exact h v h1 h2
theorem rdV_ok {l : List UInt8} (h : (rdV l).2 = true) : voiceValid (rdV l).1 = true ∧ jn (rdV l).1 = l := by
  unfold rdV at h ⊢
  split
  · rename_i he
    exact he.choose_spec
  · rename_i he
    rw [dif_neg he] at h
    cases h
theorem rdV_bad {l : List UInt8} (h : (rdV l).2 = false) : rdV l = ([], false) := by
  unfold rdV at h ⊢
  split
  · rename_i he
    rw [dif_pos he] at h
    cases h
  · rfl
theorem voiceValid_nil : voiceValid [] = true := by decide
theorem rdV_nil : rdV [] = ([], true) := rdV_yes voiceValid_nil jn_nil
/-- What a reader of voices may know of the words: 'ns' were read, 'rest' is left. -/
theorem rdV_word {l : List UInt8} {ns : List Nt} {rest : List (List UInt8)} {word : List UInt8} (hl : l ≠ []) (h : sp l = ns.map noteT ++ word :: rest) (hw : (rdN word).2 = false) : rdV l = ([], false) := by
  refine rdV_no fun v hv e => ?_
  obtain ⟨_, hv2⟩ := voice_notes hv
  have hn : v ≠ [] := fun e2 => by subst e2; exact hl (by rw [← e, jn_nil])
  have h2 := sp_jn hn hv2
  rw [e, h] at h2
  have : word ∈ v.map noteT := by rw [← h2]; simp
  obtain ⟨n, hm, rfl⟩ := List.mem_map.1 this
  rw [rdN_note (hv2 n hm)] at hw
  cases hw
theorem rdV_long {l : List UInt8} {ns : List Nt} {rest : List (List UInt8)} (hl : l ≠ []) (h : sp l = ns.map noteT ++ rest) (hw : 60 < ns.length + rest.length) : rdV l = ([], false) := by
  refine rdV_no fun v hv e => ?_
  obtain ⟨h60, hv2⟩ := voice_notes hv
  have hn : v ≠ [] := fun e2 => by subst e2; exact hl (by rw [← e, jn_nil])
  have h2 := sp_jn hn hv2
  rw [e, h] at h2
  have := congrArg List.length h2
  simp at this
  omega
theorem rdV_end {l : List UInt8} {ns : List Nt} (hl : l ≠ []) (h : sp l = ns.map noteT) (hg : ∀ n ∈ ns, noteValid n = true) : rdV l = (if voiceValid ns = true then (ns, true) else ([], false)) ∧ jn ns = l := by
  have hj : jn ns = l := by unfold jn; rw [← h, join_sp]
  refine ⟨?_, hj⟩
  split
  · rename_i hv
    exact rdV_yes hv hj
  · rename_i hv
    refine rdV_no fun v hv2 e => hv ?_
    have hn : v ≠ [] := fun e2 => by subst e2; exact hl (by rw [← e, jn_nil])
    obtain ⟨_, h3⟩ := voice_notes hv2
    have h2 := sp_jn hn h3
    rw [e, h] at h2
    rw [map_noteT_inj _ _ hg h3 h2]
    exact hv2
theorem vtx_jn {ns : List Nt} (h : voiceValid ns = true) : vtx ns = jn ns := by unfold vtx; rw [if_pos h]
theorem rdV_space (l : List UInt8) : (rdV (32 :: l)).2 = false := by
  have h : sp (32 :: l) = ([] : List Nt).map noteT ++ [] :: sp l := by simp [sp]
  have hw : (rdN []).2 = false := by
    rw [rdN_no (l := []) (fun n hn e => noteT_ne hn e)]
  rw [rdV_word (by simp) h hw]
end Go.Proofs.YtaikcpidijekpaaDoor
