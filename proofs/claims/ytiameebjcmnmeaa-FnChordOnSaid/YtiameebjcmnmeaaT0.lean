/- Sets of tones: maps keyed by a step and an alteration. Conditions: none. -/
import Derived.Test.YtiameebjcmnmeaaC0
import Derived.Maps.OwnSet
import Derived.Maps.OwnOps
import Derived.Maps.RangeWalk
import Derived.DeepKeys4
namespace Go.Proofs.Ytiameebjcmnmeaa
open Go.RowKit
open Go.Maps (Keyed)
set_option linter.unusedSimpArgs false
set_option linter.unusedVariables false
set_option maxHeartbeats 4000000
/-! Plain: tones of lists. -/
def hasT (l : List Pit) (p : Pit) : Bool := l.any fun q => decide (q.step = p.step) && decide (q.alter = p.alter)
theorem hasT_iff {l : List Pit} {p : Pit} : hasT l p = true ↔ ∃ q ∈ l, q.step = p.step ∧ q.alter = p.alter := by
  unfold hasT
  rw [List.any_eq_true]
  constructor
  · rintro ⟨q, hq, h⟩; simp at h; exact ⟨q, hq, h⟩
  · rintro ⟨q, hq, h1, h2⟩; exact ⟨q, hq, by simp [h1, h2]⟩
def sameT (a b : List Pit) : Bool := a.all (hasT b) && b.all (hasT a)
theorem nd_len {α : Type} : ∀ {l1 l2 : List α}, l1.Nodup → (∀ x ∈ l1, x ∈ l2) → l1.length ≤ l2.length := by
  classical
  intro l1
  induction l1 with
  | nil => intro l2 _ _; exact Nat.zero_le _
  | cons x t ih =>
    intro l2 hd hs
    have hx := hs x (by simp)
    have hd' := List.nodup_cons.1 hd
    have h1 := ih (l2 := l2.erase x) hd'.2 (fun y hy => (List.mem_erase_of_ne (by rintro rfl; exact hd'.1 hy)).2 (hs y (by simp [hy])))
    have h2 := List.length_erase_of_mem hx
    have h3 : 0 < l2.length := List.length_pos_of_mem hx
    simp only [List.length_cons]
    omega
theorem nd_back {α : Type} {l1 l2 : List α} (hd : l1.Nodup) (hs : ∀ x ∈ l1, x ∈ l2) (hl : l2.length ≤ l1.length) : ∀ y ∈ l2, y ∈ l1 := by
  classical
  intro y hy
  by_cases h : y ∈ l1
  · exact h
  · have := nd_len (l1 := y :: l1) (l2 := l2) (List.nodup_cons.2 ⟨h, hd⟩) (fun x hx => by
      rcases List.mem_cons.1 hx with rfl | hx
      · exact hy
      · exact hs x hx)
    simp only [List.length_cons] at this
    omega
/-! Sets as data. -/
section
variable {H : Type}
theorem atKey_fold (u z : DataW H) (k : Lit) : ∀ (acc : List Lit) (m : DataW H), Maps.IsMap m → (∀ x ∈ acc, WideAt.IsKeyLit x) → (acc.foldl (fun m x => m.put x u) m).atKey k z = if acc.any (fun x => x.sameKey k) = true then u else m.atKey k z
  | [], m, _, _ => by simp
  | x :: r, m, hm, h => by
    rw [List.foldl_cons, atKey_fold u z k r (m.put x u) (hm.put x u) (fun y hy => h y (by simp [hy])), List.any_cons]
    by_cases e : k = x
    · subst e
      rw [Maps.atKey_put_same hm (h k (by simp)), WideAt.sameKey_self (h k (by simp))]
      simp
    · rw [Maps.atKey_put_other e, Maps.sameKey_ne (fun e' => e e'.symm)]
      simp
theorem atKey_setOf (u z : DataW H) (k : Lit) (acc : List Lit) (h : ∀ x ∈ acc, WideAt.IsKeyLit x) : (Maps.setOf u acc).atKey k z = if Maps.has (Maps.setOf u acc) k = true then u else z := by
  rw [Maps.has_setOf u k acc h, Maps.setOf, atKey_fold u z k acc _ Maps.isMap_empty h]
  rfl
end
abbrev tv (s a : Int) : Value := .agg #[.int .i64 s, .int .i64 a]
def tLit (s a : Int) : Lit := .string (keyBytes [.int .i64 s, .int .i64 a])
theorem tLit_key (s a : Int) : WideAt.IsKeyLit (tLit s a) := trivial
theorem tone_row : (67 : TypeId) < Try.prog.types.size := of_decide_eq_true (by kernel_rfl)
theorem tone_wide : (match Try.prog.underlying 67 with | some (.array _ _) | some (.struct _) => true | _ => false) = true := by rw [Try.underlying67]
theorem tone_law : Keyed Try.prog 67 := Keyed.of_law (deep_law_laid x_laidOut (m := 2) (by omega) tone_row (by kernel_rfl) tone_wide)
theorem tone_kt : Try.prog.keyType 67 = true := by kernel_rfl
theorem tone_cells : Try.prog.cellsOf 67 = 2 := by kernel_rfl
theorem int_cells : Try.prog.cellsOf 3 = 1 := by kernel_rfl
theorem tone_zero (w : World) : (zeroValue 4).run Try.prog w = .ok (.bool false) w := by kernel_rfl
theorem tone_key {s a : Int} (hs : (Lit.int .i64 s).wf = true) (ha : (Lit.int .i64 a).wf = true) : Go.keyOf Try.prog 67 (tv s a) = some (tLit s a) := by
  obtain ⟨m, hm⟩ : ∃ m, Try.prog.types.size = m + 1 := by
    cases h : Try.prog.types.size with
    | zero => have := tone_row; rw [h] at this; exact absurd this (Nat.not_lt_zero _)
    | succ m => exact ⟨m, rfl⟩
  unfold Go.keyOf
  simp only [Try.underlying67]
  rw [if_pos (by simp [tone_kt, Value.formed, Try.underlying67, tone_cells]), hm]
  unfold Program.keyLits
  simp only [Try.underlying67, Value.cells]
  rw [if_pos (by rw [tone_cells]; exact ⟨rfl, by kernel_rfl⟩)]
  simp [List.mapM_cons, List.mapM_nil, int_cells, Program.keyLits, Try.underlying3, hs, ha, tLit]
theorem tLit_inj {s a s' a' : Int} (hs : (Lit.int .i64 s).wf = true) (ha : (Lit.int .i64 a).wf = true) (hs' : (Lit.int .i64 s').wf = true) (ha' : (Lit.int .i64 a').wf = true) (h : tLit s a = tLit s' a') : s = s' ∧ a = a' := by
  have h1 := tone_key hs ha
  rw [h] at h1
  have := tone_law.inj h1 (tone_key hs' ha')
  simp only [tv, Value.agg.injEq, Array.mk.injEq, List.cons.injEq, Value.int.injEq, and_true, true_and] at this
  exact this
noncomputable abbrev tR : Value → Option (DataW Unit × List MemPlace) := plainElem (H := Unit) Try.prog 4
def lits (l : List Pit) : List Lit := l.map fun p => tLit p.step p.alter
theorem lits_key (l : List Pit) : ∀ x ∈ lits l, WideAt.IsKeyLit x := by
  intro x hx
  obtain ⟨p, _, rfl⟩ := List.mem_map.1 hx
  trivial
def setP (l : List Pit) : DataW Unit := Maps.setOf (.lit (.bool true)) (lits l)
theorem setP_nil : setP [] = .map [] := rfl
theorem setP_snoc (l : List Pit) (p : Pit) : setP (l ++ [p]) = (setP l).put (tLit p.step p.alter) (.lit (.bool true)) := by
  unfold setP lits
  rw [List.map_append, List.map_cons, List.map_nil, Maps.setOf_snoc]
theorem setP_at (l : List Pit) (k : Lit) : (setP l).atKey k (.lit (.bool false)) = .lit (.bool (Maps.has (setP l) k)) := by
  unfold setP
  rw [atKey_setOf _ _ _ _ (lits_key l)]
  cases Maps.has (Maps.setOf (DataW.lit (.bool true)) (lits l)) k <;> rfl
def WfP (l : List Pit) : Prop := ∀ p ∈ l, (Lit.int .i64 p.step).wf = true ∧ (Lit.int .i64 p.alter).wf = true
theorem has_setP {l : List Pit} {k : Lit} : Maps.has (setP l) k = true ↔ k ∈ lits l := by
  unfold setP
  rw [Maps.has_setOf _ _ _ (lits_key l), List.any_eq_true]
  constructor
  · rintro ⟨x, hx, h⟩
    have := WideAt.sameKey_eq h
    subst this
    exact hx
  · intro h
    exact ⟨k, h, WideAt.sameKey_self (lits_key l k h)⟩
theorem lits_has {a b : List Pit} (ha : WfP a) (hb : WfP b) : (∀ k ∈ lits a, k ∈ lits b) ↔ a.all (hasT b) = true := by
  rw [List.all_eq_true]
  constructor
  · intro h p hp
    obtain ⟨q, hq, e⟩ := List.mem_map.1 (h _ (List.mem_map.2 ⟨p, hp, rfl⟩))
    have := tLit_inj (hb q hq).1 (hb q hq).2 (ha p hp).1 (ha p hp).2 e
    exact hasT_iff.2 ⟨q, hq, this.1, this.2⟩
  · intro h k hk
    obtain ⟨p, hp, rfl⟩ := List.mem_map.1 hk
    obtain ⟨q, hq, h1, h2⟩ := hasT_iff.1 (h p hp)
    exact List.mem_map.2 ⟨q, hq, by rw [h1, h2]⟩
theorem setP_keys {w : World} {b n : Nat} {l : List Pit} (h : w.ownsMap Try.prog 67 tR b n (setP l)) : ∃ ks : List Lit, ks.Nodup ∧ ks.length = Maps.size (setP l) ∧ ∀ k, k ∈ ks ↔ Maps.has (setP l) k = true := by
  obtain ⟨es, he, hp, hk⟩ := h.entries tone_law
  have hs : Maps.size (setP l) = es.length := by rw [he]; rfl
  have hh : ∀ k, Maps.has (setP l) k = es.any (fun p => p.1.sameKey k) := fun k => by rw [he]; rfl
  refine ⟨es.map (·.1), ?_, by rw [hs, List.length_map], fun k => ?_⟩
  · exact List.pairwise_map.2 hp
  · rw [hh, List.any_eq_true]
    constructor
    · intro h
      obtain ⟨p, hp, rfl⟩ := List.mem_map.1 h
      exact ⟨p, hp, WideAt.sameKey_self (hk p hp)⟩
    · rintro ⟨p, hp, h⟩
      exact List.mem_map.2 ⟨p, hp, WideAt.sameKey_eq h⟩
/-- What the loop of sameTones tells. -/
theorem same_sets {w w' : World} {b b' n n' : Nat} {x y : List Pit} (hx : WfP x) (hy : WfP y) (h : w.ownsMap Try.prog 67 tR b n (setP x)) (h' : w'.ownsMap Try.prog 67 tR b' n' (setP y))
    (hl : Maps.size (setP x) = Maps.size (setP y)) (hs : ∀ k, Maps.has (setP x) k = true → Maps.has (setP y) k = true) : sameT x y = true := by
  obtain ⟨k1, d1, l1, m1⟩ := setP_keys h
  obtain ⟨k2, d2, l2, m2⟩ := setP_keys h'
  have hb := nd_back d1 (fun k hk => (m2 k).2 (hs k ((m1 k).1 hk))) (by omega)
  unfold sameT
  rw [Bool.and_eq_true]
  exact ⟨(lits_has hx hy).1 (fun k hk => has_setP.1 (hs k (has_setP.2 hk))), (lits_has hy hx).1 (fun k hk => has_setP.1 ((m1 k).1 (hb k ((m2 k).2 (has_setP.2 hk)))))⟩
theorem not_same_key {x y : List Pit} (hx : WfP x) (hy : WfP y) {k : Lit} (h1 : Maps.has (setP x) k = true) (h2 : Maps.has (setP y) k = false) : sameT x y = false := by
  cases h : sameT x y
  · rfl
  · unfold sameT at h
    rw [Bool.and_eq_true] at h
    have := has_setP.2 ((lits_has hx hy).2 h.1 k (has_setP.1 h1))
    rw [this] at h2
    cases h2
theorem not_same_size {w w' : World} {b b' n n' : Nat} {x y : List Pit} (hx : WfP x) (hy : WfP y) (h : w.ownsMap Try.prog 67 tR b n (setP x)) (h' : w'.ownsMap Try.prog 67 tR b' n' (setP y))
    (hl : Maps.size (setP x) ≠ Maps.size (setP y)) : sameT x y = false := by
  cases hs : sameT x y
  · rfl
  · exfalso
    unfold sameT at hs
    rw [Bool.and_eq_true] at hs
    obtain ⟨k1, d1, l1, m1⟩ := setP_keys h
    obtain ⟨k2, d2, l2, m2⟩ := setP_keys h'
    have a1 := nd_len d1 (fun k hk => (m2 k).2 (has_setP.2 ((lits_has hx hy).2 hs.1 k (has_setP.1 ((m1 k).1 hk)))))
    have a2 := nd_len d2 (fun k hk => (m1 k).2 (has_setP.2 ((lits_has hy hx).2 hs.2 k (has_setP.1 ((m2 k).1 hk)))))
    omega
/-- A look-up in such a set, at the operation. -/
theorem wpList_lookup_set {w : World} {ops : Array Oper} {rest : List Oper} {o : Oper} {a : Act} {Q : Exit → Act → World → Prop}
    (hg : o.guard = none) (m x : Operand) (hop : o.op = Op.lookup 86 m x false) (b n : Nat) (l : List Pit)
    (hm : a.eval m = .map (some b)) (hown : w.ownsMap Try.prog 67 tR b n (setP l)) (key : Value) (kl : Lit) (hx : a.eval x = key) (hkey : Go.keyOf Try.prog 67 key = some kl)
    (hK : wpList Try.prog ops Q rest (a.put o.dst (.bool (Maps.has (setP l) kl))) w) :
    wpList Try.prog ops Q (o :: rest) a w := by
  refine wpList_plain hg fun K' hK' => ?_
  obtain ⟨v, ps, hrun, hv⟩ := hown.lookup tone_law Try.underlying86 (tone_zero w) (plainElem_bool Try.underlying4 false) hkey
  rw [setP_at] at hv
  have hv' : v = .bool (Maps.has (setP l) kl) := by
    unfold tR plainElem at hv
    cases v <;> simp [DataW.trod, Value.cells, Try.underlying4] at hv
    rw [hv.1]
  subst hv'
  unfold Oper.wp
  simp [execOp, hop, hm, hx, hrun, Result.andThen]
  exact hK' _ _ hK
end Go.Proofs.Ytiameebjcmnmeaa
