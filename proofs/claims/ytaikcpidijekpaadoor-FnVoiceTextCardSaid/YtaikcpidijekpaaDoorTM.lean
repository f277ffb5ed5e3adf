/- The note with a text, in plain Lean: texts are of one note; what a reader finds in a text. Conditions: none. -/
import Derived.Test.YtaikcpidijekpaaDoorTQ
import Derived.Lib.AtoiTie
import Derived.Lib.IndexBytes
import Derived.Lib.IndexMore
namespace Go.Proofs.YtaikcpidijekpaaDoor
open Go.RowKit
set_option linter.unusedSimpArgs false
set_option linter.unusedVariables false
set_option maxHeartbeats 1000000
set_option maxRecDepth 100000
theorem dig_fin : ∀ k : Fin 10, Lib.digitVal (UInt8.ofNat (48 + k.val)) = some k.val ∧ (48 ≤ (UInt8.ofNat (48 + k.val)).toNat ∧ (UInt8.ofNat (48 + k.val)).toNat ≤ 57) := by decide +kernel
theorem dig_ok {k : Nat} (h : k < 10) : Lib.digitVal (UInt8.ofNat (48 + k)) = some k ∧ (48 ≤ (UInt8.ofNat (48 + k)).toNat ∧ (UInt8.ofNat (48 + k)).toNat ≤ 57) := dig_fin ⟨k, h⟩
theorem dd_small {n : Nat} (h : n < 10) : Lib.decDigits n = [UInt8.ofNat (48 + n)] := by rw [Lib.decDigits, dif_pos h]
theorem dd_big {n : Nat} (h : ¬ n < 10) : Lib.decDigits n = Lib.decDigits (n / 10) ++ [UInt8.ofNat (48 + n % 10)] := by rw [Lib.decDigits, dif_neg h]
theorem dd_digit (n : Nat) : ∀ c ∈ Lib.decDigits n, 48 ≤ c.toNat ∧ c.toNat ≤ 57 := by
  induction n using Nat.strongRecOn with
  | _ n ih =>
    intro c hc
    by_cases h : n < 10
    · rw [dd_small h] at hc
      rw [List.mem_singleton] at hc
      subst hc
      exact (dig_ok h).2
    · rw [dd_big h] at hc
      rcases List.mem_append.1 hc with hc | hc
      · exact ih _ (by omega) c hc
      · rw [List.mem_singleton] at hc
        subst hc
        exact (dig_ok (by omega)).2
theorem decFrom_snoc (b : UInt8) (d : Nat) (hd : Lib.digitVal b = some d) : ∀ (l : List UInt8) (acc m : Nat), Lib.decFrom acc l = some m → Lib.decFrom acc (l ++ [b]) = some (m * 10 + d) := by
  intro l
  induction l with
  | nil =>
    intro acc m h
    simp [Lib.decFrom] at h
    subst h
    simp [Lib.decFrom, hd]
  | cons c l ih =>
    intro acc m h
    rw [List.cons_append]
    unfold Lib.decFrom at h ⊢
    cases hc : Lib.digitVal c with
    | none => rw [hc] at h; simp at h
    | some x => rw [hc] at h; exact ih _ _ h
theorem decFrom_dd (n : Nat) : Lib.decFrom 0 (Lib.decDigits n) = some n := by
  induction n using Nat.strongRecOn with
  | _ n ih =>
    by_cases h : n < 10
    · rw [dd_small h]
      have := decFrom_snoc _ _ (dig_ok h).1 [] 0 0 rfl
      simpa using this
    · rw [dd_big h]
      rw [decFrom_snoc _ _ (dig_ok (show n % 10 < 10 by omega)).1 _ _ _ (ih (n / 10) (by omega))]
      congr 1
      omega
theorem dd_inj {a b : Nat} (h : Lib.decDigits a = Lib.decDigits b) : a = b := by
  have := decFrom_dd a
  rw [h, decFrom_dd b] at this
  exact (Option.some.inj this).symm
theorem dd_ne (n : Nat) : Lib.decDigits n ≠ [] := by
  rw [dd_split]
  simp
theorem atoi_dd {n : Nat} (h : n < 1000) : Lib.atoiAll (Lib.decDigits n) = .ok (n : Int) := by
  rw [Lib.atoiAll_short _ (by have := dd_len h; omega)]
  have hd := decFrom_dd n
  have hg := dd_digit n
  cases hl : Lib.decDigits n with
  | nil => exact absurd hl (dd_ne n)
  | cons c r =>
    rw [hl] at hd hg
    have hc := hg c (by simp)
    have h1 : (c == 45) = false := beq_eq_false_iff_ne.2 (fun e => by subst e; exact absurd hc (by decide))
    have h2 : (c == 43) = false := beq_eq_false_iff_ne.2 (fun e => by subst e; exact absurd hc (by decide))
    have h3 : Lib.decNat (c :: r) = some n := by unfold Lib.decNat; simpa using hd
    show Lib.NumEnd.ofOption (if (c == 45) = true then (Lib.decNat r).map (fun (m : Nat) => -(m : Int)) else if (c == 43) = true then (Lib.decNat r).map (fun (m : Nat) => (m : Int)) else (Lib.decNat (c :: r)).map (fun (m : Nat) => (m : Int))) = _
    rw [h1, h2, h3]
    rfl
theorem ixb_app (c : UInt8) (b : List UInt8) : ∀ a : List UInt8, (∀ x ∈ a, x ≠ c) → Lib.indexByte (a ++ c :: b) c = a.length := by
  intro a
  induction a with
  | nil => intro _; simp [Lib.indexByte]
  | cons x a ih =>
    intro h
    have hx : (x == c) = false := beq_eq_false_iff_ne.2 (h x (by simp))
    have h2 := ih (fun y hy => h y (by simp [hy]))
    rw [List.cons_append]
    unfold Lib.indexByte
    rw [hx, h2]
    have : ((a.length : Int) == -1) = false := beq_eq_false_iff_ne.2 (by omega)
    simp [this]
theorem cut_app (c : UInt8) (a b : List UInt8) (h : ∀ x ∈ a, x ≠ c) : Lib.cut (a ++ c :: b) [c] = (a, b, true) := by
  unfold Lib.cut
  rw [Lib.index_one, ixb_app c b a h, if_pos (by omega)]
  simp
theorem pit_chars : ∀ (s : Fin 7) (a : Fin 5) (o : Fin 9), (pitT ⟨(s.val : Int), (a.val : Int) - 2, (o.val : Int)⟩).all (fun c => c != 47 && c != 32 && c != 114) = true := by decide +kernel
theorem pitT_chars {p : Pit} (h : pitchValid p = true) : ∀ c ∈ pitT p, c ≠ 47 ∧ c ≠ 32 ∧ c ≠ 114 := by
  obtain ⟨s, a, o⟩ := p
  obtain ⟨h1, h2, h3, h4, h5, h6⟩ := pitchValid_iff.1 h
  dsimp only at h1 h2 h3 h4 h5 h6
  have := pit_chars ⟨s.toNat, by omega⟩ ⟨(a + 2).toNat, by omega⟩ ⟨o.toNat, by omega⟩
  dsimp only at this
  rw [show ((s.toNat : Nat) : Int) = s by omega, show (((a + 2).toNat : Nat) : Int) - 2 = a by omega, show ((o.toNat : Nat) : Int) = o by omega, List.all_eq_true] at this
  intro c hc
  have := this c hc
  simp only [Bool.and_eq_true, bne_iff_ne] at this
  exact ⟨this.1.1, this.1.2, this.2⟩
/-- The parts of a note's text. -/
def toneT (n : Nt) : List UInt8 := if n.rest = true then [114] else pitT n.tone
def tailT (n : Nt) : List UInt8 := Lib.decDigits n.ticks.toNat ++ if n.tied = true then [126] else []
theorem noteT_eq {n : Nt} (h : noteValid n = true) : noteT n = toneT n ++ 47 :: tailT n := by unfold noteT; rw [if_pos h]; rfl
theorem noteT_valid {n : Nt} {l : List UInt8} (h : noteT n = l) (hl : l ≠ []) : noteValid n = true := by
  cases hv : noteValid n
  · unfold noteT at h
    rw [hv] at h
    exact absurd h.symm hl
  · rfl
theorem noteT_ne {n : Nt} (h : noteValid n = true) : noteT n ≠ [] := by rw [noteT_eq h]; simp
theorem noteValid_tone {n : Nt} (h : noteValid n = true) : (n.rest = true → n.tone = ⟨0, 0, 0⟩ ∧ n.tied = false) ∧ (n.rest = false → pitchValid n.tone = true) := by
  unfold noteValid at h
  simp only [Bool.and_eq_true] at h
  refine ⟨fun hr => ?_, fun hr => ?_⟩
  · have h2 := h.2
    rw [if_pos hr, Bool.and_eq_true] at h2
    exact ⟨pitEq_iff.1 h2.1, by simpa using h2.2⟩
  · have h2 := h.2
    rw [if_neg (by simp [hr])] at h2
    exact h2
theorem toneT_chars {n : Nt} (h : noteValid n = true) : ∀ c ∈ toneT n, c ≠ 47 ∧ c ≠ 32 := by
  intro c hc
  unfold toneT at hc
  split at hc
  · simp at hc
    subst hc
    decide
  · rename_i hr
    have := pitT_chars ((noteValid_tone h).2 (by simpa using hr)) c hc
    exact ⟨this.1, this.2.1⟩
theorem toneT_rest {n : Nt} (h : noteValid n = true) : (toneT n == [114]) = n.rest := by
  unfold toneT
  cases hr : n.rest
  · rw [if_neg (by simp)]
    refine beq_eq_false_iff_ne.2 fun e => ?_
    have := pitT_chars ((noteValid_tone h).2 hr) 114 (by rw [e]; simp)
    exact this.2.2 rfl
  · rfl
theorem tail_trim {n : Nt} : Lib.trimSuffix (tailT n) [126] = Lib.decDigits n.ticks.toNat ∧ Lib.hasSuffix (tailT n) [126] = n.tied := by
  have hd := dd_digit n.ticks.toNat
  unfold tailT Lib.trimSuffix Lib.hasSuffix
  generalize Lib.decDigits n.ticks.toNat = d at *
  cases hz : n.tied
  · have hs : List.isSuffixOf [126] d = false := by
      cases h : List.isSuffixOf [126] d
      · rfl
      · rw [List.isSuffixOf_iff_suffix] at h
        obtain ⟨a, ha⟩ := h
        have := hd 126 (by rw [← ha]; simp)
        exact absurd this (by decide)
    simp [hs]
  · have hs : List.isSuffixOf [126] (d ++ [126]) = true := by
      rw [List.isSuffixOf_iff_suffix]
      exact List.suffix_append _ _
    simp [hs]
/-- What the program's reader finds in the text of a note. -/
theorem found_impl {n : Nt} {l : List UInt8} (hv : noteValid n = true) (h : noteT n = l) :
    Lib.cut l [47] = (toneT n, tailT n, true) ∧ Lib.atoiAll (Lib.trimSuffix (tailT n) [126]) = .ok n.ticks := by
  obtain ⟨h1, h2⟩ := noteValid_ticks hv
  refine ⟨?_, ?_⟩
  · rw [← h, noteT_eq hv]
    exact cut_app 47 _ _ (fun x hx => (toneT_chars hv x hx).1)
  · rw [tail_trim.1, atoi_dd (by omega)]
    congr 1
    omega
noncomputable def candN (t : List UInt8) (ticks : Int) (tied : Bool) : Nt := ⟨t == [114], if (t == [114]) = true then ⟨0, 0, 0⟩ else (rdP t).1, ticks, tied⟩
theorem candN_tone {n : Nt} (hv : noteValid n = true) : candN (toneT n) n.ticks n.tied = n := by
  have hr := toneT_rest hv
  have ht := noteValid_tone hv
  unfold candN
  rw [hr]
  obtain ⟨r, tn, tk, z⟩ := n
  cases r
  · have h2 := rdP_pit (ht.2 rfl)
    have e : toneT ⟨false, tn, tk, z⟩ = pitT tn := rfl
    rw [e, h2]
    simp
  · have := (ht.1 rfl).1
    dsimp only at this
    subst this
    simp
theorem noteT_inj {a b : Nt} (ha : noteValid a = true) (hb : noteValid b = true) (h : noteT a = noteT b) : a = b := by
  obtain ⟨e1, e2⟩ := found_impl ha rfl
  obtain ⟨e3, e4⟩ := found_impl hb rfl
  rw [h, e3] at e1
  simp only [Prod.mk.injEq, and_true] at e1
  obtain ⟨et, el⟩ := e1
  rw [← el, e4] at e2
  have ek : b.ticks = a.ticks := by injection e2
  have ez : b.tied = a.tied := by rw [← (tail_trim (n := b)).2, el, (tail_trim (n := a)).2]
  rw [← candN_tone ha, ← candN_tone hb, et, ek, ez]
open Classical in
noncomputable def rdN (l : List UInt8) : Nt × Bool := if h : ∃ n, noteValid n = true ∧ noteT n = l then (h.choose, true) else (⟨false, ⟨0, 0, 0⟩, 0, false⟩, false)
theorem rdN_yes {c : Nt} {l : List UInt8} (h : noteT c = l) (hl : l ≠ []) : rdN l = (c, true) := by
  have hv := noteT_valid h hl
  have he : ∃ n, noteValid n = true ∧ noteT n = l := ⟨c, hv, h⟩
  unfold rdN
  rw [dif_pos he]
  have := he.choose_spec
  rw [noteT_inj this.1 hv (this.2.trans h.symm)]
theorem rdN_no {l : List UInt8} (h : ∀ n, noteValid n = true → noteT n ≠ l) : rdN l = (⟨false, ⟨0, 0, 0⟩, 0, false⟩, false) := by
  unfold rdN
  rw [dif_neg]
  rintro ⟨n, h1, h2⟩
  exact h n h1 h2
theorem rdN_note {n : Nt} (h : noteValid n = true) : rdN (noteT n) = (n, true) := rdN_yes rfl (noteT_ne h)
theorem rdN_ok {l : List UInt8} (h : (rdN l).2 = true) : noteValid (rdN l).1 = true ∧ noteT (rdN l).1 = l := by
  unfold rdN at h ⊢
  split
  · rename_i he
    exact he.choose_spec
  · rename_i he
    rw [dif_neg he] at h
    cases h
/-- A note's text ends with no slash, and has no space. -/
theorem noteT_last {n : Nt} (h : noteValid n = true) (m : List UInt8) : noteT n ≠ m ++ [47] := by
  intro e
  rw [noteT_eq h] at e
  have hd := dd_digit n.ticks.toNat
  have hne := dd_ne n.ticks.toNat
  have h47 : (47 : UInt8) ∈ tailT n := by
    have h1 : (toneT n ++ 47 :: tailT n).getLast? = some 47 := by rw [e]; simp
    have h2 : tailT n ≠ [] := by unfold tailT; simp [hne]
    rw [List.getLast?_append, List.getLast?_cons] at h1
    cases ht : (tailT n).getLast? with
    | none => exact absurd (List.getLast?_eq_none_iff.1 ht) h2
    | some x =>
      rw [ht] at h1
      simp at h1
      subst h1
      exact List.mem_of_getLast? ht
  unfold tailT at h47
  rcases List.mem_append.1 h47 with h1 | h1
  · exact absurd (hd 47 h1) (by decide)
  · split at h1 <;> simp at h1
theorem noteT_space {n : Nt} (h : noteValid n = true) : ∀ c ∈ noteT n, c ≠ 32 := by
  intro c hc
  rw [noteT_eq h] at hc
  rcases List.mem_append.1 hc with h1 | h1
  · exact (toneT_chars h c h1).2
  · rcases List.mem_cons.1 h1 with h2 | h2
    · subst h2; decide
    · unfold tailT at h2
      rcases List.mem_append.1 h2 with h3 | h3
      · intro e
        subst e
        exact absurd (dd_digit _ 32 h3) (by decide)
      · split at h3
        · simp at h3
          subst h3
          decide
        · simp at h3
end Go.Proofs.YtaikcpidijekpaaDoor
