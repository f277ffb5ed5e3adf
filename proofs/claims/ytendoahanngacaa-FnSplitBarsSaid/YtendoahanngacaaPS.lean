/- Split bars: plain laws. Conditions: none. -/
import Derived.Test.YtendoahanngacaaP0
import Derived.Test.YtendoahanngacaaM1
namespace Go.Proofs.Ytendoahanngacaa
set_option linter.unusedSimpArgs false
set_option linter.unusedVariables false
set_option maxHeartbeats 1000000
def splitB (ns : List Nt) (m : Met) : Option (List Nt) :=
  if voiceValid ns = true ∧ meterValid m = true then if 60 < (splitV (barTicks m) (barTicks m) ns).1.length then none else some (splitV (barTicks m) (barTicks m) ns).1 else none

/-! ### Pieces. -/
theorem splitN_end (bar : Int) (hb : 0 < bar) : ∀ (f : Nat) (r : Int) (n : Nt), 0 < r → r ≤ bar → n.ticks.toNat ≤ f → 1 ≤ n.ticks → 0 < (splitN bar f r n).2 ∧ (splitN bar f r n).2 ≤ bar ∧ (splitN bar f r n).2 % bar = (r - n.ticks) % bar := by
  intro f
  induction f with
  | zero => intro r n h0 h1 hf h2; omega
  | succ f ih =>
    intro r n h0 h1 hf h2
    rw [splitN]
    split
    · rename_i h
      dsimp only
      have := ih bar { n with ticks := n.ticks - r } hb (Int.le_refl _) (by simp; omega) (by simp; omega)
      refine ⟨this.1, this.2.1, this.2.2.trans ?_⟩
      show (bar - (n.ticks - r)) % bar = _
      rw [show bar - (n.ticks - r) = (r - n.ticks) + bar by omega, Int.add_emod_right]
    · rename_i h
      dsimp only
      split
      · rename_i hz
        rw [hz]
        exact ⟨hb, Int.le_refl _, by simp⟩
      · exact ⟨by omega, by omega, rfl⟩
theorem splitN_sum (bar : Int) : ∀ (f : Nat) (r : Int) (n : Nt), sumT (splitN bar f r n).1 = n.ticks := by
  intro f
  induction f with
  | zero => intro r n; simp [splitN, sumT]
  | succ f ih =>
    intro r n
    rw [splitN]
    split
    · dsimp only
      rw [sumT_cons, ih]
      simp
      omega
    · simp [sumT]
theorem splitV_sum (bar : Int) : ∀ (l : List Nt) (r : Int), sumT (splitV bar r l).1 = sumT l := by
  intro l
  induction l with
  | nil => intro r; rfl
  | cons a l ih => intro r; rw [splitV, sumT_append, splitN_sum, ih, sumT_cons]

/-- Every note ends within its bar; r ticks are left of the first one. -/
def Fits (bar : Int) : Int → List Nt → Prop
  | _, [] => True
  | r, n :: l => 1 ≤ n.ticks ∧ n.ticks ≤ r ∧ Fits bar (if r - n.ticks = 0 then bar else r - n.ticks) l
def endR (bar : Int) : Int → List Nt → Int
  | r, [] => r
  | r, n :: l => endR bar (if r - n.ticks = 0 then bar else r - n.ticks) l
theorem Fits_app (bar : Int) : ∀ (a : List Nt) (r : Int) (b : List Nt), Fits bar r a → Fits bar (endR bar r a) b → Fits bar r (a ++ b) := by
  intro a
  induction a with
  | nil => intro r b _ h; exact h
  | cons x a ih => intro r b h1 h2; exact ⟨h1.1, h1.2.1, ih _ b h1.2.2 h2⟩
theorem endR_app (bar : Int) : ∀ (a : List Nt) (r : Int) (b : List Nt), endR bar r (a ++ b) = endR bar (endR bar r a) b := by
  intro a
  induction a with
  | nil => intro r b; rfl
  | cons x a ih => intro r b; exact ih _ b
theorem splitN_fits (bar : Int) (hb : 0 < bar) : ∀ (f : Nat) (r : Int) (n : Nt), 0 < r → r ≤ bar → n.ticks.toNat ≤ f → 1 ≤ n.ticks → Fits bar r (splitN bar f r n).1 ∧ endR bar r (splitN bar f r n).1 = (splitN bar f r n).2 := by
  intro f
  induction f with
  | zero => intro r n h0 h1 hf h2; omega
  | succ f ih =>
    intro r n h0 h1 hf h2
    rw [splitN]
    split
    · rename_i h
      dsimp only
      have := ih bar { n with ticks := n.ticks - r } hb (Int.le_refl _) (by simp; omega) (by simp; omega)
      refine ⟨⟨by show 1 ≤ r; omega, Int.le_refl _, ?_⟩, ?_⟩
      · dsimp only; rw [if_pos (by omega)]; exact this.1
      · show endR bar (if r - r = 0 then bar else r - r) _ = _
        rw [if_pos (by omega)]; exact this.2
    · rename_i h
      exact ⟨⟨h2, by omega, trivial⟩, rfl⟩
def Tk (l : List Nt) : Prop := ∀ n ∈ l, 1 ≤ n.ticks ∧ n.ticks ≤ 768
theorem Tk.tail {a : Nt} {l : List Nt} (h : Tk (a :: l)) : Tk l := fun n hn => h n (List.mem_cons_of_mem _ hn)
theorem Tk.head {a : Nt} {l : List Nt} (h : Tk (a :: l)) : 1 ≤ a.ticks ∧ a.ticks ≤ 768 := h a (List.mem_cons_self ..)
theorem Tk.of_valid {ns : List Nt} (h : voiceValid ns = true) : Tk ns := by
  intro n hn
  obtain ⟨i, hi, rfl⟩ := List.getElem_of_mem hn
  exact (voiceValid_bd h).2 i hi
theorem splitV_fits (bar : Int) (hb : 0 < bar) : ∀ (l : List Nt) (r : Int), 0 < r → r ≤ bar → Tk l → Fits bar r (splitV bar r l).1 ∧ endR bar r (splitV bar r l).1 = (splitV bar r l).2 := by
  intro l
  induction l with
  | nil => intro r _ _ _; exact ⟨trivial, rfl⟩
  | cons a l ih =>
    intro r h0 h1 ht
    have hf := splitN_fits bar hb a.ticks.toNat r a h0 h1 (Nat.le_refl _) ht.head.1
    have he := splitN_end bar hb a.ticks.toNat r a h0 h1 (Nat.le_refl _) ht.head.1
    have hi := ih _ he.1 he.2.1 ht.tail
    rw [splitV]
    exact ⟨Fits_app bar _ _ _ hf.1 (by rw [hf.2]; exact hi.1), by rw [endR_app, hf.2]; exact hi.2⟩
theorem splitV_again (bar : Int) (hb : 0 < bar) : ∀ (l : List Nt) (r : Int), 0 < r → r ≤ bar → Fits bar r l → (splitV bar r l).1 = l := by
  intro l
  induction l with
  | nil => intro r _ _ _; rfl
  | cons a l ih =>
    intro r h0 h1 hf
    obtain ⟨f1, f2, f3⟩ := hf
    rw [splitV, splitN_ge bar hb r a h0 (by omega)]
    dsimp only
    rw [ih _ (by split <;> omega) (by split <;> omega) f3]
    rfl
/-- At what place of its bar a note lies. -/
theorem place_fits {bar at_ r t : Int} (hb : 0 < bar) (h : r = bar - at_ % bar) (h1 : 1 ≤ t) (h2 : t ≤ r) :
    at_ / bar = (at_ + t - 1) / bar ∧ (if r - t = 0 then bar else r - t) = bar - (at_ + t) % bar := by
  have m0 := Int.emod_nonneg at_ (show bar ≠ 0 by omega)
  have m1 := Int.emod_lt_of_pos at_ hb
  have hq := Int.emod_add_mul_ediv at_ bar
  have e1 : (at_ + t - 1) / bar = at_ / bar ∧ (at_ + t - 1) % bar = at_ % bar + t - 1 := by
    refine (Int.ediv_emod_unique hb).2 ⟨by omega, by omega, by omega⟩
  refine ⟨e1.1.symm, ?_⟩
  split
  · rename_i hz
    have : (at_ + t) / bar = at_ / bar + 1 ∧ (at_ + t) % bar = 0 := by
      refine (Int.ediv_emod_unique hb).2 ⟨?_, by omega, by omega⟩
      rw [Int.mul_add, Int.mul_one]; omega
    rw [this.2]; omega
  · have : (at_ + t) / bar = at_ / bar ∧ (at_ + t) % bar = at_ % bar + t := by
      refine (Int.ediv_emod_unique hb).2 ⟨by omega, by omega, by omega⟩
    rw [this.2]; omega
theorem fits_places {bar : Int} (hb : 0 < bar) : ∀ (l : List Nt) (r at_ : Int), r = bar - at_ % bar → Fits bar r l → ∀ k (hk : k < l.length), (at_ + sumT (l.take k)) / bar = (at_ + sumT (l.take k) + l[k].ticks - 1) / bar := by
  intro l
  induction l with
  | nil => intro r a _ _ k hk; simp at hk
  | cons n l ih =>
    intro r a hr hf k hk
    obtain ⟨f1, f2, f3⟩ := hf
    have hp := place_fits hb hr f1 f2
    cases k with
    | zero =>
      simp only [List.take_zero, sumT_nil, List.getElem_cons_zero, Int.add_zero]
      exact hp.1
    | succ k =>
      have := ih _ (a + n.ticks) hp.2 f3 k (by simpa using hk)
      simp only [List.take_succ_cons, sumT_cons, List.getElem_cons_succ]
      rw [show a + (n.ticks + sumT (l.take k)) = a + n.ticks + sumT (l.take k) by omega]
      exact this

/-! ### Validity, as a word on lists. -/
def Head (t : Pit) : List Nt → Prop
  | [] => False
  | m :: _ => m.rest = false ∧ m.tone = t
def VV : List Nt → Prop
  | [] => True
  | n :: l => noteValid n = true ∧ (n.tied = true → Head n.tone l) ∧ VV l
theorem vv_iff : ∀ {ns : List Nt}, VV ns ↔ ∀ i, i < ns.length → okAt ns i = true := by
  intro ns
  induction ns with
  | nil => simp [VV]
  | cons n l ih =>
    have hs : ∀ i, okAt (n :: l) (i + 1) = okAt l i := by intro i; simp [okAt]
    have h0 : okAt (n :: l) 0 = true ↔ noteValid n = true ∧ (n.tied = true → Head n.tone l) := by
      unfold okAt
      cases l with
      | nil => simp [Head]
      | cons m l =>
        simp only [List.getElem?_cons_zero, List.getElem?_cons_succ, Head, Bool.and_eq_true, Bool.or_eq_true, Bool.not_eq_true', pitEq_iff]
        constructor
        · rintro ⟨a, b⟩
          refine ⟨a, fun ht => ?_⟩
          rcases b with b | b
          · rw [ht] at b; cases b
          · exact b
        · rintro ⟨a, b⟩
          refine ⟨a, ?_⟩
          cases ht : n.tied
          · exact .inl rfl
          · exact .inr (b ht)
    constructor
    · rintro ⟨a, b, c⟩ i hi
      cases i with
      | zero => exact h0.2 ⟨a, b⟩
      | succ i => rw [hs]; exact ih.1 c i (by simpa using hi)
    · intro h
      obtain ⟨a, b⟩ := h0.1 (h 0 (by simp))
      exact ⟨a, b, ih.2 fun i hi => by rw [← hs]; exact h (i + 1) (by simpa using hi)⟩
theorem valid_vv {ns : List Nt} : voiceValid ns = true ↔ ns.length ≤ 60 ∧ VV ns := by rw [voiceValid_iff, vv_iff]
theorem noteValid_piece {n : Nt} {t : Int} {b : Bool} (h : noteValid n = true) (h0 : 1 ≤ t) (h1 : t ≤ 768) (hb : n.rest = true → b = false) : noteValid { n with ticks := t, tied := b } = true := by
  have hi : inB t 1 768 = true := by rw [inB_iff]; omega
  unfold noteValid at h ⊢
  dsimp only
  rw [hi]
  cases hr : n.rest
  · rw [hr] at h
    simp only [Bool.and_eq_true, Bool.false_eq_true, if_false] at h ⊢
    exact ⟨trivial, h.2⟩
  · rw [hr] at h
    rw [hb hr]
    simp only [Bool.and_eq_true, if_true] at h ⊢
    exact ⟨trivial, h.2.1, rfl⟩
theorem rest_untied {n : Nt} (h : noteValid n = true) (hr : n.rest = true) : n.tied = false := by
  unfold noteValid at h
  rw [hr] at h
  simp at h
  exact h.2.2
theorem splitN_head (bar : Int) (f : Nat) (r : Int) (n : Nt) (l : List Nt) (hr : n.rest = false) : Head n.tone ((splitN bar f r n).1 ++ l) := by
  cases f with
  | zero => exact ⟨hr, rfl⟩
  | succ f =>
    rw [splitN]
    split
    · exact ⟨hr, rfl⟩
    · exact ⟨hr, rfl⟩
theorem splitN_vv (bar : Int) (hb : 0 < bar) : ∀ (f : Nat) (r : Int) (n : Nt) (l : List Nt), 0 < r → noteValid n = true → (n.tied = true → Head n.tone l) → VV l → VV ((splitN bar f r n).1 ++ l) := by
  intro f
  induction f with
  | zero => intro r n l _ h1 h2 h3; exact ⟨h1, h2, h3⟩
  | succ f ih =>
    intro r n l h0 h1 h2 h3
    rw [splitN]
    split
    · rename_i h
      have ht := noteValid_ticks h1
      have hn := noteValid_piece (t := n.ticks - r) (b := n.tied) h1 (by omega) (by omega) (rest_untied h1)
      refine ⟨noteValid_piece (t := r) h1 (by omega) (by omega) (fun hr => by simp [hr]), fun htd => ?_, ih bar { n with ticks := n.ticks - r } l hb hn h2 h3⟩
      exact splitN_head bar f bar { n with ticks := n.ticks - r } l (by simpa using htd)
    · exact ⟨h1, h2, h3⟩
theorem splitV_head (bar : Int) {t : Pit} {l : List Nt} (h : Head t l) (r : Int) : Head t (splitV bar r l).1 := by
  cases l with
  | nil => exact h
  | cons n l =>
    rw [splitV]
    obtain ⟨h1, rfl⟩ := h
    exact splitN_head bar _ r n _ h1
theorem splitV_vv (bar : Int) (hb : 0 < bar) : ∀ (l : List Nt) (r : Int), 0 < r → r ≤ bar → VV l → VV (splitV bar r l).1 := by
  intro l
  induction l with
  | nil => intro r _ _ _; trivial
  | cons n l ih =>
    intro r h0 h1 hv
    obtain ⟨a, b, c⟩ := hv
    have he := splitN_end bar hb n.ticks.toNat r n h0 h1 (Nat.le_refl _) (noteValid_ticks a).1
    rw [splitV]
    exact splitN_vv bar hb _ r n _ h0 a (fun ht => splitV_head bar (b ht) _) (ih _ he.1 he.2.1 c)

/-! ### Ties that are joined. -/
def joinL : Nt → List Nt → List Nt
  | c, [] => [c]
  | c, n :: l => if c.tied = true ∧ c.ticks + n.ticks ≤ 768 then joinL { c with ticks := c.ticks + n.ticks, tied := n.tied } l else c :: joinL n l
def joinV : List Nt → List Nt
  | [] => []
  | n :: l => joinL n l
def joinT (ns : List Nt) : List Nt := if voiceValid ns = true then joinV ns else []
theorem joinL_len : ∀ (l : List Nt) (c : Nt), (joinL c l).length ≤ l.length + 1 := by
  intro l
  induction l with
  | nil => intro c; simp [joinL]
  | cons n l ih =>
    intro c
    rw [joinL]
    split
    · have := ih { c with ticks := c.ticks + n.ticks, tied := n.tied }; simp; omega
    · have := ih n; simp; omega
theorem join_more (bar : Int) (hb : 0 < bar) : ∀ (f : Nat) (r : Int) (n c : Nt) (l : List Nt), 0 < r → n.rest = false → c.tied = true → c.ticks + n.ticks ≤ 768 →
    joinL c ((splitN bar f r n).1 ++ l) = joinL { c with ticks := c.ticks + n.ticks, tied := n.tied } l := by
  intro f
  induction f with
  | zero => intro r n c l _ _ hc ht; show joinL c (n :: l) = _; rw [joinL, if_pos ⟨hc, ht⟩]
  | succ f ih =>
    intro r n c l h0 hr hc ht
    rw [splitN]
    split
    · rename_i h
      dsimp only
      rw [List.cons_append, joinL, if_pos ⟨hc, by dsimp only; omega⟩]
      dsimp only
      have := ih bar { n with ticks := n.ticks - r } { c with ticks := c.ticks + r, tied := !n.rest } l hb hr (by simp [hr]) (by dsimp only; omega)
      rw [this]
      dsimp only
      rw [show c.ticks + r + (n.ticks - r) = c.ticks + n.ticks by omega]
    · show joinL c (n :: l) = _
      rw [joinL, if_pos ⟨hc, ht⟩]
theorem join_pieces (bar : Int) (hb : 0 < bar) (f : Nat) (r : Int) (n : Nt) (l : List Nt) (h0 : 0 < r) (hr : n.rest = false) (ht : n.ticks ≤ 768) :
    joinV ((splitN bar f r n).1 ++ l) = joinL n l := by
  cases f with
  | zero => rfl
  | succ f =>
    rw [splitN]
    split
    · rename_i h
      dsimp only
      rw [List.cons_append, joinV]
      have := join_more bar hb f bar { n with ticks := n.ticks - r } { n with ticks := r, tied := !n.rest } l hb hr (by simp [hr]) (by dsimp only; omega)
      rw [this]
      dsimp only
      rw [show r + (n.ticks - r) = n.ticks by omega]
    · rfl
theorem joinL_apart {c : Nt} {l : List Nt} (h : c.tied = false) (hl : l ≠ []) : joinL c l = c :: joinV l := by
  cases l with
  | nil => exact absurd rfl hl
  | cons n l => rw [joinL, if_neg (by rw [h]; simp)]; rfl
theorem splitN_ne (bar : Int) (f : Nat) (r : Int) (n : Nt) (l : List Nt) : (splitN bar f r n).1 ++ l ≠ [] := by
  cases f with
  | zero => simp [splitN]
  | succ f => rw [splitN]; split <;> simp
theorem join_split (bar : Int) (hb : 0 < bar) : ∀ (l : List Nt) (r : Int) (c : Nt), 0 < r → r ≤ bar → Tk l → (∀ n ∈ l, n.rest = false) → (∀ n ∈ joinL c l, n.tied = false) → joinL c (splitV bar r l).1 = joinL c l := by
  intro l
  induction l with
  | nil => intro r c _ _ _ _ _; rfl
  | cons n l ih =>
    intro r c h0 h1 ht hr hj
    have hr' : n.rest = false := hr n (List.mem_cons_self ..)
    have hrl : ∀ n ∈ l, n.rest = false := fun m hm => hr m (List.mem_cons_of_mem _ hm)
    have he := splitN_end bar hb n.ticks.toNat r n h0 h1 (Nat.le_refl _) ht.head.1
    rw [splitV]
    dsimp only
    rw [joinL] at hj ⊢
    by_cases hc : c.tied = true ∧ c.ticks + n.ticks ≤ 768
    · rw [if_pos hc] at hj ⊢
      rw [join_more bar hb _ r n c _ h0 hr' hc.1 hc.2]
      exact ih _ _ he.1 he.2.1 ht.tail hrl hj
    · rw [if_neg hc] at hj ⊢
      have hct := hj c (List.mem_cons_self ..)
      rw [joinL_apart hct (splitN_ne bar _ r n _), join_pieces bar hb _ r n _ h0 hr' ht.head.2]
      rw [ih _ _ he.1 he.2.1 ht.tail hrl (fun m hm => hj m (List.mem_cons_of_mem _ hm))]
theorem joinV_split (bar : Int) (hb : 0 < bar) (l : List Nt) (r : Int) (h0 : 0 < r) (h1 : r ≤ bar) (ht : Tk l) (hr : ∀ n ∈ l, n.rest = false) (hj : ∀ n ∈ joinV l, n.tied = false) : joinV (splitV bar r l).1 = joinV l := by
  cases l with
  | nil => rfl
  | cons n l =>
    have he := splitN_end bar hb n.ticks.toNat r n h0 h1 (Nat.le_refl _) ht.head.1
    rw [splitV]
    dsimp only
    rw [join_pieces bar hb _ r n _ h0 (hr n (List.mem_cons_self ..)) ht.head.2]
    exact join_split bar hb l _ n he.1 he.2.1 ht.tail (fun m hm => hr m (List.mem_cons_of_mem _ hm)) hj

/-! ### Bars that are split into beats. -/
theorem emod_eq_of {a b c : Int} (h0 : 0 < a) (h1 : a ≤ c) (h2 : 0 < b) (h3 : b ≤ c) (h : a % c = b % c) : a = b := by
  by_cases ha : a = c
  · by_cases hb : b = c
    · omega
    · rw [ha, Int.emod_self, Int.emod_eq_of_lt (by omega) (by omega)] at h; omega
  · rw [Int.emod_eq_of_lt (by omega) (by omega)] at h
    by_cases hb : b = c
    · rw [hb, Int.emod_self] at h; omega
    · rw [Int.emod_eq_of_lt (by omega) (by omega)] at h; exact h
theorem emod_sub_eq {a b c d : Int} (h : a % c = b % c) : (a - d) % c = (b - d) % c := by
  rw [Int.sub_emod a d c, Int.sub_emod b d c, h]
theorem split_cut (b : Int) (hb : 0 < b) : ∀ (f : Nat) (R r : Int) (n : Nt), R.toNat ≤ f → 0 < R → 0 < r → r ≤ b → R % b = r % b → R < n.ticks →
    (splitN b n.ticks.toNat r n).1 = (splitN b R.toNat r { n with ticks := R, tied := !n.rest }).1 ++ (splitN b (n.ticks - R).toNat b { n with ticks := n.ticks - R }).1 ∧
    (splitN b n.ticks.toNat r n).2 = (splitN b (n.ticks - R).toNat b { n with ticks := n.ticks - R }).2 := by
  intro f
  induction f with
  | zero => intro R r n hf h0; omega
  | succ f ih =>
    intro R r n hf h0 hr0 hr1 hm hlt
    by_cases hrR : r < R
    · have e1 := splitN_lt b hb r n hr0 (by omega)
      have e2 := splitN_lt b hb r { n with ticks := R, tied := !n.rest } hr0 hrR
      dsimp only at e2
      have hmm : (R - r) % b = b % b := by
        have := emod_sub_eq (d := r) hm
        rw [this]; simp
      have := ih (R - r) b { n with ticks := n.ticks - r } (by omega) (by omega) hb (Int.le_refl _) hmm (by dsimp only; omega)
      dsimp only at this
      rw [show n.ticks - r - (R - r) = n.ticks - R by omega] at this
      rw [e1, e2, this.1, this.2]
      exact ⟨rfl, rfl⟩
    · have hle : R ≤ b := by omega
      have : R = r := emod_eq_of h0 hle hr0 hr1 hm
      subst this
      have e1 := splitN_lt b hb R n hr0 (by omega)
      have e2 := splitN_ge b hb R { n with ticks := R, tied := !n.rest } hr0 (by dsimp only; omega)
      dsimp only at e2
      rw [e1, e2]
      exact ⟨rfl, rfl⟩
theorem split_two_note (b B : Int) (hb : 0 < b) (hB : 0 < B) (hBb : B % b = 0) : ∀ (f : Nat) (R r : Int) (n : Nt), n.ticks.toNat ≤ f → 1 ≤ n.ticks → 0 < R → R ≤ B → 0 < r → r ≤ b → R % b = r % b →
    splitV b r (splitN B n.ticks.toNat R n).1 = splitN b n.ticks.toNat r n ∧ (splitN B n.ticks.toNat R n).2 % b = (splitN b n.ticks.toNat r n).2 % b := by
  intro f
  induction f with
  | zero => intro R r n hf h1; omega
  | succ f ih =>
    intro R r n hf h1 hR0 hR1 hr0 hr1 hm
    have hee := splitN_end b hb n.ticks.toNat r n hr0 hr1 (Nat.le_refl _) h1
    by_cases hlt : R < n.ticks
    · have e1 := splitN_lt B hB R n hR0 hlt
      have e2 := split_cut b hb R.toNat R r n (Nat.le_refl _) hR0 hr0 hr1 hm hlt
      have hbb : B % b = b % b := by rw [hBb]; simp
      have := ih B b { n with ticks := n.ticks - R } (by dsimp only; omega) (by dsimp only; omega) hB (Int.le_refl _) hb (Int.le_refl _) hbb
      dsimp only at this
      have hpe := splitN_end b hb R.toNat r { n with ticks := R, tied := !n.rest } hr0 hr1 (Nat.le_refl _) (by dsimp only; omega)
      have hpb : (splitN b R.toNat r { n with ticks := R, tied := !n.rest }).2 = b := by
        refine emod_eq_of hpe.1 hpe.2.1 hb (Int.le_refl _) (hpe.2.2.trans ?_)
        show (r - R) % b = _
        have := emod_sub_eq (d := R) hm
        rw [← this]; simp
      rw [e1]
      dsimp only
      rw [splitV]
      dsimp only
      rw [hpb, this.1]
      refine ⟨?_, this.2.trans (by rw [e2.2])⟩
      rw [← e2.1, ← e2.2]
    · have e1 := splitN_ge B hB R n hR0 hlt
      rw [e1]
      dsimp only
      refine ⟨by rw [splitV, splitV]; simp, ?_⟩
      rw [hee.2.2]
      have hs := emod_sub_eq (d := n.ticks) hm
      split
      · rename_i hz
        rw [hBb, ← hs, hz]; simp
      · exact hs
theorem splitV_app (b : Int) : ∀ (x : List Nt) (r : Int) (y : List Nt), splitV b r (x ++ y) = ((splitV b r x).1 ++ (splitV b (splitV b r x).2 y).1, (splitV b (splitV b r x).2 y).2) := by
  intro x
  induction x with
  | nil => intro r y; simp [splitV]
  | cons a x ih => intro r y; rw [List.cons_append, splitV, splitV, ih]; simp
theorem split_two (b B : Int) (hb : 0 < b) (hB : 0 < B) (hBb : B % b = 0) : ∀ (l : List Nt) (R r : Int), Tk l → 0 < R → R ≤ B → 0 < r → r ≤ b → R % b = r % b → (splitV b r (splitV B R l).1).1 = (splitV b r l).1 := by
  intro l
  induction l with
  | nil => intro R r _ _ _ _ _ _; rfl
  | cons n l ih =>
    intro R r ht hR0 hR1 hr0 hr1 hm
    have h2 := split_two_note b B hb hB hBb n.ticks.toNat R r n (Nat.le_refl _) ht.head.1 hR0 hR1 hr0 hr1 hm
    have he := splitN_end b hb n.ticks.toNat r n hr0 hr1 (Nat.le_refl _) ht.head.1
    have hE := splitN_end B hB n.ticks.toNat R n hR0 hR1 (Nat.le_refl _) ht.head.1
    rw [splitV]
    dsimp only
    rw [splitV_app, h2.1]
    dsimp only
    rw [ih _ _ ht.tail hE.1 hE.2.1 he.1 he.2.1 h2.2]
    conv => rhs; rw [splitV]

/-! ### All of it, as the laws ask. -/
theorem splitB_some {ns x : List Nt} {m : Met} (h : splitB ns m = some x) : voiceValid ns = true ∧ meterValid m = true ∧ x = (splitV (barTicks m) (barTicks m) ns).1 ∧ x.length ≤ 60 := by
  unfold splitB at h
  split at h
  · rename_i hv
    split at h
    · cases h
    · cases h
      exact ⟨hv.1, hv.2, rfl, by omega⟩
  · cases h
theorem splitB_valid {ns x : List Nt} {m : Met} (h : splitB ns m = some x) : voiceValid x = true ∧ sumT x = sumT ns ∧ splitB x m = some x := by
  obtain ⟨hv, hm, hx, hl⟩ := splitB_some h
  obtain ⟨k1, k2, -, -, -, -⟩ := bar_bd hm
  have hb : 0 < barTicks m := by omega
  have hvv := splitV_vv (barTicks m) hb ns (barTicks m) hb (Int.le_refl _) (valid_vv.1 hv).2
  rw [← hx] at hvv
  have hvx : voiceValid x = true := valid_vv.2 ⟨hl, hvv⟩
  have hf := (splitV_fits (barTicks m) hb ns (barTicks m) hb (Int.le_refl _) (Tk.of_valid hv)).1
  rw [← hx] at hf
  have ha := splitV_again (barTicks m) hb x (barTicks m) hb (Int.le_refl _) hf
  refine ⟨hvx, by rw [hx, splitV_sum], ?_⟩
  unfold splitB
  rw [if_pos ⟨hvx, hm⟩, ha, if_neg (by omega)]
theorem splitB_places {ns x : List Nt} {m : Met} (h : splitB ns m = some x) : ∀ k (hk : k < x.length), sumT (x.take k) / barTicks m = (sumT (x.take k) + x[k].ticks - 1) / barTicks m := by
  obtain ⟨hv, hm, hx, hl⟩ := splitB_some h
  obtain ⟨k1, k2, -, -, -, -⟩ := bar_bd hm
  have hb : 0 < barTicks m := by omega
  have hf := (splitV_fits (barTicks m) hb ns (barTicks m) hb (Int.le_refl _) (Tk.of_valid hv)).1
  rw [← hx] at hf
  intro k hk
  have := fits_places hb x (barTicks m) 0 (by simp) hf k hk
  simpa using this
theorem splitB_joins {ns x : List Nt} {m : Met} (h : splitB ns m = some x) (hr : ∀ n ∈ ns, n.rest = false) (hj : ∀ n ∈ joinT ns, n.tied = false) : joinT x = joinT ns := by
  obtain ⟨hv, hm, hx, hl⟩ := splitB_some h
  obtain ⟨k1, k2, -, -, -, -⟩ := bar_bd hm
  have hb : 0 < barTicks m := by omega
  unfold joinT at hj ⊢
  rw [if_pos hv] at hj ⊢
  rw [if_pos (splitB_valid h).1, hx]
  exact joinV_split (barTicks m) hb ns (barTicks m) hb (Int.le_refl _) (Tk.of_valid hv) hr hj
theorem splitB_beats {ns x a b : List Nt} {c u : Int} (h : splitB ns ⟨c, u⟩ = some x) (ha : splitB x ⟨1, u⟩ = some a) (hb : splitB ns ⟨1, u⟩ = some b) : a = b := by
  obtain ⟨hv, hm, hx, hl⟩ := splitB_some h
  obtain ⟨_, hm1, hax, _⟩ := splitB_some ha
  obtain ⟨_, _, hbx, _⟩ := splitB_some hb
  obtain ⟨k1, k2, -, -, k5, -⟩ := bar_bd hm
  obtain ⟨l1, l2, -, -, l5, -⟩ := bar_bd hm1
  dsimp only at k5 l5
  have hB : barTicks ⟨c, u⟩ = c * barTicks ⟨1, u⟩ := by rw [l5, Int.one_mul]; exact k5
  have hmod : barTicks ⟨c, u⟩ % barTicks ⟨1, u⟩ = 0 := by rw [hB]; exact Int.mul_emod_left _ _
  rw [hax, hbx, hx]
  exact split_two (barTicks ⟨1, u⟩) (barTicks ⟨c, u⟩) (by omega) (by omega) hmod ns _ _ (Tk.of_valid hv) (by omega) (Int.le_refl _) (by omega) (Int.le_refl _) (by rw [hmod]; simp)
end Go.Proofs.Ytendoahanngacaa
