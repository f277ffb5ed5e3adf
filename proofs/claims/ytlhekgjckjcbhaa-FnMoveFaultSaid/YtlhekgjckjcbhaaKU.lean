/- The walk of FnStackFault. Conditions: none. -/
import Derived.Test.YtlhekgjckjcbhaaKS
import Derived.Test.YtlhekgjckjcbhaaC2
namespace Go.Proofs.Ytlhekgjckjcbhaa
open Go.RowKit
set_option linter.unusedSimpArgs false
set_option linter.unusedVariables false
set_option maxHeartbeats 16000000
theorem stackF_range (ns : List Pit) : 0 ≤ stackF ns ∧ stackF ns ≤ 4 := by
  unfold stackF
  repeat' split
  all_goals decide
theorem stackF_ok {ns : List Pit} (h : stackF ns = 0) : arePits ns 4 4 = true ∧ Asc ns 3 ∧ InR ns 4 := by
  unfold stackF at h
  split at h
  · rename_i ha
    split at h
    · exact absurd h (by decide)
    · rename_i h1
      split at h
      · exact absurd h (by decide)
      · split at h
        · exact absurd h (by decide)
        · rename_i h3
          refine ⟨ha, fun i hi hb => h1 ?_, fun i hi => ?_⟩
          · have : i = 0 ∨ i = 1 ∨ i = 2 := by omega
            rcases this with rfl | rfl | rfl
            · exact .inl hb
            · exact .inr (.inl hb)
            · exact .inr (.inr hb)
          · cases hb : inB (pk ns i) (loK i) (hiK i)
            · exfalso
              have : i = 0 ∨ i = 1 ∨ i = 2 ∨ i = 3 := by omega
              rcases this with rfl | rfl | rfl | rfl
              · exact h3 (.inl hb)
              · exact h3 (.inr (.inl hb))
              · exact h3 (.inr (.inr (.inl hb)))
              · exact h3 (.inr (.inr (.inr hb)))
            · rfl
  · exact absurd h (by decide)
theorem InR.bd {ns : List Pit} (h : InR ns 4) {i : Nat} (hi : i < 4) : 28 ≤ pk ns i ∧ pk ns i ≤ 67 := by
  have h1 := inB_iff.1 (h i hi)
  have : i = 0 ∨ i = 1 ∨ i = 2 ∨ i = 3 := by omega
  rcases this with rfl | rfl | rfl | rfl <;> simp [loK, hiK] at h1 <;> omega
theorem rd_tailQ {W : World} {p : Pit} {l : List Pit} {b off c : Nat} (h : Rd W (.slice (some ⟨b, off, none⟩) (l.length + 1) c) 3 (l.length + 1) (pitCells (p :: l))) :
    Rd W (.slice (some ⟨b, off + 3, none⟩) l.length (c - 1)) 3 l.length (pitCells l) := by
  obtain ⟨_, A, c', he, hnc, hcm, hA⟩ := h
  cases he
  obtain ⟨b', off', hb, hc⟩ := hA (by omega)
  cases hb
  refine ⟨cellsOf_len Pit.cells 3 Pit.cells_len l, _, _, rfl, by omega, by omega, fun _ => ⟨b, off + 3, rfl, fun j u hu => ?_⟩⟩
  have := hc (3 + j) u (by
    show (cellsOf Pit.cells (p :: l))[3 + j]? = some u
    rw [cellsOf_cons, List.getElem?_append_right (by rw [Pit.cells_len]; omega), Pit.cells_len, show 3 + j - 3 = j by omega]
    exact hu)
  rwa [← Nat.add_assoc] at this
theorem stackF_three {l : List Pit} (h : l.length = 3) : stackF l = 1 := stackF_1 (by
  cases hv : arePits l 4 4
  · rfl
  · have := (arePits_iff.1 hv).1; omega)
def DStk (w : World) (e : Ending) (w' : World) : Prop := ∃ (v : Value) (ns : List Pit), e = .returned v ∧ Rd w' v 3 ns.length (pitCells ns) ∧ ns.length ≤ 4 ∧ Below w.heap.size w w'
theorem c_DrawStackFault (v : Value) (bs : List Int) (w : World) (h : Rd w v 1 bs.length (byteCells bs)) (hb : ∀ x ∈ bs, 0 ≤ x ∧ x ≤ 255) :
    Calls Try.prog 9 #[v] w (DStk w) := by
  go_enter Try.func9, Try.ntmps9
  go_wp2_with fail
  (go_at_call 38; (with_reducible refine (c_open _ _ _ (h) hb).mono ?_); rintro e w1 ⟨g, rfl, hg, hr1, hbq⟩; have hzq := hbq.size; (try simp only [size_alloc', size_setCell', size_drew', size_drewN'] at hzq hg); skip)
  have hr2 : Rdr w1 g (0 + 22) := hr1.mono (by omega)
  clear hr1
  go_wp2_with fail
  (go_at_call 37; (with_reducible refine (c_l20Stack g 0 6 _ hr2 (by omega) (by omega)).mono ?_); rintro e w2 ⟨v2, ns, rfl, hrd, hl, hrq, hgq⟩)
  go_wp2_with fail
  go_ret
  exact ⟨v2, ns, rfl, hrd, hl, below_of_kp hbq hgq (by omega) (by omega)⟩
theorem walk_FnStackFault (w : World) (v : Value) (bs : List Int) (h : Rd w v 1 bs.length (byteCells bs)) (hb : ∀ x ∈ bs, 0 ≤ x ∧ x ≤ 255) :
    Calls Try.prog 3 #[v] w fun e w' => e = .returned (.bool true) ∧ Below w.heap.size w w' := by
  have h' := Lib.hid h
  obtain ⟨_, A, c, rfl, hnc, hcm, hA⟩ := h
  unfold maxLen at hcm
  clear hA
  by_cases hlen : bs.length ≤ 1048576
  · go_enter Try.func3, Try.ntmps3
    go_wp2_with fail
    (go_at_call 9; (with_reducible refine (c_DrawStackFault _ bs _ h'.out hb).mono ?_); rintro e w1 ⟨v1, ns, rfl, hrd, hl4, S2⟩)
    have HR1 := Lib.hid hrd
    obtain ⟨_, A1, c1, rfl, hnc1, hcm1, -⟩ := hrd
    unfold maxLen at hcm1
    go_wp2_with fail
    (go_at_call 10; (with_reducible refine (c_StackFault _ ns _ HR1.out).mono ?_); rintro e w2 ⟨rfl, hb2⟩; have S2 := (S2.trans (hb2.mono S2.size)))
    have HR2 := Lib.hid (HR1.out.below (Nat.le_refl _) hb2)
    go_wp2_with fail
    (go_at_call 11; (with_reducible refine (c_sStackFault _ ns _ HR2.out).mono ?_); rintro e w3 ⟨rfl, hb3⟩; have S2 := (S2.trans (hb3.mono S2.size)))
    have HR3 := Lib.hid (HR2.out.below (Nat.le_refl _) hb3)
    have hz3 := S2.size
    obtain ⟨f0, f4⟩ := stackF_range ns
    by_cases hn0 : stackF ns = 0
    · obtain ⟨ha, hasc, hin⟩ := stackF_ok hn0
      have hl : ns.length = 4 := by have := (arePits_iff.1 ha).1; omega
      have HN0 := Lib.hid hn0
      have HAs := Lib.hid hasc
      have HIn := Lib.hid hin
      obtain ⟨_, A3, c3, he, _, _, hA3⟩ := HR3.out
      cases he
      obtain ⟨bb, off, rfl, hcc⟩ := hA3 (by omega)
      have HC := Lib.hid hcc
      obtain ⟨q, hq⟩ : ∃ q, stackF ns = q := ⟨_, rfl⟩
      rw [hq] at f0 f4 hn0 ⊢
      subst hn0
      obtain ⟨n4, hn4⟩ : ∃ n4, ns.length = n4 := ⟨_, rfl⟩
      have HL := Lib.hid hn4
      simp only [hn4] at hl hnc1 hl4 ⊢
      subst hl
      clear hasc hin hA3 hcc hn4 ha hq
      go_wp2_with fail
      go_loopw [5] (fun i wr => ∃ k : Nat, k ≤ 4 ∧ i = .int .i64 k ∧ Below w3.heap.size w3 wr) (fun i _ => 4 - (intOf i).toNat)
      case atStart => exact ⟨0, by omega, rfl, Below.refl _ _⟩
      case round =>
        obtain ⟨k, hk, rfl, hbl⟩ := hrel
        have hz := hbl.size
        by_cases hlt : k < 4
        · obtain ⟨i1, i2⟩ := HIn.out.bd hlt
          rcases k with _ | j
          · obtain ⟨p0, p1, p2⟩ := pit_at (fun j u hu => below_cell hbl (HC.out j u hu)) 0 (by rw [HL.out]; omega)
            rw [pk_get (by rw [HL.out]; omega)] at i1 i2
            generalize ns[0]'_ = p at *
            obtain ⟨ps, pa, po⟩ := p
            simp only [Nat.zero_mul, Nat.add_zero] at p0 p1 p2
            go_wp2_with fail
            (go_at_call 13; (with_reducible refine (c_PitchKey ⟨ps, pa, po⟩ _).mono ?_); rintro e wq ⟨rfl, hbq⟩; have hzq := hbq.size; (try simp only [size_alloc', size_setCell', size_drew', size_drewN'] at hzq); skip)
            generalize keyOf ⟨ps, pa, po⟩ = K1 at *
            go_wp2_with fail
            go_roundw
            case rel => exact ⟨1, by omega, rfl, hbl.trans (hbq.mono (by omega))⟩
            case measure => simp [intOf]
          · obtain ⟨⟨xs, xa, xo⟩, ⟨ys, ya, yo⟩, -, -, hpx, hpy, ⟨p0, p1, p2⟩, ⟨q0, q1, q2⟩⟩ := pit_pair (fun j u hu => below_cell hbl (HC.out j u hu)) j (by rw [HL.out]; omega)
            have hge := HAs.out j (by omega)
            rw [hpx] at i1 i2 hge
            rw [hpy] at hge
            clear hpx hpy
            have hj4 : ((j : Int) + 1) < 4 := by omega
            go_wp2_with fail
            (go_at_call 13; (with_reducible refine (c_PitchKey ⟨xs, xa, xo⟩ _).mono ?_); rintro e wq ⟨rfl, hbq⟩; have hzq := hbq.size; (try simp only [size_alloc', size_setCell', size_drew', size_drewN'] at hzq); skip)
            have B1 := hbl.trans (hbq.mono hz)
            have r0 := below_cell hbq q0
            have r1 := below_cell hbq q1
            have r2 := below_cell hbq q2
            clear q0 q1 q2 p0 p1 p2
            generalize keyOf ⟨xs, xa, xo⟩ = K1 at *
            go_wp2_with fail
            (go_at_call 13; (with_reducible refine (c_PitchKey ⟨ys, ya, yo⟩ _).mono ?_); rintro e w5 ⟨rfl, hb5⟩)
            have B2 := B1.trans (hb5.mono B1.size)
            generalize keyOf ⟨ys, ya, yo⟩ = K2 at *
            clear r0 r1 r2
            go_wp2_with fail
            go_roundw
            case rel => exact ⟨j + 1 + 1, by omega, by go_num, B2⟩
            case measure => simp [intOf]; omega
        · obtain ⟨p, tl, rfl⟩ := ne_cons (ns := ns) (by rw [HL.out]; omega)
          have htl : tl.length = 3 := by have := HL.out; simp at this; omega
          have HTl := Lib.hid (show Rd w3 (.slice (some ⟨bb, off + 3, none⟩) 3 (c1 - 1)) 3 tl.length (pitCells tl) by
            have := rd_tailQ (p := p) (l := tl) (b := bb) (off := off) (c := c1) (by rw [htl]; have := HR3.out; rw [List.length_cons, htl] at this; exact this)
            rw [htl] at this ⊢
            exact this)
          have HS := Lib.hid (stackF_three htl)
          have hk4 : ¬ (k : Int) < 4 := by omega
          clear htl
          go_wp2_with fail
          (go_at_call 10; (with_reducible refine (c_StackFault _ tl _ (HTl.out.below (Nat.le_refl _) hbl)).mono ?_); rintro e w5 ⟨rfl, hb5⟩; rw [HS.out])
          have S5 := S2.trans ((hbl.trans (hb5.mono hz)).mono hz3)
          go_wp2_with fail
          go_ret
          exact ⟨rfl, S5⟩
    · have h1 : 1 ≤ stackF ns := by omega
      generalize stackF ns = q at *
      go_wp2_with (go_at_call 12; (with_reducible refine (c_alive _).mono ?_); rintro e wq ⟨rfl, hbq⟩; have hzq := hbq.size; (try simp only [size_alloc', size_setCell', size_drew', size_drewN'] at hzq); skip)
      go_ret
      exact ⟨rfl, S2.trans (hbq.mono hz3)⟩
  · go_enter Try.func3, Try.ntmps3
    go_wp2_with fail
    go_ret
    exact ⟨rfl, Below.refl _ _⟩
end Go.Proofs.Ytlhekgjckjcbhaa
