/- The reference's MoveFault. Conditions: none. -/
import Derived.Test.YtlhekgjckjcbhaaC6
namespace Go.Proofs.Ytlhekgjckjcbhaa
open Go.RowKit
set_option linter.unusedSimpArgs false
set_option linter.unusedVariables false
set_option maxHeartbeats 16000000
theorem keyOf_bdV {p : Pit} (h : pitchValid p = true) : -2 ≤ keyOf p ∧ keyOf p ≤ 109 := by
  have hb := keyOf_bd p
  unfold keyOf at hb ⊢
  rw [if_pos h] at hb ⊢
  unfold pitchValid at h
  simp only [Bool.and_eq_true, inB_iff] at h
  obtain ⟨⟨⟨h1, h2⟩, h3, h4⟩, h5, h6⟩ := h
  refine ⟨?_, hb.2⟩
  have hs : p.step = 0 ∨ p.step = 1 ∨ p.step = 2 ∨ p.step = 3 ∨ p.step = 4 ∨ p.step = 5 ∨ p.step = 6 := by omega
  have h0 : 0 ≤ stepH p.step := by rcases hs with h | h | h | h | h | h | h <;> rw [h] <;> decide
  omega
theorem pit_getK {W : World} {b off : Nat} {ns : List Pit} (ha : arePits ns 4 4 = true) (hc : ∀ j u, (pitCells ns)[j]? = some u → W.cell? ⟨b, off + j, none⟩ = some u) (j : Nat) (h : j < 4) :
    ∃ x : Pit, pk ns j = keyOf x ∧ (-2 ≤ keyOf x ∧ keyOf x ≤ 109) ∧ W.cell? ⟨b, off + j * 3, none⟩ = some (.int .i64 x.step) ∧ W.cell? ⟨b, off + j * 3 + 1, none⟩ = some (.int .i64 x.alter) ∧ W.cell? ⟨b, off + j * 3 + 2, none⟩ = some (.int .i64 x.octave) := by
  obtain ⟨h1, h2⟩ := arePits_iff.1 ha
  have hl : j < ns.length := by omega
  exact ⟨ns[j], pk_get hl, keyOf_bdV (h2 j hl), pit_at hc j hl⟩
def AllV (ns : List Pit) (j : Nat) : Prop := ∀ i (h : i < ns.length), i < j → pitchValid ns[i] = true
theorem AllV.start {ns : List Pit} : AllV ns 0 := fun i _ hi => absurd hi (by omega)
theorem AllV.next {ns : List Pit} {j : Nat} (h : AllV ns j) (hj : j < ns.length) (hn : pitchValid ns[j] = true) : AllV ns (j + 1) := fun i h1 hi => by
  rcases Nat.lt_succ_iff_lt_or_eq.1 hi with h3 | rfl
  · exact h i h1 h3
  · exact hn
theorem AllV.all {ns : List Pit} (hl : ns.length = 4) (h : AllV ns 4) : arePits ns 4 4 = true := arePits_iff.2 ⟨by omega, fun i hi => h i hi (by omega)⟩
theorem not4 {ns : List Pit} (h : ¬ ns.length = 4) : arePits ns 4 4 = false := by
  cases ha : arePits ns 4 4
  · rfl
  · have := (arePits_iff.1 ha).1; omega
theorem mul_bd {x y : Int} (hx : -209 ≤ x ∧ x ≤ 209) (hy : -209 ≤ y ∧ y ≤ 209) : -43681 ≤ x * y ∧ x * y ≤ 43681 := by
  have h := Int.natAbs_mul x y
  have h2 : x.natAbs * y.natAbs ≤ 209 * 209 := Nat.mul_le_mul (by omega) (by omega)
  omega
theorem mul_same {x y : Int} : 0 < x * y ↔ samD x y := by
  unfold samD
  constructor
  · intro h
    by_cases hx : 0 < x
    · left
      refine ⟨hx, ?_⟩
      by_cases hy : 0 < y
      · exact hy
      · have := Int.mul_nonpos_of_nonneg_of_nonpos (Int.le_of_lt hx) (show y ≤ 0 by omega)
        omega
    · have hx' : x ≠ 0 := by rintro rfl; simp at h
      right
      refine ⟨by omega, ?_⟩
      by_cases hy : y < 0
      · exact hy
      · have := Int.mul_nonpos_of_nonpos_of_nonneg (show x ≤ 0 by omega) (show 0 ≤ y by omega)
        omega
  · rintro (⟨h1, h2⟩ | ⟨h1, h2⟩)
    · exact Int.mul_pos h1 h2
    · exact Int.mul_pos_of_neg_of_neg h1 h2
def NPass (a b : List Pit) (p : Nat) : Prop := (0 < p → ¬ Par a b 7) ∧ (1 < p → ¬ Par a b 0)
theorem pass_hit {a b : List Pit} (ha : arePits a 4 4 = true) (hb : arePits b 4 4 = true) {p : Nat} (hp : p < 2) (hN : NPass a b p) {d : Int} (hd : 7 - 7 * (p : Int) = d) (h : Par a b d) : moveF a b = 5 + (p : Int) := by
  have : p = 0 ∨ p = 1 := by omega
  rcases this with rfl | rfl
  · obtain rfl : d = 7 := by omega
    exact moveF_5 ha hb h
  · obtain rfl : d = 0 := by omega
    exact moveF_6 ha hb (hN.1 (by omega)) h
theorem pass_next {a b : List Pit} {p : Nat} (hp : p < 2) (hN : NPass a b p) {d : Int} (hd : 7 - 7 * (p : Int) = d) (h : ¬ Par a b d) : NPass a b (p + 1) := by
  have : p = 0 ∨ p = 1 := by omega
  rcases this with rfl | rfl
  · obtain rfl : d = 7 := by omega
    exact ⟨fun _ => h, fun h1 => absurd h1 (by omega)⟩
  · obtain rfl : d = 0 := by omega
    exact ⟨fun _ => hN.1 (by omega), fun _ => h⟩
set_option maxRecDepth 100000 in
theorem c_sMoveFault (v : Value) (la : List Pit) (u : Value) (lb : List Pit) (w : World) (h1 : Rd w v 3 la.length (pitCells la)) (h2 : Rd w u 3 lb.length (pitCells lb)) :
    Calls Try.prog 16 #[v, u] w fun e w' => e = .returned (.int .i64 (moveF la lb)) ∧ Below w.heap.size w w' := by
  obtain ⟨_, A1, c1, rfl, hn1, hm1, hA1⟩ := h1
  obtain ⟨_, A2, c2, rfl, hn2, hm2, hA2⟩ := h2
  unfold maxLen at hm1 hm2
  by_cases hla : la.length = 4
  · by_cases hlb : lb.length = 4
    · have HLA := Lib.hid hla
      have HLB := Lib.hid hlb
      obtain ⟨b1, o1, rfl, hc1⟩ := hA1 (by omega)
      obtain ⟨b2, o2, rfl, hc2⟩ := hA2 (by omega)
      have HC1 := Lib.hid hc1
      have HC2 := Lib.hid hc2
      have hla1 : la.length ≤ 4 := by omega
      have hla2 : 4 ≤ la.length := by omega
      have hlb1 : lb.length ≤ 4 := by omega
      have hlb2 : 4 ≤ lb.length := by omega
      have hna : ((la.length : Int) != 4) = false := by simp; omega
      have hnb : ((lb.length : Int) != 4) = false := by simp; omega
      clear hA1 hA2 hc1 hc2 hla hlb
      go_enter Try.func16, Try.ntmps16
      go_wp2_with fail
      clear hna hnb
      go_loopw [5] (fun s wr => ∃ j : Nat, j ≤ 4 ∧ s = .int .i64 j ∧ Below w.heap.size w wr ∧ AllV la j ∧ AllV lb j) (fun s _ => 4 - (intOf s).toNat)
      case atStart => exact ⟨0, by omega, rfl, Below.refl _ _, AllV.start, AllV.start⟩
      case round =>
        obtain ⟨j, hj, rfl, hbl, hva, hvb⟩ := hrel
        have HVA := Lib.hid hva
        have HVB := Lib.hid hvb
        have hz := hbl.size
        clear hva hvb
        by_cases hlt : j < 4
        · obtain ⟨p0, p1, p2⟩ := pit_at (fun j u hu => below_cell hbl (HC1.out j u hu)) j (by omega)
          obtain ⟨q0, q1, q2⟩ := pit_at (fun j u hu => below_cell hbl (HC2.out j u hu)) j (by omega)
          have hja : j < la.length := by omega
          have hjb : j < lb.length := by omega
          have HBa := Lib.hid (fun hv => moveF_1a (b := lb) (arePits_bad (a := 4) (b := 4) hja hv))
          have HBb := Lib.hid (fun hv => moveF_1b (a := la) (arePits_bad (a := 4) (b := 4) hjb hv))
          have HSa := Lib.hid (fun hv => HVA.out.next hja hv)
          have HSb := Lib.hid (fun hv => HVB.out.next hjb hv)
          have hj1 : (0 : Int) ≤ (j : Int) := by omega
          have hj2 : (j : Int) < (la.length : Int) := by omega
          have hj3 : (j : Int) < (lb.length : Int) := by omega
          have hj4 : (j : Int) < 4 := by omega
          generalize la[j] = x at *
          generalize lb[j] = y at *
          obtain ⟨xs, xa, xo⟩ := x
          obtain ⟨ys, ya, yo⟩ := y
          dsimp only at p0 p1 p2 q0 q1 q2
          cases hva : pitchValid ⟨xs, xa, xo⟩
          · have HF := Lib.hid (HBa.out hva)
            go_wp2_with (go_at_call 42; (with_reducible refine (c_sPitchValid ⟨xs, xa, xo⟩ _).mono ?_); rintro e wq ⟨rfl, hbq⟩; have hzq := hbq.size; (try simp only [size_alloc', size_setCell', size_drew', size_drewN'] at hzq); skip)
            go_ret
            exact ⟨ret_int HF.out.symm, by (repeat' (first | (with_reducible exact Below.refl _ _) | (with_reducible refine Below.setCell ?_ ?_ _) | (with_reducible refine Below.alloc ?_ ?_ _) | (with_reducible refine Below.drew ?_) | (with_reducible refine below_drewN ?_ _) | (with_reducible refine Below.trans ?_ (Below.mono (by with_reducible assumption) ?_)) | omega | (simp only [size_alloc', size_setCell', size_drew', size_drewN'] at *; omega)))⟩
          · have HNa := Lib.hid (HSa.out hva)
            cases hvb : pitchValid ⟨ys, ya, yo⟩
            · have HF := Lib.hid (HBb.out hvb)
              go_wp2_with fail
              (go_at_call 42; (with_reducible refine (c_sPitchValid ⟨xs, xa, xo⟩ _).mono ?_); rintro e w1 ⟨rfl, hbq⟩; have hzq := hbq.size; (try simp only [size_alloc', size_setCell', size_drew', size_drewN'] at hzq); skip)
              have q0 := below_cell hbq q0
              have q1 := below_cell hbq q1
              have q2 := below_cell hbq q2
              go_wp2_with fail
              (go_at_call 42; (with_reducible refine (c_sPitchValid ⟨ys, ya, yo⟩ _).mono ?_); rintro e w2 ⟨rfl, hbq⟩; have hzq := hbq.size; (try simp only [size_alloc', size_setCell', size_drew', size_drewN'] at hzq); skip)
              go_wp2
              go_ret
              exact ⟨ret_int HF.out.symm, by (repeat' (first | (with_reducible exact Below.refl _ _) | (with_reducible refine Below.setCell ?_ ?_ _) | (with_reducible refine Below.alloc ?_ ?_ _) | (with_reducible refine Below.drew ?_) | (with_reducible refine below_drewN ?_ _) | (with_reducible refine Below.trans ?_ (Below.mono (by with_reducible assumption) ?_)) | omega | (simp only [size_alloc', size_setCell', size_drew', size_drewN'] at *; omega)))⟩
            · have HNb := Lib.hid (HSb.out hvb)
              go_wp2_with fail
              (go_at_call 42; (with_reducible refine (c_sPitchValid ⟨xs, xa, xo⟩ _).mono ?_); rintro e w1 ⟨rfl, hbq⟩; have hzq := hbq.size; (try simp only [size_alloc', size_setCell', size_drew', size_drewN'] at hzq); skip)
              have q0 := below_cell hbq q0
              have q1 := below_cell hbq q1
              have q2 := below_cell hbq q2
              go_wp2_with fail
              (go_at_call 42; (with_reducible refine (c_sPitchValid ⟨ys, ya, yo⟩ _).mono ?_); rintro e w2 ⟨rfl, hbq⟩; have hzq := hbq.size; (try simp only [size_alloc', size_setCell', size_drew', size_drewN'] at hzq); skip)
              go_wp2
              go_roundw
              case rel => exact ⟨j + 1, by omega, by go_num, by (repeat' (first | (with_reducible exact Below.refl _ _) | (with_reducible refine Below.setCell ?_ ?_ _) | (with_reducible refine Below.alloc ?_ ?_ _) | (with_reducible refine Below.drew ?_) | (with_reducible refine below_drewN ?_ _) | (with_reducible refine Below.trans ?_ (Below.mono (by with_reducible assumption) ?_)) | omega | (simp only [size_alloc', size_setCell', size_drew', size_drewN'] at *; omega))), HNa.out, HNb.out⟩
              case measure => simp [intOf]; omega
        · obtain rfl : j = 4 := by omega
          have HVA := Lib.hid (HVA.out.all HLA.out)
          have HVB := Lib.hid (HVB.out.all HLB.out)
          go_wp2_with fail
          go_loopw [6] (fun s wr => ∃ p : Nat, p ≤ 2 ∧ s = .int .i64 p ∧ Below w.heap.size w wr ∧ NPass la lb p) (fun s _ => 2 - (intOf s).toNat)
          case atStart => exact ⟨0, by omega, rfl, hbl, fun h => absurd h (by omega), fun h => absurd h (by omega)⟩
          case round =>
            clear hbl hz
            obtain ⟨p, hp, rfl, hbp, hnp⟩ := hrel
            have HNP := Lib.hid hnp
            clear hnp
            by_cases hp2 : p < 2
            · obtain ⟨wp, rfl⟩ : ∃ wp : World, wp = wr := ⟨_, rfl⟩
              have hp3 : (p : Int) < 2 := by omega
              obtain ⟨d, hd⟩ : ∃ d, 7 - 7 * (p : Int) = d := ⟨_, rfl⟩
              have HD := Lib.hid hd
              have hd0 : 0 ≤ d := by omega
              have hd1 : d ≤ 7 := by omega
              go_wp2_with fail
              try simp only [hd]
              go_loopw [8] (fun s wr => ∃ i : Nat, i ≤ 4 ∧ s = .int .i64 i ∧ Below w.heap.size w wr ∧ NoP la lb d i (i + 1)) (fun s _ => 4 - (intOf s).toNat)
              case atStart => exact ⟨0, by omega, rfl, hbp, NoP.start⟩
              case round =>
                obtain ⟨i, hi, rfl, hbo, hok⟩ := hrel
                have HOK := Lib.hid hok
                clear hok
                by_cases hlt : i < 4
                · obtain ⟨wo, rfl⟩ : ∃ wo : World, wo = wr := ⟨_, rfl⟩
                  have hi4 : (i : Int) < 4 := by omega
                  go_wp2_with fail
                  go_loopw [9] (fun s wr => ∃ k : Nat, i < k ∧ k ≤ 4 ∧ s = .int .i64 k ∧ Below w.heap.size w wr ∧ NoP la lb d i k) (fun s _ => 4 - (intOf s).toNat)
                  case atStart => exact ⟨i + 1, by omega, by omega, by go_num, hbo, HOK.out⟩
                  case round =>
                    obtain ⟨k, hik, hk, rfl, hbl, hok⟩ := hrel
                    have HOK := Lib.hid hok
                    have hz := hbl.size
                    clear hok
                    by_cases hlt2 : k < 4
                    · obtain ⟨⟨Ps, Pa, Po⟩, hpP, hbP, cP0, cP1, cP2⟩ := pit_getK (W := wr) (ns := lb) HVB.out (fun j u hu => below_cell hbl (HC2.out j u hu)) i (by omega)
                      dsimp only at cP0 cP1 cP2
                      obtain ⟨P, heP⟩ : ∃ X, keyOf ⟨Ps, Pa, Po⟩ = X := ⟨_, rfl⟩
                      rw [heP] at hpP hbP
                      have HKP := Lib.hid (fun w => show Calls Try.prog 43 #[.agg #[.int .i64 Ps, .int .i64 Pa, .int .i64 Po]] w fun e w' => e = .returned (.int .i64 P) ∧ Below w.heap.size w w' by have := c_sPitchKey ⟨Ps, Pa, Po⟩ w; rw [heP] at this; exact this)
                      have HPP := Lib.hid hpP
                      obtain ⟨hbP1, hbP2⟩ := hbP
                      clear hpP heP
                      obtain ⟨⟨Qs, Qa, Qo⟩, hpQ, hbQ, cQ0, cQ1, cQ2⟩ := pit_getK (W := wr) (ns := la) HVA.out (fun j u hu => below_cell hbl (HC1.out j u hu)) i (by omega)
                      dsimp only at cQ0 cQ1 cQ2
                      obtain ⟨Q, heQ⟩ : ∃ X, keyOf ⟨Qs, Qa, Qo⟩ = X := ⟨_, rfl⟩
                      rw [heQ] at hpQ hbQ
                      have HKQ := Lib.hid (fun w => show Calls Try.prog 43 #[.agg #[.int .i64 Qs, .int .i64 Qa, .int .i64 Qo]] w fun e w' => e = .returned (.int .i64 Q) ∧ Below w.heap.size w w' by have := c_sPitchKey ⟨Qs, Qa, Qo⟩ w; rw [heQ] at this; exact this)
                      have HPQ := Lib.hid hpQ
                      obtain ⟨hbQ1, hbQ2⟩ := hbQ
                      clear hpQ heQ
                      obtain ⟨⟨Rs, Ra, Ro⟩, hpR, hbR, cR0, cR1, cR2⟩ := pit_getK (W := wr) (ns := lb) HVB.out (fun j u hu => below_cell hbl (HC2.out j u hu)) k (by omega)
                      dsimp only at cR0 cR1 cR2
                      obtain ⟨R, heR⟩ : ∃ X, keyOf ⟨Rs, Ra, Ro⟩ = X := ⟨_, rfl⟩
                      rw [heR] at hpR hbR
                      have HKR := Lib.hid (fun w => show Calls Try.prog 43 #[.agg #[.int .i64 Rs, .int .i64 Ra, .int .i64 Ro]] w fun e w' => e = .returned (.int .i64 R) ∧ Below w.heap.size w w' by have := c_sPitchKey ⟨Rs, Ra, Ro⟩ w; rw [heR] at this; exact this)
                      have HPR := Lib.hid hpR
                      obtain ⟨hbR1, hbR2⟩ := hbR
                      clear hpR heR
                      obtain ⟨⟨Ts, Ta, To⟩, hpT, hbT, cT0, cT1, cT2⟩ := pit_getK (W := wr) (ns := la) HVA.out (fun j u hu => below_cell hbl (HC1.out j u hu)) k (by omega)
                      dsimp only at cT0 cT1 cT2
                      obtain ⟨T, heT⟩ : ∃ X, keyOf ⟨Ts, Ta, To⟩ = X := ⟨_, rfl⟩
                      rw [heT] at hpT hbT
                      have HKT := Lib.hid (fun w => show Calls Try.prog 43 #[.agg #[.int .i64 Ts, .int .i64 Ta, .int .i64 To]] w fun e w' => e = .returned (.int .i64 T) ∧ Below w.heap.size w w' by have := c_sPitchKey ⟨Ts, Ta, To⟩ w; rw [heT] at this; exact this)
                      have HPT := Lib.hid hpT
                      obtain ⟨hbT1, hbT2⟩ := hbT
                      clear hpT heT
                      obtain ⟨X, hX⟩ : ∃ X, P - Q = X := ⟨_, rfl⟩
                      obtain ⟨Y, hY⟩ : ∃ Y, R - T = Y := ⟨_, rfl⟩
                      obtain ⟨Z, hZ⟩ : ∃ Z, X * Y = Z := ⟨_, rfl⟩
                      have hZb : -43681 ≤ Z ∧ Z ≤ 43681 := by rw [← hZ]; exact mul_bd (by omega) (by omega)
                      obtain ⟨hZ1, hZ2⟩ := hZb
                      obtain ⟨m1, he1⟩ : ∃ m, (T - Q + 120) % 12 = m := ⟨_, rfl⟩
                      obtain ⟨m2, he2⟩ : ∃ m, (R - P + 120) % 12 = m := ⟨_, rfl⟩
                      have HE1 := Lib.hid (show (T - Q) % 12 = m1 by omega)
                      have HE2 := Lib.hid (show (R - P) % 12 = m2 by omega)
                      have hn1 : 0 ≤ T - Q + 120 := by omega
                      have hn2 : 0 ≤ R - P + 120 := by omega
                      have hXb1 : -209 ≤ X := by omega
                      have hXb2 : X ≤ 209 := by omega
                      have hYb1 : -209 ≤ Y := by omega
                      have hYb2 : Y ≤ 209 := by omega
                      have HPar := Lib.hid (show ParP la lb d i k ↔ 0 < Z ∧ m1 = d ∧ m2 = d by
                        unfold ParP; rw [HPP.out, HPQ.out, HPR.out, HPT.out, HE1.out, HE2.out, hX, hY, ← mul_same, hZ])
                      have hi1 : (0 : Int) ≤ (i : Int) := by omega
                      have hi2 : (i : Int) < (la.length : Int) := by omega
                      have hi3 : (i : Int) < (lb.length : Int) := by omega
                      have hk1 : (0 : Int) ≤ (k : Int) := by omega
                      have hk4 : (k : Int) < 4 := by omega
                      have hk2 : (k : Int) < (la.length : Int) := by omega
                      have hk3 : (k : Int) < (lb.length : Int) := by omega
                      by_cases hZ0 : 0 < Z
                      · by_cases hm1 : m1 = d
                        · have e1 : (m1 == d) = true := by simpa using hm1
                          by_cases hm2 : m2 = d
                          · have e2 : (m2 == d) = true := by simpa using hm2
                            have HF := Lib.hid (pass_hit HVA.out HVB.out hp2 HNP.out HD.out ⟨i, k, by omega, hlt2, HPar.out.2 ⟨hZ0, hm1, hm2⟩⟩)
                            clear hm1 hm2
                            go_wp2_with fail
                            (refine wp_region_more_lit (by kernel_rfl) (by kernel_rfl) ?_; (repeat (go_big_quiet_step ((first | (go_at_call 43; with_reducible exact Calls.more_of (HKP.out _)) | (go_at_call 43; with_reducible exact Calls.more_of (HKQ.out _)) | (go_at_call 43; with_reducible exact Calls.more_of (HKR.out _)) | (go_at_call 43; with_reducible exact Calls.more_of (HKT.out _)))))); refine wpQuiet_nil ?_; intro wq hwq; have hbq := below_of_more hwq; clear hwq; have hzq := hbq.size; (try simp only [size_alloc', size_setCell', size_drew', size_drewN'] at hzq); (try (refine keep_heap (b := w.heap.size) hbq ?_ ?_; (first | omega | (simp only [size_alloc', size_setCell', size_drew', size_drewN']; omega)); intro hkq; simp only [heap_alloc_get, heap_setCell_get, heap_drew_get, heap_drewN_get, size_alloc', size_setCell', size_drew', size_drewN', nat_simp1, nat_simp2, nat_simp3, nat_simp4, nat_simp5, if_true, if_false, *] at hkq; obtain ⟨_, _⟩ := blk_facts hkq)); skip)
                            go_wp2_with fail
                            obtain ⟨z1, rfl⟩ : ∃ wz : World, wz = wq := ⟨_, rfl⟩
                            have hz1 := hbq
                            clear hbq
                            have cP0 := below_cell hz1 cP0
                            have cP1 := below_cell hz1 cP1
                            have cP2 := below_cell hz1 cP2
                            have cQ0 := below_cell hz1 cQ0
                            have cQ1 := below_cell hz1 cQ1
                            have cQ2 := below_cell hz1 cQ2
                            have cR0 := below_cell hz1 cR0
                            have cR1 := below_cell hz1 cR1
                            have cR2 := below_cell hz1 cR2
                            have cT0 := below_cell hz1 cT0
                            have cT1 := below_cell hz1 cT1
                            have cT2 := below_cell hz1 cT2
                            go_wp2_with fail
                            (refine wp_region_more_lit (by kernel_rfl) (by kernel_rfl) ?_; (repeat (go_big_quiet_step ((first | (go_at_call 43; with_reducible exact Calls.more_of (HKP.out _)) | (go_at_call 43; with_reducible exact Calls.more_of (HKQ.out _)) | (go_at_call 43; with_reducible exact Calls.more_of (HKR.out _)) | (go_at_call 43; with_reducible exact Calls.more_of (HKT.out _)))))); refine wpQuiet_nil ?_; intro wq hwq; have hbq := below_of_more hwq; clear hwq; have hzq := hbq.size; (try simp only [size_alloc', size_setCell', size_drew', size_drewN'] at hzq); (try (refine keep_heap (b := w.heap.size) hbq ?_ ?_; (first | omega | (simp only [size_alloc', size_setCell', size_drew', size_drewN']; omega)); intro hkq; simp only [heap_alloc_get, heap_setCell_get, heap_drew_get, heap_drewN_get, size_alloc', size_setCell', size_drew', size_drewN', nat_simp1, nat_simp2, nat_simp3, nat_simp4, nat_simp5, if_true, if_false, *] at hkq; obtain ⟨_, _⟩ := blk_facts hkq)); skip)
                            go_wp2_with fail
                            obtain ⟨z2, rfl⟩ : ∃ wz : World, wz = wq := ⟨_, rfl⟩
                            have hz2 := hbq
                            clear hbq
                            have cP0 := below_cell hz2 cP0
                            have cP1 := below_cell hz2 cP1
                            have cP2 := below_cell hz2 cP2
                            have cQ0 := below_cell hz2 cQ0
                            have cQ1 := below_cell hz2 cQ1
                            have cQ2 := below_cell hz2 cQ2
                            have cR0 := below_cell hz2 cR0
                            have cR1 := below_cell hz2 cR1
                            have cR2 := below_cell hz2 cR2
                            have cT0 := below_cell hz2 cT0
                            have cT1 := below_cell hz2 cT1
                            have cT2 := below_cell hz2 cT2
                            go_wp2_with fail
                            (refine wp_region_more_lit (by kernel_rfl) (by kernel_rfl) ?_; (repeat (go_big_quiet_step ((first | (go_at_call 43; with_reducible exact Calls.more_of (HKP.out _)) | (go_at_call 43; with_reducible exact Calls.more_of (HKQ.out _)) | (go_at_call 43; with_reducible exact Calls.more_of (HKR.out _)) | (go_at_call 43; with_reducible exact Calls.more_of (HKT.out _)))))); refine wpQuiet_nil ?_; intro wq hwq; have hbq := below_of_more hwq; clear hwq; have hzq := hbq.size; (try simp only [size_alloc', size_setCell', size_drew', size_drewN'] at hzq); (try (refine keep_heap (b := w.heap.size) hbq ?_ ?_; (first | omega | (simp only [size_alloc', size_setCell', size_drew', size_drewN']; omega)); intro hkq; simp only [heap_alloc_get, heap_setCell_get, heap_drew_get, heap_drewN_get, size_alloc', size_setCell', size_drew', size_drewN', nat_simp1, nat_simp2, nat_simp3, nat_simp4, nat_simp5, if_true, if_false, *] at hkq; obtain ⟨_, _⟩ := blk_facts hkq)); skip)
                            go_wp2_with fail
                            obtain ⟨z3, rfl⟩ : ∃ wz : World, wz = wq := ⟨_, rfl⟩
                            have hz3 := hbq
                            clear hbq
                            have cP0 := below_cell hz3 cP0
                            have cP1 := below_cell hz3 cP1
                            have cP2 := below_cell hz3 cP2
                            have cQ0 := below_cell hz3 cQ0
                            have cQ1 := below_cell hz3 cQ1
                            have cQ2 := below_cell hz3 cQ2
                            have cR0 := below_cell hz3 cR0
                            have cR1 := below_cell hz3 cR1
                            have cR2 := below_cell hz3 cR2
                            have cT0 := below_cell hz3 cT0
                            have cT1 := below_cell hz3 cT1
                            have cT2 := below_cell hz3 cT2
                            go_wp2_with fail
                            (refine wp_region_more_lit (by kernel_rfl) (by kernel_rfl) ?_; (repeat (go_big_quiet_step ((first | (go_at_call 43; with_reducible exact Calls.more_of (HKP.out _)) | (go_at_call 43; with_reducible exact Calls.more_of (HKQ.out _)) | (go_at_call 43; with_reducible exact Calls.more_of (HKR.out _)) | (go_at_call 43; with_reducible exact Calls.more_of (HKT.out _)))))); refine wpQuiet_nil ?_; intro wq hwq; have hbq := below_of_more hwq; clear hwq; have hzq := hbq.size; (try simp only [size_alloc', size_setCell', size_drew', size_drewN'] at hzq); (try (refine keep_heap (b := w.heap.size) hbq ?_ ?_; (first | omega | (simp only [size_alloc', size_setCell', size_drew', size_drewN']; omega)); intro hkq; simp only [heap_alloc_get, heap_setCell_get, heap_drew_get, heap_drewN_get, size_alloc', size_setCell', size_drew', size_drewN', nat_simp1, nat_simp2, nat_simp3, nat_simp4, nat_simp5, if_true, if_false, *] at hkq; obtain ⟨_, _⟩ := blk_facts hkq)); skip)
                            have HB4 := hbl.trans (Below.mono (hz1.trans ((hz2.trans ((hz3.trans (hbq.mono hz3.size)).mono hz2.size)).mono hz1.size)) hz)
                            go_wp2
                            go_ret
                            exact ⟨ret_int HF.out.symm, HB4⟩
                          · have e2 : (m2 == d) = false := by simpa using hm2
                            have HN := Lib.hid (HOK.out.next (fun h => hm2 (HPar.out.1 h).2.2))
                            clear hm1 hm2
                            go_wp2_with fail
                            (refine wp_region_more_lit (by kernel_rfl) (by kernel_rfl) ?_; (repeat (go_big_quiet_step ((first | (go_at_call 43; with_reducible exact Calls.more_of (HKP.out _)) | (go_at_call 43; with_reducible exact Calls.more_of (HKQ.out _)) | (go_at_call 43; with_reducible exact Calls.more_of (HKR.out _)) | (go_at_call 43; with_reducible exact Calls.more_of (HKT.out _)))))); refine wpQuiet_nil ?_; intro wq hwq; have hbq := below_of_more hwq; clear hwq; have hzq := hbq.size; (try simp only [size_alloc', size_setCell', size_drew', size_drewN'] at hzq); (try (refine keep_heap (b := w.heap.size) hbq ?_ ?_; (first | omega | (simp only [size_alloc', size_setCell', size_drew', size_drewN']; omega)); intro hkq; simp only [heap_alloc_get, heap_setCell_get, heap_drew_get, heap_drewN_get, size_alloc', size_setCell', size_drew', size_drewN', nat_simp1, nat_simp2, nat_simp3, nat_simp4, nat_simp5, if_true, if_false, *] at hkq; obtain ⟨_, _⟩ := blk_facts hkq)); skip)
                            go_wp2_with fail
                            obtain ⟨z1, rfl⟩ : ∃ wz : World, wz = wq := ⟨_, rfl⟩
                            have hz1 := hbq
                            clear hbq
                            have cP0 := below_cell hz1 cP0
                            have cP1 := below_cell hz1 cP1
                            have cP2 := below_cell hz1 cP2
                            have cQ0 := below_cell hz1 cQ0
                            have cQ1 := below_cell hz1 cQ1
                            have cQ2 := below_cell hz1 cQ2
                            have cR0 := below_cell hz1 cR0
                            have cR1 := below_cell hz1 cR1
                            have cR2 := below_cell hz1 cR2
                            have cT0 := below_cell hz1 cT0
                            have cT1 := below_cell hz1 cT1
                            have cT2 := below_cell hz1 cT2
                            go_wp2_with fail
                            (refine wp_region_more_lit (by kernel_rfl) (by kernel_rfl) ?_; (repeat (go_big_quiet_step ((first | (go_at_call 43; with_reducible exact Calls.more_of (HKP.out _)) | (go_at_call 43; with_reducible exact Calls.more_of (HKQ.out _)) | (go_at_call 43; with_reducible exact Calls.more_of (HKR.out _)) | (go_at_call 43; with_reducible exact Calls.more_of (HKT.out _)))))); refine wpQuiet_nil ?_; intro wq hwq; have hbq := below_of_more hwq; clear hwq; have hzq := hbq.size; (try simp only [size_alloc', size_setCell', size_drew', size_drewN'] at hzq); (try (refine keep_heap (b := w.heap.size) hbq ?_ ?_; (first | omega | (simp only [size_alloc', size_setCell', size_drew', size_drewN']; omega)); intro hkq; simp only [heap_alloc_get, heap_setCell_get, heap_drew_get, heap_drewN_get, size_alloc', size_setCell', size_drew', size_drewN', nat_simp1, nat_simp2, nat_simp3, nat_simp4, nat_simp5, if_true, if_false, *] at hkq; obtain ⟨_, _⟩ := blk_facts hkq)); skip)
                            go_wp2_with fail
                            obtain ⟨z2, rfl⟩ : ∃ wz : World, wz = wq := ⟨_, rfl⟩
                            have hz2 := hbq
                            clear hbq
                            have cP0 := below_cell hz2 cP0
                            have cP1 := below_cell hz2 cP1
                            have cP2 := below_cell hz2 cP2
                            have cQ0 := below_cell hz2 cQ0
                            have cQ1 := below_cell hz2 cQ1
                            have cQ2 := below_cell hz2 cQ2
                            have cR0 := below_cell hz2 cR0
                            have cR1 := below_cell hz2 cR1
                            have cR2 := below_cell hz2 cR2
                            have cT0 := below_cell hz2 cT0
                            have cT1 := below_cell hz2 cT1
                            have cT2 := below_cell hz2 cT2
                            go_wp2_with fail
                            (refine wp_region_more_lit (by kernel_rfl) (by kernel_rfl) ?_; (repeat (go_big_quiet_step ((first | (go_at_call 43; with_reducible exact Calls.more_of (HKP.out _)) | (go_at_call 43; with_reducible exact Calls.more_of (HKQ.out _)) | (go_at_call 43; with_reducible exact Calls.more_of (HKR.out _)) | (go_at_call 43; with_reducible exact Calls.more_of (HKT.out _)))))); refine wpQuiet_nil ?_; intro wq hwq; have hbq := below_of_more hwq; clear hwq; have hzq := hbq.size; (try simp only [size_alloc', size_setCell', size_drew', size_drewN'] at hzq); (try (refine keep_heap (b := w.heap.size) hbq ?_ ?_; (first | omega | (simp only [size_alloc', size_setCell', size_drew', size_drewN']; omega)); intro hkq; simp only [heap_alloc_get, heap_setCell_get, heap_drew_get, heap_drewN_get, size_alloc', size_setCell', size_drew', size_drewN', nat_simp1, nat_simp2, nat_simp3, nat_simp4, nat_simp5, if_true, if_false, *] at hkq; obtain ⟨_, _⟩ := blk_facts hkq)); skip)
                            go_wp2_with fail
                            obtain ⟨z3, rfl⟩ : ∃ wz : World, wz = wq := ⟨_, rfl⟩
                            have hz3 := hbq
                            clear hbq
                            have cP0 := below_cell hz3 cP0
                            have cP1 := below_cell hz3 cP1
                            have cP2 := below_cell hz3 cP2
                            have cQ0 := below_cell hz3 cQ0
                            have cQ1 := below_cell hz3 cQ1
                            have cQ2 := below_cell hz3 cQ2
                            have cR0 := below_cell hz3 cR0
                            have cR1 := below_cell hz3 cR1
                            have cR2 := below_cell hz3 cR2
                            have cT0 := below_cell hz3 cT0
                            have cT1 := below_cell hz3 cT1
                            have cT2 := below_cell hz3 cT2
                            go_wp2_with fail
                            (refine wp_region_more_lit (by kernel_rfl) (by kernel_rfl) ?_; (repeat (go_big_quiet_step ((first | (go_at_call 43; with_reducible exact Calls.more_of (HKP.out _)) | (go_at_call 43; with_reducible exact Calls.more_of (HKQ.out _)) | (go_at_call 43; with_reducible exact Calls.more_of (HKR.out _)) | (go_at_call 43; with_reducible exact Calls.more_of (HKT.out _)))))); refine wpQuiet_nil ?_; intro wq hwq; have hbq := below_of_more hwq; clear hwq; have hzq := hbq.size; (try simp only [size_alloc', size_setCell', size_drew', size_drewN'] at hzq); (try (refine keep_heap (b := w.heap.size) hbq ?_ ?_; (first | omega | (simp only [size_alloc', size_setCell', size_drew', size_drewN']; omega)); intro hkq; simp only [heap_alloc_get, heap_setCell_get, heap_drew_get, heap_drewN_get, size_alloc', size_setCell', size_drew', size_drewN', nat_simp1, nat_simp2, nat_simp3, nat_simp4, nat_simp5, if_true, if_false, *] at hkq; obtain ⟨_, _⟩ := blk_facts hkq)); skip)
                            have HB4 := hbl.trans (Below.mono (hz1.trans ((hz2.trans ((hz3.trans (hbq.mono hz3.size)).mono hz2.size)).mono hz1.size)) hz)
                            go_wp2
                            go_roundw
                            case rel => first | exact ⟨k + 1, by omega, by omega, by go_num, HB4, HN.out⟩ | exact HN.out | exact ⟨k + 1, by omega, by omega, by go_num, HN.out⟩ | exact ⟨k + 1, by omega, by omega, by omega, HN.out⟩
                            case measure => simp [intOf]; omega
                        · have e1 : (m1 == d) = false := by simpa using hm1
                          have HN := Lib.hid (HOK.out.next (fun h => hm1 (HPar.out.1 h).2.1))
                          clear hm1
                          go_wp2_with fail
                          (refine wp_region_more_lit (by kernel_rfl) (by kernel_rfl) ?_; (repeat (go_big_quiet_step ((first | (go_at_call 43; with_reducible exact Calls.more_of (HKP.out _)) | (go_at_call 43; with_reducible exact Calls.more_of (HKQ.out _)) | (go_at_call 43; with_reducible exact Calls.more_of (HKR.out _)) | (go_at_call 43; with_reducible exact Calls.more_of (HKT.out _)))))); refine wpQuiet_nil ?_; intro wq hwq; have hbq := below_of_more hwq; clear hwq; have hzq := hbq.size; (try simp only [size_alloc', size_setCell', size_drew', size_drewN'] at hzq); (try (refine keep_heap (b := w.heap.size) hbq ?_ ?_; (first | omega | (simp only [size_alloc', size_setCell', size_drew', size_drewN']; omega)); intro hkq; simp only [heap_alloc_get, heap_setCell_get, heap_drew_get, heap_drewN_get, size_alloc', size_setCell', size_drew', size_drewN', nat_simp1, nat_simp2, nat_simp3, nat_simp4, nat_simp5, if_true, if_false, *] at hkq; obtain ⟨_, _⟩ := blk_facts hkq)); skip)
                          go_wp2_with fail
                          obtain ⟨z1, rfl⟩ : ∃ wz : World, wz = wq := ⟨_, rfl⟩
                          have hz1 := hbq
                          clear hbq
                          have cP0 := below_cell hz1 cP0
                          have cP1 := below_cell hz1 cP1
                          have cP2 := below_cell hz1 cP2
                          have cQ0 := below_cell hz1 cQ0
                          have cQ1 := below_cell hz1 cQ1
                          have cQ2 := below_cell hz1 cQ2
                          have cR0 := below_cell hz1 cR0
                          have cR1 := below_cell hz1 cR1
                          have cR2 := below_cell hz1 cR2
                          have cT0 := below_cell hz1 cT0
                          have cT1 := below_cell hz1 cT1
                          have cT2 := below_cell hz1 cT2
                          go_wp2_with fail
                          (refine wp_region_more_lit (by kernel_rfl) (by kernel_rfl) ?_; (repeat (go_big_quiet_step ((first | (go_at_call 43; with_reducible exact Calls.more_of (HKP.out _)) | (go_at_call 43; with_reducible exact Calls.more_of (HKQ.out _)) | (go_at_call 43; with_reducible exact Calls.more_of (HKR.out _)) | (go_at_call 43; with_reducible exact Calls.more_of (HKT.out _)))))); refine wpQuiet_nil ?_; intro wq hwq; have hbq := below_of_more hwq; clear hwq; have hzq := hbq.size; (try simp only [size_alloc', size_setCell', size_drew', size_drewN'] at hzq); (try (refine keep_heap (b := w.heap.size) hbq ?_ ?_; (first | omega | (simp only [size_alloc', size_setCell', size_drew', size_drewN']; omega)); intro hkq; simp only [heap_alloc_get, heap_setCell_get, heap_drew_get, heap_drewN_get, size_alloc', size_setCell', size_drew', size_drewN', nat_simp1, nat_simp2, nat_simp3, nat_simp4, nat_simp5, if_true, if_false, *] at hkq; obtain ⟨_, _⟩ := blk_facts hkq)); skip)
                          go_wp2_with fail
                          obtain ⟨z2, rfl⟩ : ∃ wz : World, wz = wq := ⟨_, rfl⟩
                          have hz2 := hbq
                          clear hbq
                          have cP0 := below_cell hz2 cP0
                          have cP1 := below_cell hz2 cP1
                          have cP2 := below_cell hz2 cP2
                          have cQ0 := below_cell hz2 cQ0
                          have cQ1 := below_cell hz2 cQ1
                          have cQ2 := below_cell hz2 cQ2
                          have cR0 := below_cell hz2 cR0
                          have cR1 := below_cell hz2 cR1
                          have cR2 := below_cell hz2 cR2
                          have cT0 := below_cell hz2 cT0
                          have cT1 := below_cell hz2 cT1
                          have cT2 := below_cell hz2 cT2
                          go_wp2_with fail
                          (refine wp_region_more_lit (by kernel_rfl) (by kernel_rfl) ?_; (repeat (go_big_quiet_step ((first | (go_at_call 43; with_reducible exact Calls.more_of (HKP.out _)) | (go_at_call 43; with_reducible exact Calls.more_of (HKQ.out _)) | (go_at_call 43; with_reducible exact Calls.more_of (HKR.out _)) | (go_at_call 43; with_reducible exact Calls.more_of (HKT.out _)))))); refine wpQuiet_nil ?_; intro wq hwq; have hbq := below_of_more hwq; clear hwq; have hzq := hbq.size; (try simp only [size_alloc', size_setCell', size_drew', size_drewN'] at hzq); (try (refine keep_heap (b := w.heap.size) hbq ?_ ?_; (first | omega | (simp only [size_alloc', size_setCell', size_drew', size_drewN']; omega)); intro hkq; simp only [heap_alloc_get, heap_setCell_get, heap_drew_get, heap_drewN_get, size_alloc', size_setCell', size_drew', size_drewN', nat_simp1, nat_simp2, nat_simp3, nat_simp4, nat_simp5, if_true, if_false, *] at hkq; obtain ⟨_, _⟩ := blk_facts hkq)); skip)
                          go_wp2_with fail
                          obtain ⟨z3, rfl⟩ : ∃ wz : World, wz = wq := ⟨_, rfl⟩
                          have hz3 := hbq
                          clear hbq
                          have cP0 := below_cell hz3 cP0
                          have cP1 := below_cell hz3 cP1
                          have cP2 := below_cell hz3 cP2
                          have cQ0 := below_cell hz3 cQ0
                          have cQ1 := below_cell hz3 cQ1
                          have cQ2 := below_cell hz3 cQ2
                          have cR0 := below_cell hz3 cR0
                          have cR1 := below_cell hz3 cR1
                          have cR2 := below_cell hz3 cR2
                          have cT0 := below_cell hz3 cT0
                          have cT1 := below_cell hz3 cT1
                          have cT2 := below_cell hz3 cT2
                          go_wp2_with fail
                          (refine wp_region_more_lit (by kernel_rfl) (by kernel_rfl) ?_; (repeat (go_big_quiet_step ((first | (go_at_call 43; with_reducible exact Calls.more_of (HKP.out _)) | (go_at_call 43; with_reducible exact Calls.more_of (HKQ.out _)) | (go_at_call 43; with_reducible exact Calls.more_of (HKR.out _)) | (go_at_call 43; with_reducible exact Calls.more_of (HKT.out _)))))); refine wpQuiet_nil ?_; intro wq hwq; have hbq := below_of_more hwq; clear hwq; have hzq := hbq.size; (try simp only [size_alloc', size_setCell', size_drew', size_drewN'] at hzq); (try (refine keep_heap (b := w.heap.size) hbq ?_ ?_; (first | omega | (simp only [size_alloc', size_setCell', size_drew', size_drewN']; omega)); intro hkq; simp only [heap_alloc_get, heap_setCell_get, heap_drew_get, heap_drewN_get, size_alloc', size_setCell', size_drew', size_drewN', nat_simp1, nat_simp2, nat_simp3, nat_simp4, nat_simp5, if_true, if_false, *] at hkq; obtain ⟨_, _⟩ := blk_facts hkq)); skip)
                          have HB4 := hbl.trans (Below.mono (hz1.trans ((hz2.trans ((hz3.trans (hbq.mono hz3.size)).mono hz2.size)).mono hz1.size)) hz)
                          go_wp2
                          go_roundw
                          case rel => first | exact ⟨k + 1, by omega, by omega, by go_num, HB4, HN.out⟩ | exact HN.out | exact ⟨k + 1, by omega, by omega, by go_num, HN.out⟩ | exact ⟨k + 1, by omega, by omega, by omega, HN.out⟩
                          case measure => simp [intOf]; omega
                      · have HN := Lib.hid (HOK.out.next (fun h => hZ0 (HPar.out.1 h).1))
                        go_wp2_with fail
                        (refine wp_region_more_lit (by kernel_rfl) (by kernel_rfl) ?_; (repeat (go_big_quiet_step ((first | (go_at_call 43; with_reducible exact Calls.more_of (HKP.out _)) | (go_at_call 43; with_reducible exact Calls.more_of (HKQ.out _)) | (go_at_call 43; with_reducible exact Calls.more_of (HKR.out _)) | (go_at_call 43; with_reducible exact Calls.more_of (HKT.out _)))))); refine wpQuiet_nil ?_; intro wq hwq; have hbq := below_of_more hwq; clear hwq; have hzq := hbq.size; (try simp only [size_alloc', size_setCell', size_drew', size_drewN'] at hzq); (try (refine keep_heap (b := w.heap.size) hbq ?_ ?_; (first | omega | (simp only [size_alloc', size_setCell', size_drew', size_drewN']; omega)); intro hkq; simp only [heap_alloc_get, heap_setCell_get, heap_drew_get, heap_drewN_get, size_alloc', size_setCell', size_drew', size_drewN', nat_simp1, nat_simp2, nat_simp3, nat_simp4, nat_simp5, if_true, if_false, *] at hkq; obtain ⟨_, _⟩ := blk_facts hkq)); skip)
                        go_wp2_with fail
                        obtain ⟨z1, rfl⟩ : ∃ wz : World, wz = wq := ⟨_, rfl⟩
                        have hz1 := hbq
                        clear hbq
                        have cP0 := below_cell hz1 cP0
                        have cP1 := below_cell hz1 cP1
                        have cP2 := below_cell hz1 cP2
                        have cQ0 := below_cell hz1 cQ0
                        have cQ1 := below_cell hz1 cQ1
                        have cQ2 := below_cell hz1 cQ2
                        have cR0 := below_cell hz1 cR0
                        have cR1 := below_cell hz1 cR1
                        have cR2 := below_cell hz1 cR2
                        have cT0 := below_cell hz1 cT0
                        have cT1 := below_cell hz1 cT1
                        have cT2 := below_cell hz1 cT2
                        go_wp2_with fail
                        (refine wp_region_more_lit (by kernel_rfl) (by kernel_rfl) ?_; (repeat (go_big_quiet_step ((first | (go_at_call 43; with_reducible exact Calls.more_of (HKP.out _)) | (go_at_call 43; with_reducible exact Calls.more_of (HKQ.out _)) | (go_at_call 43; with_reducible exact Calls.more_of (HKR.out _)) | (go_at_call 43; with_reducible exact Calls.more_of (HKT.out _)))))); refine wpQuiet_nil ?_; intro wq hwq; have hbq := below_of_more hwq; clear hwq; have hzq := hbq.size; (try simp only [size_alloc', size_setCell', size_drew', size_drewN'] at hzq); (try (refine keep_heap (b := w.heap.size) hbq ?_ ?_; (first | omega | (simp only [size_alloc', size_setCell', size_drew', size_drewN']; omega)); intro hkq; simp only [heap_alloc_get, heap_setCell_get, heap_drew_get, heap_drewN_get, size_alloc', size_setCell', size_drew', size_drewN', nat_simp1, nat_simp2, nat_simp3, nat_simp4, nat_simp5, if_true, if_false, *] at hkq; obtain ⟨_, _⟩ := blk_facts hkq)); skip)
                        go_wp2_with fail
                        obtain ⟨z2, rfl⟩ : ∃ wz : World, wz = wq := ⟨_, rfl⟩
                        have hz2 := hbq
                        clear hbq
                        have cP0 := below_cell hz2 cP0
                        have cP1 := below_cell hz2 cP1
                        have cP2 := below_cell hz2 cP2
                        have cQ0 := below_cell hz2 cQ0
                        have cQ1 := below_cell hz2 cQ1
                        have cQ2 := below_cell hz2 cQ2
                        have cR0 := below_cell hz2 cR0
                        have cR1 := below_cell hz2 cR1
                        have cR2 := below_cell hz2 cR2
                        have cT0 := below_cell hz2 cT0
                        have cT1 := below_cell hz2 cT1
                        have cT2 := below_cell hz2 cT2
                        go_wp2_with fail
                        (refine wp_region_more_lit (by kernel_rfl) (by kernel_rfl) ?_; (repeat (go_big_quiet_step ((first | (go_at_call 43; with_reducible exact Calls.more_of (HKP.out _)) | (go_at_call 43; with_reducible exact Calls.more_of (HKQ.out _)) | (go_at_call 43; with_reducible exact Calls.more_of (HKR.out _)) | (go_at_call 43; with_reducible exact Calls.more_of (HKT.out _)))))); refine wpQuiet_nil ?_; intro wq hwq; have hbq := below_of_more hwq; clear hwq; have hzq := hbq.size; (try simp only [size_alloc', size_setCell', size_drew', size_drewN'] at hzq); (try (refine keep_heap (b := w.heap.size) hbq ?_ ?_; (first | omega | (simp only [size_alloc', size_setCell', size_drew', size_drewN']; omega)); intro hkq; simp only [heap_alloc_get, heap_setCell_get, heap_drew_get, heap_drewN_get, size_alloc', size_setCell', size_drew', size_drewN', nat_simp1, nat_simp2, nat_simp3, nat_simp4, nat_simp5, if_true, if_false, *] at hkq; obtain ⟨_, _⟩ := blk_facts hkq)); skip)
                        go_wp2_with fail
                        obtain ⟨z3, rfl⟩ : ∃ wz : World, wz = wq := ⟨_, rfl⟩
                        have hz3 := hbq
                        clear hbq
                        have cP0 := below_cell hz3 cP0
                        have cP1 := below_cell hz3 cP1
                        have cP2 := below_cell hz3 cP2
                        have cQ0 := below_cell hz3 cQ0
                        have cQ1 := below_cell hz3 cQ1
                        have cQ2 := below_cell hz3 cQ2
                        have cR0 := below_cell hz3 cR0
                        have cR1 := below_cell hz3 cR1
                        have cR2 := below_cell hz3 cR2
                        have cT0 := below_cell hz3 cT0
                        have cT1 := below_cell hz3 cT1
                        have cT2 := below_cell hz3 cT2
                        go_wp2_with fail
                        (refine wp_region_more_lit (by kernel_rfl) (by kernel_rfl) ?_; (repeat (go_big_quiet_step ((first | (go_at_call 43; with_reducible exact Calls.more_of (HKP.out _)) | (go_at_call 43; with_reducible exact Calls.more_of (HKQ.out _)) | (go_at_call 43; with_reducible exact Calls.more_of (HKR.out _)) | (go_at_call 43; with_reducible exact Calls.more_of (HKT.out _)))))); refine wpQuiet_nil ?_; intro wq hwq; have hbq := below_of_more hwq; clear hwq; have hzq := hbq.size; (try simp only [size_alloc', size_setCell', size_drew', size_drewN'] at hzq); (try (refine keep_heap (b := w.heap.size) hbq ?_ ?_; (first | omega | (simp only [size_alloc', size_setCell', size_drew', size_drewN']; omega)); intro hkq; simp only [heap_alloc_get, heap_setCell_get, heap_drew_get, heap_drewN_get, size_alloc', size_setCell', size_drew', size_drewN', nat_simp1, nat_simp2, nat_simp3, nat_simp4, nat_simp5, if_true, if_false, *] at hkq; obtain ⟨_, _⟩ := blk_facts hkq)); skip)
                        have HB4 := hbl.trans (Below.mono (hz1.trans ((hz2.trans ((hz3.trans (hbq.mono hz3.size)).mono hz2.size)).mono hz1.size)) hz)
                        go_wp2
                        go_roundw
                        case rel => first | exact ⟨k + 1, by omega, by omega, by go_num, HB4, HN.out⟩ | exact HN.out | exact ⟨k + 1, by omega, by omega, by go_num, HN.out⟩ | exact ⟨k + 1, by omega, by omega, by omega, HN.out⟩
                        case measure => simp [intOf]; omega
                    · obtain rfl : k = 4 := by omega
                      have HN := Lib.hid HOK.out.row
                      go_wp2
                      go_roundw
                      case rel => exact ⟨i + 1, by omega, by go_num, hbl, HN.out⟩
                      case measure => simp [intOf]; omega
                · obtain rfl : i = 4 := by omega
                  have HN := Lib.hid (pass_next hp2 HNP.out HD.out HOK.out.all)
                  go_wp2
                  go_roundw
                  case rel => exact ⟨p + 1, by omega, by go_num, hbo, HN.out⟩
                  case measure => simp [intOf]; omega
            · obtain rfl : p = 2 := by omega
              have H7 := Lib.hid (HNP.out.1 (by omega))
              have H0 := Lib.hid (HNP.out.2 (by omega))
              go_wp2_with fail
              go_loopw [14] (fun s wr => ∃ i : Nat, i ≤ 4 ∧ s = .int .i64 i ∧ Below w.heap.size w wr ∧ NoL la lb i) (fun s _ => 4 - (intOf s).toNat)
              case atStart => exact ⟨0, by omega, rfl, hbp, fun i hi => absurd hi (by omega)⟩
              case round =>
                obtain ⟨i, hi, rfl, hbl, hok⟩ := hrel
                have HOK := Lib.hid hok
                have hz := hbl.size
                clear hok
                by_cases hlt : i < 4
                · obtain ⟨⟨Ps, Pa, Po⟩, hpP, hbP, cP0, cP1, cP2⟩ := pit_getK (W := wr) (ns := lb) HVB.out (fun j u hu => below_cell hbl (HC2.out j u hu)) i (by omega)
                  dsimp only at cP0 cP1 cP2
                  obtain ⟨P, heP⟩ : ∃ X, keyOf ⟨Ps, Pa, Po⟩ = X := ⟨_, rfl⟩
                  rw [heP] at hpP hbP
                  have HKP := Lib.hid (fun w => show Calls Try.prog 43 #[.agg #[.int .i64 Ps, .int .i64 Pa, .int .i64 Po]] w fun e w' => e = .returned (.int .i64 P) ∧ Below w.heap.size w w' by have := c_sPitchKey ⟨Ps, Pa, Po⟩ w; rw [heP] at this; exact this)
                  have HPP := Lib.hid hpP
                  obtain ⟨hbP1, hbP2⟩ := hbP
                  clear hpP heP
                  obtain ⟨⟨Qs, Qa, Qo⟩, hpQ, hbQ, cQ0, cQ1, cQ2⟩ := pit_getK (W := wr) (ns := la) HVA.out (fun j u hu => below_cell hbl (HC1.out j u hu)) i (by omega)
                  dsimp only at cQ0 cQ1 cQ2
                  obtain ⟨Q, heQ⟩ : ∃ X, keyOf ⟨Qs, Qa, Qo⟩ = X := ⟨_, rfl⟩
                  rw [heQ] at hpQ hbQ
                  have HKQ := Lib.hid (fun w => show Calls Try.prog 43 #[.agg #[.int .i64 Qs, .int .i64 Qa, .int .i64 Qo]] w fun e w' => e = .returned (.int .i64 Q) ∧ Below w.heap.size w w' by have := c_sPitchKey ⟨Qs, Qa, Qo⟩ w; rw [heQ] at this; exact this)
                  have HPQ := Lib.hid hpQ
                  obtain ⟨hbQ1, hbQ2⟩ := hbQ
                  clear hpQ heQ
                  have hi1 : (0 : Int) ≤ (i : Int) := by omega
                  have hi4 : (i : Int) < 4 := by omega
                  have hi2 : (i : Int) < (la.length : Int) := by omega
                  have hi3 : (i : Int) < (lb.length : Int) := by omega
                  obtain ⟨X, hX⟩ : ∃ X, P - Q = X := ⟨_, rfl⟩
                  obtain ⟨D, hD⟩ : ∃ D, max X (-X) = D := ⟨_, rfl⟩
                  have hXb1 : -209 ≤ X := by omega
                  have hXb2 : X ≤ 209 := by omega
                  by_cases hc : 12 < D
                  · have HF := Lib.hid (moveF_7 HVA.out HVB.out H7.out H0.out ⟨i, hlt, by rw [HPP.out, HPQ.out]; omega⟩)
                    by_cases hs : X ≤ -X
                    · have hD' : -X = D := by omega
                      clear hD
                      go_wp2_with fail
                      (refine wp_region_more_lit (by kernel_rfl) (by kernel_rfl) ?_; (repeat (go_big_quiet_step ((first | (go_at_call 43; with_reducible exact Calls.more_of (HKP.out _)) | (go_at_call 43; with_reducible exact Calls.more_of (HKQ.out _)))))); refine wpQuiet_nil ?_; intro wq hwq; have hbq := below_of_more hwq; clear hwq; have hzq := hbq.size; (try simp only [size_alloc', size_setCell', size_drew', size_drewN'] at hzq); (try (refine keep_heap (b := w.heap.size) hbq ?_ ?_; (first | omega | (simp only [size_alloc', size_setCell', size_drew', size_drewN']; omega)); intro hkq; simp only [heap_alloc_get, heap_setCell_get, heap_drew_get, heap_drewN_get, size_alloc', size_setCell', size_drew', size_drewN', nat_simp1, nat_simp2, nat_simp3, nat_simp4, nat_simp5, if_true, if_false, *] at hkq; obtain ⟨_, _⟩ := blk_facts hkq)); skip)
                      go_wp2
                      all_goals
                        go_ret
                        exact ⟨ret_int HF.out.symm, hbl.trans (hbq.mono hz)⟩
                    · have hD' : X = D := by omega
                      clear hD
                      go_wp2_with fail
                      (refine wp_region_more_lit (by kernel_rfl) (by kernel_rfl) ?_; (repeat (go_big_quiet_step ((first | (go_at_call 43; with_reducible exact Calls.more_of (HKP.out _)) | (go_at_call 43; with_reducible exact Calls.more_of (HKQ.out _)))))); refine wpQuiet_nil ?_; intro wq hwq; have hbq := below_of_more hwq; clear hwq; have hzq := hbq.size; (try simp only [size_alloc', size_setCell', size_drew', size_drewN'] at hzq); (try (refine keep_heap (b := w.heap.size) hbq ?_ ?_; (first | omega | (simp only [size_alloc', size_setCell', size_drew', size_drewN']; omega)); intro hkq; simp only [heap_alloc_get, heap_setCell_get, heap_drew_get, heap_drewN_get, size_alloc', size_setCell', size_drew', size_drewN', nat_simp1, nat_simp2, nat_simp3, nat_simp4, nat_simp5, if_true, if_false, *] at hkq; obtain ⟨_, _⟩ := blk_facts hkq)); skip)
                      go_wp2
                      all_goals
                        go_ret
                        exact ⟨ret_int HF.out.symm, hbl.trans (hbq.mono hz)⟩
                  · have HN := Lib.hid (HOK.out.next (by rw [HPP.out, HPQ.out]; omega))
                    have hc1 : X ≤ 12 := by omega
                    have hc2 : -X ≤ 12 := by omega
                    clear hD hc
                    go_wp2_with fail
                    (refine wp_region_more_lit (by kernel_rfl) (by kernel_rfl) ?_; (repeat (go_big_quiet_step ((first | (go_at_call 43; with_reducible exact Calls.more_of (HKP.out _)) | (go_at_call 43; with_reducible exact Calls.more_of (HKQ.out _)))))); refine wpQuiet_nil ?_; intro wq hwq; have hbq := below_of_more hwq; clear hwq; have hzq := hbq.size; (try simp only [size_alloc', size_setCell', size_drew', size_drewN'] at hzq); (try (refine keep_heap (b := w.heap.size) hbq ?_ ?_; (first | omega | (simp only [size_alloc', size_setCell', size_drew', size_drewN']; omega)); intro hkq; simp only [heap_alloc_get, heap_setCell_get, heap_drew_get, heap_drewN_get, size_alloc', size_setCell', size_drew', size_drewN', nat_simp1, nat_simp2, nat_simp3, nat_simp4, nat_simp5, if_true, if_false, *] at hkq; obtain ⟨_, _⟩ := blk_facts hkq)); skip)
                    go_wp2
                    all_goals
                      go_roundw
                      case rel => exact ⟨i + 1, by omega, by go_num, hbl.trans (hbq.mono hz), HN.out⟩
                      case measure => simp [intOf]; omega
                · obtain rfl : i = 4 := by omega
                  have HF := Lib.hid (moveF_0 HVA.out HVB.out H7.out H0.out HOK.out.all)
                  go_wp2
                  go_ret
                  exact ⟨ret_int HF.out.symm, hbl⟩
    · have HF := Lib.hid (moveF_1b (a := la) (not4 hlb))
      have hna : ((la.length : Int) != 4) = false := by simp; omega
      have hnb : ((lb.length : Int) != 4) = true := by simp; omega
      clear hA1 hA2 hla hlb
      go_enter Try.func16, Try.ntmps16
      go_wp2
      go_ret
      exact ⟨ret_int HF.out.symm, Below.refl _ _⟩
  · have HF := Lib.hid (moveF_1a (b := lb) (not4 hla))
    have hna : ((la.length : Int) != 4) = true := by simp; omega
    clear hA1 hA2 hla
    go_enter Try.func16, Try.ntmps16
    go_wp2
    go_ret
    exact ⟨ret_int HF.out.symm, Below.refl _ _⟩
end Go.Proofs.Ytlhekgjckjcbhaa
