/- The walk of FnSplitBars. Conditions: none. -/
import Derived.Test.YtendoahanngacaaG1
import Derived.Test.YtendoahanngacaaJ0
namespace Go.Proofs.Ytendoahanngacaa
open Go.RowKit
set_option linter.unusedSimpArgs false
set_option linter.unusedVariables false
set_option maxHeartbeats 16000000
set_option maxRecDepth 100000 in
theorem walk_FnSplitBars (w : World) (v : Value) (bs : List Int) (h : Rd w v 1 bs.length (byteCells bs)) (hb : ∀ x ∈ bs, 0 ≤ x ∧ x ≤ 255) :
    Calls Try.prog 14 #[v] w fun e w' => e = .returned (.bool true) ∧ Below w.heap.size w w' := by
  have h' := Lib.hid h
  obtain ⟨_, A, c0, rfl, hnc, hcm, hA⟩ := h
  unfold maxLen at hcm
  clear hA
  by_cases hlen : bs.length ≤ 1048576
  · go_enter Try.func14, Try.ntmps14
    go_wp2_with fail
    (go_at_call 43; (with_reducible refine (c_DrawSplitBars _ bs _ h'.out hb).mono ?_); rintro e w1 ⟨v1, ns, ⟨b, u⟩, rfl, ho1, hl1, hb1⟩)
    have HV1 := Lib.hid (Rd.of_own ho1)
    have hz1 := hb1.size
    obtain ⟨_, A1, c1, rfl, hn1, hm1, _⟩ := Rd.of_own ho1
    unfold maxLen at hm1
    have HV1 := Lib.hid (show Rd w1 (.slice A1 ns.length c1) 6 ns.length (ntCells ns) from HV1.out)
    clear ho1
    have HA1 := Lib.hid (heap_alloc_new w1 (.cells #[.int .i64 b, .int .i64 u] 25))
    have HR1 := Lib.hid (HV1.out.alloc (.cells #[.int .i64 b, .int .i64 u] 25))
    have S := hb1.alloc hz1 (.cells #[.int .i64 b, .int .i64 u] 25)
    cases hO : splitB ns ⟨b, u⟩ with
    | none =>
      have HP := Lib.hid (show ∀ w e w', ShiftPost (splitB ns ⟨b, u⟩) w e w' → WPost [] false w e w' from fun w e w' hp => by rw [hO] at hp; exact hp)
      clear hO
      go_wp2_with fail
      (go_at_call 42; (with_reducible refine (c_SplitBars _ ns ⟨b, u⟩ _ HR1.out).mono ?_); rintro e w2 hpost; obtain ⟨vg, rfl, hog, hlg, hb2⟩ := HP.out _ _ _ hpost; clear hpost)
      have S := S.trans (hb2.mono S.size)
      have hhc := below_heap hb2 HA1.out
      have HX2 := Lib.hid hhc
      obtain ⟨_, _⟩ := blk_facts hhc
      clear hhc
      have HR2 := Lib.hid (HR1.out.below (Nat.le_refl _) hb2)
      obtain ⟨_, Ag, cg, rfl, hcg1, hcg2, hcg3⟩ := Rd.of_own hog
      have HG2 := Lib.hid (show Rd w2 (.slice Ag 0 cg) 6 ([] : List Nt).length (ntCells []) from Rd.of_own hog)
      clear hog hcg3
      go_wp2_with fail
      (go_at_call 41; (with_reducible refine (c_sSplitBars _ ns ⟨b, u⟩ _ HR2.out).mono ?_); rintro e w3 hpost; obtain ⟨vw, rfl, how, hlw, hb3⟩ := HP.out _ _ _ hpost; clear hpost)
      have S := S.trans (hb3.mono S.size)
      have hhc := below_heap hb3 HX2.out
      have HX3 := Lib.hid hhc
      obtain ⟨_, _⟩ := blk_facts hhc
      clear hhc
      have HG3 := Lib.hid (HG2.out.below (Nat.le_refl _) hb3)
      have HW3 := Lib.hid (Rd.of_own how)
      clear how
      go_wp2_with fail
      (go_at_call 40; (with_reducible refine (c_sameVoice_eq _ _ ([] : List Nt) _ HG3.out HW3.out).mono ?_); rintro e w4 ⟨rfl, hb4⟩)
      have S := S.trans (hb4.mono S.size)
      go_wp2_with fail
      (go_at_call 24; (with_reducible refine (c_alive _).mono ?_); rintro e w5 ⟨rfl, hb5⟩)
      have S := S.trans (hb5.mono S.size)
      go_wp2
      go_ret
      exact ⟨rfl, S⟩
    | some out =>
      have HP := Lib.hid (show ∀ w e w', ShiftPost (splitB ns ⟨b, u⟩) w e w' → WPost out true w e w' from fun w e w' hp => by rw [hO] at hp; exact hp)
      obtain ⟨hv, hm, -, hl60⟩ := splitB_some hO
      obtain ⟨hvx, hsx, hag⟩ := splitB_valid hO
      obtain ⟨k1, k2, -, -, -, -⟩ := bar_bd hm
      have HQ := Lib.hid (show ∀ w e w', ShiftPost (splitB out ⟨b, u⟩) w e w' → WPost out true w e w' from fun w e w' hp => by rw [hag] at hp; exact hp)
      have HPl := Lib.hid (splitB_places hO)
      have HJo := Lib.hid (fun h1 h2 => splitB_joins hO h1 h2)
      have HVX := Lib.hid hvx
      obtain ⟨x60, xbd⟩ := voiceValid_bd hvx
      have HXB := Lib.hid xbd
      have HVT := Lib.hid (show voiceT ns = sumT out by rw [hsx]; simp [voiceT, hv])
      obtain ⟨B, hB⟩ : ∃ B, barTicks ⟨b, u⟩ = B := ⟨_, rfl⟩
      have HB := Lib.hid hB
      rw [hB] at k1 k2 HPl
      clear hO hv hm hvx hsx hag xbd hB
      go_wp2_with fail
      (go_at_call 42; (with_reducible refine (c_SplitBars _ ns ⟨b, u⟩ _ HR1.out).mono ?_); rintro e w2 hpost; obtain ⟨vg, rfl, hog, hlg, hb2⟩ := HP.out _ _ _ hpost; clear hpost)
      have S := S.trans (hb2.mono S.size)
      have hhc := below_heap hb2 HA1.out
      have HX2 := Lib.hid hhc
      obtain ⟨_, _⟩ := blk_facts hhc
      clear hhc
      have HR2 := Lib.hid (HR1.out.below (Nat.le_refl _) hb2)
      obtain ⟨_, Ag, cg, rfl, hcg1, hcg2, hcg3⟩ := Rd.of_own hog
      have HG2 := Lib.hid (show Rd w2 (.slice Ag out.length cg) 6 out.length (ntCells out) from Rd.of_own hog)
      clear hog hcg3
      go_wp2_with fail
      (go_at_call 41; (with_reducible refine (c_sSplitBars _ ns ⟨b, u⟩ _ HR2.out).mono ?_); rintro e w3 hpost; obtain ⟨vw, rfl, how, hlw, hb3⟩ := HP.out _ _ _ hpost; clear hpost)
      have S := S.trans (hb3.mono S.size)
      have hhc := below_heap hb3 HX2.out
      have HX3 := Lib.hid hhc
      obtain ⟨_, _⟩ := blk_facts hhc
      clear hhc
      have HG3 := Lib.hid (HG2.out.below (Nat.le_refl _) hb3)
      have HR3 := Lib.hid (HR2.out.below (Nat.le_refl _) hb3)
      have HW3 := Lib.hid (Rd.of_own how)
      clear how
      go_wp2_with fail
      (go_at_call 40; (with_reducible refine (c_sameVoice_eq _ _ out _ HG3.out HW3.out).mono ?_); rintro e w4 ⟨rfl, hb4⟩)
      have S := S.trans (hb4.mono S.size)
      have hhc := below_heap hb4 HX3.out
      have HX4 := Lib.hid hhc
      obtain ⟨_, _⟩ := blk_facts hhc
      clear hhc
      have HG4 := Lib.hid (HG3.out.below (Nat.le_refl _) hb4)
      have HR4 := Lib.hid (HR3.out.below (Nat.le_refl _) hb4)
      go_wp2_with fail
      (go_at_call 20; (with_reducible refine (c_BarTicks ⟨b, u⟩ _).mono ?_); rintro e w5 ⟨rfl, hb5⟩; rw [HB.out])
      have S := S.trans (hb5.mono S.size)
      have HX5 := Lib.hid (below_heap hb5 HX4.out)
      have HG5 := Lib.hid (HG4.out.below (Nat.le_refl _) hb5)
      have HR5 := Lib.hid (HR4.out.below (Nat.le_refl _) hb5)
      have HS5 := Lib.hid S
      obtain ⟨_, A5, c5, he5, _, _, hA5⟩ := HG5.out
      cases he5
      have HAA := Lib.hid hA5
      clear hA5 S
      go_wp2_with fail
      go_loopw [10, 11] (fun a j wr => ∃ k : Nat, k ≤ out.length ∧ j = .int .i64 k ∧ a = .int .i64 (sumT (out.take k)) ∧ Below w5.heap.size w5 wr) (fun _ j _ => out.length - (intOf j).toNat)
      case atStart => exact ⟨0, Nat.zero_le _, rfl, rfl, Below.refl _ _⟩
      case round =>
        obtain ⟨k, hk, rfl, rfl, hbl⟩ := hrel
        obtain ⟨wi, rfl⟩ : ∃ wi : World, wi = wr := ⟨_, rfl⟩
        have hsb := sumT_bd out (fun i hi => ⟨by have := (HXB.out i hi).1; omega, (HXB.out i hi).2⟩) k hk
        by_cases hlt : k < out.length
        · obtain ⟨b1, off, rfl, hcc⟩ := HAA.out (by omega)
          obtain ⟨p0, p1, p2, p3, p4, p5⟩ := nt_at (fun j u hu => below_cell hbl (hcc j u hu)) k hlt
          have hk1 : (0 : Int) ≤ (k : Int) := by omega
          have hk2 : (k : Int) < (out.length : Int) := by omega
          have HSu := Lib.hid (sumT_succ out k hlt)
          have hpl := HPl.out k hlt
          obtain ⟨tb1, tb2⟩ := HXB.out k hlt
          obtain ⟨s1, s2⟩ := hsb
          obtain ⟨Sm, hSm⟩ : ∃ Sm, sumT (out.take k) = Sm := ⟨_, rfl⟩
          rw [hSm] at s1 s2 hpl HSu
          rw [hSm]
          generalize out[k] = n0 at *
          obtain ⟨r0, ⟨s0, a0, o0⟩, t0, td0⟩ := n0
          dsimp only at HSu hpl tb1 tb2 p0 p1 p2 p3 p4 p5
          have hq : (Sm / B != (Sm + t0 - 1) / B) = false := by simpa using hpl
          clear hcc hpl hSm
          go_wp2_with fail
          go_quiet (fail)
          go_wp2_with fail
          go_roundw
          case rel => exact ⟨k + 1, by omega, by go_num, by rw [HSu.out], by first | exact hbl | exact below_drewN hbl _⟩
          case measure => simp [intOf]; omega
        · have hke : k = out.length := by omega
          subst hke
          rw [List.take_length] at hsb ⊢
          have HSo := Lib.hid (HS5.out.trans (hbl.mono HS5.out.size))
          have HXo := Lib.hid (below_heap hbl HX5.out)
          have HGo := Lib.hid (show Rd wi (.slice Ag out.length cg) 6 out.length (ntCells out) from HG5.out.below (Nat.le_refl _) hbl)
          have HRo := Lib.hid (HR5.out.below (Nat.le_refl _) hbl)
          clear HAA
          obtain ⟨_, A6, c6, he6, _, _, hA6⟩ := HRo.out
          cases he6
          have HAA := Lib.hid hA6
          clear hA6
          have h61 : ns.length ≤ 61 := hl1
          obtain ⟨wz, rfl⟩ : ∃ wz : World, wz = wi := ⟨_, rfl⟩
          go_wp2_with fail
          go_loopw [12, 13] (fun r j wr => ∃ (k : Nat) (rb : Bool), k ≤ (ns).length ∧ j = .int .i64 k ∧ r = .bool rb ∧ (rb = false → ∀ n ∈ (ns).take k, n.rest = false) ∧ Below wz.heap.size wz wr) (fun _ j _ => (ns).length - (intOf j).toNat)
          case atStart => exact ⟨0, false, Nat.zero_le _, rfl, rfl, fun _ n hn => by simp at hn, Below.refl _ _⟩
          case round =>
            obtain ⟨k, rb, hk, rfl, rfl, hall, hbl⟩ := hrel
            obtain ⟨wi, rfl⟩ : ∃ wi : World, wi = wr := ⟨_, rfl⟩
            have HAll := Lib.hid hall
            clear hall
            by_cases hlt : k < (ns).length
            · obtain ⟨b1, off, rfl, hcc⟩ := HAA.out (by omega)
              obtain ⟨p0, p1, p2, p3, p4, p5⟩ := nt_at (fun j u hu => below_cell hbl (hcc j u hu)) k hlt
              have hk1 : (0 : Int) ≤ (k : Int) := by omega
              have hk2 : (k : Int) < ((ns).length : Int) := by omega
              have HNx := Lib.hid (show (ns)[k].rest = false → rb = false → ∀ n ∈ (ns).take (k + 1), n.rest = false by
                intro h1 h2 n hn
                rw [List.take_succ_eq_append_getElem hlt] at hn
                rcases List.mem_append.1 hn with h3 | h3
                · exact HAll.out h2 n h3
                · rw [List.mem_singleton.1 h3]; exact h1)
              generalize (ns)[k] = n0 at *
              obtain ⟨r0, ⟨s0, a0, o0⟩, t0, td0⟩ := n0
              dsimp only at HNx p0 p1 p2 p3 p4 p5
              clear hcc
              cases rb
              · go_wp2_with fail
                go_roundw
                case rel => exact ⟨k + 1, r0, by omega, by go_num, rfl, fun h => HNx.out h rfl, hbl⟩
                case measure => simp [intOf]; omega
              · go_wp2_with fail
                go_roundw
                case rel => exact ⟨k + 1, true, by omega, by go_num, rfl, (fun h => by cases h), hbl⟩
                case measure => simp [intOf]; omega
            · have HRs := Lib.hid (show rb = false → ∀ n ∈ ns, n.rest = false from fun hr => by
                have := HAll.out hr
                rwa [List.take_of_length_le (by omega)] at this)
              clear HAll HAA
              have HSo := Lib.hid (HSo.out.trans (hbl.mono HSo.out.size))
              have HXo := Lib.hid (below_heap hbl HXo.out)
              have HGo := Lib.hid (HGo.out.below (Nat.le_refl _) hbl)
              have HRo := Lib.hid (HRo.out.below (Nat.le_refl _) hbl)
              go_wp2_with fail
              (go_at_call 44; (with_reducible refine (c_JoinTies _ ns _ HRo.out).mono ?_); rintro e w7 ⟨vj, rfl, hoj, hlj, hb7⟩)
              obtain ⟨_, A7, c7, rfl, hc71, hc72, hA7⟩ := Rd.of_own hoj
              unfold maxLen at hc72
              have HJn := Lib.hid (show Rd w7 (.slice A7 (joinT ns).length c7) 6 (joinT ns).length (ntCells (joinT ns)) from Rd.of_own hoj)
              have HAA := Lib.hid hA7
              have HSo := Lib.hid (HSo.out.trans (hb7.mono HSo.out.size))
              have HXo := Lib.hid (below_heap hb7 HXo.out)
              have HGo := Lib.hid (HGo.out.below (Nat.le_refl _) hb7)
              have HRo := Lib.hid (HRo.out.below (Nat.le_refl _) hb7)
              obtain ⟨J, hJ⟩ : ∃ J, joinT ns = J := ⟨_, rfl⟩
              have HJE := Lib.hid hJ
              rw [hJ] at HJn HAA hlj hc71
              rw [hJ]
              clear hoj hA7 hJ hbl
              obtain ⟨rs, hrs⟩ : ∃ rs : Bool, rs = rb := ⟨_, rfl⟩
              subst hrs
              obtain ⟨wz, rfl⟩ : ∃ wz : World, wz = w7 := ⟨_, rfl⟩
              go_wp2_with fail
              go_loopw [14, 16] (fun r j wr => ∃ (k : Nat) (rb : Bool), k ≤ (J).length ∧ j = .int .i64 k ∧ r = .bool rb ∧ (rb = false → ∀ n ∈ (J).take k, n.tied = false) ∧ Below wz.heap.size wz wr) (fun _ j _ => (J).length - (intOf j).toNat)
              case atStart => exact ⟨0, false, Nat.zero_le _, rfl, rfl, fun _ n hn => by simp at hn, Below.refl _ _⟩
              case round =>
                obtain ⟨k, rb, hk, rfl, rfl, hall, hbl⟩ := hrel
                obtain ⟨wi, rfl⟩ : ∃ wi : World, wi = wr := ⟨_, rfl⟩
                have HAll := Lib.hid hall
                clear hall
                by_cases hlt : k < (J).length
                · obtain ⟨b1, off, rfl, hcc⟩ := HAA.out (by omega)
                  obtain ⟨p0, p1, p2, p3, p4, p5⟩ := nt_at (fun j u hu => below_cell hbl (hcc j u hu)) k hlt
                  have hk1 : (0 : Int) ≤ (k : Int) := by omega
                  have hk2 : (k : Int) < ((J).length : Int) := by omega
                  have HNx := Lib.hid (show (J)[k].tied = false → rb = false → ∀ n ∈ (J).take (k + 1), n.tied = false by
                    intro h1 h2 n hn
                    rw [List.take_succ_eq_append_getElem hlt] at hn
                    rcases List.mem_append.1 hn with h3 | h3
                    · exact HAll.out h2 n h3
                    · rw [List.mem_singleton.1 h3]; exact h1)
                  generalize (J)[k] = n0 at *
                  obtain ⟨r0, ⟨s0, a0, o0⟩, t0, td0⟩ := n0
                  dsimp only at HNx p0 p1 p2 p3 p4 p5
                  clear hcc
                  cases rb
                  · go_wp2_with fail
                    go_roundw
                    case rel => exact ⟨k + 1, td0, by omega, by go_num, rfl, fun h => HNx.out h rfl, hbl⟩
                    case measure => simp [intOf]; omega
                  · go_wp2_with fail
                    go_roundw
                    case rel => exact ⟨k + 1, true, by omega, by go_num, rfl, (fun h => by cases h), hbl⟩
                    case measure => simp [intOf]; omega
                · have HLs := Lib.hid (show rb = false → ∀ n ∈ J, n.tied = false from fun hr => by
                    have := HAll.out hr
                    rwa [List.take_of_length_le (by omega)] at this)
                  have HJX := Lib.hid (show rs = false → rb = false → joinT out = J from fun h1 h2 => by
                    have := HJo.out (HRs.out h1) (by rw [HJE.out]; exact HLs.out h2)
                    rw [this, HJE.out])
                  clear HAll HAA
                  have S := HSo.out.trans (hbl.mono HSo.out.size)
                  have HX8 := Lib.hid (below_heap hbl HXo.out)
                  have hX8 := HX8.out
                  obtain ⟨_, _⟩ := blk_facts hX8
                  clear hX8
                  have HG8 := Lib.hid (HGo.out.below (Nat.le_refl _) hbl)
                  have HR8 := Lib.hid (HRo.out.below (Nat.le_refl _) hbl)
                  have HJ8 := Lib.hid (HJn.out.below (Nat.le_refl _) hbl)
                  go_wp2_with fail
                  (go_at_call 42; (with_reducible refine (c_SplitBars _ out ⟨b, u⟩ _ HG8.out).mono ?_); rintro e w9 hpost; obtain ⟨vk, rfl, hok, hlk, hb9⟩ := HQ.out _ _ _ hpost; clear hpost)
                  have S := S.trans (hb9.mono S.size)
                  have HG9 := Lib.hid (HG8.out.below (Nat.le_refl _) hb9)
                  have HR9 := Lib.hid (HR8.out.below (Nat.le_refl _) hb9)
                  have HJ9 := Lib.hid (HJ8.out.below (Nat.le_refl _) hb9)
                  have HK9 := Lib.hid (Rd.of_own hok)
                  clear hok
                  go_wp2_with fail
                  (go_at_call 45; (with_reducible refine (c_VoiceValid _ out _ HG9.out).mono ?_); rintro e w10 ⟨rfl, hb10⟩; rw [HVX.out])
                  have S := S.trans (hb10.mono S.size)
                  have HG10 := Lib.hid (HG9.out.below (Nat.le_refl _) hb10)
                  have HR10 := Lib.hid (HR9.out.below (Nat.le_refl _) hb10)
                  have HJ10 := Lib.hid (HJ9.out.below (Nat.le_refl _) hb10)
                  have HK10 := Lib.hid (HK9.out.below (Nat.le_refl _) hb10)
                  go_wp2_with fail
                  (go_at_call 34; (with_reducible refine (c_VoiceTicks_is _ ns _ _ HR10.out HVT.out).mono ?_); rintro e w11 ⟨rfl, hb11⟩)
                  have S := S.trans (hb11.mono S.size)
                  have HG11 := Lib.hid (HG10.out.below (Nat.le_refl _) hb11)
                  have HJ11 := Lib.hid (HJ10.out.below (Nat.le_refl _) hb11)
                  have HK11 := Lib.hid (HK10.out.below (Nat.le_refl _) hb11)
                  go_wp2_with fail
                  (go_at_call 40; (with_reducible refine (c_sameVoice_eq _ _ out _ HK11.out HG11.out).mono ?_); rintro e w12 ⟨rfl, hb12⟩)
                  have S := S.trans (hb12.mono S.size)
                  have HG12 := Lib.hid (HG11.out.below (Nat.le_refl _) hb12)
                  have HJ12 := Lib.hid (HJ11.out.below (Nat.le_refl _) hb12)
                  cases rs
                  · cases rb
                    · have HE := Lib.hid (HJX.out rfl rfl)
                      go_wp2_with fail
                      (go_at_call 44; (with_reducible refine (c_JoinTies _ out _ HG12.out).mono ?_); rintro e w13 ⟨vx, rfl, hox, hlx, hb13⟩; rw [HE.out] at hox)
                      have S := S.trans (hb13.mono S.size)
                      have HJ13 := Lib.hid (HJ12.out.below (Nat.le_refl _) hb13)
                      have HX13 := Lib.hid (Rd.of_own hox)
                      clear hox
                      go_wp2_with fail
                      (go_at_call 40; (with_reducible refine (c_sameVoice_eq _ _ J _ HX13.out HJ13.out).mono ?_); rintro e w14 ⟨rfl, hb14⟩)
                      have S := S.trans (hb14.mono S.size)
                      go_wp2
                      go_ret
                      exact ⟨rfl, S⟩
                    · go_wp2_with fail
                      go_ret
                      exact ⟨rfl, S⟩
                  · go_wp2_with fail
                    go_ret
                    exact ⟨rfl, S⟩
  · go_enter Try.func14, Try.ntmps14
    go_wp2_with fail
    go_ret
    exact ⟨rfl, Below.refl _ _⟩
end Go.Proofs.Ytendoahanngacaa
