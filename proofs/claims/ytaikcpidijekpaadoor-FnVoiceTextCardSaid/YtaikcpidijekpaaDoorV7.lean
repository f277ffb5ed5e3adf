/- The reference's VoiceValid. Conditions: none. -/
import Derived.Test.YtaikcpidijekpaaDoorB6
namespace Go.Proofs.YtaikcpidijekpaaDoor
open Go.RowKit
set_option linter.unusedSimpArgs false
set_option linter.unusedVariables false
set_option maxHeartbeats 2000000
set_option maxHeartbeats 16000000 in
theorem c_sVoiceValid (v : Value) (ns : List Nt) (w : World) (h : Rd w v 6 ns.length (ntCells ns)) :
    Calls Tryd.prog 26 #[v] w fun e w' => e = .returned (.bool (voiceValid ns)) ∧ Below w.heap.size w w' := by
  obtain ⟨_, A, c, rfl, hnc, hcm, hA⟩ := h
  unfold maxLen at hcm
  go_enter Tryd.func26, Tryd.ntmps26
  go_wp2
  go_loopw [3] (fun i wr => ∃ k : Nat, k ≤ ns.length ∧ i = .int .i64 k ∧ Below w.heap.size w wr ∧ ∀ i, i < k → okAt ns i = true) (fun i _ => ns.length - (intOf i).toNat)
  case atStart => exact ⟨0, Nat.zero_le _, rfl, Below.refl _ _, fun i hi => absurd hi (by omega)⟩
  case round =>
    obtain ⟨k, hk, rfl, hbl, hok⟩ := hrel
    have hz := hbl.size
    have HOK := Lib.hid hok
    clear hok
    by_cases hlt : k < ns.length
    · obtain ⟨b, off, rfl, hcc⟩ := hA (by omega)
      have hr : ∀ j u, (ntCells ns)[j]? = some u → wr.cell? ⟨b, off + j, none⟩ = some u := rd_later hbl hcc
      obtain ⟨c0, c1, c2, c3, c4, c5⟩ := nt_at hr k hlt
      have HN := Lib.hid (show ns[k]? = some ns[k] from List.getElem?_eq_getElem hlt)
      have hno : okAt ns k = false → voiceValid ns = false := by
        intro hx
        cases hvv : voiceValid ns
        · rfl
        · rw [(voiceValid_iff.1 hvv).2 k hlt] at hx; cases hx
      have HE := Lib.hid hno
      clear hno
      generalize ns[k] = n0 at *
      obtain ⟨r0, ⟨s0, a0, o0⟩, t0, td0⟩ := n0
      cases td0
      · cases hnv : noteValid ⟨r0, ⟨s0, a0, o0⟩, t0, false⟩
        · have HK := Lib.hid (HE.out (by unfold okAt; rw [HN.out]; simp [hnv]))
          clear hA hcc hr
          go_wp2_with (go_at_call 14; (with_reducible refine (c_sNoteValid ⟨r0, ⟨s0, a0, o0⟩, t0, false⟩ _).mono ?_); rintro e wq ⟨rfl, hbq⟩; have hzq := hbq.size; (try simp only [size_alloc', size_setCell', size_drew', size_drewN'] at hzq); skip)
          go_ret
          exact ⟨ret_bool HK.out.symm, by (repeat' (first | (with_reducible exact Below.refl _ _) | (with_reducible refine Below.setCell ?_ ?_ _) | (with_reducible refine Below.alloc ?_ ?_ _) | (with_reducible refine Below.drew ?_) | (with_reducible refine below_drewN ?_ _) | (with_reducible refine Below.trans ?_ (Below.mono (by with_reducible assumption) ?_)) | omega | (simp only [size_alloc', size_setCell', size_drew', size_drewN'] at *; omega)))⟩
        · have HK := Lib.hid (show okAt ns k = true by unfold okAt; rw [HN.out]; simp [hnv])
          clear hA hcc hr
          go_wp2_with fail
          (go_at_call 14; (with_reducible refine (c_sNoteValid ⟨r0, ⟨s0, a0, o0⟩, t0, false⟩ _).mono ?_); rintro e wq ⟨rfl, hbq⟩; have hzq := hbq.size; (try simp only [size_alloc', size_setCell', size_drew', size_drewN'] at hzq); skip)
          have c5' := below_cell hbq c5
          go_wp2_with fail
          go_quiet (fail)
          go_wp2
          go_roundw
          case rel => exact ⟨k + 1, by omega, by go_num, by (repeat' (first | (with_reducible exact Below.refl _ _) | (with_reducible refine Below.setCell ?_ ?_ _) | (with_reducible refine Below.alloc ?_ ?_ _) | (with_reducible refine Below.drew ?_) | (with_reducible refine below_drewN ?_ _) | (with_reducible refine Below.trans ?_ (Below.mono (by with_reducible assumption) ?_)) | omega | (simp only [size_alloc', size_setCell', size_drew', size_drewN'] at *; omega))), fun i hi => by
            rcases Nat.lt_succ_iff_lt_or_eq.1 hi with h1 | rfl
            · exact HOK.out i h1
            · exact HK.out⟩
          case measure => simp [intOf]; omega
      · cases hnv : noteValid ⟨r0, ⟨s0, a0, o0⟩, t0, true⟩
        · have HK := Lib.hid (HE.out (by unfold okAt; rw [HN.out]; simp [hnv]))
          clear hA hcc hr
          go_wp2_with (go_at_call 14; (with_reducible refine (c_sNoteValid ⟨r0, ⟨s0, a0, o0⟩, t0, true⟩ _).mono ?_); rintro e wq ⟨rfl, hbq⟩; have hzq := hbq.size; (try simp only [size_alloc', size_setCell', size_drew', size_drewN'] at hzq); skip)
          go_ret
          exact ⟨ret_bool HK.out.symm, by (repeat' (first | (with_reducible exact Below.refl _ _) | (with_reducible refine Below.setCell ?_ ?_ _) | (with_reducible refine Below.alloc ?_ ?_ _) | (with_reducible refine Below.drew ?_) | (with_reducible refine below_drewN ?_ _) | (with_reducible refine Below.trans ?_ (Below.mono (by with_reducible assumption) ?_)) | omega | (simp only [size_alloc', size_setCell', size_drew', size_drewN'] at *; omega)))⟩
        · by_cases hl1 : k + 1 = ns.length
          · have HK := Lib.hid (HE.out (by unfold okAt; rw [HN.out]; simp [List.getElem?_eq_none (show ns.length ≤ k + 1 by omega)]))
            have hl3 : ((k : Int) == (ns.length : Int) - 1) = true := by simp; omega
            clear hA hcc hr hl1
            go_wp2_with fail
            (go_at_call 14; (with_reducible refine (c_sNoteValid ⟨r0, ⟨s0, a0, o0⟩, t0, true⟩ _).mono ?_); rintro e wq ⟨rfl, hbq⟩; have hzq := hbq.size; (try simp only [size_alloc', size_setCell', size_drew', size_drewN'] at hzq); skip)
            have c5' := below_cell hbq c5
            go_wp2_with fail
            go_quiet (fail)
            go_wp2
            go_ret
            exact ⟨ret_bool HK.out.symm, by (repeat' (first | (with_reducible exact Below.refl _ _) | (with_reducible refine Below.setCell ?_ ?_ _) | (with_reducible refine Below.alloc ?_ ?_ _) | (with_reducible refine Below.drew ?_) | (with_reducible refine below_drewN ?_ _) | (with_reducible refine Below.trans ?_ (Below.mono (by with_reducible assumption) ?_)) | omega | (simp only [size_alloc', size_setCell', size_drew', size_drewN'] at *; omega)))⟩
          · have hlt1 : k + 1 < ns.length := by omega
            obtain ⟨d0, d1, d2, d3, d4, d5⟩ := nt_at hr (k + 1) hlt1
            have HN1 := Lib.hid (show ns[k + 1]? = some ns[k + 1] from List.getElem?_eq_getElem hlt1)
            generalize ns[k + 1] = n1 at *
            obtain ⟨r1, ⟨s1, a1, o1⟩, t1, td1⟩ := n1
            have hl3 : ((k : Int) == (ns.length : Int) - 1) = false := by simp; omega
            have hk1 : (0 : Int) ≤ (k : Int) + 1 := by omega
            have hk2 : (k : Int) + 1 < (ns.length : Int) := by omega
            clear hA hcc hr hl1
            have HK := Lib.hid (show okAt ns k = (!r1 && pitEq ⟨s1, a1, o1⟩ ⟨s0, a0, o0⟩) by unfold okAt; rw [HN.out]; simp [hnv, HN1.out])
            cases r1
            · by_cases hpe : s1 = s0
              · by_cases hpa : a1 = a0
                · by_cases hpo : o1 = o0
                  · subst hpe hpa hpo
                    go_wp2_with fail
                    (go_at_call 14; (with_reducible refine (c_sNoteValid ⟨r0, ⟨s1, a1, o1⟩, t0, true⟩ _).mono ?_); rintro e wq ⟨rfl, hbq⟩; have hzq := hbq.size; (try simp only [size_alloc', size_setCell', size_drew', size_drewN'] at hzq); skip)
                    have c1' := below_cell hbq c1
                    have c2' := below_cell hbq c2
                    have c3' := below_cell hbq c3
                    have c5' := below_cell hbq c5
                    have d0' := below_cell hbq d0
                    have d1' := below_cell hbq d1
                    have d2' := below_cell hbq d2
                    have d3' := below_cell hbq d3
                    go_wp2_with fail
                    go_quiet (fail)
                    go_wp2
                    go_roundw
                    case rel => exact ⟨k + 1, by omega, by go_num, by (repeat' (first | (with_reducible exact Below.refl _ _) | (with_reducible refine Below.setCell ?_ ?_ _) | (with_reducible refine Below.alloc ?_ ?_ _) | (with_reducible refine Below.drew ?_) | (with_reducible refine below_drewN ?_ _) | (with_reducible refine Below.trans ?_ (Below.mono (by with_reducible assumption) ?_)) | omega | (simp only [size_alloc', size_setCell', size_drew', size_drewN'] at *; omega))), fun i hi => by
                      rcases Nat.lt_succ_iff_lt_or_eq.1 hi with h1 | rfl
                      · exact HOK.out i h1
                      · rw [HK.out]; simp [pitEq]⟩
                    case measure => simp [intOf]; omega
                  · subst hpe hpa
                    go_wp2_with fail
                    (go_at_call 14; (with_reducible refine (c_sNoteValid ⟨r0, ⟨s1, a1, o0⟩, t0, true⟩ _).mono ?_); rintro e wq ⟨rfl, hbq⟩; have hzq := hbq.size; (try simp only [size_alloc', size_setCell', size_drew', size_drewN'] at hzq); skip)
                    have c1' := below_cell hbq c1
                    have c2' := below_cell hbq c2
                    have c3' := below_cell hbq c3
                    have c5' := below_cell hbq c5
                    have d0' := below_cell hbq d0
                    have d1' := below_cell hbq d1
                    have d2' := below_cell hbq d2
                    have d3' := below_cell hbq d3
                    go_wp2_with fail
                    go_quiet (fail)
                    go_wp2
                    go_ret
                    exact ⟨ret_bool (HE.out (by rw [HK.out]; simp [pitEq, hpo])).symm, by (repeat' (first | (with_reducible exact Below.refl _ _) | (with_reducible refine Below.setCell ?_ ?_ _) | (with_reducible refine Below.alloc ?_ ?_ _) | (with_reducible refine Below.drew ?_) | (with_reducible refine below_drewN ?_ _) | (with_reducible refine Below.trans ?_ (Below.mono (by with_reducible assumption) ?_)) | omega | (simp only [size_alloc', size_setCell', size_drew', size_drewN'] at *; omega)))⟩
                · subst hpe
                  go_wp2_with fail
                  (go_at_call 14; (with_reducible refine (c_sNoteValid ⟨r0, ⟨s1, a0, o0⟩, t0, true⟩ _).mono ?_); rintro e wq ⟨rfl, hbq⟩; have hzq := hbq.size; (try simp only [size_alloc', size_setCell', size_drew', size_drewN'] at hzq); skip)
                  have c1' := below_cell hbq c1
                  have c2' := below_cell hbq c2
                  have c3' := below_cell hbq c3
                  have c5' := below_cell hbq c5
                  have d0' := below_cell hbq d0
                  have d1' := below_cell hbq d1
                  have d2' := below_cell hbq d2
                  have d3' := below_cell hbq d3
                  go_wp2_with fail
                  go_quiet (fail)
                  go_wp2
                  go_ret
                  exact ⟨ret_bool (HE.out (by rw [HK.out]; simp [pitEq, hpa])).symm, by (repeat' (first | (with_reducible exact Below.refl _ _) | (with_reducible refine Below.setCell ?_ ?_ _) | (with_reducible refine Below.alloc ?_ ?_ _) | (with_reducible refine Below.drew ?_) | (with_reducible refine below_drewN ?_ _) | (with_reducible refine Below.trans ?_ (Below.mono (by with_reducible assumption) ?_)) | omega | (simp only [size_alloc', size_setCell', size_drew', size_drewN'] at *; omega)))⟩
              · go_wp2_with fail
                (go_at_call 14; (with_reducible refine (c_sNoteValid ⟨r0, ⟨s0, a0, o0⟩, t0, true⟩ _).mono ?_); rintro e wq ⟨rfl, hbq⟩; have hzq := hbq.size; (try simp only [size_alloc', size_setCell', size_drew', size_drewN'] at hzq); skip)
                have c1' := below_cell hbq c1
                have c2' := below_cell hbq c2
                have c3' := below_cell hbq c3
                have c5' := below_cell hbq c5
                have d0' := below_cell hbq d0
                have d1' := below_cell hbq d1
                have d2' := below_cell hbq d2
                have d3' := below_cell hbq d3
                go_wp2_with fail
                go_quiet (fail)
                go_wp2
                go_ret
                exact ⟨ret_bool (HE.out (by rw [HK.out]; simp [pitEq, hpe])).symm, by (repeat' (first | (with_reducible exact Below.refl _ _) | (with_reducible refine Below.setCell ?_ ?_ _) | (with_reducible refine Below.alloc ?_ ?_ _) | (with_reducible refine Below.drew ?_) | (with_reducible refine below_drewN ?_ _) | (with_reducible refine Below.trans ?_ (Below.mono (by with_reducible assumption) ?_)) | omega | (simp only [size_alloc', size_setCell', size_drew', size_drewN'] at *; omega)))⟩
            · go_wp2_with fail
              (go_at_call 14; (with_reducible refine (c_sNoteValid ⟨r0, ⟨s0, a0, o0⟩, t0, true⟩ _).mono ?_); rintro e wq ⟨rfl, hbq⟩; have hzq := hbq.size; (try simp only [size_alloc', size_setCell', size_drew', size_drewN'] at hzq); skip)
              have c5' := below_cell hbq c5
              have d0' := below_cell hbq d0
              go_wp2_with fail
              go_quiet (fail)
              go_wp2
              go_ret
              exact ⟨ret_bool (HE.out (by rw [HK.out]; simp)).symm, by (repeat' (first | (with_reducible exact Below.refl _ _) | (with_reducible refine Below.setCell ?_ ?_ _) | (with_reducible refine Below.alloc ?_ ?_ _) | (with_reducible refine Below.drew ?_) | (with_reducible refine below_drewN ?_ _) | (with_reducible refine Below.trans ?_ (Below.mono (by with_reducible assumption) ?_)) | omega | (simp only [size_alloc', size_setCell', size_drew', size_drewN'] at *; omega)))⟩
    · clear hA
      have hall := Lib.hid (show ∀ i, i < ns.length → okAt ns i = true from fun i hi => HOK.out i (by omega))
      by_cases h60 : ns.length ≤ 60
      · go_wp2
        go_ret
        exact ⟨ret_bool (by symm; simp [voiceValid_iff.2 ⟨h60, hall.out⟩]; omega), hbl⟩
      · go_wp2
        go_ret
        exact ⟨ret_bool (by simp [voiceValid, h60]; omega), hbl⟩
end Go.Proofs.YtaikcpidijekpaaDoor
