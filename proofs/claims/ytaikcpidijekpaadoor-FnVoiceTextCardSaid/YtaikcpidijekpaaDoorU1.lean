/- The walks of FnExactReadVoice and FnVoiceText. Conditions: on the world: the library's variables are at hand. -/
import Derived.Test.YtaikcpidijekpaaDoorUW
import Derived.Test.YtaikcpidijekpaaDoorNR
import Derived.Test.YtaikcpidijekpaaDoorB9
import Derived.Test.YtaikcpidijekpaaDoorR6
namespace Go.Proofs.YtaikcpidijekpaaDoor
open Go.RowKit
set_option linter.unusedSimpArgs false
set_option linter.unusedVariables false
set_option maxHeartbeats 4000000
set_option maxRecDepth 100000
theorem walk_FnExactReadVoice (w : World) (x : ByteArray) (hx : x.size ≤ maxLen) (hw : Wd w) :
    Calls Tryd.prog 9 #[.string x] w fun e w' => e = .returned (.bool true) ∧ Below w.heap.size w w' := by
  obtain ⟨l, rfl⟩ : ∃ l : List UInt8, x = ⟨l.toArray⟩ := ⟨x.data.toList, by simp⟩
  have hsz : (ByteArray.mk l.toArray).size = l.length := by simp [ByteArray.size]
  unfold maxLen at hx
  rw [hsz] at hx
  have HW := Lib.hid (fun w' (h : Below w.heap.size w w') => hw.bel h)
  clear hw
  by_cases hlen : l.length ≤ 1048576
  · have hlen' : ¬ (1048576 : Int) < (l.length : Int) := by omega
    have HRS := Lib.hid (fun W => c_sReadVoice l W (by omega))
    have HRI := Lib.hid (fun W h => c_iReadVoice l W (by omega) h)
    generalize rdV l = rv at *
    obtain ⟨L, ok⟩ := rv
    go_enter Tryd.func9, Tryd.ntmps9
    go_wp2_with fail
    (go_at_call 29; (with_reducible refine (HRS.out _).mono ?_); rintro e w1 ⟨v1, rfl, ho1, hl1, hb1⟩)
    dsimp only at ho1 hl1
    have HV1 := Lib.hid (Rd.of_own ho1)
    have S := hb1
    have hz1 := hb1.size
    clear ho1 hb1
    have S1 := Below.refl w1.heap.size w1
    go_wp2_with fail
    (go_at_call 27; (with_reducible refine (HRI.out _ (HW.out _ S)).mono ?_); rintro e w2 ⟨v2, rfl, ho2, hl2, hb2⟩)
    dsimp only at ho2 hl2
    have HO2 := Lib.hid ho2
    have S := S.trans (hb2.mono S.size)
    have S1 := S1.trans (hb2.mono S1.size)
    clear ho2
    go_wp2_with fail
    (go_at_call 24; (with_reducible refine (c_eqNoteS_eq _ _ L _ (Rd.of_own HO2.out) (HV1.out.below (Nat.le_refl _) S1)).mono ?_); rintro e w3 ⟨rfl, hb3⟩)
    have HO3 := Lib.hid (own_belA HO2.out hb3)
    have S := S.trans (hb3.mono S.size)
    have S1 := S1.trans (hb3.mono S1.size)
    have hz3 := S1.size
    go_wp2_with fail
    (go_at_call 30; (with_reducible refine (c_markNoteS w1.heap.size _ L.length _ 1 _ HO3.out (by omega) (by omega) (by omega)).mono ?_); rintro e w4 ⟨rfl, hown4, hk4⟩)
    have hb4 := bel_grown (Below.refl w1.heap.size w3) HO3.out hk4 (Nat.le_refl _) hz3
    have S := S.trans (hb4.mono hz1)
    have S1 := S1.trans hb4
    have HM4 := Lib.hid (Rd.of_own hown4)
    clear hown4 hk4
    have hM4 : ¬ ((1 : Int) + 6 * L.length < 0) := by omega
    go_wp2_with fail
    (go_at_call 31; (with_reducible refine (c_heldNoteS _ L.length 1 _ HM4.out (by omega) (by omega) (by omega)).mono ?_); rintro e w5 ⟨rfl, rfl⟩)
    go_wp2_with fail
    (go_at_call 27; (with_reducible refine (HRI.out _ (HW.out _ S)).mono ?_); rintro e w6 ⟨v6, rfl, ho6, hl6, hb6⟩)
    dsimp only at ho6 hl6
    have HV6 := Lib.hid (Rd.of_own ho6)
    have HM6 := Lib.hid (HM4.out.below (Nat.le_refl _) hb6)
    have S := S.trans (hb6.mono S.size)
    have S1 := S1.trans (hb6.mono S1.size)
    clear ho6
    go_wp2_with fail
    (go_at_call 24; (with_reducible refine (c_eqNoteS_eq _ _ L _ HV6.out (HV1.out.below (Nat.le_refl _) S1)).mono ?_); rintro e w7 ⟨rfl, hb7⟩)
    have HM7 := Lib.hid (HM6.out.below (Nat.le_refl _) hb7)
    have S := S.trans (hb7.mono S.size)
    go_wp2_with fail
    (go_at_call 31; (with_reducible refine (c_heldNoteS _ L.length 1 _ HM7.out (by omega) (by omega) (by omega)).mono ?_); rintro e w8 ⟨rfl, rfl⟩)
    go_wp2_with fail
    go_ret
    exact ⟨rfl, S⟩
  · have hlen' : (1048576 : Int) < (l.length : Int) := by omega
    go_enter Tryd.func9, Tryd.ntmps9
    go_wp2_with fail
    go_ret
    exact ⟨rfl, Below.refl _ _⟩
def DVoice (w : World) (e : Ending) (w' : World) : Prop := ∃ v ns, e = .returned v ∧ w'.ownsRow w.heap.size 29 6 v (ns : List Nt).length (ntCells ns) ∧ ns.length ≤ 61 ∧ Below w.heap.size w w'
theorem c_DrawVoiceText (v : Value) (bs : List Int) (w : World) (h : Rd w v 1 bs.length (byteCells bs)) (hb : ∀ x ∈ bs, 0 ≤ x ∧ x ≤ 255) :
    Calls Tryd.prog 25 #[v] w (DVoice w) := by
  go_enter Tryd.func25, Tryd.ntmps25
  go_wp2_with fail
  (go_at_call 38; (with_reducible refine (c_open _ _ _ h hb).mono ?_); rintro e w1 ⟨g, rfl, hg, hr1, hbq⟩)
  have hr2 := hr1.mono (m' := 0 + 200) (by omega)
  have hz1 := hbq.size
  clear hr1
  go_wp2_with fail
  (go_at_call 53; (with_reducible refine (c_l20Voice g 0 9 _ hr2 (by omega) (by omega)).mono ?_); rintro e w2 ⟨v2, ns, rfl, hov, hl2, hsm, hrq, hgq⟩)
  have HB2 := Lib.hid (show Below w.heap.size w w2 from below_of_kp hbq hgq hg hz1)
  go_wp2_with fail
  go_ret
  exact ⟨v2, ns, rfl, own_monoA hov hz1, hl2, HB2.out⟩
theorem walk_FnVoiceText (w : World) (v : Value) (bs : List Int) (h : Rd w v 1 bs.length (byteCells bs)) (hb : ∀ x ∈ bs, 0 ≤ x ∧ x ≤ 255) (hw : Wd w) :
    Calls Tryd.prog 8 #[v] w fun e w' => e = .returned (.bool true) ∧ Below w.heap.size w w' := by
  have h' := Lib.hid h
  have HW := Lib.hid (fun w' (h : Below w.heap.size w w') => hw.bel h)
  clear hw
  obtain ⟨_, A, c0, rfl, hnc, hcm, hA⟩ := h
  unfold maxLen at hcm
  clear hA
  by_cases hlen : bs.length ≤ 1048576
  · go_enter Tryd.func8, Tryd.ntmps8
    go_wp2_with fail
    (go_at_call 25; (with_reducible refine (c_DrawVoiceText _ bs _ h'.out hb).mono ?_); rintro e w1 ⟨v1, ns, rfl, ho1, hl1, hb1⟩)
    have HR1 := Lib.hid (Rd.of_own ho1)
    have S := hb1
    clear ho1 hb1
    go_wp2_with fail
    (go_at_call 23; (with_reducible refine (c_iVoiceText _ ns _ HR1.out (HW.out _ S).tab).mono ?_); rintro e w2 ⟨rfl, hb2⟩)
    have S := S.trans (hb2.mono S.size)
    have HR2 := Lib.hid (HR1.out.below (Nat.le_refl _) hb2)
    go_wp2_with fail
    (go_at_call 21; (with_reducible refine (c_sVoiceText _ ns _ HR2.out).mono ?_); rintro e w3 ⟨rfl, hb3⟩)
    have S := S.trans (hb3.mono S.size)
    have HR3 := Lib.hid (HR2.out.below (Nat.le_refl _) hb3)
    cases hv : voiceValid ns
    · have HV := Lib.hid hv
      have hT : vtx ns = [] := by unfold vtx; rw [hv]; rfl
      rw [hT]
      clear hv hT
      go_wp2_with fail
      (go_at_call 26; (with_reducible refine (c_sVoiceValid _ ns _ HR3.out).mono ?_); rintro e w4 ⟨rfl, hb4⟩)
      have S := S.trans (hb4.mono S.size)
      rw [HV.out]
      go_wp2_with fail
      (go_at_call 15; (with_reducible refine (c_alive _).mono ?_); rintro e w5 ⟨rfl, hb5⟩)
      have S := S.trans (hb5.mono S.size)
      go_wp2_with fail
      go_ret
      exact ⟨rfl, S⟩
    · have HV := Lib.hid hv
      have hT : vtx ns = jn ns := vtx_jn hv
      have HRI := Lib.hid (fun W h => c_iReadVoice (jn ns) W (by have := jn_len ns; omega) h)
      rw [rdV_yes hv rfl] at HRI
      rw [hT]
      clear hv hT
      generalize jn ns = l at *
      go_wp2_with fail
      (go_at_call 26; (with_reducible refine (c_sVoiceValid _ ns _ HR3.out).mono ?_); rintro e w4 ⟨rfl, hb4⟩)
      have S := S.trans (hb4.mono S.size)
      have HR4 := Lib.hid (HR3.out.below (Nat.le_refl _) hb4)
      rw [HV.out]
      go_wp2_with fail
      (go_at_call 27; (with_reducible refine (HRI.out _ (HW.out _ S)).mono ?_); rintro e w5 ⟨v5, rfl, ho5, hl5, hb5⟩)
      dsimp only at ho5 hl5
      have S := S.trans (hb5.mono S.size)
      have HR5 := Lib.hid (HR4.out.below (Nat.le_refl _) hb5)
      have HX5 := Lib.hid (Rd.of_own ho5)
      clear ho5
      go_wp2_with fail
      (go_at_call 28; (with_reducible refine (c_sameVoice_eq _ _ ns _ HX5.out HR5.out).mono ?_); rintro e w6 ⟨rfl, hb6⟩)
      have S := S.trans (hb6.mono S.size)
      go_wp2_with fail
      go_ret
      exact ⟨rfl, S⟩
  · go_enter Tryd.func8, Tryd.ntmps8
    go_wp2_with fail
    go_ret
    exact ⟨rfl, Below.refl _ _⟩
end Go.Proofs.YtaikcpidijekpaaDoor
