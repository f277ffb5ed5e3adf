/- The texts of voices: both sides; the walk of FnExactVoiceText. Conditions: the laws' own. -/
import Derived.Test.YtaikcpidijekpaaDoorTN
import Derived.Test.YtaikcpidijekpaaDoorNR
import Derived.Test.YtaikcpidijekpaaDoorB6
import Derived.Test.YtaikcpidijekpaaDoorV7
import Derived.Lib.Join
namespace Go.Proofs.YtaikcpidijekpaaDoor
open Go.RowKit
set_option linter.unusedSimpArgs false
set_option linter.unusedVariables false
set_option autoImplicit false
set_option maxHeartbeats 4000000
set_option maxRecDepth 100000
def jn (l : List Nt) : List UInt8 := Lib.join (l.map noteT) [32]
theorem jn_nil : jn [] = [] := rfl
theorem jn_one (a : Nt) : jn [a] = noteT a := Lib.join_one _ _
theorem jn_snoc (l : List Nt) (a : Nt) (h : l ≠ []) : jn (l ++ [a]) = jn l ++ [32] ++ noteT a := by
  cases l with
  | nil => exact absurd rfl h
  | cons x r =>
    unfold jn
    rw [List.map_append, List.map_cons, List.cons_append, Lib.join_cons, Lib.join_cons]
    unfold Lib.joinTail
    simp
theorem noteT_len (n : Nt) : (noteT n).length ≤ 11 := by
  unfold noteT
  split
  · rename_i h
    obtain ⟨h1, h2⟩ := noteValid_ticks h
    have hd := dd_len (n := n.ticks.toNat) (by omega)
    have hp := pitT_len n.tone
    split <;> split <;> simp <;> omega
  · simp
theorem jn_len (l : List Nt) : (jn l).length ≤ 12 * l.length := by
  cases l with
  | nil => simp [jn_nil]
  | cons x r =>
    have ht : (Lib.joinTail [32] (r.map noteT)).length ≤ 12 * r.length := by
      induction r with
      | nil => simp [Lib.joinTail]
      | cons y r ih =>
        have := noteT_len y
        unfold Lib.joinTail at ih ⊢
        simp only [List.map_cons, List.flatten_cons, List.length_append, List.length_cons, List.length_nil] at ih ⊢
        omega
    unfold jn
    rw [List.map_cons, Lib.join_cons]
    have := noteT_len x
    simp only [List.length_append, List.length_cons]
    omega
theorem jn_take (ns : List Nt) (k : Nat) (hk : k < ns.length) (h0 : 0 < k) : jn (ns.take (k + 1)) = jn (ns.take k) ++ [32] ++ noteT ns[k] := by
  rw [List.take_succ_eq_append_getElem hk, jn_snoc]
  intro h
  have := congrArg List.length h
  rw [List.length_take, List.length_nil] at this
  omega
theorem jn_take0 (ns : List Nt) (hk : 0 < ns.length) : jn (ns.take 1) = noteT ns[0] := by
  rw [show ns.take 1 = [] ++ [ns[0]] from List.take_succ_eq_append_getElem hk]
  exact jn_one _
def vtx (ns : List Nt) : List UInt8 := if voiceValid ns = true then jn ns else []
theorem run_add_nil {P : Program} (y : List UInt8) (h2 : y.length ≤ 1000) (W : World) : (Op.stringOp .add ⟨#[]⟩ ⟨y.toArray⟩).run P W = .ok (.string ⟨y.toArray⟩) W := by
  have := run_string_add_lists (P := P) W [] y (by simp) (by omega)
  simpa using this
theorem c_sVoiceText (v : Value) (ns : List Nt) (w : World) (h : Rd w v 6 ns.length (ntCells ns)) :
    Calls Tryd.prog 21 #[v] w fun e w' => e = .returned (.string ⟨(vtx ns).toArray⟩) ∧ Below w.heap.size w w' := by
  have HR := Lib.hid h
  obtain ⟨_, A, c, rfl, hnc, hcm, hA⟩ := h
  unfold maxLen at hcm
  cases hv : voiceValid ns
  · have HT := Lib.hid (show vtx ns = [] by unfold vtx; rw [hv]; rfl)
    have HV := Lib.hid hv
    clear hv hA
    go_enter Tryd.func21, Tryd.ntmps21
    go_wp2
    go_loopw [3, 4] (fun s3 s4 wr => s3 = .string ⟨#[]⟩ ∧ s4 = .int .i64 0 ∧ Below w.heap.size w wr) (fun _ _ _ => 0)
    case atStart => exact ⟨rfl, rfl, by (repeat' (first | (with_reducible exact Below.refl _ _) | (with_reducible refine Below.setCell ?_ ?_ _) | (with_reducible refine Below.alloc ?_ ?_ _) | (with_reducible refine Below.drew ?_) | (with_reducible refine below_drewN ?_ _) | (with_reducible refine Below.trans ?_ (Below.mono (by with_reducible assumption) ?_)) | omega | (simp only [size_alloc', size_setCell', size_drew', size_drewN'] at *; omega)))⟩
    case round =>
      obtain ⟨rfl, rfl, hbl⟩ := hrel
      have HR2 := Lib.hid (HR.out.below (Nat.le_refl _) hbl)
      by_cases h0 : 0 < ns.length
      · have h0' : (0 : Int) < (ns.length : Int) := by omega
        go_wp2_with fail
        (go_at_call 26; (with_reducible refine (c_sVoiceValid _ ns _ HR2.out).mono ?_); rintro e w3 ⟨rfl, hb3⟩)
        rw [HV.out]
        go_wp2_with fail
        go_ret
        exact ⟨by rw [HT.out]; rfl, hbl.trans (hb3.mono hbl.size)⟩
      · have h0' : ¬ (0 : Int) < (ns.length : Int) := by omega
        go_wp2_with fail
        go_ret
        exact ⟨by rw [HT.out]; rfl, hbl⟩
  · obtain ⟨h60, -⟩ := voiceValid_iff.1 hv
    have HT := Lib.hid (show vtx ns = jn ns by unfold vtx; rw [hv]; rfl)
    have HV := Lib.hid hv
    clear hv
    go_enter Tryd.func21, Tryd.ntmps21
    go_wp2
    go_loopw [3, 4] (fun s3 s4 wr => ∃ k : Nat, k ≤ ns.length ∧ s3 = .string ⟨(jn (ns.take k)).toArray⟩ ∧ s4 = .int .i64 k ∧ Below w.heap.size w wr) (fun _ s4 _ => ns.length - (intOf s4).toNat)
    case atStart => exact ⟨0, Nat.zero_le _, by rw [List.take_zero, jn_nil], rfl, by (repeat' (first | (with_reducible exact Below.refl _ _) | (with_reducible refine Below.setCell ?_ ?_ _) | (with_reducible refine Below.alloc ?_ ?_ _) | (with_reducible refine Below.drew ?_) | (with_reducible refine below_drewN ?_ _) | (with_reducible refine Below.trans ?_ (Below.mono (by with_reducible assumption) ?_)) | omega | (simp only [size_alloc', size_setCell', size_drew', size_drewN'] at *; omega)))⟩
    case round =>
      obtain ⟨k, hk, rfl, rfl, hbl⟩ := hrel
      have HR2 := Lib.hid (HR.out.below (Nat.le_refl _) hbl)
      by_cases hlt : k < ns.length
      · have hlt' : (k : Int) < (ns.length : Int) := by omega
        obtain ⟨b, off, rfl, hcc⟩ := hA (by omega)
        go_wp2_with fail
        (go_at_call 26; (with_reducible refine (c_sVoiceValid _ ns _ HR2.out).mono ?_); rintro e w3 ⟨rfl, hb3⟩)
        rw [HV.out]
        have hbl3 := hbl.trans (hb3.mono hbl.size)
        obtain ⟨c0, c1, c2, c3, c4, c5⟩ := nt_at (rd_later hbl3 hcc) k hlt
        have hk0 : (0 : Int) ≤ (k : Int) := by omega
        have HX := Lib.hid (jn_take ns k hlt)
        have HX0 := Lib.hid (fun h => jn_take0 ns h)
        have hjl := jn_len (ns.take k)
        rw [List.length_take] at hjl
        have hnl := noteT_len ns[k]
        have HN := Lib.hid (fun W => c_sNoteText ns[k] W)
        have HJ := Lib.hid (show ∀ j : Nat, j = 0 → jn (ns.take j) = [] from fun j h => by subst h; rfl)
        have HE := Lib.hid (show k = 0 → ∀ h : 0 < ns.length, noteT ns[0] = noteT ns[k] from fun h h2 => by subst h; rfl)
        generalize ht : noteT ns[k] = t at *
        generalize hn : ns[k] = n at *
        obtain ⟨r, ⟨s, a, o⟩, tk, z⟩ := n
        clear hA hcc ht hn
        by_cases hk00 : k = 0
        · subst hk00
          have hc0 := fun W => run_add_nil (P := Tryd.prog) t (by omega) W
          have HQ := Lib.hid (show jn (ns.take 1) = t by rw [HX0.out hlt]; exact HE.out rfl hlt)
          rw [List.take_zero, jn_nil]
          rw [show ((0 : Nat) : Int) = 0 from rfl] at *
          simp only [Nat.zero_mul, Nat.add_zero, Nat.zero_add] at c0 c1 c2 c3 c4 c5
          go_wp2_with fail
          (go_at_call 10; (with_reducible refine (HN.out _).mono ?_); rintro e w4 ⟨rfl, hb4⟩)
          go_wp2_with fail
          go_roundw
          case rel => exact ⟨1, by omega, by rw [HQ.out], by go_num, hbl3.trans (hb4.mono hbl3.size)⟩
          case measure => simp [intOf]; omega
        · have hk00' : (0 : Int) < (k : Int) := by omega
          have hc1 := fun W => run_add_snoc (P := Tryd.prog) (jn (ns.take k)) 32 (by omega) W
          have hc2 := fun W => run_add_ll (P := Tryd.prog) (jn (ns.take k) ++ [32]) t (by simp; omega) (by omega) W
          have HQ := Lib.hid (HX.out (by omega))
          go_wp2_with fail
          (go_at_call 10; (with_reducible refine (HN.out _).mono ?_); rintro e w4 ⟨rfl, hb4⟩)
          go_wp2_with fail
          go_roundw
          case rel => exact ⟨k + 1, by omega, by rw [HQ.out]; simp, by go_num, hbl3.trans (hb4.mono hbl3.size)⟩
          case measure => simp [intOf]; omega
      · clear hA
        have hlt' : ¬ (k : Int) < (ns.length : Int) := by omega
        have HE := Lib.hid (show jn (ns.take k) = jn ns by rw [List.take_of_length_le (by omega)])
        go_wp2_with fail
        go_ret
        exact ⟨by rw [HT.out, ← HE.out]; rfl, hbl⟩
def txs (ns : List Nt) : List ByteArray := ns.map fun n => ⟨(noteT n).toArray⟩
theorem txs_len (ns : List Nt) : (txs ns).length = ns.length := by simp [txs]
theorem txs_snoc (ns : List Nt) (n : Nt) : txs (ns ++ [n]) = txs ns ++ [⟨(noteT n).toArray⟩] := by simp [txs]
theorem txs_jn (ns : List Nt) : Lib.join ((txs ns).map (·.data.toList)) (⟨#[32]⟩ : ByteArray).data.toList = jn ns := by
  unfold txs jn
  rw [List.map_map]
  rfl
theorem str_one (l : List ByteArray) : ∀ u ∈ strCells l, u.oneCell' = true := by
  intro u hu
  rw [strCells_map] at hu
  obtain ⟨y, _, rfl⟩ := List.mem_map.1 hu
  rfl
theorem info_strT : (Tryd.prog.info? 9).map (fun i => (i.zero, i.size, i.bytes)) = some (some (.string ByteArray.empty), 1, 16) := by kernel_rfl
theorem c_join (B : Nat) (ns : List Nt) (g cap : Nat) (w : World) (h60 : ns.length ≤ 60) (h : w.ownsRow B 9 1 (.slice (some ⟨g, 0, none⟩) ns.length cap) ns.length (strCells (txs ns))) :
    Calls Tryd.prog 52 #[.slice (some ⟨g, 0, none⟩) ns.length cap, .string ⟨#[32]⟩] w fun e w' => e = .returned (.string ⟨(jn ns).toArray⟩) ∧ Below w.heap.size w w' := by
  have hc := own_cells h
  have hj := jn_len ns
  have hcap : ns.length ≤ cap := by
    rcases h.2 with ⟨hc, _⟩ | ⟨g2, cap2, cur, hv, _, _, hcp, _⟩
    · cases hc
    · cases hv; exact hcp
  have := Tryd.strings_Join g 0 cap (txs ns) ⟨#[32]⟩ w (fun j x hx => hc j _ (by rw [strCells_map, List.getElem?_map, hx]; rfl)) (h.lt g rfl).2 (by rw [txs_len]; omega) (by rw [txs_len]; exact hcap) (by rw [txs_jn]; omega)
  rw [txs_jn, txs_len] at this
  exact this
theorem c_iVoiceText (v : Value) (ns : List Nt) (w : World) (h : Rd w v 6 ns.length (ntCells ns)) (hw : Tab w) :
    Calls Tryd.prog 23 #[v] w fun e w' => e = .returned (.string ⟨(vtx ns).toArray⟩) ∧ Below w.heap.size w w' := by
  have HR := Lib.hid h
  have HW := Lib.hid (fun w' (h : Below w.heap.size w w') => tab_bel hw h)
  clear hw
  obtain ⟨_, A, c, rfl, hnc, hcm, hA⟩ := h
  unfold maxLen at hcm
  cases hv : voiceValid ns
  · have HT := Lib.hid (show vtx ns = [] by unfold vtx; rw [hv]; rfl)
    have HV := Lib.hid hv
    clear hv hA
    go_enter Tryd.func23, Tryd.ntmps23
    go_wp2_with fail
    (go_at_call 51; (with_reducible refine (c_VoiceValid _ ns _ HR.out).mono ?_); rintro e w3 ⟨rfl, hb3⟩)
    rw [HV.out]
    go_wp2_with fail
    go_ret
    exact ⟨by rw [HT.out]; rfl, hb3⟩
  · obtain ⟨h60, -⟩ := voiceValid_iff.1 hv
    have HT := Lib.hid (show vtx ns = jn ns by unfold vtx; rw [hv]; rfl)
    have HV := Lib.hid hv
    clear hv
    go_enter Tryd.func23, Tryd.ntmps23
    go_wp2_with fail
    (go_at_call 51; (with_reducible refine (c_VoiceValid _ ns _ HR.out).mono ?_); rintro e w3 ⟨rfl, hb3⟩)
    rw [HV.out]
    go_wp2_with fail
    go_loopw [3, 12] (fun s3 s12 wr => ∃ (k g cap : Nat), k ≤ ns.length ∧ s12 = .int .i64 k ∧ s3 = .slice (some ⟨g, 0, none⟩) k cap ∧ wr.ownsRow w.heap.size 9 1 (.slice (some ⟨g, 0, none⟩) k cap) k (strCells (txs (ns.take k))) ∧ Below w.heap.size w wr) (fun _ s12 _ => ns.length - (intOf s12).toNat)
    case atStart =>
      refine ⟨0, w3.heap.size, 0, Nat.zero_le _, rfl, rfl, ?_, ?_⟩
      · exact own_monoA (own_new w3 9 1) hb3.size
      · exact hb3.trans ((bel1 w3 _).mono hb3.size)
    case round =>
      obtain ⟨k, g, cap, hk, rfl, rfl, hown, hbl⟩ := hrel
      have HO := Lib.hid hown
      clear hown
      by_cases hlt : k < ns.length
      · have hlt' : (k : Int) < (ns.length : Int) := by omega
        obtain ⟨b, off, rfl, hcc⟩ := hA (by omega)
        obtain ⟨c0, c1, c2, c3, c4, c5⟩ := nt_at (rd_later hbl hcc) k hlt
        have hk0 : (0 : Int) ≤ (k : Int) := by omega
        have HN := Lib.hid (fun W h => c_iNoteText ns[k] W h)
        have HS := Lib.hid (show strCells (txs (ns.take (k + 1))) = strCells (txs (ns.take k)) ++ [.string ⟨(noteT ns[k]).toArray⟩] by rw [List.take_succ_eq_append_getElem hlt, txs_snoc, strs_snoc])
        generalize ht : noteT ns[k] = t at *
        generalize hn : ns[k] = n at *
        obtain ⟨r, ⟨s, a, o⟩, tk, z⟩ := n
        clear hA hcc ht hn
        go_wp2_with fail
        (go_at_call 12; (with_reducible refine (HN.out _ (HW.out _ (hbl.trans ((bel1 wr _).mono hbl.size)))).mono ?_); rintro e wq ⟨rfl, hb4⟩)
        have hb5 : Below wr.heap.size wr wq := (bel1 wr _).trans (hb4.mono (bel1 wr _).size)
        have HOq := Lib.hid (own_belA (own_belA HO.out hb5) (bel1 wq (.cells #[.string ⟨t.toArray⟩] 9)))
        have HBq := Lib.hid ((hbl.trans (hb5.mono hbl.size)).trans ((bel1 wq (.cells #[.string ⟨t.toArray⟩] 9)).mono (Nat.le_trans hbl.size hb5.size)))
        have HC := Lib.hid (cells_new1 wq (.string ⟨t.toArray⟩) 9)
        have hz1 : w.heap.size ≤ wq.heap.size := Nat.le_trans hbl.size hb5.size
        go_wp2_with (at_builtin; refine wp_appl (by rfl) (.tmp 16) (.tmp 19) 76 9 rfl _ 1 16 Tryd.underlying76 info_strT rfl (by decide) (by decide) w.heap.size g cap k _ rfl HOq.out wq.heap.size 0 1 1 [.string ⟨t.toArray⟩] rfl rfl HC.out (by intro u hu; simp at hu; subst hu; rfl) (by omega) ?c2 ?_)
        case c2 => simp only [size_alloc']; omega
        intro g5 cap5 w5 hown5 hgr5 hat5 hlt5
        have HO5 := Lib.hid (show w5.ownsRow w.heap.size 9 1 (.slice (some ⟨g5, 0, none⟩) (k + 1) cap5) (k + 1) (strCells (txs (ns.take (k + 1)))) by rw [HS.out]; exact hown5)
        have HB5 := Lib.hid (bel_app HBq.out HOq.out hgr5 (by omega) (by simp only [size_alloc']; omega))
        clear hown5 hgr5 hat5
        go_wp2_with fail
        go_roundw
        case rel => exact ⟨k + 1, g5, cap5, by omega, by go_num, rfl, HO5.out, HB5.out⟩
        case measure => simp [intOf]; omega
      · clear hA
        have hke : k = ns.length := by omega
        subst hke
        have HO2 := Lib.hid (show wr.ownsRow w.heap.size 9 1 (.slice (some ⟨g, 0, none⟩) ns.length cap) ns.length (strCells (txs ns)) by
          have := HO.out
          rwa [List.take_length] at this)
        go_wp2_with fail
        (go_at_call 52; (with_reducible refine (c_join _ ns g cap _ h60 HO2.out).mono ?_); rintro e w9 ⟨rfl, hb9⟩)
        go_wp2_with fail
        go_ret
        exact ⟨by rw [HT.out]; rfl, hbl.trans (hb9.mono hbl.size)⟩
theorem walk_FnExactVoiceText (w : World) (v : Value) (ns : List Nt) (h : Rd w v 6 ns.length (ntCells ns)) (hg : ∀ a ∈ ns, a.Good) (hw : Tab w) :
    Calls Tryd.prog 7 #[v] w fun e w' => e = .returned (.bool true) ∧ Below w.heap.size w w' := by
  have h' := Lib.hid h
  have HW := Lib.hid (fun w' (h : Below w.heap.size w w') => tab_bel hw h)
  clear hw
  obtain ⟨_, A, c, rfl, hnc, hcm, hA⟩ := h
  unfold maxLen at hcm
  clear hA
  by_cases hn : ns.length ≤ 1048576
  · have hsz0 : ¬ ((1048576 : Int) - ns.length < 0) := by omega
    go_enter Tryd.func7, Tryd.ntmps7
    go_wp2_with (go_at_call 20; (with_reducible refine (c_szNoteS _ _ _ _ _ (by omega) (by omega) (by omega) (by omega)).mono ?_); rintro e wq ⟨rfl, rfl⟩)
    (go_at_call 22; (with_reducible refine (c_toNoteS _ ns _ h'.out hn).mono ?_); rintro e w2 ⟨v2, rfl, hown2, hb2⟩)
    have hr2 := Rd.of_own hown2
    go_wp2_with fail
    (go_at_call 21; (with_reducible refine (c_sVoiceText _ ns _ hr2).mono ?_); rintro e w3 ⟨rfl, hb3⟩)
    have S3 := hb2.trans (hb3.mono hb2.size)
    go_wp2_with fail
    (go_at_call 22; (with_reducible refine (c_toNoteS _ ns _ (h'.out.below (Nat.le_refl _) S3) hn).mono ?_); rintro e w4 ⟨v4, rfl, hown4, hb4⟩)
    have S4 := S3.trans (hb4.mono S3.size)
    have hr4 := Rd.of_own hown4
    go_wp2_with fail
    (go_at_call 23; (with_reducible refine (c_iVoiceText _ ns _ hr4 (HW.out _ S4)).mono ?_); rintro e w5 ⟨rfl, hb5⟩)
    have S5 := S4.trans (hb5.mono S4.size)
    have hr5 := hr4.below (Nat.le_refl _) hb5
    go_wp2_with fail
    (go_at_call 22; (with_reducible refine (c_toNoteS _ ns _ (h'.out.below (Nat.le_refl _) S5) hn).mono ?_); rintro e w6 ⟨v6, rfl, hown6, hb6⟩)
    have S6 := S5.trans (hb6.mono S5.size)
    have hr6 := hr5.below (Nat.le_refl _) hb6
    go_wp2_with fail
    (go_at_call 24; (with_reducible refine (c_eqNoteS_eq _ _ ns _ hr6 (Rd.of_own hown6)).mono ?_); rintro e w7 ⟨rfl, hb7⟩)
    have S7 := S6.trans (hb7.mono S6.size)
    go_wp2_with fail
    go_ret
    exact ⟨rfl, S7⟩
  · go_enter Tryd.func7, Tryd.ntmps7
    go_wp2_with (go_at_call 20; (with_reducible refine (c_szNoteS_no _ _ _ _ _ (by omega) (by omega) (by omega) (by omega)).mono ?_); rintro e wq ⟨rfl, rfl⟩)
    go_ret
    exact ⟨rfl, by (repeat' (first | (with_reducible exact Below.refl _ _) | (with_reducible refine Below.setCell ?_ ?_ _) | (with_reducible refine Below.alloc ?_ ?_ _) | (with_reducible refine Below.drew ?_) | (with_reducible refine below_drewN ?_ _) | (with_reducible refine Below.trans ?_ (Below.mono (by with_reducible assumption) ?_)) | omega | (simp only [size_alloc', size_setCell', size_drew', size_drewN'] at *; omega)))⟩
end Go.Proofs.YtaikcpidijekpaaDoor
