/- The reference's reader of voices. Conditions: none. -/
import Derived.Test.YtaikcpidijekpaaDoorUV
namespace Go.Proofs.YtaikcpidijekpaaDoor
open Go.RowKit
set_option linter.unusedSimpArgs false
set_option linter.unusedVariables false
set_option maxHeartbeats 16000000
set_option maxRecDepth 100000
theorem one_ex (l : List UInt8) (k : Nat) (h : k < l.length) : (ByteArray.mk l.toArray).extract k (k + 1) = ⟨[l.getD k 0].toArray⟩ := by
  rw [ByteArray.extract_mk]
  congr 1
  apply Array.ext'
  rw [List.getD_eq_getElem?_getD, List.getElem?_eq_getElem h]
  simp only [Nat.add_sub_cancel_left, List.extract_toArray, List.extract_eq_take_drop]
  rw [List.drop_eq_getElem_cons h]
  rfl
theorem drop_get (l : List UInt8) (k : Nat) (h : k < l.length) : l.drop k = l.getD k 0 :: l.drop (k + 1) := by
  rw [List.drop_eq_getElem_cons h, List.getD_eq_getElem?_getD, List.getElem?_eq_getElem h]
  rfl
/-- Where the reference's reader of voices stands: k bytes read, 'ns' and 'word' found. -/
def At (l : List UInt8) (k : Nat) (ns : List Nt) (word : List UInt8) : Prop :=
  (k ≤ l.length ∧ sp l = ns.map noteT ++ consW word (sp (l.drop k)) ∧ word.length ≤ k) ∨ (k = l.length + 1 ∧ sp l = ns.map noteT ∧ word = [])
theorem At.start (l : List UInt8) : At l 0 [] [] := .inl ⟨Nat.zero_le _, by rw [consW_nil (sp_ne _)]; rfl, Nat.le_refl _⟩
theorem At.letter {l : List UInt8} {k : Nat} {ns : List Nt} {word : List UInt8} (h : At l k ns word) (hk : k < l.length) (hc : l.getD k 0 ≠ 32) : At l (k + 1) ns (word ++ [l.getD k 0]) := by
  rcases h with ⟨_, h2, h3⟩ | ⟨h1, _⟩
  · refine .inl ⟨hk, ?_, by simp; omega⟩
    rw [h2, drop_get l k hk, sp_other hc]
  · omega
/-- The word that is found at a space, or at the end. -/
theorem At.word {l : List UInt8} {k : Nat} {ns : List Nt} {word : List UInt8} (h : At l k ns word) (hk : (k < l.length ∧ l.getD k 0 = 32) ∨ k = l.length) :
    ∃ rest, sp l = ns.map noteT ++ word :: rest ∧ word.length ≤ l.length ∧ ∀ n, noteT n = word → At l (k + 1) (ns ++ [n]) [] := by
  rcases h with ⟨h1, h2, h3⟩ | ⟨h1, _⟩
  · rcases hk with ⟨hk, hc⟩ | rfl
    · rw [drop_get l k hk, hc, sp_space] at h2
      refine ⟨_, h2, by omega, fun n hn => .inl ⟨hk, ?_, by simp⟩⟩
      rw [h2, consW_nil (sp_ne _), ← hn]
      simp
    · rw [List.drop_length, sp_end] at h2
      refine ⟨_, h2, h3, fun n hn => .inr ⟨rfl, ?_, rfl⟩⟩
      rw [h2, ← hn]
      simp
  · rcases hk with ⟨hk, _⟩ | hk <;> omega
theorem At.long {l : List UInt8} {k : Nat} {ns : List Nt} {word : List UInt8} (hl : l ≠ []) (h : At l k ns word) (hn : 60 < ns.length) : rdV l = ([], false) := by
  rcases h with ⟨h1, h2, h3⟩ | ⟨h1, h2, _⟩
  · exact rdV_long hl h2 (by omega)
  · exact rdV_long (ns := ns) (rest := []) hl (by rw [h2]; simp) (by simp; omega)
theorem At.done {l : List UInt8} {k : Nat} {ns : List Nt} {word : List UInt8} (hl : l ≠ []) (h : At l k ns word) (hk : ¬ k ≤ l.length) (hg : ∀ n ∈ ns, noteValid n = true) : rdV l = (if voiceValid ns = true then (ns, true) else ([], false)) ∧ jn ns = l := by
  rcases h with ⟨h1, _⟩ | ⟨_, h2, _⟩
  · exact absurd h1 hk
  · exact rdV_end hl h2 hg
theorem At.le {l : List UInt8} {k : Nat} {ns : List Nt} {word : List UInt8} (h : At l k ns word) : k ≤ l.length + 1 ∧ word.length ≤ l.length := by
  rcases h with ⟨h1, _, h3⟩ | ⟨h1, _, rfl⟩
  · omega
  · simp; omega
theorem c_sReadVoice (l : List UInt8) (w : World) (hl : l.length ≤ 2000000) :
    Calls Tryd.prog 29 #[.string ⟨l.toArray⟩] w (RetV (rdV l) w) := by
  have HO0 := Lib.hid (own_new w 29 6)
  by_cases hl0 : l = []
  · subst hl0
    have HVT := Lib.hid (show vtx [] = [] by rw [vtx_jn voiceValid_nil, jn_nil])
    go_enter Tryd.func29, Tryd.ntmps29
    go_wp2_with fail
    go_loopw [4, 5, 6] (fun s4 s5 s6 wr => s4 = .slice (some ⟨w.heap.size, 0, none⟩) 0 0 ∧ s5 = .string ⟨#[]⟩ ∧ s6 = .int .i64 0 ∧ wr.ownsRow w.heap.size 29 6 (.slice (some ⟨w.heap.size, 0, none⟩) 0 0) ([] : List Nt).length (ntCells []) ∧ Below w.heap.size w wr) (fun _ _ _ _ => 0)
    case atStart => exact ⟨rfl, rfl, rfl, HO0.out, bel1 _ _⟩
    case round =>
      obtain ⟨rfl, rfl, rfl, hown, hbl⟩ := hrel
      have HO := Lib.hid hown
      clear hown
      go_wp2_with fail
      (go_at_call 21; (with_reducible refine (c_sVoiceText _ [] _ (Rd.of_own HO.out)).mono ?_); rintro e w8 ⟨rfl, hb8⟩)
      have S8 := hbl.trans (hb8.mono hbl.size)
      have HO8 := Lib.hid (own_belA HO.out hb8)
      rw [HVT.out]
      go_wp2_with fail
      go_ret2
      exact ⟨_, by rw [rdV_nil]; rfl, by rw [rdV_nil]; exact HO8.out, by rw [rdV_nil]; decide, S8⟩
  · have hl1 : (l == ([] : List UInt8)) = false := beq_eq_false_iff_ne.2 hl0
    have hl2 : (([] : List UInt8) == l) = false := beq_eq_false_iff_ne.2 (fun e => hl0 e.symm)
    have HNW := Lib.hid (fun (ns : List Nt) (word : List UInt8) (rest : List (List UInt8)) (h : sp l = ns.map noteT ++ word :: rest) (hw : (rdN word).2 = false) => rdV_word hl0 h hw)
    go_enter Tryd.func29, Tryd.ntmps29
    go_wp2_with fail
    go_loopw [4, 5, 6] (fun s4 s5 s6 wr => ∃ (k g cap : Nat) (ns : List Nt) (word : List UInt8), At l k ns word ∧ ns.length ≤ 61 ∧ s4 = .slice (some ⟨g, 0, none⟩) ns.length cap ∧ s5 = .string ⟨word.toArray⟩ ∧ s6 = .int .i64 k ∧
      wr.ownsRow w.heap.size 29 6 (.slice (some ⟨g, 0, none⟩) ns.length cap) ns.length (ntCells ns) ∧ (∀ n ∈ ns, noteValid n = true) ∧ Below w.heap.size w wr) (fun _ _ s6 _ => l.length + 1 - (intOf s6).toNat)
    case atStart => exact ⟨0, w.heap.size, 0, [], [], At.start l, by decide, rfl, rfl, rfl, HO0.out, by simp, bel1 _ _⟩
    case round =>
      obtain ⟨k, g, cap, ns, word, hat, h61, rfl, rfl, rfl, hown, hval, hbl⟩ := hrel
      have HAT := Lib.hid hat
      have HO := Lib.hid hown
      have HV := Lib.hid hval
      obtain ⟨hk1, hwl0⟩ := hat.le
      clear hat hown hval
      by_cases hk : k ≤ l.length
      · have hk' : (k : Int) ≤ (l.length : Int) := by omega
        by_cases h6 : ns.length ≤ 60
        · have h6' : (ns.length : Int) ≤ 60 := by omega
          by_cases hlt : k < l.length
          · have hlt' : (k : Int) < (l.length : Int) := by omega
            have hgk : ∀ h, (ByteArray.mk l.toArray)[k]'h = l.getD k 0 := fun h => mk_get l k h
            have hex := one_ex l k hlt
            by_cases hc : l.getD k 0 = 32
            · have hgk2 : ∀ h, (ByteArray.mk l.toArray)[k]'h = 32 := fun h => (hgk h).trans hc
              clear hgk hex
              obtain ⟨rest, hsp, hwl, hnext⟩ := HAT.out.word (.inl ⟨hlt, hc⟩)
              have HNW2 := Lib.hid (HNW.out ns word rest hsp)
              have HNX := Lib.hid hnext
              have HR := Lib.hid (fun W => c_sReadNote word W (by omega))
              have HOK := Lib.hid (fun h : (rdN word).2 = true => rdN_ok h)
              clear hsp hnext
              generalize rdN word = rn at *
              obtain ⟨⟨r, ⟨s, a, o⟩, t, d⟩, ok⟩ := rn
              go_wp2_with fail
              (go_at_call 17; (with_reducible refine (HR.out _).mono ?_); rintro e w5 ⟨rfl, hb5⟩)
              have S5 := hbl.trans (hb5.mono hbl.size)
              have hz5 := hb5.size
              have hzS := S5.size
              have HO5 := Lib.hid (own_belA HO.out hb5)
              cases ok
              · have HN := Lib.hid (HNW2.out rfl)
                go_wp2_with fail
                go_ret2
                have hown9 := own_new (w5.alloc (.cells #[.bool r, .int .i64 s, .int .i64 a, .int .i64 o, .int .i64 t, .bool d] 29)) 29 6
                try simp only [size_alloc'] at hown9
                exact ⟨_, by rw [HN.out]; rfl, by rw [HN.out]; exact own_monoA hown9 (by omega), by rw [HN.out]; decide, by (repeat' (first | (with_reducible exact Below.refl _ _) | (with_reducible refine Below.setCell ?_ ?_ _) | (with_reducible refine Below.alloc ?_ ?_ _) | (with_reducible refine Below.drew ?_) | (with_reducible refine below_drewN ?_ _) | (with_reducible refine Below.trans ?_ (Below.mono (by with_reducible assumption) ?_)) | omega | (simp only [size_alloc', size_setCell', size_drew', size_drewN'] at *; omega)))⟩
              · obtain ⟨hnv, hnt⟩ := HOK.out rfl
                have HNV := Lib.hid hnv
                have HAN := Lib.hid (HNX.out _ hnt)
                clear hnv hnt
                have HC6 := Lib.hid (show ∀ j u, (Nt.cells ⟨r, ⟨s, a, o⟩, t, d⟩)[j]? = some u → ((w5.alloc (.cells #[.bool r, .int .i64 s, .int .i64 a, .int .i64 o, .int .i64 t, .bool d] 29)).alloc (.cells #[.bool r, .int .i64 s, .int .i64 a, .int .i64 o, .int .i64 t, .bool d] 29)).cell? ⟨w5.heap.size + 1, 0 + j, none⟩ = some u by
                  have := cells_newL (w5.alloc (.cells #[.bool r, .int .i64 s, .int .i64 a, .int .i64 o, .int .i64 t, .bool d] 29)) #[.bool r, .int .i64 s, .int .i64 a, .int .i64 o, .int .i64 t, .bool d] 29
                  simp only [size_alloc'] at this
                  exact this)
                have HO6 := Lib.hid ((HO5.out.alloc (.cells #[.bool r, .int .i64 s, .int .i64 a, .int .i64 o, .int .i64 t, .bool d] 29)).alloc (.cells #[.bool r, .int .i64 s, .int .i64 a, .int .i64 o, .int .i64 t, .bool d] 29))
                have HB6 := Lib.hid (show Below w.heap.size w ((w5.alloc (.cells #[.bool r, .int .i64 s, .int .i64 a, .int .i64 o, .int .i64 t, .bool d] 29)).alloc (.cells #[.bool r, .int .i64 s, .int .i64 a, .int .i64 o, .int .i64 t, .bool d] 29)) by (repeat' (first | (with_reducible exact Below.refl _ _) | (with_reducible refine Below.setCell ?_ ?_ _) | (with_reducible refine Below.alloc ?_ ?_ _) | (with_reducible refine Below.drew ?_) | (with_reducible refine below_drewN ?_ _) | (with_reducible refine Below.trans ?_ (Below.mono (by with_reducible assumption) ?_)) | omega | (simp only [size_alloc', size_setCell', size_drew', size_drewN'] at *; omega))))
                go_wp2_with (at_builtin; refine wp_appl (by rfl) (.tmp 50) (.tmp 52) 45 29 rfl _ 6 48 Tryd.underlying45 info_nt rfl (by decide) (by decide) w.heap.size g cap ns.length _ rfl HO6.out (w5.heap.size + 1) 0 1 1 (Nt.cells ⟨r, ⟨s, a, o⟩, t, d⟩) rfl rfl HC6.out (nt_one _) (by omega) ?c2 ?_)
                case c2 => simp only [size_alloc']; omega
                intro g7 cap7 w7 hown7 hgr7 hat7 hlt7
                have HO7 := Lib.hid (show w7.ownsRow w.heap.size 29 6 (.slice (some ⟨g7, 0, none⟩) (ns ++ [(⟨r, ⟨s, a, o⟩, t, d⟩ : Nt)]).length cap7) (ns ++ [(⟨r, ⟨s, a, o⟩, t, d⟩ : Nt)]).length (ntCells (ns ++ [(⟨r, ⟨s, a, o⟩, t, d⟩ : Nt)])) by rw [nts_snoc, List.length_append]; exact hown7)
                have HB7 := Lib.hid (bel_app HB6.out HO6.out hgr7 (Nat.le_refl _) (by simp only [size_alloc']; omega))
                clear hown7 hgr7 hat7
                go_wp2_with fail
                go_roundw
                case rel => exact ⟨k + 1, g7, cap7, ns ++ [⟨r, ⟨s, a, o⟩, t, d⟩], [], HAN.out, by simp; omega, by rw [List.length_append]; rfl, rfl, by go_num, HO7.out, fun n hn => by
                    rcases List.mem_append.1 hn with h | h
                    · exact HV.out n h
                    · rw [List.mem_singleton] at h
                      subst h
                      exact HNV.out, HB7.out⟩
                case measure => simp [intOf]; omega
            · have HAL := Lib.hid (HAT.out.letter hlt hc)
              have hadd := fun W => run_add_snoc (P := Tryd.prog) word (l.getD k 0) (by omega) W
              generalize l.getD k 0 = c at *
              have hc' : ¬ (c.toNat : Int) = 32 := u8_ne hc
              have hc6 : ((c.toNat : Int) == 32) = false := beq_eq_false_iff_ne.2 hc'
              go_wp2_with fail
              go_roundw
              case rel => exact ⟨k + 1, g, cap, ns, word ++ [c], HAL.out, h61, rfl, by simp, by go_num, HO.out, HV.out, hbl⟩
              case measure => simp [intOf]; omega
          · have hlt' : ¬ (k : Int) < (l.length : Int) := by omega
            obtain ⟨rest, hsp, hwl, hnext⟩ := HAT.out.word (.inr (by omega))
            have HNW2 := Lib.hid (HNW.out ns word rest hsp)
            have HNX := Lib.hid hnext
            have HR := Lib.hid (fun W => c_sReadNote word W (by omega))
            have HOK := Lib.hid (fun h : (rdN word).2 = true => rdN_ok h)
            clear hsp hnext
            generalize rdN word = rn at *
            obtain ⟨⟨r, ⟨s, a, o⟩, t, d⟩, ok⟩ := rn
            go_wp2_with fail
            (go_at_call 17; (with_reducible refine (HR.out _).mono ?_); rintro e w5 ⟨rfl, hb5⟩)
            have S5 := hbl.trans (hb5.mono hbl.size)
            have hz5 := hb5.size
            have hzS := S5.size
            have HO5 := Lib.hid (own_belA HO.out hb5)
            cases ok
            · have HN := Lib.hid (HNW2.out rfl)
              go_wp2_with fail
              go_ret2
              have hown9 := own_new (w5.alloc (.cells #[.bool r, .int .i64 s, .int .i64 a, .int .i64 o, .int .i64 t, .bool d] 29)) 29 6
              try simp only [size_alloc'] at hown9
              exact ⟨_, by rw [HN.out]; rfl, by rw [HN.out]; exact own_monoA hown9 (by omega), by rw [HN.out]; decide, by (repeat' (first | (with_reducible exact Below.refl _ _) | (with_reducible refine Below.setCell ?_ ?_ _) | (with_reducible refine Below.alloc ?_ ?_ _) | (with_reducible refine Below.drew ?_) | (with_reducible refine below_drewN ?_ _) | (with_reducible refine Below.trans ?_ (Below.mono (by with_reducible assumption) ?_)) | omega | (simp only [size_alloc', size_setCell', size_drew', size_drewN'] at *; omega)))⟩
            · obtain ⟨hnv, hnt⟩ := HOK.out rfl
              have HNV := Lib.hid hnv
              have HAN := Lib.hid (HNX.out _ hnt)
              clear hnv hnt
              have HC6 := Lib.hid (show ∀ j u, (Nt.cells ⟨r, ⟨s, a, o⟩, t, d⟩)[j]? = some u → ((w5.alloc (.cells #[.bool r, .int .i64 s, .int .i64 a, .int .i64 o, .int .i64 t, .bool d] 29)).alloc (.cells #[.bool r, .int .i64 s, .int .i64 a, .int .i64 o, .int .i64 t, .bool d] 29)).cell? ⟨w5.heap.size + 1, 0 + j, none⟩ = some u by
                have := cells_newL (w5.alloc (.cells #[.bool r, .int .i64 s, .int .i64 a, .int .i64 o, .int .i64 t, .bool d] 29)) #[.bool r, .int .i64 s, .int .i64 a, .int .i64 o, .int .i64 t, .bool d] 29
                simp only [size_alloc'] at this
                exact this)
              have HO6 := Lib.hid ((HO5.out.alloc (.cells #[.bool r, .int .i64 s, .int .i64 a, .int .i64 o, .int .i64 t, .bool d] 29)).alloc (.cells #[.bool r, .int .i64 s, .int .i64 a, .int .i64 o, .int .i64 t, .bool d] 29))
              have HB6 := Lib.hid (show Below w.heap.size w ((w5.alloc (.cells #[.bool r, .int .i64 s, .int .i64 a, .int .i64 o, .int .i64 t, .bool d] 29)).alloc (.cells #[.bool r, .int .i64 s, .int .i64 a, .int .i64 o, .int .i64 t, .bool d] 29)) by (repeat' (first | (with_reducible exact Below.refl _ _) | (with_reducible refine Below.setCell ?_ ?_ _) | (with_reducible refine Below.alloc ?_ ?_ _) | (with_reducible refine Below.drew ?_) | (with_reducible refine below_drewN ?_ _) | (with_reducible refine Below.trans ?_ (Below.mono (by with_reducible assumption) ?_)) | omega | (simp only [size_alloc', size_setCell', size_drew', size_drewN'] at *; omega))))
              go_wp2_with (at_builtin; refine wp_appl (by rfl) (.tmp 50) (.tmp 52) 45 29 rfl _ 6 48 Tryd.underlying45 info_nt rfl (by decide) (by decide) w.heap.size g cap ns.length _ rfl HO6.out (w5.heap.size + 1) 0 1 1 (Nt.cells ⟨r, ⟨s, a, o⟩, t, d⟩) rfl rfl HC6.out (nt_one _) (by omega) ?c2 ?_)
              case c2 => simp only [size_alloc']; omega
              intro g7 cap7 w7 hown7 hgr7 hat7 hlt7
              have HO7 := Lib.hid (show w7.ownsRow w.heap.size 29 6 (.slice (some ⟨g7, 0, none⟩) (ns ++ [(⟨r, ⟨s, a, o⟩, t, d⟩ : Nt)]).length cap7) (ns ++ [(⟨r, ⟨s, a, o⟩, t, d⟩ : Nt)]).length (ntCells (ns ++ [(⟨r, ⟨s, a, o⟩, t, d⟩ : Nt)])) by rw [nts_snoc, List.length_append]; exact hown7)
              have HB7 := Lib.hid (bel_app HB6.out HO6.out hgr7 (Nat.le_refl _) (by simp only [size_alloc']; omega))
              clear hown7 hgr7 hat7
              go_wp2_with fail
              go_roundw
              case rel => exact ⟨k + 1, g7, cap7, ns ++ [⟨r, ⟨s, a, o⟩, t, d⟩], [], HAN.out, by simp; omega, by rw [List.length_append]; rfl, rfl, by go_num, HO7.out, fun n hn => by
                  rcases List.mem_append.1 hn with h | h
                  · exact HV.out n h
                  · rw [List.mem_singleton] at h
                    subst h
                    exact HNV.out, HB7.out⟩
              case measure => simp [intOf]; omega
        · have h6' : ¬ (ns.length : Int) ≤ 60 := by omega
          have HN := Lib.hid (HAT.out.long hl0 (by omega))
          have HVT := Lib.hid (show vtx ns = [] by
            unfold vtx
            rw [if_neg]
            intro hv
            have := (voice_notes hv).1
            omega)
          go_wp2_with fail
          (go_at_call 21; (with_reducible refine (c_sVoiceText _ ns _ (Rd.of_own HO.out)).mono ?_); rintro e w8 ⟨rfl, hb8⟩)
          have S8 := hbl.trans (hb8.mono hbl.size)
          have HO8 := Lib.hid (own_belA HO.out hb8)
          have hz8 := S8.size
          rw [HVT.out]
          go_wp2_with fail
          go_ret2
          have hown9 := own_new w8 29 6
          try simp only [size_alloc'] at hown9
          exact ⟨_, by rw [HN.out]; rfl, by rw [HN.out]; exact own_monoA hown9 hz8, by rw [HN.out]; decide, by (repeat' (first | (with_reducible exact Below.refl _ _) | (with_reducible refine Below.setCell ?_ ?_ _) | (with_reducible refine Below.alloc ?_ ?_ _) | (with_reducible refine Below.drew ?_) | (with_reducible refine below_drewN ?_ _) | (with_reducible refine Below.trans ?_ (Below.mono (by with_reducible assumption) ?_)) | omega | (simp only [size_alloc', size_setCell', size_drew', size_drewN'] at *; omega)))⟩
      · have hk' : ¬ (k : Int) ≤ (l.length : Int) := by omega
        obtain ⟨hre, hjn⟩ := HAT.out.done hl0 hk HV.out
        have HRE := Lib.hid hre
        have HJ := Lib.hid hjn
        clear hre hjn
        cases hvv : voiceValid ns
        · have HN := Lib.hid (show rdV l = ([], false) by have := HRE.out; rw [hvv] at this; exact this)
          have HVT := Lib.hid (show vtx ns = [] by unfold vtx; rw [hvv]; rfl)
          clear hvv
          go_wp2_with fail
          (go_at_call 21; (with_reducible refine (c_sVoiceText _ ns _ (Rd.of_own HO.out)).mono ?_); rintro e w8 ⟨rfl, hb8⟩)
          have S8 := hbl.trans (hb8.mono hbl.size)
          have HO8 := Lib.hid (own_belA HO.out hb8)
          have hz8 := S8.size
          rw [HVT.out]
          go_wp2_with fail
          go_ret2
          have hown9 := own_new w8 29 6
          try simp only [size_alloc'] at hown9
          exact ⟨_, by rw [HN.out]; rfl, by rw [HN.out]; exact own_monoA hown9 hz8, by rw [HN.out]; decide, by (repeat' (first | (with_reducible exact Below.refl _ _) | (with_reducible refine Below.setCell ?_ ?_ _) | (with_reducible refine Below.alloc ?_ ?_ _) | (with_reducible refine Below.drew ?_) | (with_reducible refine below_drewN ?_ _) | (with_reducible refine Below.trans ?_ (Below.mono (by with_reducible assumption) ?_)) | omega | (simp only [size_alloc', size_setCell', size_drew', size_drewN'] at *; omega)))⟩
        · have HY := Lib.hid (show rdV l = (ns, true) by have := HRE.out; rw [hvv] at this; exact this)
          have HVT := Lib.hid (show vtx ns = l by rw [vtx_jn hvv]; exact HJ.out)
          have h60 := (voice_notes hvv).1
          clear hvv
          go_wp2_with fail
          (go_at_call 21; (with_reducible refine (c_sVoiceText _ ns _ (Rd.of_own HO.out)).mono ?_); rintro e w8 ⟨rfl, hb8⟩)
          have S8 := hbl.trans (hb8.mono hbl.size)
          have HO8 := Lib.hid (own_belA HO.out hb8)
          have hz8 := S8.size
          rw [HVT.out]
          go_wp2_with fail
          go_ret2
          exact ⟨_, by rw [HY.out]; rfl, by rw [HY.out]; exact HO8.out, by rw [HY.out]; exact h60, S8⟩
end Go.Proofs.YtaikcpidijekpaaDoor
