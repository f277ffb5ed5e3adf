/- The readers of voices: both sides. Conditions: on the world: the library's variables are at hand. -/
import Derived.Test.YtaikcpidijekpaaDoorTK
import Derived.Test.YtaikcpidijekpaaDoorTW
namespace Go.Proofs.YtaikcpidijekpaaDoor
open Go.RowKit
set_option linter.unusedSimpArgs false
set_option linter.unusedVariables false
set_option maxHeartbeats 8000000
set_option maxRecDepth 100000
theorem consW_len (w : List UInt8) (m : Nat) (s : List (List UInt8)) (h : ∀ x ∈ s, w.length + x.length ≤ m) (h2 : w.length ≤ m) : ∀ x ∈ consW w s, x.length ≤ m := by
  intro x hx
  cases s with
  | nil =>
    simp only [consW, List.mem_singleton] at hx
    subst hx
    exact h2
  | cons y s =>
    simp only [consW, List.mem_cons] at hx
    rcases hx with rfl | hx
    · have := h y (by simp)
      simpa using this
    · have := h x (by simp [hx])
      omega
theorem sp_len (l : List UInt8) : ∀ x ∈ sp l, x.length ≤ l.length := by
  induction l with
  | nil => intro x hx; simp [sp] at hx; simp [hx]
  | cons c r ih =>
    unfold sp
    split
    · intro x hx
      rcases List.mem_cons.1 hx with rfl | hx
      · simp
      · have := ih x hx
        simp only [List.length_cons]
        omega
    · refine consW_len _ _ _ (fun x hx => ?_) (by simp)
      have := ih x hx
      simp only [List.length_cons, List.length_nil]
      omega
theorem str_cell {W : World} {B k : Nat} {T : TypeId} {ws : List (List UInt8)} (h : W.heap[B]? = some (.cells (ws.map fun x => Value.string ⟨x.toArray⟩).toArray T (0, 0))) (hk : k < ws.length) :
    W.cell? ⟨B, k, none⟩ = some (.string ⟨ws[k].toArray⟩) := by
  rw [cell_of_row W B k _ T (0, 0) h]
  simp [hk]
theorem keep_app {W W' : World} {B gv : Nat} {o : Obj} (hk : W.grownBy W' (some gv)) (h : W.heap[B]? = some o) (hne : gv ≠ B) : W'.heap[B]? = some o := by
  have hlt : B < W.heap.size := (Array.getElem?_eq_some_iff.1 h).1
  rw [hk.block B hlt (fun e => hne (by cases e; rfl))]
  exact h
/-- The value of a reader of voices. -/
def RetV (x : List Nt × Bool) (w : World) (e : Ending) (w' : World) : Prop :=
  ∃ v, e = .returned (.tuple #[v, .bool x.2]) ∧ w'.ownsRow w.heap.size 29 6 v x.1.length (ntCells x.1) ∧ x.1.length ≤ 60 ∧ Below w.heap.size w w'
theorem own_nil (W : World) (base T size : Nat) : W.ownsRow base T size (.slice none 0 0) 0 [] := ⟨by simp, .inl ⟨rfl, rfl⟩⟩
theorem split_cells (l : List UInt8) : (Lib.splitB ⟨#[32]⟩ 0 (Lib.countB ⟨l.toArray⟩ ⟨#[32]⟩) ⟨l.toArray⟩) = (sp l).map fun x => (⟨x.toArray⟩ : ByteArray) := by
  have h := Lib.splitB_data ⟨#[32]⟩ 0 (Lib.countB ⟨l.toArray⟩ ⟨#[32]⟩) ⟨l.toArray⟩
  have h2 : Lib.splitK [32] 0 (Lib.countB ⟨l.toArray⟩ ⟨#[32]⟩) l = sp l := split_sp l
  rw [show Lib.splitK (⟨#[32]⟩ : ByteArray).data.toList 0 (Lib.countB ⟨l.toArray⟩ ⟨#[32]⟩) (⟨l.toArray⟩ : ByteArray).data.toList = sp l from h2] at h
  rw [← h, List.map_map]
  refine (List.map_id _).symm.trans (List.map_congr_left fun x _ => ?_)
  simp
theorem c_split (l : List UInt8) (w : World) (hl : l.length ≤ 2000000) (hw : Wd w) :
    Calls Tryd.prog 54 #[.string ⟨l.toArray⟩, .string ⟨#[32]⟩] w fun e w' => e = .returned (.slice (some ⟨w.heap.size, 0, none⟩) (sp l).length (sp l).length) ∧ w' = w.alloc (.cells ((sp l).map fun x => Value.string ⟨x.toArray⟩).toArray 9) := by
  obtain ⟨_, ⟨m, hm⟩, _⟩ := hw
  refine (Tryd.strings_Split ⟨l.toArray⟩ ⟨#[32]⟩ m w (by simp [ByteArray.size]; omega) hm (by decide)).mono ?_
  rintro e w' ⟨rfl, rfl⟩
  have h1 := split_cells l
  have h2 := Lib.splitB_all ⟨#[32]⟩ (by decide) 0 _ ⟨l.toArray⟩ rfl
  rw [h1, List.length_map] at h2
  refine ⟨?_, ?_⟩
  · rw [h2]
  · rw [h1, List.map_map]; rfl
theorem c_iReadVoice (l : List UInt8) (w : World) (hl : l.length ≤ 2000000) (hw : Wd w) :
    Calls Tryd.prog 27 #[.string ⟨l.toArray⟩] w (RetV (rdV l) w) := by
  have HW := Lib.hid (fun w' (h : Below w.heap.size w w') => hw.bel h)
  clear hw
  have HO0 := Lib.hid (own_new w 29 6)
  by_cases hl0 : l = []
  · subst hl0
    go_enter Tryd.func27, Tryd.ntmps27
    go_wp2_with fail
    go_ret2
    exact ⟨_, by rw [rdV_nil]; rfl, by rw [rdV_nil]; exact HO0.out, by rw [rdV_nil]; decide, bel1 _ _⟩
  · have hl1 : (l == ([] : List UInt8)) = false := beq_eq_false_iff_ne.2 hl0
    have HNW := Lib.hid (fun (ns : List Nt) (word : List UInt8) (rest : List (List UInt8)) (h : sp l = ns.map noteT ++ word :: rest) (hw : (rdN word).2 = false) => rdV_word hl0 h hw)
    have HNL := Lib.hid (fun (ns : List Nt) (rest : List (List UInt8)) (h : sp l = ns.map noteT ++ rest) (hw : 60 < ns.length + rest.length) => rdV_long hl0 h hw)
    have HNE := Lib.hid (fun (ns : List Nt) (h : sp l = ns.map noteT) (hg : ∀ n ∈ ns, noteValid n = true) => rdV_end hl0 h hg)
    have HSL := Lib.hid (sp_len l)
    have HC := Lib.hid (fun W h => c_split l W hl h)
    generalize sp l = ws at *
    go_enter Tryd.func27, Tryd.ntmps27
    go_wp2_with fail
    (go_at_call 54; (with_reducible refine (HC.out _ (HW.out _ (bel1 _ _))).mono ?_); rintro e w2 ⟨rfl, hw2⟩)
    have hHB : w2.heap[w.heap.size + 1]? = some (.cells (ws.map fun x => Value.string ⟨x.toArray⟩).toArray 9 (0, 0)) := by
      rw [hw2, ← size_alloc' w (.cells #[] 29)]; exact heap_alloc_new _ _
    have HB2 := Lib.hid (show Below w.heap.size w w2 by rw [hw2]; (repeat' (first | (with_reducible exact Below.refl _ _) | (with_reducible refine Below.setCell ?_ ?_ _) | (with_reducible refine Below.alloc ?_ ?_ _) | (with_reducible refine Below.drew ?_) | (with_reducible refine below_drewN ?_ _) | (with_reducible refine Below.trans ?_ (Below.mono (by with_reducible assumption) ?_)) | omega | (simp only [size_alloc', size_setCell', size_drew', size_drewN'] at *; omega))))
    have HO2 := Lib.hid (show w2.ownsRow w.heap.size 29 6 (.slice (some ⟨w.heap.size, 0, none⟩) 0 0) 0 [] by rw [hw2]; exact HO0.out.alloc _)
    have HHB := Lib.hid hHB
    clear hHB hw2
    go_wp2_with fail
    go_loopw [4, 16] (fun s4 s16 wr => ∃ (g cap : Nat) (ns : List Nt), ns.length ≤ ws.length ∧ ns.length ≤ 60 ∧ g ≠ w.heap.size + 1 ∧ s16 = .int .i64 ns.length ∧ s4 = .slice (some ⟨g, 0, none⟩) ns.length cap ∧
      wr.ownsRow w.heap.size 29 6 (.slice (some ⟨g, 0, none⟩) ns.length cap) ns.length (ntCells ns) ∧ ns.map noteT = ws.take ns.length ∧ (∀ n ∈ ns, noteValid n = true) ∧
      wr.heap[w.heap.size + 1]? = some (.cells (ws.map fun x => Value.string ⟨x.toArray⟩).toArray 9 (0, 0)) ∧ Below w.heap.size w wr) (fun _ s16 _ => ws.length - (intOf s16).toNat)
    case atStart => exact ⟨w.heap.size, 0, [], Nat.zero_le _, by decide, by omega, rfl, rfl, HO2.out, rfl, by simp, HHB.out, HB2.out⟩
    case round =>
      obtain ⟨g, cap, ns, hk, h60, hgB, rfl, rfl, hown, hmap, hval, hHB, hbl⟩ := hrel
      have HO := Lib.hid hown
      have HV := Lib.hid hval
      have HHr := Lib.hid hHB
      have HM := Lib.hid hmap
      have hBl : w.heap.size + 1 < wr.heap.size := (Array.getElem?_eq_some_iff.1 hHB).1
      clear hown hval hmap
      by_cases hlt : ns.length < ws.length
      · have hlt' : (ns.length : Int) < (ws.length : Int) := by omega
        have hcell := str_cell hHB hlt
        clear hHB
        have hsp : ws = ns.map noteT ++ ws[ns.length] :: ws.drop (ns.length + 1) := by
          conv => lhs; rw [← List.take_append_drop ns.length ws]
          rw [HM.out, List.drop_eq_getElem_cons hlt]
        have hwl := HSL.out ws[ns.length] (List.getElem_mem hlt)
        have HNW2 := Lib.hid (HNW.out ns _ _ hsp)
        have HNL2 := Lib.hid (fun h : ns.length = 60 => HNL.out ns _ hsp (by simp only [List.length_cons]; omega))
        have HTK := Lib.hid (show ws.take (ns.length + 1) = ns.map noteT ++ [ws[ns.length]] by rw [List.take_succ_eq_append_getElem hlt, HM.out])
        generalize ws[ns.length] = word at *
        clear hsp
        have HR := Lib.hid (fun W h => c_iReadNote word W (by omega) h)
        have HOK := Lib.hid (fun h : (rdN word).2 = true => rdN_ok h)
        generalize rdN word = rn at *
        obtain ⟨⟨r, ⟨s, a, o⟩, t, d⟩, ok⟩ := rn
        go_wp2_with fail
        (go_at_call 16; (with_reducible refine (HR.out _ (HW.out _ hbl)).mono ?_); rintro e w5 ⟨rfl, hb5⟩)
        have S5 := hbl.trans (hb5.mono hbl.size)
        have hz5 := hb5.size
        have HH5 := Lib.hid (below_heap hb5 HHr.out)
        have HO5 := Lib.hid (own_belA HO.out hb5)
        cases ok
        · have HN := Lib.hid (HNW2.out rfl)
          go_wp2_with fail
          go_ret2
          exact ⟨.slice none 0 0, by rw [HN.out]; rfl, by rw [HN.out]; exact own_nil _ _ _ _, by rw [HN.out]; decide, by (repeat' (first | (with_reducible exact Below.refl _ _) | (with_reducible refine Below.setCell ?_ ?_ _) | (with_reducible refine Below.alloc ?_ ?_ _) | (with_reducible refine Below.drew ?_) | (with_reducible refine below_drewN ?_ _) | (with_reducible refine Below.trans ?_ (Below.mono (by with_reducible assumption) ?_)) | omega | (simp only [size_alloc', size_setCell', size_drew', size_drewN'] at *; omega)))⟩
        · obtain ⟨hnv, hnt⟩ := HOK.out rfl
          have HNV := Lib.hid hnv
          have HNT := Lib.hid hnt
          clear hnv hnt
          by_cases h6 : ns.length = 60
          · have HN := Lib.hid (HNL2.out h6)
            have h6' : (ns.length : Int) = 60 := by omega
            go_wp2_with fail
            go_ret2
            exact ⟨.slice none 0 0, by rw [HN.out]; rfl, by rw [HN.out]; exact own_nil _ _ _ _, by rw [HN.out]; decide, by (repeat' (first | (with_reducible exact Below.refl _ _) | (with_reducible refine Below.setCell ?_ ?_ _) | (with_reducible refine Below.alloc ?_ ?_ _) | (with_reducible refine Below.drew ?_) | (with_reducible refine below_drewN ?_ _) | (with_reducible refine Below.trans ?_ (Below.mono (by with_reducible assumption) ?_)) | omega | (simp only [size_alloc', size_setCell', size_drew', size_drewN'] at *; omega)))⟩
          · have h6' : ¬ (ns.length : Int) = 60 := by omega
            have h6'' : ((ns.length : Int) == 60) = false := beq_eq_false_iff_ne.2 h6'
            have HC6 := Lib.hid (show ∀ j u, (Nt.cells ⟨r, ⟨s, a, o⟩, t, d⟩)[j]? = some u → ((w5.alloc (.cells #[.bool r, .int .i64 s, .int .i64 a, .int .i64 o, .int .i64 t, .bool d] 29)).alloc (.cells #[.bool r, .int .i64 s, .int .i64 a, .int .i64 o, .int .i64 t, .bool d] 29)).cell? ⟨w5.heap.size + 1, 0 + j, none⟩ = some u by
              have := cells_newL (w5.alloc (.cells #[.bool r, .int .i64 s, .int .i64 a, .int .i64 o, .int .i64 t, .bool d] 29)) #[.bool r, .int .i64 s, .int .i64 a, .int .i64 o, .int .i64 t, .bool d] 29
              simp only [size_alloc'] at this
              exact this)
            have HH6 := Lib.hid (below_heap (bel1 (w5.alloc (.cells #[.bool r, .int .i64 s, .int .i64 a, .int .i64 o, .int .i64 t, .bool d] 29)) (.cells #[.bool r, .int .i64 s, .int .i64 a, .int .i64 o, .int .i64 t, .bool d] 29)) (below_heap (bel1 w5 (.cells #[.bool r, .int .i64 s, .int .i64 a, .int .i64 o, .int .i64 t, .bool d] 29)) HH5.out))
            have HO6 := Lib.hid ((HO5.out.alloc (.cells #[.bool r, .int .i64 s, .int .i64 a, .int .i64 o, .int .i64 t, .bool d] 29)).alloc (.cells #[.bool r, .int .i64 s, .int .i64 a, .int .i64 o, .int .i64 t, .bool d] 29))
            have HB6 := Lib.hid (show Below w.heap.size w ((w5.alloc (.cells #[.bool r, .int .i64 s, .int .i64 a, .int .i64 o, .int .i64 t, .bool d] 29)).alloc (.cells #[.bool r, .int .i64 s, .int .i64 a, .int .i64 o, .int .i64 t, .bool d] 29)) by (repeat' (first | (with_reducible exact Below.refl _ _) | (with_reducible refine Below.setCell ?_ ?_ _) | (with_reducible refine Below.alloc ?_ ?_ _) | (with_reducible refine Below.drew ?_) | (with_reducible refine below_drewN ?_ _) | (with_reducible refine Below.trans ?_ (Below.mono (by with_reducible assumption) ?_)) | omega | (simp only [size_alloc', size_setCell', size_drew', size_drewN'] at *; omega))))
            go_wp2_with (at_builtin; refine wp_appl (by rfl) (.tmp 32) (.tmp 34) 45 29 rfl _ 6 48 Tryd.underlying45 info_nt rfl (by decide) (by decide) w.heap.size g cap ns.length _ rfl HO6.out (w5.heap.size + 1) 0 1 1 (Nt.cells ⟨r, ⟨s, a, o⟩, t, d⟩) rfl rfl HC6.out (nt_one _) (by omega) ?c2 ?_)
            case c2 => simp only [size_alloc']; omega
            intro g7 cap7 w7 hown7 hgr7 hat7 hlt7
            have HO7 := Lib.hid (show w7.ownsRow w.heap.size 29 6 (.slice (some ⟨g7, 0, none⟩) (ns ++ [(⟨r, ⟨s, a, o⟩, t, d⟩ : Nt)]).length cap7) (ns ++ [(⟨r, ⟨s, a, o⟩, t, d⟩ : Nt)]).length (ntCells (ns ++ [(⟨r, ⟨s, a, o⟩, t, d⟩ : Nt)])) by rw [nts_snoc, List.length_append]; exact hown7)
            have HH7 := Lib.hid (keep_app hgr7 HH6.out hgB)
            have HB7 := Lib.hid (bel_app HB6.out HO6.out hgr7 (Nat.le_refl _) (by simp only [size_alloc']; omega))
            have hg7 : g7 ≠ w.heap.size + 1 := by
              rcases hat7 with h | h
              · rw [h]; exact hgB
              · rw [h]; first | omega | (simp only [size_alloc']; omega)
            clear hown7 hgr7 hat7
            go_wp2_with fail
            go_roundw
            case rel => exact ⟨g7, cap7, ns ++ [⟨r, ⟨s, a, o⟩, t, d⟩], by simp; omega, by simp; omega, hg7, by rw [List.length_append]; go_num, by rw [List.length_append]; rfl, HO7.out, by
                rw [List.length_append, List.map_append, List.map_cons, List.map_nil, HNT.out]; exact HTK.out.symm, fun n hn => by
                rcases List.mem_append.1 hn with h | h
                · exact HV.out n h
                · rw [List.mem_singleton] at h
                  subst h
                  exact HNV.out, HH7.out, HB7.out⟩
            case measure => simp [intOf]; omega
      · have hlt' : ¬ (ns.length : Int) < (ws.length : Int) := by omega
        clear hHB
        have hke : ws.take ns.length = ws := List.take_of_length_le (by omega)
        obtain ⟨hre, -⟩ := HNE.out ns (by rw [HM.out, hke]) HV.out
        have HRE := Lib.hid hre
        have HVV := Lib.hid (c_VoiceValid (.slice (some ⟨g, 0, none⟩) ns.length cap) ns wr (Rd.of_own HO.out))
        clear hre hke
        cases hvv : voiceValid ns
        · rw [hvv] at HRE HVV
          have HN := Lib.hid (show rdV l = ([], false) from HRE.out)
          go_wp2_with fail
          (go_at_call 51; (with_reducible refine HVV.out.mono ?_); rintro e w8 ⟨rfl, hb8⟩)
          have S8 := hbl.trans (hb8.mono hbl.size)
          go_wp2_with fail
          go_ret2
          exact ⟨.slice none 0 0, by rw [HN.out]; rfl, by rw [HN.out]; exact own_nil _ _ _ _, by rw [HN.out]; decide, S8⟩
        · rw [hvv] at HRE HVV
          have HY := Lib.hid (show rdV l = (ns, true) from HRE.out)
          go_wp2_with fail
          (go_at_call 51; (with_reducible refine HVV.out.mono ?_); rintro e w8 ⟨rfl, hb8⟩)
          have S8 := hbl.trans (hb8.mono hbl.size)
          have HO8 := Lib.hid (own_belA HO.out hb8)
          go_wp2_with fail
          go_ret2
          exact ⟨_, by rw [HY.out]; rfl, by rw [HY.out]; exact HO8.out, by rw [HY.out]; exact h60, S8⟩
end Go.Proofs.YtaikcpidijekpaaDoor
