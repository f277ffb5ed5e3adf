/- The program's reader of notes. Conditions: on the world: the library's variables are at hand. -/
import Derived.Test.YtaikcpidijekpaaDoorTM
namespace Go.Proofs.YtaikcpidijekpaaDoor
open Go.RowKit
set_option linter.unusedSimpArgs false
set_option linter.unusedVariables false
set_option maxHeartbeats 4000000
set_option maxRecDepth 100000
def Wd (w : World) : Prop := Tab w ∧ (∃ m, w.cell? ⟨0, 0, none⟩ = some (.int .i64 m)) ∧ (∃ tp p, w.var? Tryd.prog "strconv.ErrSyntax" = some #[.iface tp p]) ∧ (∃ tp p, w.var? Tryd.prog "strconv.ErrRange" = some #[.iface tp p])
theorem var_bel {n : String} {cs : Array Value} {w w' : World} (h : w.var? Tryd.prog n = some cs) (hb : Below w.heap.size w w') : w'.var? Tryd.prog n = some cs := by
  unfold World.var? at *
  cases hg : Tryd.prog.globalNamed n with
  | none => simp [hg] at h
  | some g =>
    simp only [hg, Option.bind_some] at h ⊢
    have hlt : g < w.heap.size := by
      rcases Nat.lt_or_ge g w.heap.size with h' | h'
      · exact h'
      · rw [Array.getElem?_eq_none h'] at h; simp at h
    rw [hb.block g hlt]
    exact h
theorem Wd.tab {w : World} (h : Wd w) : Tab w := h.1
theorem Wd.bel {w w' : World} (h : Wd w) (hb : Below w.heap.size w w') : Wd w' := by
  obtain ⟨h1, ⟨m, h2⟩, ⟨tp, p, h3⟩, ⟨tq, q, h4⟩⟩ := h
  exact ⟨tab_bel h1 hb, ⟨m, below_cell hb h2⟩, ⟨tp, p, var_bel h3 hb⟩, ⟨tq, q, var_bel h4 hb⟩⟩
theorem c_cut (l : List UInt8) (w : World) (hl : l.length ≤ 2000000) (hw : Wd w) :
    Calls Tryd.prog 44 #[.string ⟨l.toArray⟩, .string ⟨#[47]⟩] w fun e w' => e = .returned (.tuple #[.string ⟨(Lib.cut l [47]).1.toArray⟩, .string ⟨(Lib.cut l [47]).2.1.toArray⟩, .bool (Lib.cut l [47]).2.2]) ∧ Below w.heap.size w w' := by
  obtain ⟨_, ⟨m, hm⟩, _⟩ := hw
  refine (Tryd.strings_Cut ⟨l.toArray⟩ ⟨#[47]⟩ m w (by simp [ByteArray.size]; omega) hm).mono ?_
  rintro e w' ⟨rfl, n, rfl⟩
  exact ⟨rfl, by (repeat' (first | (with_reducible exact Below.refl _ _) | (with_reducible refine Below.setCell ?_ ?_ _) | (with_reducible refine Below.alloc ?_ ?_ _) | (with_reducible refine Below.drew ?_) | (with_reducible refine below_drewN ?_ _) | (with_reducible refine Below.trans ?_ (Below.mono (by with_reducible assumption) ?_)) | omega | (simp only [size_alloc', size_setCell', size_drew', size_drewN'] at *; omega)))⟩
theorem c_cutsuf (u : List UInt8) (w : World) (hl : u.length ≤ 2000000) :
    Calls Tryd.prog 45 #[.string ⟨u.toArray⟩, .string ⟨#[126]⟩] w fun e w' => e = .returned (.tuple #[.string ⟨(Lib.trimSuffix u [126]).toArray⟩, .bool (Lib.hasSuffix u [126])]) ∧ w = w' := by
  refine (Tryd.strings_CutSuffix ⟨u.toArray⟩ ⟨#[126]⟩ w (by simp [ByteArray.size]; omega)).mono ?_
  rintro e w' ⟨rfl, rfl⟩
  exact ⟨rfl, rfl⟩
theorem c_atoi (s : List UInt8) (w : World) (hl : s.length ≤ 2000000) (hw : Wd w) :
    Calls Tryd.prog 46 #[.string ⟨s.toArray⟩] w fun e w' => ∃ (v : Int) (er : Value), e = .returned (.tuple #[.int .i64 v, er]) ∧ ((er = .nilIface ∧ Lib.atoiAll s = .ok v) ∨ ((∃ t a, er = .iface t (.pointer (some a))) ∧ ∀ x, Lib.atoiAll s ≠ .ok x)) ∧ Below w.heap.size w w' := by
  obtain ⟨_, _, ⟨tp, p, h3⟩, ⟨tq, q, h4⟩⟩ := hw
  cases h : Lib.atoiAll s
  case ok v =>
    refine (Tryd.strconv_Atoi_ok ⟨s.toArray⟩ (by simp [ByteArray.size]; omega) v h w).mono ?_
    rintro e w' ⟨rfl, hb⟩
    refine ⟨v, _, rfl, .inl ⟨rfl, rfl⟩, ?_⟩
    rcases hb with rfl | ⟨t, rfl⟩
    · exact Below.refl _ _
    · exact Lib.bytesWorld_below _ _ _
  case range =>
    refine (Tryd.strconv_Atoi_range_var ⟨s.toArray⟩ (by simp [ByteArray.size]; omega) h tq q w h4).mono ?_
    rintro e w' ⟨N, rfl, _, _, hb⟩
    exact ⟨_, _, rfl, .inr ⟨⟨_, _, rfl⟩, by simp⟩, hb⟩
  · refine (Tryd.strconv_Atoi_syntax_var ⟨s.toArray⟩ (by simp [ByteArray.size]; omega) h tp p w h3).mono ?_
    rintro e w' ⟨N, rfl, _, _, hb⟩
    exact ⟨0, _, rfl, .inr ⟨⟨_, _, rfl⟩, by simp⟩, hb⟩
theorem cut_len (l : List UInt8) : (Lib.cut l [47]).1.length ≤ l.length ∧ (Lib.cut l [47]).2.1.length ≤ l.length := by
  unfold Lib.cut
  split
  · simp; omega
  · simp
theorem trim_len (l p : List UInt8) : (Lib.trimSuffix l p).length ≤ l.length := by
  unfold Lib.trimSuffix
  split
  · simp
  · exact Nat.le_refl _
def RetN (x : Nt × Bool) (w : World) (e : Ending) (w' : World) : Prop := e = .returned (.tuple #[x.1.v, .bool x.2]) ∧ Below w.heap.size w w'
theorem c_iReadNote (l : List UInt8) (w : World) (hl : l.length ≤ 2000000) (hw : Wd w) :
    Calls Tryd.prog 16 #[.string ⟨l.toArray⟩] w (RetN (rdN l) w) := by
  have HF := Lib.hid (fun (n : Nt) (hv : noteValid n = true) (h : noteT n = l) => found_impl hv h)
  have HW := Lib.hid (fun w' (h : Below w.heap.size w w') => hw.bel h)
  have hcl := cut_len l
  have hl00 : (Lib.cut l [47]).2.2 = true → l ≠ [] := fun h e => by subst e; revert h; decide
  have HC := Lib.hid (fun W h => c_cut l W hl h)
  generalize Lib.cut l [47] = cc at *
  obtain ⟨t, u, f⟩ := cc
  dsimp only at hcl hl00
  have HL0 := Lib.hid hl00
  clear hl00
  have htl := trim_len u [126]
  have HS := Lib.hid (fun W => c_cutsuf u W (by omega))
  have HA := Lib.hid (fun W h => c_atoi (Lib.trimSuffix u [126]) W (by omega) h)
  generalize hts : Lib.trimSuffix u [126] = s at *
  generalize hz : Lib.hasSuffix u [126] = z at *
  have HTS := Lib.hid hts
  have HZ := Lib.hid hz
  have HP := Lib.hid (fun W => c_iReadPitch t W (by omega))
  clear hw hts hz
  go_enter Tryd.func16, Tryd.ntmps16
  go_wp2_with fail
  (go_at_call 44; (with_reducible refine (HC.out _ (HW.out _ (by (repeat' (first | (with_reducible exact Below.refl _ _) | (with_reducible refine Below.setCell ?_ ?_ _) | (with_reducible refine Below.alloc ?_ ?_ _) | (with_reducible refine Below.drew ?_) | (with_reducible refine below_drewN ?_ _) | (with_reducible refine Below.trans ?_ (Below.mono (by with_reducible assumption) ?_)) | omega | (simp only [size_alloc', size_setCell', size_drew', size_drewN'] at *; omega)))))).mono ?_); rintro e w2 ⟨rfl, hbq⟩; have hzq := hbq.size; (try simp only [size_alloc', size_setCell', size_drew', size_drewN'] at hzq); (try (refine keep_heap (b := w.heap.size) hbq ?_ ?_; (first | omega | (simp only [size_alloc', size_setCell', size_drew', size_drewN']; omega)); intro hkq; simp only [heap_alloc_get, heap_setCell_get, heap_drew_get, heap_drewN_get, size_alloc', size_setCell', size_drew', size_drewN', nat_simp1, nat_simp2, nat_simp3, nat_simp4, nat_simp5, if_true, if_false, *] at hkq; obtain ⟨_, _⟩ := blk_facts hkq)); skip)
  go_wp2_with fail
  (go_at_call 45; (with_reducible refine (HS.out _).mono ?_); rintro e w3 ⟨rfl, rfl⟩)
  have S2 : Below w.heap.size w w2 := by (repeat' (first | (with_reducible exact Below.refl _ _) | (with_reducible refine Below.setCell ?_ ?_ _) | (with_reducible refine Below.alloc ?_ ?_ _) | (with_reducible refine Below.drew ?_) | (with_reducible refine below_drewN ?_ _) | (with_reducible refine Below.trans ?_ (Below.mono (by with_reducible assumption) ?_)) | omega | (simp only [size_alloc', size_setCell', size_drew', size_drewN'] at *; omega)))
  have hR2 := below_heap hbq (heap_alloc_new w (.cells #[.bool false, .int .i64 0, .int .i64 0, .int .i64 0, .int .i64 0, .bool false] 29))
  clear hbq
  go_wp2_with fail
  (go_at_call 46; (with_reducible refine (HA.out _ (HW.out _ S2)).mono ?_); rintro e w4 ⟨v, er, rfl, hcase, hb4⟩)
  have S4 := S2.trans (hb4.mono S2.size)
  have hR4 := below_heap hb4 hR2
  have hz4 : w.heap.size < w4.heap.size := (Array.getElem?_eq_some_iff.1 hR4).1
  obtain ⟨_, _⟩ := blk_facts hR4
  have hnz : ¬ w.heap.size = w4.heap.size := by omega
  have hnz2 : ¬ w4.heap.size = w.heap.size := by omega
  cases hb : (t == [114])
  · have HCD : Hid (candN t v z = ⟨false, (rdP t).1, v, z⟩) := Lib.hid (by unfold candN; rw [hb]; rfl)
    generalize rdP t = rp at *
    obtain ⟨⟨ps, pa, po⟩, pok⟩ := rp
    dsimp only at HCD
    go_wp2_with fail
    (go_at_call 47; (with_reducible refine (HP.out _).mono ?_); rintro e w5 ⟨rfl, hbq⟩; have hzq := hbq.size; (try simp only [size_alloc', size_setCell', size_drew', size_drewN'] at hzq); (try (refine keep_heap (b := w.heap.size) hbq ?_ ?_; (first | omega | (simp only [size_alloc', size_setCell', size_drew', size_drewN']; omega)); intro hkq; simp only [heap_alloc_get, heap_setCell_get, heap_drew_get, heap_drewN_get, size_alloc', size_setCell', size_drew', size_drewN', nat_simp1, nat_simp2, nat_simp3, nat_simp4, nat_simp5, if_true, if_false, *] at hkq; obtain ⟨_, _⟩ := blk_facts hkq)); (try (refine keep_heap (b := w4.heap.size) hbq ?_ ?_; (first | omega | (simp only [size_alloc', size_setCell', size_drew', size_drewN']; omega)); intro hkq; simp only [heap_alloc_get, heap_setCell_get, heap_drew_get, heap_drewN_get, size_alloc', size_setCell', size_drew', size_drewN', nat_simp1, nat_simp2, nat_simp3, nat_simp4, nat_simp5, if_true, if_false, *] at hkq; obtain ⟨_, _⟩ := blk_facts hkq)); skip)
    rcases hcase with ⟨rfl, hat⟩ | ⟨⟨ty, ad, rfl⟩, hat⟩
    · have HNo' := Lib.hid (fun (hE : ¬ noteT (candN t v z) = l) => rdN_no (l := l) (fun n hv h => hE (by
        obtain ⟨e1, e2⟩ := HF.out n hv h
        simp only [Prod.mk.injEq] at e1
        obtain ⟨et, eu, -⟩ := e1
        have ez := (tail_trim (n := n)).2
        rw [← eu, HZ.out] at ez
        rw [← eu, HTS.out, hat] at e2
        have ek : v = n.ticks := by injection e2
        rw [et, ez, ek, candN_tone hv]
        exact h)))
      rw [HCD.out] at HNo'
      cases f
      · have HNo := Lib.hid (rdN_no (l := l) (fun n hv h => by
          have := (HF.out n hv h).1
          simp at this))
        go_wp2_with fail
        have h5 : (((((((((w5.setCell ⟨w4.heap.size, 1, none⟩ (.int .i64 ps)).setCell ⟨w4.heap.size, 2, none⟩ (.int .i64 pa)).setCell ⟨w4.heap.size, 3, none⟩ (.int .i64 po)).setCell ⟨w.heap.size, 0, none⟩ (.bool false)).setCell ⟨w.heap.size, 1, none⟩ (.int .i64 0)).setCell ⟨w.heap.size, 2, none⟩ (.int .i64 0)).setCell ⟨w.heap.size, 3, none⟩ (.int .i64 0)).setCell ⟨w.heap.size, 4, none⟩ (.int .i64 0)).setCell ⟨w.heap.size, 5, none⟩ (.bool false)).heap[w.heap.size]? = some (.cells #[.bool false, .int .i64 0, .int .i64 0, .int .i64 0, .int .i64 0, .bool false] 29 (0, 0)) := by (simp only [heap_alloc_get, heap_setCell_get, heap_drew_get, heap_drewN_get, size_alloc', size_setCell', size_drew', size_drewN', nat_simp1, nat_simp2, nat_simp3, nat_simp4, nat_simp5, if_true, if_false, Option.map_some, *]; first | done | rfl | simp)
        obtain ⟨h6, _⟩ := blk_facts h5
        exact bodyPost_ret (v := .tuple #[.agg #[.bool false, .int .i64 0, .int .i64 0, .int .i64 0, .int .i64 0, .bool false], .bool false]) (by simp [results, Tryd.results16, go_sem, *]) rfl ⟨by rw [HNo.out], by (repeat' (first | (with_reducible exact Below.refl _ _) | (with_reducible refine Below.setCell ?_ ?_ _) | (with_reducible refine Below.alloc ?_ ?_ _) | (with_reducible refine Below.drew ?_) | (with_reducible refine below_drewN ?_ _) | (with_reducible refine Below.trans ?_ (Below.mono (by with_reducible assumption) ?_)) | omega | (simp only [size_alloc', size_setCell', size_drew', size_drewN'] at *; omega)))⟩
      · by_cases hE : noteT ⟨false, ⟨ps, pa, po⟩, v, z⟩ = l
        · have hN := fun W h => c_iNoteText ⟨false, ⟨ps, pa, po⟩, v, z⟩ W h
          rw [hE] at hN
          have HN := Lib.hid hN
          clear hN
          have hl0 : l ≠ [] := fun h => by
            have := HL0.out rfl
            exact this h
          have HE := Lib.hid (rdN_yes hE hl0)
          go_wp2_with fail
          (go_at_call 12; (with_reducible refine (HN.out _ (HW.out _ (by (repeat' (first | (with_reducible exact Below.refl _ _) | (with_reducible refine Below.setCell ?_ ?_ _) | (with_reducible refine Below.alloc ?_ ?_ _) | (with_reducible refine Below.drew ?_) | (with_reducible refine below_drewN ?_ _) | (with_reducible refine Below.trans ?_ (Below.mono (by with_reducible assumption) ?_)) | omega | (simp only [size_alloc', size_setCell', size_drew', size_drewN'] at *; omega))))).tab).mono ?_); rintro e w6 ⟨rfl, hbq⟩; have hzq := hbq.size; (try simp only [size_alloc', size_setCell', size_drew', size_drewN'] at hzq); (try (refine keep_heap (b := w.heap.size) hbq ?_ ?_; (first | omega | (simp only [size_alloc', size_setCell', size_drew', size_drewN']; omega)); intro hkq; simp only [heap_alloc_get, heap_setCell_get, heap_drew_get, heap_drewN_get, size_alloc', size_setCell', size_drew', size_drewN', nat_simp1, nat_simp2, nat_simp3, nat_simp4, nat_simp5, if_true, if_false, *] at hkq; obtain ⟨_, _⟩ := blk_facts hkq)); (try (refine keep_heap (b := w4.heap.size) hbq ?_ ?_; (first | omega | (simp only [size_alloc', size_setCell', size_drew', size_drewN']; omega)); intro hkq; simp only [heap_alloc_get, heap_setCell_get, heap_drew_get, heap_drewN_get, size_alloc', size_setCell', size_drew', size_drewN', nat_simp1, nat_simp2, nat_simp3, nat_simp4, nat_simp5, if_true, if_false, *] at hkq; obtain ⟨_, _⟩ := blk_facts hkq)); skip)
          go_wp2_with fail
          have h5 : ((((((w6.setCell ⟨w.heap.size, 0, none⟩ (.bool false)).setCell ⟨w.heap.size, 1, none⟩ (.int .i64 ps)).setCell ⟨w.heap.size, 2, none⟩ (.int .i64 pa)).setCell ⟨w.heap.size, 3, none⟩ (.int .i64 po)).setCell ⟨w.heap.size, 4, none⟩ (.int .i64 v)).setCell ⟨w.heap.size, 5, none⟩ (.bool z)).heap[w.heap.size]? = some (.cells #[.bool false, .int .i64 ps, .int .i64 pa, .int .i64 po, .int .i64 v, .bool z] 29 (0, 0)) := by (simp only [heap_alloc_get, heap_setCell_get, heap_drew_get, heap_drewN_get, size_alloc', size_setCell', size_drew', size_drewN', nat_simp1, nat_simp2, nat_simp3, nat_simp4, nat_simp5, if_true, if_false, Option.map_some, *]; first | done | rfl | simp)
          obtain ⟨h6, _⟩ := blk_facts h5
          exact bodyPost_ret (v := .tuple #[.agg #[.bool false, .int .i64 ps, .int .i64 pa, .int .i64 po, .int .i64 v, .bool z], .bool true]) (by simp [results, Tryd.results16, go_sem, *]) rfl ⟨by rw [HE.out], by (repeat' (first | (with_reducible exact Below.refl _ _) | (with_reducible refine Below.setCell ?_ ?_ _) | (with_reducible refine Below.alloc ?_ ?_ _) | (with_reducible refine Below.drew ?_) | (with_reducible refine below_drewN ?_ _) | (with_reducible refine Below.trans ?_ (Below.mono (by with_reducible assumption) ?_)) | omega | (simp only [size_alloc', size_setCell', size_drew', size_drewN'] at *; omega)))⟩
        · have HNo := Lib.hid (HNo'.out hE)
          have HN := Lib.hid (fun W h => c_iNoteText ⟨false, ⟨ps, pa, po⟩, v, z⟩ W h)
          generalize noteT ⟨false, ⟨ps, pa, po⟩, v, z⟩ = q at *
          have hne : (q == l) = false := beq_eq_false_iff_ne.2 hE
          go_wp2_with fail
          (go_at_call 12; (with_reducible refine (HN.out _ (HW.out _ (by (repeat' (first | (with_reducible exact Below.refl _ _) | (with_reducible refine Below.setCell ?_ ?_ _) | (with_reducible refine Below.alloc ?_ ?_ _) | (with_reducible refine Below.drew ?_) | (with_reducible refine below_drewN ?_ _) | (with_reducible refine Below.trans ?_ (Below.mono (by with_reducible assumption) ?_)) | omega | (simp only [size_alloc', size_setCell', size_drew', size_drewN'] at *; omega))))).tab).mono ?_); rintro e w6 ⟨rfl, hbq⟩; have hzq := hbq.size; (try simp only [size_alloc', size_setCell', size_drew', size_drewN'] at hzq); (try (refine keep_heap (b := w.heap.size) hbq ?_ ?_; (first | omega | (simp only [size_alloc', size_setCell', size_drew', size_drewN']; omega)); intro hkq; simp only [heap_alloc_get, heap_setCell_get, heap_drew_get, heap_drewN_get, size_alloc', size_setCell', size_drew', size_drewN', nat_simp1, nat_simp2, nat_simp3, nat_simp4, nat_simp5, if_true, if_false, *] at hkq; obtain ⟨_, _⟩ := blk_facts hkq)); (try (refine keep_heap (b := w4.heap.size) hbq ?_ ?_; (first | omega | (simp only [size_alloc', size_setCell', size_drew', size_drewN']; omega)); intro hkq; simp only [heap_alloc_get, heap_setCell_get, heap_drew_get, heap_drewN_get, size_alloc', size_setCell', size_drew', size_drewN', nat_simp1, nat_simp2, nat_simp3, nat_simp4, nat_simp5, if_true, if_false, *] at hkq; obtain ⟨_, _⟩ := blk_facts hkq)); skip)
          go_wp2_with fail
          have h5 : ((((((w6.setCell ⟨w.heap.size, 0, none⟩ (.bool false)).setCell ⟨w.heap.size, 1, none⟩ (.int .i64 0)).setCell ⟨w.heap.size, 2, none⟩ (.int .i64 0)).setCell ⟨w.heap.size, 3, none⟩ (.int .i64 0)).setCell ⟨w.heap.size, 4, none⟩ (.int .i64 0)).setCell ⟨w.heap.size, 5, none⟩ (.bool false)).heap[w.heap.size]? = some (.cells #[.bool false, .int .i64 0, .int .i64 0, .int .i64 0, .int .i64 0, .bool false] 29 (0, 0)) := by (simp only [heap_alloc_get, heap_setCell_get, heap_drew_get, heap_drewN_get, size_alloc', size_setCell', size_drew', size_drewN', nat_simp1, nat_simp2, nat_simp3, nat_simp4, nat_simp5, if_true, if_false, Option.map_some, *]; first | done | rfl | simp)
          obtain ⟨h6, _⟩ := blk_facts h5
          exact bodyPost_ret (v := .tuple #[.agg #[.bool false, .int .i64 0, .int .i64 0, .int .i64 0, .int .i64 0, .bool false], .bool false]) (by simp [results, Tryd.results16, go_sem, *]) rfl ⟨by rw [HNo.out], by (repeat' (first | (with_reducible exact Below.refl _ _) | (with_reducible refine Below.setCell ?_ ?_ _) | (with_reducible refine Below.alloc ?_ ?_ _) | (with_reducible refine Below.drew ?_) | (with_reducible refine below_drewN ?_ _) | (with_reducible refine Below.trans ?_ (Below.mono (by with_reducible assumption) ?_)) | omega | (simp only [size_alloc', size_setCell', size_drew', size_drewN'] at *; omega)))⟩
    · have HNo := Lib.hid (rdN_no (l := l) (fun n hv h => by
        obtain ⟨e1, e2⟩ := HF.out n hv h
        simp only [Prod.mk.injEq] at e1
        obtain ⟨et, eu, -⟩ := e1
        rw [← eu, HTS.out] at e2
        exact hat _ e2))
      cases f
      · go_wp2_with fail
        have h5 : (((((((((w5.setCell ⟨w4.heap.size, 1, none⟩ (.int .i64 ps)).setCell ⟨w4.heap.size, 2, none⟩ (.int .i64 pa)).setCell ⟨w4.heap.size, 3, none⟩ (.int .i64 po)).setCell ⟨w.heap.size, 0, none⟩ (.bool false)).setCell ⟨w.heap.size, 1, none⟩ (.int .i64 0)).setCell ⟨w.heap.size, 2, none⟩ (.int .i64 0)).setCell ⟨w.heap.size, 3, none⟩ (.int .i64 0)).setCell ⟨w.heap.size, 4, none⟩ (.int .i64 0)).setCell ⟨w.heap.size, 5, none⟩ (.bool false)).heap[w.heap.size]? = some (.cells #[.bool false, .int .i64 0, .int .i64 0, .int .i64 0, .int .i64 0, .bool false] 29 (0, 0)) := by (simp only [heap_alloc_get, heap_setCell_get, heap_drew_get, heap_drewN_get, size_alloc', size_setCell', size_drew', size_drewN', nat_simp1, nat_simp2, nat_simp3, nat_simp4, nat_simp5, if_true, if_false, Option.map_some, *]; first | done | rfl | simp)
        obtain ⟨h6, _⟩ := blk_facts h5
        exact bodyPost_ret (v := .tuple #[.agg #[.bool false, .int .i64 0, .int .i64 0, .int .i64 0, .int .i64 0, .bool false], .bool false]) (by simp [results, Tryd.results16, go_sem, *]) rfl ⟨by rw [HNo.out], by (repeat' (first | (with_reducible exact Below.refl _ _) | (with_reducible refine Below.setCell ?_ ?_ _) | (with_reducible refine Below.alloc ?_ ?_ _) | (with_reducible refine Below.drew ?_) | (with_reducible refine below_drewN ?_ _) | (with_reducible refine Below.trans ?_ (Below.mono (by with_reducible assumption) ?_)) | omega | (simp only [size_alloc', size_setCell', size_drew', size_drewN'] at *; omega)))⟩
      · go_wp2_with fail
        have h5 : (((((((((w5.setCell ⟨w4.heap.size, 1, none⟩ (.int .i64 ps)).setCell ⟨w4.heap.size, 2, none⟩ (.int .i64 pa)).setCell ⟨w4.heap.size, 3, none⟩ (.int .i64 po)).setCell ⟨w.heap.size, 0, none⟩ (.bool false)).setCell ⟨w.heap.size, 1, none⟩ (.int .i64 0)).setCell ⟨w.heap.size, 2, none⟩ (.int .i64 0)).setCell ⟨w.heap.size, 3, none⟩ (.int .i64 0)).setCell ⟨w.heap.size, 4, none⟩ (.int .i64 0)).setCell ⟨w.heap.size, 5, none⟩ (.bool false)).heap[w.heap.size]? = some (.cells #[.bool false, .int .i64 0, .int .i64 0, .int .i64 0, .int .i64 0, .bool false] 29 (0, 0)) := by (simp only [heap_alloc_get, heap_setCell_get, heap_drew_get, heap_drewN_get, size_alloc', size_setCell', size_drew', size_drewN', nat_simp1, nat_simp2, nat_simp3, nat_simp4, nat_simp5, if_true, if_false, Option.map_some, *]; first | done | rfl | simp)
        obtain ⟨h6, _⟩ := blk_facts h5
        exact bodyPost_ret (v := .tuple #[.agg #[.bool false, .int .i64 0, .int .i64 0, .int .i64 0, .int .i64 0, .bool false], .bool false]) (by simp [results, Tryd.results16, go_sem, *]) rfl ⟨by rw [HNo.out], by (repeat' (first | (with_reducible exact Below.refl _ _) | (with_reducible refine Below.setCell ?_ ?_ _) | (with_reducible refine Below.alloc ?_ ?_ _) | (with_reducible refine Below.drew ?_) | (with_reducible refine below_drewN ?_ _) | (with_reducible refine Below.trans ?_ (Below.mono (by with_reducible assumption) ?_)) | omega | (simp only [size_alloc', size_setCell', size_drew', size_drewN'] at *; omega)))⟩
  · have HCD : Hid (candN t v z = ⟨true, ⟨0, 0, 0⟩, v, z⟩) := Lib.hid (by unfold candN; rw [hb]; rfl)
    rcases hcase with ⟨rfl, hat⟩ | ⟨⟨ty, ad, rfl⟩, hat⟩
    · have HNo' := Lib.hid (fun (hE : ¬ noteT (candN t v z) = l) => rdN_no (l := l) (fun n hv h => hE (by
        obtain ⟨e1, e2⟩ := HF.out n hv h
        simp only [Prod.mk.injEq] at e1
        obtain ⟨et, eu, -⟩ := e1
        have ez := (tail_trim (n := n)).2
        rw [← eu, HZ.out] at ez
        rw [← eu, HTS.out, hat] at e2
        have ek : v = n.ticks := by injection e2
        rw [et, ez, ek, candN_tone hv]
        exact h)))
      rw [HCD.out] at HNo'
      cases f
      · have HNo := Lib.hid (rdN_no (l := l) (fun n hv h => by
          have := (HF.out n hv h).1
          simp at this))
        go_wp2_with fail
        have h5 : (((((((w4.alloc (.cells #[.bool true, .int .i64 0, .int .i64 0, .int .i64 0, .int .i64 v, .bool z] 29)).setCell ⟨w.heap.size, 0, none⟩ (.bool false)).setCell ⟨w.heap.size, 1, none⟩ (.int .i64 0)).setCell ⟨w.heap.size, 2, none⟩ (.int .i64 0)).setCell ⟨w.heap.size, 3, none⟩ (.int .i64 0)).setCell ⟨w.heap.size, 4, none⟩ (.int .i64 0)).setCell ⟨w.heap.size, 5, none⟩ (.bool false)).heap[w.heap.size]? = some (.cells #[.bool false, .int .i64 0, .int .i64 0, .int .i64 0, .int .i64 0, .bool false] 29 (0, 0)) := by (simp only [heap_alloc_get, heap_setCell_get, heap_drew_get, heap_drewN_get, size_alloc', size_setCell', size_drew', size_drewN', nat_simp1, nat_simp2, nat_simp3, nat_simp4, nat_simp5, if_true, if_false, Option.map_some, *]; first | done | rfl | simp)
        obtain ⟨h6, _⟩ := blk_facts h5
        exact bodyPost_ret (v := .tuple #[.agg #[.bool false, .int .i64 0, .int .i64 0, .int .i64 0, .int .i64 0, .bool false], .bool false]) (by simp [results, Tryd.results16, go_sem, *]) rfl ⟨by rw [HNo.out], by (repeat' (first | (with_reducible exact Below.refl _ _) | (with_reducible refine Below.setCell ?_ ?_ _) | (with_reducible refine Below.alloc ?_ ?_ _) | (with_reducible refine Below.drew ?_) | (with_reducible refine below_drewN ?_ _) | (with_reducible refine Below.trans ?_ (Below.mono (by with_reducible assumption) ?_)) | omega | (simp only [size_alloc', size_setCell', size_drew', size_drewN'] at *; omega)))⟩
      · by_cases hE : noteT ⟨true, ⟨0, 0, 0⟩, v, z⟩ = l
        · have hN := fun W h => c_iNoteText ⟨true, ⟨0, 0, 0⟩, v, z⟩ W h
          rw [hE] at hN
          have HN := Lib.hid hN
          clear hN
          have hl0 : l ≠ [] := fun h => by
            have := HL0.out rfl
            exact this h
          have HE := Lib.hid (rdN_yes hE hl0)
          go_wp2_with fail
          (go_at_call 12; (with_reducible refine (HN.out _ (HW.out _ (by (repeat' (first | (with_reducible exact Below.refl _ _) | (with_reducible refine Below.setCell ?_ ?_ _) | (with_reducible refine Below.alloc ?_ ?_ _) | (with_reducible refine Below.drew ?_) | (with_reducible refine below_drewN ?_ _) | (with_reducible refine Below.trans ?_ (Below.mono (by with_reducible assumption) ?_)) | omega | (simp only [size_alloc', size_setCell', size_drew', size_drewN'] at *; omega))))).tab).mono ?_); rintro e w6 ⟨rfl, hbq⟩; have hzq := hbq.size; (try simp only [size_alloc', size_setCell', size_drew', size_drewN'] at hzq); (try (refine keep_heap (b := w.heap.size) hbq ?_ ?_; (first | omega | (simp only [size_alloc', size_setCell', size_drew', size_drewN']; omega)); intro hkq; simp only [heap_alloc_get, heap_setCell_get, heap_drew_get, heap_drewN_get, size_alloc', size_setCell', size_drew', size_drewN', nat_simp1, nat_simp2, nat_simp3, nat_simp4, nat_simp5, if_true, if_false, *] at hkq; obtain ⟨_, _⟩ := blk_facts hkq)); (try (refine keep_heap (b := w4.heap.size) hbq ?_ ?_; (first | omega | (simp only [size_alloc', size_setCell', size_drew', size_drewN']; omega)); intro hkq; simp only [heap_alloc_get, heap_setCell_get, heap_drew_get, heap_drewN_get, size_alloc', size_setCell', size_drew', size_drewN', nat_simp1, nat_simp2, nat_simp3, nat_simp4, nat_simp5, if_true, if_false, *] at hkq; obtain ⟨_, _⟩ := blk_facts hkq)); skip)
          go_wp2_with fail
          have h5 : ((((((w6.setCell ⟨w.heap.size, 0, none⟩ (.bool true)).setCell ⟨w.heap.size, 1, none⟩ (.int .i64 0)).setCell ⟨w.heap.size, 2, none⟩ (.int .i64 0)).setCell ⟨w.heap.size, 3, none⟩ (.int .i64 0)).setCell ⟨w.heap.size, 4, none⟩ (.int .i64 v)).setCell ⟨w.heap.size, 5, none⟩ (.bool z)).heap[w.heap.size]? = some (.cells #[.bool true, .int .i64 0, .int .i64 0, .int .i64 0, .int .i64 v, .bool z] 29 (0, 0)) := by (simp only [heap_alloc_get, heap_setCell_get, heap_drew_get, heap_drewN_get, size_alloc', size_setCell', size_drew', size_drewN', nat_simp1, nat_simp2, nat_simp3, nat_simp4, nat_simp5, if_true, if_false, Option.map_some, *]; first | done | rfl | simp)
          obtain ⟨h6, _⟩ := blk_facts h5
          exact bodyPost_ret (v := .tuple #[.agg #[.bool true, .int .i64 0, .int .i64 0, .int .i64 0, .int .i64 v, .bool z], .bool true]) (by simp [results, Tryd.results16, go_sem, *]) rfl ⟨by rw [HE.out], by (repeat' (first | (with_reducible exact Below.refl _ _) | (with_reducible refine Below.setCell ?_ ?_ _) | (with_reducible refine Below.alloc ?_ ?_ _) | (with_reducible refine Below.drew ?_) | (with_reducible refine below_drewN ?_ _) | (with_reducible refine Below.trans ?_ (Below.mono (by with_reducible assumption) ?_)) | omega | (simp only [size_alloc', size_setCell', size_drew', size_drewN'] at *; omega)))⟩
        · have HNo := Lib.hid (HNo'.out hE)
          have HN := Lib.hid (fun W h => c_iNoteText ⟨true, ⟨0, 0, 0⟩, v, z⟩ W h)
          generalize noteT ⟨true, ⟨0, 0, 0⟩, v, z⟩ = q at *
          have hne : (q == l) = false := beq_eq_false_iff_ne.2 hE
          go_wp2_with fail
          (go_at_call 12; (with_reducible refine (HN.out _ (HW.out _ (by (repeat' (first | (with_reducible exact Below.refl _ _) | (with_reducible refine Below.setCell ?_ ?_ _) | (with_reducible refine Below.alloc ?_ ?_ _) | (with_reducible refine Below.drew ?_) | (with_reducible refine below_drewN ?_ _) | (with_reducible refine Below.trans ?_ (Below.mono (by with_reducible assumption) ?_)) | omega | (simp only [size_alloc', size_setCell', size_drew', size_drewN'] at *; omega))))).tab).mono ?_); rintro e w6 ⟨rfl, hbq⟩; have hzq := hbq.size; (try simp only [size_alloc', size_setCell', size_drew', size_drewN'] at hzq); (try (refine keep_heap (b := w.heap.size) hbq ?_ ?_; (first | omega | (simp only [size_alloc', size_setCell', size_drew', size_drewN']; omega)); intro hkq; simp only [heap_alloc_get, heap_setCell_get, heap_drew_get, heap_drewN_get, size_alloc', size_setCell', size_drew', size_drewN', nat_simp1, nat_simp2, nat_simp3, nat_simp4, nat_simp5, if_true, if_false, *] at hkq; obtain ⟨_, _⟩ := blk_facts hkq)); (try (refine keep_heap (b := w4.heap.size) hbq ?_ ?_; (first | omega | (simp only [size_alloc', size_setCell', size_drew', size_drewN']; omega)); intro hkq; simp only [heap_alloc_get, heap_setCell_get, heap_drew_get, heap_drewN_get, size_alloc', size_setCell', size_drew', size_drewN', nat_simp1, nat_simp2, nat_simp3, nat_simp4, nat_simp5, if_true, if_false, *] at hkq; obtain ⟨_, _⟩ := blk_facts hkq)); skip)
          go_wp2_with fail
          have h5 : ((((((w6.setCell ⟨w.heap.size, 0, none⟩ (.bool false)).setCell ⟨w.heap.size, 1, none⟩ (.int .i64 0)).setCell ⟨w.heap.size, 2, none⟩ (.int .i64 0)).setCell ⟨w.heap.size, 3, none⟩ (.int .i64 0)).setCell ⟨w.heap.size, 4, none⟩ (.int .i64 0)).setCell ⟨w.heap.size, 5, none⟩ (.bool false)).heap[w.heap.size]? = some (.cells #[.bool false, .int .i64 0, .int .i64 0, .int .i64 0, .int .i64 0, .bool false] 29 (0, 0)) := by (simp only [heap_alloc_get, heap_setCell_get, heap_drew_get, heap_drewN_get, size_alloc', size_setCell', size_drew', size_drewN', nat_simp1, nat_simp2, nat_simp3, nat_simp4, nat_simp5, if_true, if_false, Option.map_some, *]; first | done | rfl | simp)
          obtain ⟨h6, _⟩ := blk_facts h5
          exact bodyPost_ret (v := .tuple #[.agg #[.bool false, .int .i64 0, .int .i64 0, .int .i64 0, .int .i64 0, .bool false], .bool false]) (by simp [results, Tryd.results16, go_sem, *]) rfl ⟨by rw [HNo.out], by (repeat' (first | (with_reducible exact Below.refl _ _) | (with_reducible refine Below.setCell ?_ ?_ _) | (with_reducible refine Below.alloc ?_ ?_ _) | (with_reducible refine Below.drew ?_) | (with_reducible refine below_drewN ?_ _) | (with_reducible refine Below.trans ?_ (Below.mono (by with_reducible assumption) ?_)) | omega | (simp only [size_alloc', size_setCell', size_drew', size_drewN'] at *; omega)))⟩
    · have HNo := Lib.hid (rdN_no (l := l) (fun n hv h => by
        obtain ⟨e1, e2⟩ := HF.out n hv h
        simp only [Prod.mk.injEq] at e1
        obtain ⟨et, eu, -⟩ := e1
        rw [← eu, HTS.out] at e2
        exact hat _ e2))
      cases f
      · go_wp2_with fail
        have h5 : (((((((w4.alloc (.cells #[.bool true, .int .i64 0, .int .i64 0, .int .i64 0, .int .i64 v, .bool z] 29)).setCell ⟨w.heap.size, 0, none⟩ (.bool false)).setCell ⟨w.heap.size, 1, none⟩ (.int .i64 0)).setCell ⟨w.heap.size, 2, none⟩ (.int .i64 0)).setCell ⟨w.heap.size, 3, none⟩ (.int .i64 0)).setCell ⟨w.heap.size, 4, none⟩ (.int .i64 0)).setCell ⟨w.heap.size, 5, none⟩ (.bool false)).heap[w.heap.size]? = some (.cells #[.bool false, .int .i64 0, .int .i64 0, .int .i64 0, .int .i64 0, .bool false] 29 (0, 0)) := by (simp only [heap_alloc_get, heap_setCell_get, heap_drew_get, heap_drewN_get, size_alloc', size_setCell', size_drew', size_drewN', nat_simp1, nat_simp2, nat_simp3, nat_simp4, nat_simp5, if_true, if_false, Option.map_some, *]; first | done | rfl | simp)
        obtain ⟨h6, _⟩ := blk_facts h5
        exact bodyPost_ret (v := .tuple #[.agg #[.bool false, .int .i64 0, .int .i64 0, .int .i64 0, .int .i64 0, .bool false], .bool false]) (by simp [results, Tryd.results16, go_sem, *]) rfl ⟨by rw [HNo.out], by (repeat' (first | (with_reducible exact Below.refl _ _) | (with_reducible refine Below.setCell ?_ ?_ _) | (with_reducible refine Below.alloc ?_ ?_ _) | (with_reducible refine Below.drew ?_) | (with_reducible refine below_drewN ?_ _) | (with_reducible refine Below.trans ?_ (Below.mono (by with_reducible assumption) ?_)) | omega | (simp only [size_alloc', size_setCell', size_drew', size_drewN'] at *; omega)))⟩
      · go_wp2_with fail
        have h5 : (((((((w4.alloc (.cells #[.bool true, .int .i64 0, .int .i64 0, .int .i64 0, .int .i64 v, .bool z] 29)).setCell ⟨w.heap.size, 0, none⟩ (.bool false)).setCell ⟨w.heap.size, 1, none⟩ (.int .i64 0)).setCell ⟨w.heap.size, 2, none⟩ (.int .i64 0)).setCell ⟨w.heap.size, 3, none⟩ (.int .i64 0)).setCell ⟨w.heap.size, 4, none⟩ (.int .i64 0)).setCell ⟨w.heap.size, 5, none⟩ (.bool false)).heap[w.heap.size]? = some (.cells #[.bool false, .int .i64 0, .int .i64 0, .int .i64 0, .int .i64 0, .bool false] 29 (0, 0)) := by (simp only [heap_alloc_get, heap_setCell_get, heap_drew_get, heap_drewN_get, size_alloc', size_setCell', size_drew', size_drewN', nat_simp1, nat_simp2, nat_simp3, nat_simp4, nat_simp5, if_true, if_false, Option.map_some, *]; first | done | rfl | simp)
        obtain ⟨h6, _⟩ := blk_facts h5
        exact bodyPost_ret (v := .tuple #[.agg #[.bool false, .int .i64 0, .int .i64 0, .int .i64 0, .int .i64 0, .bool false], .bool false]) (by simp [results, Tryd.results16, go_sem, *]) rfl ⟨by rw [HNo.out], by (repeat' (first | (with_reducible exact Below.refl _ _) | (with_reducible refine Below.setCell ?_ ?_ _) | (with_reducible refine Below.alloc ?_ ?_ _) | (with_reducible refine Below.drew ?_) | (with_reducible refine below_drewN ?_ _) | (with_reducible refine Below.trans ?_ (Below.mono (by with_reducible assumption) ?_)) | omega | (simp only [size_alloc', size_setCell', size_drew', size_drewN'] at *; omega)))⟩
end Go.Proofs.YtaikcpidijekpaaDoor
