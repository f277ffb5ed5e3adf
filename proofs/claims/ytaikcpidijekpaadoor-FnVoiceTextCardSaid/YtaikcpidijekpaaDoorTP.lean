/- The pitch with a text: both sides. Conditions: none. -/
import Derived.Test.YtaikcpidijekpaaDoorTN
import Derived.Test.YtaikcpidijekpaaDoorQT
import Derived.Test.YtaikcpidijekpaaDoorRM
import Derived.Test.YtaikcpidijekpaaDoorRG
import Derived.Lib.Bytealg
namespace Go.Proofs.YtaikcpidijekpaaDoor
open Go.RowKit
set_option linter.unusedSimpArgs false
set_option linter.unusedVariables false
set_option maxHeartbeats 4000000
set_option maxRecDepth 100000
def iP (l : List UInt8) : Pit :=
  ⟨Lib.indexByte letters (l.getD 0 0), (Lib.countByte ((l.drop 1).take (l.length - 1 - 1)) 35 : Int) - (Lib.countByte ((l.drop 1).take (l.length - 1 - 1)) 98 : Int), ((l.getD (l.length - 1) 0).toNat : Int) - 48⟩
theorem iP_all : ∀ (s : Fin 7) (a : Fin 5) (o : Fin 9), (iP (pitT ⟨(s.val : Int), (a.val : Int) - 2, (o.val : Int)⟩)).step = s.val ∧ (iP (pitT ⟨(s.val : Int), (a.val : Int) - 2, (o.val : Int)⟩)).alter = (a.val : Int) - 2 ∧ (iP (pitT ⟨(s.val : Int), (a.val : Int) - 2, (o.val : Int)⟩)).octave = o.val := by decide +kernel
theorem iP_pit {p : Pit} (h : pitchValid p = true) : iP (pitT p) = p := by
  obtain ⟨s, a, o⟩ := p
  obtain ⟨h1, h2, h3, h4, h5, h6⟩ := pitchValid_iff.1 h
  dsimp only at h1 h2 h3 h4 h5 h6
  have := iP_all ⟨s.toNat, by omega⟩ ⟨(a + 2).toNat, by omega⟩ ⟨o.toNat, by omega⟩
  dsimp only at this
  rw [show ((s.toNat : Nat) : Int) = s by omega, show (((a + 2).toNat : Nat) : Int) - 2 = a by omega, show ((o.toNat : Nat) : Int) = o by omega] at this
  obtain ⟨e1, e2, e3⟩ := this
  generalize iP (pitT ⟨s, a, o⟩) = q at *
  obtain ⟨qs, qa, qo⟩ := q
  dsimp only at e1 e2 e3
  rw [e1, e2, e3]
theorem pitT_valid {p : Pit} {l : List UInt8} (h : pitT p = l) (hl : l ≠ []) : pitchValid p = true := by
  cases hv : pitchValid p
  · unfold pitT at h
    rw [hv] at h
    exact absurd h.symm hl
  · rfl
theorem pitT_ne {p : Pit} (h : pitchValid p = true) : pitT p ≠ [] := by
  unfold pitT
  rw [h]
  simp
theorem pitT_inj {p q : Pit} (hp : pitchValid p = true) (hq : pitchValid q = true) (h : pitT p = pitT q) : p = q := by
  rw [← iP_pit hp, h, iP_pit hq]
open Classical in
noncomputable def rdP (l : List UInt8) : Pit × Bool := if h : ∃ p, pitchValid p = true ∧ pitT p = l then (h.choose, true) else (⟨0, 0, 0⟩, false)
theorem rdP_yes {c : Pit} {l : List UInt8} (h : pitT c = l) (hl : l ≠ []) : rdP l = (c, true) := by
  have hv := pitT_valid h hl
  have he : ∃ p, pitchValid p = true ∧ pitT p = l := ⟨c, hv, h⟩
  unfold rdP
  rw [dif_pos he]
  have := he.choose_spec
  rw [pitT_inj this.1 hv (this.2.trans h.symm)]
theorem rdP_no {l : List UInt8} (h : ∀ p, pitchValid p = true → pitT p ≠ l) : rdP l = (⟨0, 0, 0⟩, false) := by
  unfold rdP
  rw [dif_neg]
  rintro ⟨p, h1, h2⟩
  exact h p h1 h2
theorem rdP_pit {p : Pit} (h : pitchValid p = true) : rdP (pitT p) = (p, true) := rdP_yes rfl (pitT_ne h)
theorem pitT_size {p : Pit} (h : pitchValid p = true) : 2 ≤ (pitT p).length ∧ (pitT p).length ≤ 4 := by
  unfold pitT
  rw [if_pos h]
  obtain ⟨h1, h2, h3, h4, h5, h6⟩ := pitchValid_iff.1 h
  simp
  omega
/-- The value of a reader of pitches: the pitch and whether there is one. -/
def RetP (x : Pit × Bool) (w : World) (e : Ending) (w' : World) : Prop := e = .returned (.tuple #[x.1.v, .bool x.2]) ∧ Below w.heap.size w w'
theorem c_ixb (a : UInt8) (w : World) : Calls Tryd.prog 65 #[.string ⟨#[67, 68, 69, 70, 71, 65, 66]⟩, .int .u8 a.toNat] w fun e w' => e = .returned (.int .i64 (Lib.indexByte letters a)) ∧ w = w' := by
  have := Tryd.strings_IndexByte ⟨#[67, 68, 69, 70, 71, 65, 66]⟩ a.toNat w
  rw [show ((a.toNat : Int)).toNat.toUInt8 = a by simp] at this
  exact this.mono fun e w' h => ⟨h.1, h.2.symm⟩
theorem c_cnt (s : ByteArray) (c : UInt8) (w : World) : Calls Tryd.prog 66 #[.string s, .string ⟨#[c]⟩] w fun e w' => e = .returned (.int .i64 (Lib.countByte s.data.toList c)) ∧ w = w' :=
  (Tryd.strings_Count_one s c w).mono fun e w' h => ⟨h.1, h.2.symm⟩
theorem ix_le (l : List UInt8) (c : UInt8) : Lib.indexByte l c ≤ l.length := by
  induction l with
  | nil => exact (by decide : (-1 : Int) ≤ 0)
  | cons b l ih =>
    unfold Lib.indexByte
    rw [List.length_cons]
    split
    · omega
    · split <;> omega
theorem ix_bd (a : UInt8) : -1 ≤ Lib.indexByte letters a ∧ Lib.indexByte letters a ≤ 7 := ⟨Lib.indexByte_ge _ _, ix_le letters a⟩
def JRP (B : Nat) (l : List UInt8) (sg : ByteArray) (a z : UInt8) (n : Int) (i0 : Int) (n1 n2 : Nat) (i : Nat) (v : Value) (W : World) : Prop :=
  match i with
  | 0 => v = .string ⟨l.toArray⟩
  | 1 => v = .int .u8 a.toNat
  | 2 => v = .int .i64 i0
  | 3 => v = .string sg
  | 4 => v = .int .i64 n1
  | 5 => v = .string sg
  | 6 => v = .int .i64 n2
  | 7 => v = .int .i64 ((n1 : Int) - n2)
  | 8 => v = .string ⟨l.toArray⟩
  | 9 => v = .string ⟨l.toArray⟩
  | 10 => v = .int .i64 (n + 1)
  | 11 => v = .int .i64 n
  | 12 => v = .int .u8 z.toNat
  | 13 => v = .int .i64 z.toNat
  | 14 => v = .int .i64 ((z.toNat : Int) - 48)
  | 15 => v = .agg #[.int .i64 i0, .int .i64 ((n1 : Int) - n2), .int .i64 ((z.toNat : Int) - 48)]
  | 16 => v = .pointer (some ⟨B, 0, none⟩) ∧ ∃ p : Pit, W.heap[B]? = some (.cells #[.int .i64 p.step, .int .i64 p.alter, .int .i64 p.octave] 27 (0, 0))
  | 17 => W.heap[B]? = some (.cells #[.int .i64 i0, .int .i64 ((n1 : Int) - n2), .int .i64 ((z.toNat : Int) - 48)] 27 (0, 0))
  | _ => True
theorem JRP.mv {B : Nat} {l : List UInt8} {sg : ByteArray} {a z : UInt8} {n : Int} {i0 : Int} {n1 n2 : Nat} {W W' : World} (hm : ∀ o, W.heap[B]? = some o → W'.heap[B]? = some o) (i : Nat) (v : Value) (h : JRP B l sg a z n i0 n1 n2 i v W) : JRP B l sg a z n i0 n1 n2 i v W' := by
  unfold JRP at h ⊢
  split at h
  case h_17 => exact ⟨h.1, h.2.choose, hm _ h.2.choose_spec⟩
  case h_18 => exact hm _ h
  all_goals exact h
theorem JRP.st {B : Nat} {l : List UInt8} {sg : ByteArray} {a z : UInt8} {n : Int} {i0 : Int} {n1 n2 : Nat} {W W' : World} (h3 : W'.heap[B]? = some (.cells #[.int .i64 i0, .int .i64 ((n1 : Int) - n2), .int .i64 ((z.toNat : Int) - 48)] 27 (0, 0))) (i : Nat) (v : Value) (h : JRP B l sg a z n i0 n1 n2 i v W) : JRP B l sg a z n i0 n1 n2 i v W' := by
  unfold JRP at h ⊢
  split at h
  case h_17 => exact ⟨h.1, ⟨i0, (n1 : Int) - n2, (z.toNat : Int) - 48⟩, h3⟩
  case h_18 => exact h3
  all_goals exact h
theorem c_iReadPitch (l : List UInt8) (w : World) (hl : l.length ≤ 2000000) :
    Calls Tryd.prog 47 #[.string ⟨l.toArray⟩] w (RetP (rdP l) w) := by
  by_cases h2 : l.length < 2 ∨ 4 < l.length
  · have HX := Lib.hid (rdP_no (l := l) (fun p hp h => by have := pitT_size hp; rw [h] at this; omega))
    by_cases h3 : l.length < 2
    · have h3' : (l.length : Int) < 2 := by omega
      clear h2
      go_enter Tryd.func47, Tryd.ntmps47
      go_wp2_with fail
      exact bodyPost_ret (v := .tuple #[.agg #[.int .i64 0, .int .i64 0, .int .i64 0], .bool false]) (by simp [results, Tryd.results47, go_sem, *]) rfl ⟨by rw [HX.out], by (repeat' (first | (with_reducible exact Below.refl _ _) | (with_reducible refine Below.setCell ?_ ?_ _) | (with_reducible refine Below.alloc ?_ ?_ _) | (with_reducible refine Below.drew ?_) | (with_reducible refine below_drewN ?_ _) | (with_reducible refine Below.trans ?_ (Below.mono (by with_reducible assumption) ?_)) | omega | (simp only [size_alloc', size_setCell', size_drew', size_drewN'] at *; omega)))⟩
    · have h3' : ¬ (l.length : Int) < 2 := by omega
      have h4' : (4 : Int) < l.length := by omega
      clear h2
      go_enter Tryd.func47, Tryd.ntmps47
      go_wp2_with fail
      exact bodyPost_ret (v := .tuple #[.agg #[.int .i64 0, .int .i64 0, .int .i64 0], .bool false]) (by simp [results, Tryd.results47, go_sem, *]) rfl ⟨by rw [HX.out], by (repeat' (first | (with_reducible exact Below.refl _ _) | (with_reducible refine Below.setCell ?_ ?_ _) | (with_reducible refine Below.alloc ?_ ?_ _) | (with_reducible refine Below.drew ?_) | (with_reducible refine below_drewN ?_ _) | (with_reducible refine Below.trans ?_ (Below.mono (by with_reducible assumption) ?_)) | omega | (simp only [size_alloc', size_setCell', size_drew', size_drewN'] at *; omega)))⟩
  · go_enter Tryd.func47, Tryd.ntmps47
    match l, h2 with
    | [a, b], _ =>
      have HP : Hid (iP [a,b] = ⟨Lib.indexByte letters a, (Lib.countByte (ByteArray.empty : ByteArray).data.toList 35 : Int) - (Lib.countByte (ByteArray.empty : ByteArray).data.toList 98 : Int), (b.toNat : Int) - 48⟩) := Lib.hid rfl
      obtain ⟨i0, e0⟩ : ∃ x, x = Lib.indexByte letters a := ⟨_, rfl⟩
      obtain ⟨n1, e1⟩ : ∃ x, x = Lib.countByte (ByteArray.empty : ByteArray).data.toList 35 := ⟨_, rfl⟩
      obtain ⟨n2, e2⟩ : ∃ x, x = Lib.countByte (ByteArray.empty : ByteArray).data.toList 98 := ⟨_, rfl⟩
      have HA := Lib.hid (fun W => c_ixb a W)
      have HB := Lib.hid (fun W => c_cnt ByteArray.empty 35 W)
      have HC := Lib.hid (fun W => c_cnt ByteArray.empty 98 W)
      have b0 : -1 ≤ i0 ∧ i0 ≤ 7 := by rw [e0]; exact ix_bd a
      have b1 : n1 ≤ 2 := by rw [e1]; exact Nat.le_trans (List.count_le_length ..) (by simp)
      have b2 : n2 ≤ 2 := by rw [e2]; exact Nat.le_trans (List.count_le_length ..) (by simp)
      have b3 : b.toNat < 256 := b.toNat_lt
      rw [← e0, ← e1, ← e2] at HP
      rw [← e0] at HA
      rw [← e1] at HB
      rw [← e2] at HC
      clear e0 e1 e2
      go_wp2_with fail
      skip
      have hg0 : (ByteArray.mk #[a,b])[0]'(show 0 < 1 + 1 by omega) = a := rfl
      have hg1 : (ByteArray.mk #[a,b])[1]'(show 1 < 1 + 1 by omega) = b := rfl
      refine wp_region_rg ?F1 (fun c W => Mv (fun _ => False) (w.alloc (.cells #[.int .i64 0, .int .i64 0, .int .i64 0] 27)) W ∧ c ≤ 1 ∧ W.heap.size + c = w.heap.size + 2) (JRP (w.heap.size + 1) [a,b] ByteArray.empty a b 1 i0 n1 n2) (fun i => match i with | 16 => 1 | _ => 0) (fun _ => false) 0 ?hF1 (by kernel_rfl) (by kernel_rfl) (by kernel_rfl) (by kernel_rfl) ?_ ?_ ?_
      case hF1 =>
        intro vs
        simp [fillA, Act.put]
        rfl
      · exact ⟨Mv.drew _, by decide, by rw [size_drew', size_alloc']; rfl⟩
      · (refine RGAll.plain rfl ?_ ?_; focus (intro vs W m hm0 ⟨hM, hc1, hc2⟩ hdep K hK; clear hdep; go_wp2_with fail; exact ⟨_, rfl, ⟨hM, hc1, hc2⟩, rfl, fun _ _ h => h⟩))
        (refine RGAll.plain rfl ?_ ?_; focus (intro vs W m hm0 ⟨hM, hc1, hc2⟩ hdep K hK; have e0 : vs 0 = .string ⟨#[a,b]⟩ := depOf hdep 0 (by kernel_rfl); simp only [e0] at hK ⊢; clear hdep; go_wp2_with fail; exact ⟨_, rfl, ⟨hM, hc1, hc2⟩, rfl, fun _ _ h => h⟩))
        (refine RGAll.plain rfl ?_ ?_; focus (intro vs W m hm0 ⟨hM, hc1, hc2⟩ hdep K hK; have e1 : vs 1 = .int .u8 a.toNat := depOf hdep 1 (by kernel_rfl); simp only [e1] at hK ⊢; clear hdep; go_wp2_with fail; (go_at_call 65; (with_reducible refine (HA.out _).mono ?_); rintro e w4 ⟨rfl, rfl⟩); go_wp2_with fail; exact ⟨_, rfl, ⟨hM, hc1, hc2⟩, rfl, fun _ _ h => h⟩))
        (refine RGAll.plain rfl ?_ ?_; focus (intro vs W m hm0 ⟨hM, hc1, hc2⟩ hdep K hK; clear hdep; go_wp2_with fail; exact ⟨_, rfl, ⟨hM, hc1, hc2⟩, rfl, fun _ _ h => h⟩))
        (refine RGAll.plain rfl ?_ ?_; focus (intro vs W m hm0 ⟨hM, hc1, hc2⟩ hdep K hK; have e3 : vs 3 = .string ByteArray.empty := depOf hdep 3 (by kernel_rfl); simp only [e3] at hK ⊢; clear hdep; go_wp2_with fail; (go_at_call 66; (with_reducible refine (HB.out _).mono ?_); rintro e w4 ⟨rfl, rfl⟩); go_wp2_with fail; exact ⟨_, rfl, ⟨hM, hc1, hc2⟩, rfl, fun _ _ h => h⟩))
        (refine RGAll.plain rfl ?_ ?_; focus (intro vs W m hm0 ⟨hM, hc1, hc2⟩ hdep K hK; clear hdep; go_wp2_with fail; exact ⟨_, rfl, ⟨hM, hc1, hc2⟩, rfl, fun _ _ h => h⟩))
        (refine RGAll.plain rfl ?_ ?_; focus (intro vs W m hm0 ⟨hM, hc1, hc2⟩ hdep K hK; have e5 : vs 5 = .string ByteArray.empty := depOf hdep 5 (by kernel_rfl); simp only [e5] at hK ⊢; clear hdep; go_wp2_with fail; (go_at_call 66; (with_reducible refine (HC.out _).mono ?_); rintro e w4 ⟨rfl, rfl⟩); go_wp2_with fail; exact ⟨_, rfl, ⟨hM, hc1, hc2⟩, rfl, fun _ _ h => h⟩))
        (refine RGAll.plain rfl ?_ ?_; focus (intro vs W m hm0 ⟨hM, hc1, hc2⟩ hdep K hK; have e4 : vs 4 = .int .i64 n1 := depOf hdep 4 (by kernel_rfl); have e6 : vs 6 = .int .i64 n2 := depOf hdep 6 (by kernel_rfl); simp only [e4, e6] at hK ⊢; clear hdep; go_wp2_with fail; exact ⟨_, rfl, ⟨hM, hc1, hc2⟩, rfl, fun _ _ h => h⟩))
        (refine RGAll.plain rfl ?_ ?_; focus (intro vs W m hm0 ⟨hM, hc1, hc2⟩ hdep K hK; clear hdep; go_wp2_with fail; exact ⟨_, rfl, ⟨hM, hc1, hc2⟩, rfl, fun _ _ h => h⟩))
        (refine RGAll.plain rfl ?_ ?_; focus (intro vs W m hm0 ⟨hM, hc1, hc2⟩ hdep K hK; clear hdep; go_wp2_with fail; exact ⟨_, rfl, ⟨hM, hc1, hc2⟩, rfl, fun _ _ h => h⟩))
        (refine RGAll.plain rfl ?_ ?_; focus (intro vs W m hm0 ⟨hM, hc1, hc2⟩ hdep K hK; have e9 : vs 9 = .string ⟨#[a,b]⟩ := depOf hdep 9 (by kernel_rfl); simp only [e9] at hK ⊢; clear hdep; go_wp2_with fail; exact ⟨_, rfl, ⟨hM, hc1, hc2⟩, rfl, fun _ _ h => h⟩))
        (refine RGAll.plain rfl ?_ ?_; focus (intro vs W m hm0 ⟨hM, hc1, hc2⟩ hdep K hK; have e10 : vs 10 = .int .i64 (1 + 1) := depOf hdep 10 (by kernel_rfl); simp only [e10] at hK ⊢; clear hdep; go_wp2_with fail; exact ⟨_, rfl, ⟨hM, hc1, hc2⟩, rfl, fun _ _ h => h⟩))
        (refine RGAll.plain rfl ?_ ?_; focus (intro vs W m hm0 ⟨hM, hc1, hc2⟩ hdep K hK; have e8 : vs 8 = .string ⟨#[a,b]⟩ := depOf hdep 8 (by kernel_rfl); have e11 : vs 11 = .int .i64 1 := depOf hdep 11 (by kernel_rfl); simp only [e8, e11] at hK ⊢; clear hdep; go_wp2_with fail; exact ⟨_, rfl, ⟨hM, hc1, hc2⟩, rfl, fun _ _ h => h⟩))
        (refine RGAll.plain rfl ?_ ?_; focus (intro vs W m hm0 ⟨hM, hc1, hc2⟩ hdep K hK; have e12 : vs 12 = .int .u8 b.toNat := depOf hdep 12 (by kernel_rfl); simp only [e12] at hK ⊢; clear hdep; go_wp2_with fail; exact ⟨_, rfl, ⟨hM, hc1, hc2⟩, rfl, fun _ _ h => h⟩))
        (refine RGAll.plain rfl ?_ ?_; focus (intro vs W m hm0 ⟨hM, hc1, hc2⟩ hdep K hK; have e13 : vs 13 = .int .i64 b.toNat := depOf hdep 13 (by kernel_rfl); simp only [e13] at hK ⊢; clear hdep; go_wp2_with fail; exact ⟨_, rfl, ⟨hM, hc1, hc2⟩, rfl, fun _ _ h => h⟩))
        (refine RGAll.plain rfl ?_ ?_; focus (intro vs W m hm0 ⟨hM, hc1, hc2⟩ hdep K hK; have e2 : vs 2 = .int .i64 i0 := depOf hdep 2 (by kernel_rfl); have e7 : vs 7 = .int .i64 ((n1 : Int) - n2) := depOf hdep 7 (by kernel_rfl); have e14 : vs 14 = .int .i64 ((b.toNat : Int) - 48) := depOf hdep 14 (by kernel_rfl); simp only [e2, e7, e14] at hK ⊢; clear hdep; go_wp2_with fail; exact ⟨_, rfl, ⟨hM, hc1, hc2⟩, rfl, fun _ _ h => h⟩))
        (refine RGAll.plain rfl ?_ ?_; focus (intro vs W m hm0 ⟨hM, hc1, hc2⟩ hdep K hK; clear hdep; go_wp2_with fail; have hm : m = 0 := (by omega); subst hm; exact ⟨_, rfl, ⟨hM.trans (Mv.alloc _ _), by decide, by rw [size_alloc']; omega⟩, ⟨by rw [show W.heap.size = w.heap.size + 1 by omega], ⟨0, 0, 0⟩, by rw [← show W.heap.size = w.heap.size + 1 by omega]; exact heap_alloc_new W _⟩, JRP.mv (fun o h => below_heap (bel1 W _) h)⟩))
        (refine RGAll.plain rfl ?_ ?_; focus (intro vs W m hm0 ⟨hM, hc1, hc2⟩ hdep K hK; have e15 : vs 15 = .agg #[.int .i64 i0, .int .i64 ((n1 : Int) - n2), .int .i64 ((b.toNat : Int) - 48)] := depOf hdep 15 (by kernel_rfl); obtain ⟨e16, ⟨qs, qa, qo⟩, h2⟩ := depOf hdep 16 (by kernel_rfl); simp only [e15, e16] at hK ⊢; clear hdep; obtain ⟨_, _⟩ := blk_facts h2; go_wp2_with fail; have h3 : (((W.setCell ⟨w.heap.size + 1, 0, none⟩ (.int .i64 i0)).setCell ⟨w.heap.size + 1, 1, none⟩ (.int .i64 ((n1 : Int) - n2))).setCell ⟨w.heap.size + 1, 2, none⟩ (.int .i64 ((b.toNat : Int) - 48))).heap[w.heap.size + 1]? = some (.cells #[.int .i64 i0, .int .i64 ((n1 : Int) - n2), .int .i64 ((b.toNat : Int) - 48)] 27 (0, 0)) := (by (simp only [heap_alloc_get, heap_setCell_get, heap_drew_get, heap_drewN_get, size_alloc', size_setCell', size_drew', size_drewN', nat_simp1, nat_simp2, nat_simp3, nat_simp4, nat_simp5, if_true, if_false, Option.map_some, *]; first | done | rfl | simp)); exact ⟨undef, rfl, ⟨hM.fresh3 (by rw [size_alloc']; omega) _ _ _, hc1, by simpa [World.setCell] using hc2⟩, h3, JRP.st h3⟩))
        exact RGAll.nil
      · intro vs W ⟨hM, hc1, hc2⟩ hJ
        obtain ⟨e16, -⟩ := hJ 16 (by decide)
        have h2 : W.heap[w.heap.size + 1]? = some (.cells #[.int .i64 i0, .int .i64 ((n1 : Int) - n2), .int .i64 ((b.toNat : Int) - 48)] 27 (0, 0)) := hJ 17 (by decide)
        have h4 := hM.heap (heap_alloc_new w (.cells #[.int .i64 0, .int .i64 0, .int .i64 0] 27)) (fun h => h)
        clear hJ
        generalize vs 16 = v16 at *
        subst e16
        obtain ⟨_, _⟩ := blk_facts h2
        obtain ⟨_, _⟩ := blk_facts h4
        have hz2 : W.heap.size = w.heap.size + 2 := by omega
        have hbW := Mv.below (bel1 w _) hM (fun b h => h.elim) (by rw [size_alloc']; omega)
        go_wp2_with fail
        by_cases hE : pitT ⟨i0, (n1 : Int) - n2, (b.toNat : Int) - 48⟩ = [a,b]
        · have HE := Lib.hid (rdP_yes hE (by simp))
          have HQ := Lib.hid (fun W => c_iPitchText ⟨i0, (n1 : Int) - n2, (b.toNat : Int) - 48⟩ W)
          rw [hE] at HQ
          (go_at_call 36; (with_reducible refine (HQ.out _).mono ?_); rintro e w5 ⟨rfl, hbq⟩; have hzq := hbq.size; (try simp only [size_alloc', size_setCell', size_drew', size_drewN'] at hzq); (try (refine keep_heap (b := w.heap.size) hbq ?_ ?_; (first | omega | (simp only [size_alloc', size_setCell', size_drew', size_drewN']; omega)); intro hkq; simp only [heap_alloc_get, heap_setCell_get, heap_drew_get, heap_drewN_get, size_alloc', size_setCell', size_drew', size_drewN', nat_simp1, nat_simp2, nat_simp3, nat_simp4, nat_simp5, if_true, if_false, *] at hkq; obtain ⟨_, _⟩ := blk_facts hkq)); (try (refine keep_heap (b := w.heap.size + 1) hbq ?_ ?_; (first | omega | (simp only [size_alloc', size_setCell', size_drew', size_drewN']; omega)); intro hkq; simp only [heap_alloc_get, heap_setCell_get, heap_drew_get, heap_drewN_get, size_alloc', size_setCell', size_drew', size_drewN', nat_simp1, nat_simp2, nat_simp3, nat_simp4, nat_simp5, if_true, if_false, *] at hkq; obtain ⟨_, _⟩ := blk_facts hkq)); skip)
          go_wp2_with fail
          have h5 : (((w5.setCell ⟨w.heap.size, 0, none⟩ (.int .i64 i0)).setCell ⟨w.heap.size, 1, none⟩ (.int .i64 ((n1 : Int) - n2))).setCell ⟨w.heap.size, 2, none⟩ (.int .i64 ((b.toNat : Int) - 48))).heap[w.heap.size]? = some (.cells #[.int .i64 i0, .int .i64 ((n1 : Int) - n2), .int .i64 ((b.toNat : Int) - 48)] 27 (0, 0)) := by (simp only [heap_alloc_get, heap_setCell_get, heap_drew_get, heap_drewN_get, size_alloc', size_setCell', size_drew', size_drewN', nat_simp1, nat_simp2, nat_simp3, nat_simp4, nat_simp5, if_true, if_false, Option.map_some, *]; first | done | rfl | simp)
          obtain ⟨h6, _⟩ := blk_facts h5
          exact bodyPost_ret (v := .tuple #[.agg #[.int .i64 i0, .int .i64 ((n1 : Int) - n2), .int .i64 ((b.toNat : Int) - 48)], .bool true]) (by simp [results, Tryd.results47, go_sem, *]) rfl ⟨by rw [HE.out], by (repeat' (first | (with_reducible exact Below.refl _ _) | (with_reducible refine Below.setCell ?_ ?_ _) | (with_reducible refine Below.alloc ?_ ?_ _) | (with_reducible refine Below.drew ?_) | (with_reducible refine below_drewN ?_ _) | (with_reducible refine Below.trans ?_ (Below.mono (by with_reducible assumption) ?_)) | omega | (simp only [size_alloc', size_setCell', size_drew', size_drewN'] at *; omega)))⟩
        · have HE := Lib.hid (rdP_no (l := [a,b]) (fun p hp h => hE (by rw [← HP.out, ← h, iP_pit hp])))
          have HQ := Lib.hid (fun W => c_iPitchText ⟨i0, (n1 : Int) - n2, (b.toNat : Int) - 48⟩ W)
          generalize pitT ⟨i0, (n1 : Int) - n2, (b.toNat : Int) - 48⟩ = q at *
          have hne : (q == [a,b]) = false := beq_eq_false_iff_ne.2 hE
          (go_at_call 36; (with_reducible refine (HQ.out _).mono ?_); rintro e w5 ⟨rfl, hbq⟩; have hzq := hbq.size; (try simp only [size_alloc', size_setCell', size_drew', size_drewN'] at hzq); (try (refine keep_heap (b := w.heap.size) hbq ?_ ?_; (first | omega | (simp only [size_alloc', size_setCell', size_drew', size_drewN']; omega)); intro hkq; simp only [heap_alloc_get, heap_setCell_get, heap_drew_get, heap_drewN_get, size_alloc', size_setCell', size_drew', size_drewN', nat_simp1, nat_simp2, nat_simp3, nat_simp4, nat_simp5, if_true, if_false, *] at hkq; obtain ⟨_, _⟩ := blk_facts hkq)); (try (refine keep_heap (b := w.heap.size + 1) hbq ?_ ?_; (first | omega | (simp only [size_alloc', size_setCell', size_drew', size_drewN']; omega)); intro hkq; simp only [heap_alloc_get, heap_setCell_get, heap_drew_get, heap_drewN_get, size_alloc', size_setCell', size_drew', size_drewN', nat_simp1, nat_simp2, nat_simp3, nat_simp4, nat_simp5, if_true, if_false, *] at hkq; obtain ⟨_, _⟩ := blk_facts hkq)); skip)
          go_wp2_with fail
          have h5 : (((w5.setCell ⟨w.heap.size, 0, none⟩ (.int .i64 0)).setCell ⟨w.heap.size, 1, none⟩ (.int .i64 0)).setCell ⟨w.heap.size, 2, none⟩ (.int .i64 0)).heap[w.heap.size]? = some (.cells #[.int .i64 0, .int .i64 0, .int .i64 0] 27 (0, 0)) := by (simp only [heap_alloc_get, heap_setCell_get, heap_drew_get, heap_drewN_get, size_alloc', size_setCell', size_drew', size_drewN', nat_simp1, nat_simp2, nat_simp3, nat_simp4, nat_simp5, if_true, if_false, Option.map_some, *]; first | done | rfl | simp)
          obtain ⟨h6, _⟩ := blk_facts h5
          exact bodyPost_ret (v := .tuple #[.agg #[.int .i64 0, .int .i64 0, .int .i64 0], .bool false]) (by simp [results, Tryd.results47, go_sem, *]) rfl ⟨by rw [HE.out], by (repeat' (first | (with_reducible exact Below.refl _ _) | (with_reducible refine Below.setCell ?_ ?_ _) | (with_reducible refine Below.alloc ?_ ?_ _) | (with_reducible refine Below.drew ?_) | (with_reducible refine below_drewN ?_ _) | (with_reducible refine Below.trans ?_ (Below.mono (by with_reducible assumption) ?_)) | omega | (simp only [size_alloc', size_setCell', size_drew', size_drewN'] at *; omega)))⟩
    | [a, b, c], _ =>
      have HP : Hid (iP [a,b,c] = ⟨Lib.indexByte letters a, (Lib.countByte (⟨#[b]⟩ : ByteArray).data.toList 35 : Int) - (Lib.countByte (⟨#[b]⟩ : ByteArray).data.toList 98 : Int), (c.toNat : Int) - 48⟩) := Lib.hid rfl
      obtain ⟨i0, e0⟩ : ∃ x, x = Lib.indexByte letters a := ⟨_, rfl⟩
      obtain ⟨n1, e1⟩ : ∃ x, x = Lib.countByte (⟨#[b]⟩ : ByteArray).data.toList 35 := ⟨_, rfl⟩
      obtain ⟨n2, e2⟩ : ∃ x, x = Lib.countByte (⟨#[b]⟩ : ByteArray).data.toList 98 := ⟨_, rfl⟩
      have HA := Lib.hid (fun W => c_ixb a W)
      have HB := Lib.hid (fun W => c_cnt ⟨#[b]⟩ 35 W)
      have HC := Lib.hid (fun W => c_cnt ⟨#[b]⟩ 98 W)
      have b0 : -1 ≤ i0 ∧ i0 ≤ 7 := by rw [e0]; exact ix_bd a
      have b1 : n1 ≤ 2 := by rw [e1]; exact Nat.le_trans (List.count_le_length ..) (by simp)
      have b2 : n2 ≤ 2 := by rw [e2]; exact Nat.le_trans (List.count_le_length ..) (by simp)
      have b3 : c.toNat < 256 := c.toNat_lt
      rw [← e0, ← e1, ← e2] at HP
      rw [← e0] at HA
      rw [← e1] at HB
      rw [← e2] at HC
      clear e0 e1 e2
      go_wp2_with fail
      rw [show (ByteArray.mk #[a,b,c]).extract 1 2 = ⟨#[b]⟩ from rfl]
      have hg0 : (ByteArray.mk #[a,b,c])[0]'(show 0 < 2 + 1 by omega) = a := rfl
      have hg1 : (ByteArray.mk #[a,b,c])[2]'(show 2 < 2 + 1 by omega) = c := rfl
      refine wp_region_rg ?F2 (fun c W => Mv (fun _ => False) (w.alloc (.cells #[.int .i64 0, .int .i64 0, .int .i64 0] 27)) W ∧ c ≤ 1 ∧ W.heap.size + c = w.heap.size + 2) (JRP (w.heap.size + 1) [a,b,c] ⟨#[b]⟩ a c 2 i0 n1 n2) (fun i => match i with | 16 => 1 | _ => 0) (fun _ => false) 0 ?hF2 (by kernel_rfl) (by kernel_rfl) (by kernel_rfl) (by kernel_rfl) ?_ ?_ ?_
      case hF2 =>
        intro vs
        simp [fillA, Act.put]
        rfl
      · exact ⟨Mv.drew _, by decide, by rw [size_drew', size_alloc']; rfl⟩
      · (refine RGAll.plain rfl ?_ ?_; focus (intro vs W m hm0 ⟨hM, hc1, hc2⟩ hdep K hK; clear hdep; go_wp2_with fail; exact ⟨_, rfl, ⟨hM, hc1, hc2⟩, rfl, fun _ _ h => h⟩))
        (refine RGAll.plain rfl ?_ ?_; focus (intro vs W m hm0 ⟨hM, hc1, hc2⟩ hdep K hK; have e0 : vs 0 = .string ⟨#[a,b,c]⟩ := depOf hdep 0 (by kernel_rfl); simp only [e0] at hK ⊢; clear hdep; go_wp2_with fail; exact ⟨_, rfl, ⟨hM, hc1, hc2⟩, rfl, fun _ _ h => h⟩))
        (refine RGAll.plain rfl ?_ ?_; focus (intro vs W m hm0 ⟨hM, hc1, hc2⟩ hdep K hK; have e1 : vs 1 = .int .u8 a.toNat := depOf hdep 1 (by kernel_rfl); simp only [e1] at hK ⊢; clear hdep; go_wp2_with fail; (go_at_call 65; (with_reducible refine (HA.out _).mono ?_); rintro e w4 ⟨rfl, rfl⟩); go_wp2_with fail; exact ⟨_, rfl, ⟨hM, hc1, hc2⟩, rfl, fun _ _ h => h⟩))
        (refine RGAll.plain rfl ?_ ?_; focus (intro vs W m hm0 ⟨hM, hc1, hc2⟩ hdep K hK; clear hdep; go_wp2_with fail; exact ⟨_, rfl, ⟨hM, hc1, hc2⟩, rfl, fun _ _ h => h⟩))
        (refine RGAll.plain rfl ?_ ?_; focus (intro vs W m hm0 ⟨hM, hc1, hc2⟩ hdep K hK; have e3 : vs 3 = .string ⟨#[b]⟩ := depOf hdep 3 (by kernel_rfl); simp only [e3] at hK ⊢; clear hdep; go_wp2_with fail; (go_at_call 66; (with_reducible refine (HB.out _).mono ?_); rintro e w4 ⟨rfl, rfl⟩); go_wp2_with fail; exact ⟨_, rfl, ⟨hM, hc1, hc2⟩, rfl, fun _ _ h => h⟩))
        (refine RGAll.plain rfl ?_ ?_; focus (intro vs W m hm0 ⟨hM, hc1, hc2⟩ hdep K hK; clear hdep; go_wp2_with fail; exact ⟨_, rfl, ⟨hM, hc1, hc2⟩, rfl, fun _ _ h => h⟩))
        (refine RGAll.plain rfl ?_ ?_; focus (intro vs W m hm0 ⟨hM, hc1, hc2⟩ hdep K hK; have e5 : vs 5 = .string ⟨#[b]⟩ := depOf hdep 5 (by kernel_rfl); simp only [e5] at hK ⊢; clear hdep; go_wp2_with fail; (go_at_call 66; (with_reducible refine (HC.out _).mono ?_); rintro e w4 ⟨rfl, rfl⟩); go_wp2_with fail; exact ⟨_, rfl, ⟨hM, hc1, hc2⟩, rfl, fun _ _ h => h⟩))
        (refine RGAll.plain rfl ?_ ?_; focus (intro vs W m hm0 ⟨hM, hc1, hc2⟩ hdep K hK; have e4 : vs 4 = .int .i64 n1 := depOf hdep 4 (by kernel_rfl); have e6 : vs 6 = .int .i64 n2 := depOf hdep 6 (by kernel_rfl); simp only [e4, e6] at hK ⊢; clear hdep; go_wp2_with fail; exact ⟨_, rfl, ⟨hM, hc1, hc2⟩, rfl, fun _ _ h => h⟩))
        (refine RGAll.plain rfl ?_ ?_; focus (intro vs W m hm0 ⟨hM, hc1, hc2⟩ hdep K hK; clear hdep; go_wp2_with fail; exact ⟨_, rfl, ⟨hM, hc1, hc2⟩, rfl, fun _ _ h => h⟩))
        (refine RGAll.plain rfl ?_ ?_; focus (intro vs W m hm0 ⟨hM, hc1, hc2⟩ hdep K hK; clear hdep; go_wp2_with fail; exact ⟨_, rfl, ⟨hM, hc1, hc2⟩, rfl, fun _ _ h => h⟩))
        (refine RGAll.plain rfl ?_ ?_; focus (intro vs W m hm0 ⟨hM, hc1, hc2⟩ hdep K hK; have e9 : vs 9 = .string ⟨#[a,b,c]⟩ := depOf hdep 9 (by kernel_rfl); simp only [e9] at hK ⊢; clear hdep; go_wp2_with fail; exact ⟨_, rfl, ⟨hM, hc1, hc2⟩, rfl, fun _ _ h => h⟩))
        (refine RGAll.plain rfl ?_ ?_; focus (intro vs W m hm0 ⟨hM, hc1, hc2⟩ hdep K hK; have e10 : vs 10 = .int .i64 (2 + 1) := depOf hdep 10 (by kernel_rfl); simp only [e10] at hK ⊢; clear hdep; go_wp2_with fail; exact ⟨_, rfl, ⟨hM, hc1, hc2⟩, rfl, fun _ _ h => h⟩))
        (refine RGAll.plain rfl ?_ ?_; focus (intro vs W m hm0 ⟨hM, hc1, hc2⟩ hdep K hK; have e8 : vs 8 = .string ⟨#[a,b,c]⟩ := depOf hdep 8 (by kernel_rfl); have e11 : vs 11 = .int .i64 2 := depOf hdep 11 (by kernel_rfl); simp only [e8, e11] at hK ⊢; clear hdep; go_wp2_with fail; exact ⟨_, rfl, ⟨hM, hc1, hc2⟩, rfl, fun _ _ h => h⟩))
        (refine RGAll.plain rfl ?_ ?_; focus (intro vs W m hm0 ⟨hM, hc1, hc2⟩ hdep K hK; have e12 : vs 12 = .int .u8 c.toNat := depOf hdep 12 (by kernel_rfl); simp only [e12] at hK ⊢; clear hdep; go_wp2_with fail; exact ⟨_, rfl, ⟨hM, hc1, hc2⟩, rfl, fun _ _ h => h⟩))
        (refine RGAll.plain rfl ?_ ?_; focus (intro vs W m hm0 ⟨hM, hc1, hc2⟩ hdep K hK; have e13 : vs 13 = .int .i64 c.toNat := depOf hdep 13 (by kernel_rfl); simp only [e13] at hK ⊢; clear hdep; go_wp2_with fail; exact ⟨_, rfl, ⟨hM, hc1, hc2⟩, rfl, fun _ _ h => h⟩))
        (refine RGAll.plain rfl ?_ ?_; focus (intro vs W m hm0 ⟨hM, hc1, hc2⟩ hdep K hK; have e2 : vs 2 = .int .i64 i0 := depOf hdep 2 (by kernel_rfl); have e7 : vs 7 = .int .i64 ((n1 : Int) - n2) := depOf hdep 7 (by kernel_rfl); have e14 : vs 14 = .int .i64 ((c.toNat : Int) - 48) := depOf hdep 14 (by kernel_rfl); simp only [e2, e7, e14] at hK ⊢; clear hdep; go_wp2_with fail; exact ⟨_, rfl, ⟨hM, hc1, hc2⟩, rfl, fun _ _ h => h⟩))
        (refine RGAll.plain rfl ?_ ?_; focus (intro vs W m hm0 ⟨hM, hc1, hc2⟩ hdep K hK; clear hdep; go_wp2_with fail; have hm : m = 0 := (by omega); subst hm; exact ⟨_, rfl, ⟨hM.trans (Mv.alloc _ _), by decide, by rw [size_alloc']; omega⟩, ⟨by rw [show W.heap.size = w.heap.size + 1 by omega], ⟨0, 0, 0⟩, by rw [← show W.heap.size = w.heap.size + 1 by omega]; exact heap_alloc_new W _⟩, JRP.mv (fun o h => below_heap (bel1 W _) h)⟩))
        (refine RGAll.plain rfl ?_ ?_; focus (intro vs W m hm0 ⟨hM, hc1, hc2⟩ hdep K hK; have e15 : vs 15 = .agg #[.int .i64 i0, .int .i64 ((n1 : Int) - n2), .int .i64 ((c.toNat : Int) - 48)] := depOf hdep 15 (by kernel_rfl); obtain ⟨e16, ⟨qs, qa, qo⟩, h2⟩ := depOf hdep 16 (by kernel_rfl); simp only [e15, e16] at hK ⊢; clear hdep; obtain ⟨_, _⟩ := blk_facts h2; go_wp2_with fail; have h3 : (((W.setCell ⟨w.heap.size + 1, 0, none⟩ (.int .i64 i0)).setCell ⟨w.heap.size + 1, 1, none⟩ (.int .i64 ((n1 : Int) - n2))).setCell ⟨w.heap.size + 1, 2, none⟩ (.int .i64 ((c.toNat : Int) - 48))).heap[w.heap.size + 1]? = some (.cells #[.int .i64 i0, .int .i64 ((n1 : Int) - n2), .int .i64 ((c.toNat : Int) - 48)] 27 (0, 0)) := (by (simp only [heap_alloc_get, heap_setCell_get, heap_drew_get, heap_drewN_get, size_alloc', size_setCell', size_drew', size_drewN', nat_simp1, nat_simp2, nat_simp3, nat_simp4, nat_simp5, if_true, if_false, Option.map_some, *]; first | done | rfl | simp)); exact ⟨undef, rfl, ⟨hM.fresh3 (by rw [size_alloc']; omega) _ _ _, hc1, by simpa [World.setCell] using hc2⟩, h3, JRP.st h3⟩))
        exact RGAll.nil
      · intro vs W ⟨hM, hc1, hc2⟩ hJ
        obtain ⟨e16, -⟩ := hJ 16 (by decide)
        have h2 : W.heap[w.heap.size + 1]? = some (.cells #[.int .i64 i0, .int .i64 ((n1 : Int) - n2), .int .i64 ((c.toNat : Int) - 48)] 27 (0, 0)) := hJ 17 (by decide)
        have h4 := hM.heap (heap_alloc_new w (.cells #[.int .i64 0, .int .i64 0, .int .i64 0] 27)) (fun h => h)
        clear hJ
        generalize vs 16 = v16 at *
        subst e16
        obtain ⟨_, _⟩ := blk_facts h2
        obtain ⟨_, _⟩ := blk_facts h4
        have hz2 : W.heap.size = w.heap.size + 2 := by omega
        have hbW := Mv.below (bel1 w _) hM (fun b h => h.elim) (by rw [size_alloc']; omega)
        go_wp2_with fail
        by_cases hE : pitT ⟨i0, (n1 : Int) - n2, (c.toNat : Int) - 48⟩ = [a,b,c]
        · have HE := Lib.hid (rdP_yes hE (by simp))
          have HQ := Lib.hid (fun W => c_iPitchText ⟨i0, (n1 : Int) - n2, (c.toNat : Int) - 48⟩ W)
          rw [hE] at HQ
          (go_at_call 36; (with_reducible refine (HQ.out _).mono ?_); rintro e w5 ⟨rfl, hbq⟩; have hzq := hbq.size; (try simp only [size_alloc', size_setCell', size_drew', size_drewN'] at hzq); (try (refine keep_heap (b := w.heap.size) hbq ?_ ?_; (first | omega | (simp only [size_alloc', size_setCell', size_drew', size_drewN']; omega)); intro hkq; simp only [heap_alloc_get, heap_setCell_get, heap_drew_get, heap_drewN_get, size_alloc', size_setCell', size_drew', size_drewN', nat_simp1, nat_simp2, nat_simp3, nat_simp4, nat_simp5, if_true, if_false, *] at hkq; obtain ⟨_, _⟩ := blk_facts hkq)); (try (refine keep_heap (b := w.heap.size + 1) hbq ?_ ?_; (first | omega | (simp only [size_alloc', size_setCell', size_drew', size_drewN']; omega)); intro hkq; simp only [heap_alloc_get, heap_setCell_get, heap_drew_get, heap_drewN_get, size_alloc', size_setCell', size_drew', size_drewN', nat_simp1, nat_simp2, nat_simp3, nat_simp4, nat_simp5, if_true, if_false, *] at hkq; obtain ⟨_, _⟩ := blk_facts hkq)); skip)
          go_wp2_with fail
          have h5 : (((w5.setCell ⟨w.heap.size, 0, none⟩ (.int .i64 i0)).setCell ⟨w.heap.size, 1, none⟩ (.int .i64 ((n1 : Int) - n2))).setCell ⟨w.heap.size, 2, none⟩ (.int .i64 ((c.toNat : Int) - 48))).heap[w.heap.size]? = some (.cells #[.int .i64 i0, .int .i64 ((n1 : Int) - n2), .int .i64 ((c.toNat : Int) - 48)] 27 (0, 0)) := by (simp only [heap_alloc_get, heap_setCell_get, heap_drew_get, heap_drewN_get, size_alloc', size_setCell', size_drew', size_drewN', nat_simp1, nat_simp2, nat_simp3, nat_simp4, nat_simp5, if_true, if_false, Option.map_some, *]; first | done | rfl | simp)
          obtain ⟨h6, _⟩ := blk_facts h5
          exact bodyPost_ret (v := .tuple #[.agg #[.int .i64 i0, .int .i64 ((n1 : Int) - n2), .int .i64 ((c.toNat : Int) - 48)], .bool true]) (by simp [results, Tryd.results47, go_sem, *]) rfl ⟨by rw [HE.out], by (repeat' (first | (with_reducible exact Below.refl _ _) | (with_reducible refine Below.setCell ?_ ?_ _) | (with_reducible refine Below.alloc ?_ ?_ _) | (with_reducible refine Below.drew ?_) | (with_reducible refine below_drewN ?_ _) | (with_reducible refine Below.trans ?_ (Below.mono (by with_reducible assumption) ?_)) | omega | (simp only [size_alloc', size_setCell', size_drew', size_drewN'] at *; omega)))⟩
        · have HE := Lib.hid (rdP_no (l := [a,b,c]) (fun p hp h => hE (by rw [← HP.out, ← h, iP_pit hp])))
          have HQ := Lib.hid (fun W => c_iPitchText ⟨i0, (n1 : Int) - n2, (c.toNat : Int) - 48⟩ W)
          generalize pitT ⟨i0, (n1 : Int) - n2, (c.toNat : Int) - 48⟩ = q at *
          have hne : (q == [a,b,c]) = false := beq_eq_false_iff_ne.2 hE
          (go_at_call 36; (with_reducible refine (HQ.out _).mono ?_); rintro e w5 ⟨rfl, hbq⟩; have hzq := hbq.size; (try simp only [size_alloc', size_setCell', size_drew', size_drewN'] at hzq); (try (refine keep_heap (b := w.heap.size) hbq ?_ ?_; (first | omega | (simp only [size_alloc', size_setCell', size_drew', size_drewN']; omega)); intro hkq; simp only [heap_alloc_get, heap_setCell_get, heap_drew_get, heap_drewN_get, size_alloc', size_setCell', size_drew', size_drewN', nat_simp1, nat_simp2, nat_simp3, nat_simp4, nat_simp5, if_true, if_false, *] at hkq; obtain ⟨_, _⟩ := blk_facts hkq)); (try (refine keep_heap (b := w.heap.size + 1) hbq ?_ ?_; (first | omega | (simp only [size_alloc', size_setCell', size_drew', size_drewN']; omega)); intro hkq; simp only [heap_alloc_get, heap_setCell_get, heap_drew_get, heap_drewN_get, size_alloc', size_setCell', size_drew', size_drewN', nat_simp1, nat_simp2, nat_simp3, nat_simp4, nat_simp5, if_true, if_false, *] at hkq; obtain ⟨_, _⟩ := blk_facts hkq)); skip)
          go_wp2_with fail
          have h5 : (((w5.setCell ⟨w.heap.size, 0, none⟩ (.int .i64 0)).setCell ⟨w.heap.size, 1, none⟩ (.int .i64 0)).setCell ⟨w.heap.size, 2, none⟩ (.int .i64 0)).heap[w.heap.size]? = some (.cells #[.int .i64 0, .int .i64 0, .int .i64 0] 27 (0, 0)) := by (simp only [heap_alloc_get, heap_setCell_get, heap_drew_get, heap_drewN_get, size_alloc', size_setCell', size_drew', size_drewN', nat_simp1, nat_simp2, nat_simp3, nat_simp4, nat_simp5, if_true, if_false, Option.map_some, *]; first | done | rfl | simp)
          obtain ⟨h6, _⟩ := blk_facts h5
          exact bodyPost_ret (v := .tuple #[.agg #[.int .i64 0, .int .i64 0, .int .i64 0], .bool false]) (by simp [results, Tryd.results47, go_sem, *]) rfl ⟨by rw [HE.out], by (repeat' (first | (with_reducible exact Below.refl _ _) | (with_reducible refine Below.setCell ?_ ?_ _) | (with_reducible refine Below.alloc ?_ ?_ _) | (with_reducible refine Below.drew ?_) | (with_reducible refine below_drewN ?_ _) | (with_reducible refine Below.trans ?_ (Below.mono (by with_reducible assumption) ?_)) | omega | (simp only [size_alloc', size_setCell', size_drew', size_drewN'] at *; omega)))⟩
    | [a, b, c, d], _ =>
      have HP : Hid (iP [a,b,c,d] = ⟨Lib.indexByte letters a, (Lib.countByte (⟨#[b,c]⟩ : ByteArray).data.toList 35 : Int) - (Lib.countByte (⟨#[b,c]⟩ : ByteArray).data.toList 98 : Int), (d.toNat : Int) - 48⟩) := Lib.hid rfl
      obtain ⟨i0, e0⟩ : ∃ x, x = Lib.indexByte letters a := ⟨_, rfl⟩
      obtain ⟨n1, e1⟩ : ∃ x, x = Lib.countByte (⟨#[b,c]⟩ : ByteArray).data.toList 35 := ⟨_, rfl⟩
      obtain ⟨n2, e2⟩ : ∃ x, x = Lib.countByte (⟨#[b,c]⟩ : ByteArray).data.toList 98 := ⟨_, rfl⟩
      have HA := Lib.hid (fun W => c_ixb a W)
      have HB := Lib.hid (fun W => c_cnt ⟨#[b,c]⟩ 35 W)
      have HC := Lib.hid (fun W => c_cnt ⟨#[b,c]⟩ 98 W)
      have b0 : -1 ≤ i0 ∧ i0 ≤ 7 := by rw [e0]; exact ix_bd a
      have b1 : n1 ≤ 2 := by rw [e1]; exact Nat.le_trans (List.count_le_length ..) (by simp)
      have b2 : n2 ≤ 2 := by rw [e2]; exact Nat.le_trans (List.count_le_length ..) (by simp)
      have b3 : d.toNat < 256 := d.toNat_lt
      rw [← e0, ← e1, ← e2] at HP
      rw [← e0] at HA
      rw [← e1] at HB
      rw [← e2] at HC
      clear e0 e1 e2
      go_wp2_with fail
      rw [show (ByteArray.mk #[a,b,c,d]).extract 1 3 = ⟨#[b,c]⟩ from rfl]
      have hg0 : (ByteArray.mk #[a,b,c,d])[0]'(show 0 < 3 + 1 by omega) = a := rfl
      have hg1 : (ByteArray.mk #[a,b,c,d])[3]'(show 3 < 3 + 1 by omega) = d := rfl
      refine wp_region_rg ?F3 (fun c W => Mv (fun _ => False) (w.alloc (.cells #[.int .i64 0, .int .i64 0, .int .i64 0] 27)) W ∧ c ≤ 1 ∧ W.heap.size + c = w.heap.size + 2) (JRP (w.heap.size + 1) [a,b,c,d] ⟨#[b,c]⟩ a d 3 i0 n1 n2) (fun i => match i with | 16 => 1 | _ => 0) (fun _ => false) 0 ?hF3 (by kernel_rfl) (by kernel_rfl) (by kernel_rfl) (by kernel_rfl) ?_ ?_ ?_
      case hF3 =>
        intro vs
        simp [fillA, Act.put]
        rfl
      · exact ⟨Mv.drew _, by decide, by rw [size_drew', size_alloc']; rfl⟩
      · (refine RGAll.plain rfl ?_ ?_; focus (intro vs W m hm0 ⟨hM, hc1, hc2⟩ hdep K hK; clear hdep; go_wp2_with fail; exact ⟨_, rfl, ⟨hM, hc1, hc2⟩, rfl, fun _ _ h => h⟩))
        (refine RGAll.plain rfl ?_ ?_; focus (intro vs W m hm0 ⟨hM, hc1, hc2⟩ hdep K hK; have e0 : vs 0 = .string ⟨#[a,b,c,d]⟩ := depOf hdep 0 (by kernel_rfl); simp only [e0] at hK ⊢; clear hdep; go_wp2_with fail; exact ⟨_, rfl, ⟨hM, hc1, hc2⟩, rfl, fun _ _ h => h⟩))
        (refine RGAll.plain rfl ?_ ?_; focus (intro vs W m hm0 ⟨hM, hc1, hc2⟩ hdep K hK; have e1 : vs 1 = .int .u8 a.toNat := depOf hdep 1 (by kernel_rfl); simp only [e1] at hK ⊢; clear hdep; go_wp2_with fail; (go_at_call 65; (with_reducible refine (HA.out _).mono ?_); rintro e w4 ⟨rfl, rfl⟩); go_wp2_with fail; exact ⟨_, rfl, ⟨hM, hc1, hc2⟩, rfl, fun _ _ h => h⟩))
        (refine RGAll.plain rfl ?_ ?_; focus (intro vs W m hm0 ⟨hM, hc1, hc2⟩ hdep K hK; clear hdep; go_wp2_with fail; exact ⟨_, rfl, ⟨hM, hc1, hc2⟩, rfl, fun _ _ h => h⟩))
        (refine RGAll.plain rfl ?_ ?_; focus (intro vs W m hm0 ⟨hM, hc1, hc2⟩ hdep K hK; have e3 : vs 3 = .string ⟨#[b,c]⟩ := depOf hdep 3 (by kernel_rfl); simp only [e3] at hK ⊢; clear hdep; go_wp2_with fail; (go_at_call 66; (with_reducible refine (HB.out _).mono ?_); rintro e w4 ⟨rfl, rfl⟩); go_wp2_with fail; exact ⟨_, rfl, ⟨hM, hc1, hc2⟩, rfl, fun _ _ h => h⟩))
        (refine RGAll.plain rfl ?_ ?_; focus (intro vs W m hm0 ⟨hM, hc1, hc2⟩ hdep K hK; clear hdep; go_wp2_with fail; exact ⟨_, rfl, ⟨hM, hc1, hc2⟩, rfl, fun _ _ h => h⟩))
        (refine RGAll.plain rfl ?_ ?_; focus (intro vs W m hm0 ⟨hM, hc1, hc2⟩ hdep K hK; have e5 : vs 5 = .string ⟨#[b,c]⟩ := depOf hdep 5 (by kernel_rfl); simp only [e5] at hK ⊢; clear hdep; go_wp2_with fail; (go_at_call 66; (with_reducible refine (HC.out _).mono ?_); rintro e w4 ⟨rfl, rfl⟩); go_wp2_with fail; exact ⟨_, rfl, ⟨hM, hc1, hc2⟩, rfl, fun _ _ h => h⟩))
        (refine RGAll.plain rfl ?_ ?_; focus (intro vs W m hm0 ⟨hM, hc1, hc2⟩ hdep K hK; have e4 : vs 4 = .int .i64 n1 := depOf hdep 4 (by kernel_rfl); have e6 : vs 6 = .int .i64 n2 := depOf hdep 6 (by kernel_rfl); simp only [e4, e6] at hK ⊢; clear hdep; go_wp2_with fail; exact ⟨_, rfl, ⟨hM, hc1, hc2⟩, rfl, fun _ _ h => h⟩))
        (refine RGAll.plain rfl ?_ ?_; focus (intro vs W m hm0 ⟨hM, hc1, hc2⟩ hdep K hK; clear hdep; go_wp2_with fail; exact ⟨_, rfl, ⟨hM, hc1, hc2⟩, rfl, fun _ _ h => h⟩))
        (refine RGAll.plain rfl ?_ ?_; focus (intro vs W m hm0 ⟨hM, hc1, hc2⟩ hdep K hK; clear hdep; go_wp2_with fail; exact ⟨_, rfl, ⟨hM, hc1, hc2⟩, rfl, fun _ _ h => h⟩))
        (refine RGAll.plain rfl ?_ ?_; focus (intro vs W m hm0 ⟨hM, hc1, hc2⟩ hdep K hK; have e9 : vs 9 = .string ⟨#[a,b,c,d]⟩ := depOf hdep 9 (by kernel_rfl); simp only [e9] at hK ⊢; clear hdep; go_wp2_with fail; exact ⟨_, rfl, ⟨hM, hc1, hc2⟩, rfl, fun _ _ h => h⟩))
        (refine RGAll.plain rfl ?_ ?_; focus (intro vs W m hm0 ⟨hM, hc1, hc2⟩ hdep K hK; have e10 : vs 10 = .int .i64 (3 + 1) := depOf hdep 10 (by kernel_rfl); simp only [e10] at hK ⊢; clear hdep; go_wp2_with fail; exact ⟨_, rfl, ⟨hM, hc1, hc2⟩, rfl, fun _ _ h => h⟩))
        (refine RGAll.plain rfl ?_ ?_; focus (intro vs W m hm0 ⟨hM, hc1, hc2⟩ hdep K hK; have e8 : vs 8 = .string ⟨#[a,b,c,d]⟩ := depOf hdep 8 (by kernel_rfl); have e11 : vs 11 = .int .i64 3 := depOf hdep 11 (by kernel_rfl); simp only [e8, e11] at hK ⊢; clear hdep; go_wp2_with fail; exact ⟨_, rfl, ⟨hM, hc1, hc2⟩, rfl, fun _ _ h => h⟩))
        (refine RGAll.plain rfl ?_ ?_; focus (intro vs W m hm0 ⟨hM, hc1, hc2⟩ hdep K hK; have e12 : vs 12 = .int .u8 d.toNat := depOf hdep 12 (by kernel_rfl); simp only [e12] at hK ⊢; clear hdep; go_wp2_with fail; exact ⟨_, rfl, ⟨hM, hc1, hc2⟩, rfl, fun _ _ h => h⟩))
        (refine RGAll.plain rfl ?_ ?_; focus (intro vs W m hm0 ⟨hM, hc1, hc2⟩ hdep K hK; have e13 : vs 13 = .int .i64 d.toNat := depOf hdep 13 (by kernel_rfl); simp only [e13] at hK ⊢; clear hdep; go_wp2_with fail; exact ⟨_, rfl, ⟨hM, hc1, hc2⟩, rfl, fun _ _ h => h⟩))
        (refine RGAll.plain rfl ?_ ?_; focus (intro vs W m hm0 ⟨hM, hc1, hc2⟩ hdep K hK; have e2 : vs 2 = .int .i64 i0 := depOf hdep 2 (by kernel_rfl); have e7 : vs 7 = .int .i64 ((n1 : Int) - n2) := depOf hdep 7 (by kernel_rfl); have e14 : vs 14 = .int .i64 ((d.toNat : Int) - 48) := depOf hdep 14 (by kernel_rfl); simp only [e2, e7, e14] at hK ⊢; clear hdep; go_wp2_with fail; exact ⟨_, rfl, ⟨hM, hc1, hc2⟩, rfl, fun _ _ h => h⟩))
        (refine RGAll.plain rfl ?_ ?_; focus (intro vs W m hm0 ⟨hM, hc1, hc2⟩ hdep K hK; clear hdep; go_wp2_with fail; have hm : m = 0 := (by omega); subst hm; exact ⟨_, rfl, ⟨hM.trans (Mv.alloc _ _), by decide, by rw [size_alloc']; omega⟩, ⟨by rw [show W.heap.size = w.heap.size + 1 by omega], ⟨0, 0, 0⟩, by rw [← show W.heap.size = w.heap.size + 1 by omega]; exact heap_alloc_new W _⟩, JRP.mv (fun o h => below_heap (bel1 W _) h)⟩))
        (refine RGAll.plain rfl ?_ ?_; focus (intro vs W m hm0 ⟨hM, hc1, hc2⟩ hdep K hK; have e15 : vs 15 = .agg #[.int .i64 i0, .int .i64 ((n1 : Int) - n2), .int .i64 ((d.toNat : Int) - 48)] := depOf hdep 15 (by kernel_rfl); obtain ⟨e16, ⟨qs, qa, qo⟩, h2⟩ := depOf hdep 16 (by kernel_rfl); simp only [e15, e16] at hK ⊢; clear hdep; obtain ⟨_, _⟩ := blk_facts h2; go_wp2_with fail; have h3 : (((W.setCell ⟨w.heap.size + 1, 0, none⟩ (.int .i64 i0)).setCell ⟨w.heap.size + 1, 1, none⟩ (.int .i64 ((n1 : Int) - n2))).setCell ⟨w.heap.size + 1, 2, none⟩ (.int .i64 ((d.toNat : Int) - 48))).heap[w.heap.size + 1]? = some (.cells #[.int .i64 i0, .int .i64 ((n1 : Int) - n2), .int .i64 ((d.toNat : Int) - 48)] 27 (0, 0)) := (by (simp only [heap_alloc_get, heap_setCell_get, heap_drew_get, heap_drewN_get, size_alloc', size_setCell', size_drew', size_drewN', nat_simp1, nat_simp2, nat_simp3, nat_simp4, nat_simp5, if_true, if_false, Option.map_some, *]; first | done | rfl | simp)); exact ⟨undef, rfl, ⟨hM.fresh3 (by rw [size_alloc']; omega) _ _ _, hc1, by simpa [World.setCell] using hc2⟩, h3, JRP.st h3⟩))
        exact RGAll.nil
      · intro vs W ⟨hM, hc1, hc2⟩ hJ
        obtain ⟨e16, -⟩ := hJ 16 (by decide)
        have h2 : W.heap[w.heap.size + 1]? = some (.cells #[.int .i64 i0, .int .i64 ((n1 : Int) - n2), .int .i64 ((d.toNat : Int) - 48)] 27 (0, 0)) := hJ 17 (by decide)
        have h4 := hM.heap (heap_alloc_new w (.cells #[.int .i64 0, .int .i64 0, .int .i64 0] 27)) (fun h => h)
        clear hJ
        generalize vs 16 = v16 at *
        subst e16
        obtain ⟨_, _⟩ := blk_facts h2
        obtain ⟨_, _⟩ := blk_facts h4
        have hz2 : W.heap.size = w.heap.size + 2 := by omega
        have hbW := Mv.below (bel1 w _) hM (fun b h => h.elim) (by rw [size_alloc']; omega)
        go_wp2_with fail
        by_cases hE : pitT ⟨i0, (n1 : Int) - n2, (d.toNat : Int) - 48⟩ = [a,b,c,d]
        · have HE := Lib.hid (rdP_yes hE (by simp))
          have HQ := Lib.hid (fun W => c_iPitchText ⟨i0, (n1 : Int) - n2, (d.toNat : Int) - 48⟩ W)
          rw [hE] at HQ
          (go_at_call 36; (with_reducible refine (HQ.out _).mono ?_); rintro e w5 ⟨rfl, hbq⟩; have hzq := hbq.size; (try simp only [size_alloc', size_setCell', size_drew', size_drewN'] at hzq); (try (refine keep_heap (b := w.heap.size) hbq ?_ ?_; (first | omega | (simp only [size_alloc', size_setCell', size_drew', size_drewN']; omega)); intro hkq; simp only [heap_alloc_get, heap_setCell_get, heap_drew_get, heap_drewN_get, size_alloc', size_setCell', size_drew', size_drewN', nat_simp1, nat_simp2, nat_simp3, nat_simp4, nat_simp5, if_true, if_false, *] at hkq; obtain ⟨_, _⟩ := blk_facts hkq)); (try (refine keep_heap (b := w.heap.size + 1) hbq ?_ ?_; (first | omega | (simp only [size_alloc', size_setCell', size_drew', size_drewN']; omega)); intro hkq; simp only [heap_alloc_get, heap_setCell_get, heap_drew_get, heap_drewN_get, size_alloc', size_setCell', size_drew', size_drewN', nat_simp1, nat_simp2, nat_simp3, nat_simp4, nat_simp5, if_true, if_false, *] at hkq; obtain ⟨_, _⟩ := blk_facts hkq)); skip)
          go_wp2_with fail
          have h5 : (((w5.setCell ⟨w.heap.size, 0, none⟩ (.int .i64 i0)).setCell ⟨w.heap.size, 1, none⟩ (.int .i64 ((n1 : Int) - n2))).setCell ⟨w.heap.size, 2, none⟩ (.int .i64 ((d.toNat : Int) - 48))).heap[w.heap.size]? = some (.cells #[.int .i64 i0, .int .i64 ((n1 : Int) - n2), .int .i64 ((d.toNat : Int) - 48)] 27 (0, 0)) := by (simp only [heap_alloc_get, heap_setCell_get, heap_drew_get, heap_drewN_get, size_alloc', size_setCell', size_drew', size_drewN', nat_simp1, nat_simp2, nat_simp3, nat_simp4, nat_simp5, if_true, if_false, Option.map_some, *]; first | done | rfl | simp)
          obtain ⟨h6, _⟩ := blk_facts h5
          exact bodyPost_ret (v := .tuple #[.agg #[.int .i64 i0, .int .i64 ((n1 : Int) - n2), .int .i64 ((d.toNat : Int) - 48)], .bool true]) (by simp [results, Tryd.results47, go_sem, *]) rfl ⟨by rw [HE.out], by (repeat' (first | (with_reducible exact Below.refl _ _) | (with_reducible refine Below.setCell ?_ ?_ _) | (with_reducible refine Below.alloc ?_ ?_ _) | (with_reducible refine Below.drew ?_) | (with_reducible refine below_drewN ?_ _) | (with_reducible refine Below.trans ?_ (Below.mono (by with_reducible assumption) ?_)) | omega | (simp only [size_alloc', size_setCell', size_drew', size_drewN'] at *; omega)))⟩
        · have HE := Lib.hid (rdP_no (l := [a,b,c,d]) (fun p hp h => hE (by rw [← HP.out, ← h, iP_pit hp])))
          have HQ := Lib.hid (fun W => c_iPitchText ⟨i0, (n1 : Int) - n2, (d.toNat : Int) - 48⟩ W)
          generalize pitT ⟨i0, (n1 : Int) - n2, (d.toNat : Int) - 48⟩ = q at *
          have hne : (q == [a,b,c,d]) = false := beq_eq_false_iff_ne.2 hE
          (go_at_call 36; (with_reducible refine (HQ.out _).mono ?_); rintro e w5 ⟨rfl, hbq⟩; have hzq := hbq.size; (try simp only [size_alloc', size_setCell', size_drew', size_drewN'] at hzq); (try (refine keep_heap (b := w.heap.size) hbq ?_ ?_; (first | omega | (simp only [size_alloc', size_setCell', size_drew', size_drewN']; omega)); intro hkq; simp only [heap_alloc_get, heap_setCell_get, heap_drew_get, heap_drewN_get, size_alloc', size_setCell', size_drew', size_drewN', nat_simp1, nat_simp2, nat_simp3, nat_simp4, nat_simp5, if_true, if_false, *] at hkq; obtain ⟨_, _⟩ := blk_facts hkq)); (try (refine keep_heap (b := w.heap.size + 1) hbq ?_ ?_; (first | omega | (simp only [size_alloc', size_setCell', size_drew', size_drewN']; omega)); intro hkq; simp only [heap_alloc_get, heap_setCell_get, heap_drew_get, heap_drewN_get, size_alloc', size_setCell', size_drew', size_drewN', nat_simp1, nat_simp2, nat_simp3, nat_simp4, nat_simp5, if_true, if_false, *] at hkq; obtain ⟨_, _⟩ := blk_facts hkq)); skip)
          go_wp2_with fail
          have h5 : (((w5.setCell ⟨w.heap.size, 0, none⟩ (.int .i64 0)).setCell ⟨w.heap.size, 1, none⟩ (.int .i64 0)).setCell ⟨w.heap.size, 2, none⟩ (.int .i64 0)).heap[w.heap.size]? = some (.cells #[.int .i64 0, .int .i64 0, .int .i64 0] 27 (0, 0)) := by (simp only [heap_alloc_get, heap_setCell_get, heap_drew_get, heap_drewN_get, size_alloc', size_setCell', size_drew', size_drewN', nat_simp1, nat_simp2, nat_simp3, nat_simp4, nat_simp5, if_true, if_false, Option.map_some, *]; first | done | rfl | simp)
          obtain ⟨h6, _⟩ := blk_facts h5
          exact bodyPost_ret (v := .tuple #[.agg #[.int .i64 0, .int .i64 0, .int .i64 0], .bool false]) (by simp [results, Tryd.results47, go_sem, *]) rfl ⟨by rw [HE.out], by (repeat' (first | (with_reducible exact Below.refl _ _) | (with_reducible refine Below.setCell ?_ ?_ _) | (with_reducible refine Below.alloc ?_ ?_ _) | (with_reducible refine Below.drew ?_) | (with_reducible refine below_drewN ?_ _) | (with_reducible refine Below.trans ?_ (Below.mono (by with_reducible assumption) ?_)) | omega | (simp only [size_alloc', size_setCell', size_drew', size_drewN'] at *; omega)))⟩
    | [], h => exact absurd (.inl (by simp)) h
    | [_], h => exact absurd (.inl (by simp)) h
    | _ :: _ :: _ :: _ :: _ :: r, h => exact absurd (.inr (by simp only [List.length_cons]; omega)) h
end Go.Proofs.YtaikcpidijekpaaDoor
