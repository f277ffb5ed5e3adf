/- What FnReadVoice draws; its walk. Conditions: on the world: the library's variables are at hand. -/
import Derived.Test.YtaikcpidijekpaaGreatDoorUW
import Derived.Test.YtaikcpidijekpaaGreatDoorR4
import Derived.Test.YtaikcpidijekpaaGreatDoorR6
import Derived.Test.YtaikcpidijekpaaGreatDoorRG
import Derived.Test.YtaikcpidijekpaaGreatDoorRM
namespace Go.Proofs.YtaikcpidijekpaaGreatDoor
open Go.RowKit
set_option linter.unusedSimpArgs false
set_option linter.unusedVariables false
set_option maxHeartbeats 16000000
set_option maxRecDepth 100000
theorem at_strs (ls : List (List UInt8)) {W : World} {b : Nat} {T : TypeId} (h : W.heap[b]? = some (.cells (ls.map fun x => Value.string ⟨x.toArray⟩).toArray T (0, 0))) (x : Int) (h0 : 0 ≤ x) (h1 : x < ls.length) :
    ∃ y : List UInt8, W.cell? ⟨b, x.toNat, none⟩ = some (.string ⟨y.toArray⟩) ∧ y ∈ ls := by
  have hx : x.toNat < ls.length := by omega
  refine ⟨ls[x.toNat], ?_, List.getElem_mem _⟩
  rw [cell_of_row W b x.toNat _ T (0, 0) h]
  simp [hx]
def DStr (m : Nat) (w : World) (e : Ending) (w' : World) : Prop := ∃ l : List UInt8, e = .returned (.string ⟨l.toArray⟩) ∧ l.length ≤ m ∧ Below w.heap.size w w'
theorem vtx_len (ns : List Nt) : (vtx ns).length ≤ 12 * ns.length := by
  unfold vtx
  split
  · exact jn_len ns
  · simp
theorem tail_ex (l : List UInt8) (k : Nat) : (ByteArray.mk l.toArray).extract k l.length = ⟨(l.drop k).toArray⟩ := by
  rw [ByteArray.extract_mk]
  congr 1
  apply Array.ext'
  simp only [List.extract_toArray, List.extract_eq_take_drop]
  rw [List.take_of_length_le (by rw [List.length_drop]; omega)]
def strsRV (s : List UInt8) (n : Nat) : List (List UInt8) := [s ++ [32], 32 :: s, s.take n, s.take n ++ 32 :: s.drop n, [67, 52, 47, 49, 50, 126], [67, 52, 47, 49, 50, 126, 32, 68, 52, 47, 49, 50], [120]]
def JRV (B g : Nat) (s : List UInt8) (n : Nat) (i : Nat) (v : Value) (W : World) : Prop :=
  match i with
  | 0 => v = .string ⟨s.toArray⟩
  | 1 => v = .string ⟨(s ++ [32]).toArray⟩
  | 2 => v = .string ⟨s.toArray⟩
  | 3 => v = .string ⟨(32 :: s).toArray⟩
  | 4 => v = .string ⟨s.toArray⟩
  | 5 => v = .int .i64 n
  | 6 => v = .string ⟨(s.take n).toArray⟩
  | 7 => v = .string ⟨s.toArray⟩
  | 8 => v = .int .i64 n
  | 9 => v = .string ⟨(s.take n).toArray⟩
  | 10 => v = .string ⟨(s.take n ++ [32]).toArray⟩
  | 11 => v = .string ⟨s.toArray⟩
  | 12 => v = .int .i64 n
  | 13 => v = .string ⟨(s.drop n).toArray⟩
  | 14 => v = .string ⟨(s.take n ++ 32 :: s.drop n).toArray⟩
  | 15 => ∃ b, v = .slice (some ⟨b, 0, none⟩) 7 7 ∧ B ≤ b ∧ W.heap[b]? = some (.cells ((strsRV s n).map fun x => Value.string ⟨x.toArray⟩).toArray 9 (0, 0))
  | 16 => v = .pointer (some ⟨g, 0, none⟩)
  | 17 => IntIn (fun x => 0 ≤ x ∧ x < 7) v
  | 18 => ∃ (b k : Nat) (y : List UInt8), v = .pointer (some ⟨b, k, none⟩) ∧ B ≤ b ∧ W.cell? ⟨b, k, none⟩ = some (.string ⟨y.toArray⟩) ∧ y.length ≤ 1000
  | 19 => ∃ y : List UInt8, v = .string ⟨y.toArray⟩ ∧ y.length ≤ 1000
  | 20 => ∃ y : List UInt8, v = .string ⟨y.toArray⟩ ∧ y.length ≤ 1000
  | _ => True
theorem JRV.mv {B g n : Nat} {s : List UInt8} {X : Nat → Prop} {W W' : World} (hm : Mv X W W') (hX : ∀ b, X b → b < B) : ∀ j u, JRV B g s n j u W → JRV B g s n j u W' := by
  intro j u h
  unfold JRV at *
  split at h
  case h_16 =>
    obtain ⟨b, h1, h2, h3⟩ := h
    exact ⟨b, h1, h2, hm.heap h3 (fun hx => by have := hX b hx; omega)⟩
  case h_19 =>
    obtain ⟨b, k, y, h1, h2, h3, h4⟩ := h
    exact ⟨b, k, y, h1, h2, hm.cell h3 (fun hx => by have := hX b hx; omega), h4⟩
  all_goals exact h
theorem strsRV_len (s : List UInt8) (n : Nat) (hs : s.length ≤ 900) : ∀ y ∈ strsRV s n, y.length ≤ 1000 := by
  intro y hy
  unfold strsRV at hy
  simp only [List.mem_cons, List.not_mem_nil, or_false] at hy
  rcases hy with rfl | rfl | rfl | rfl | rfl | rfl | rfl <;> simp <;> omega
theorem c_DrawReadVoice (v : Value) (bs : List Int) (w : World) (h : Rd w v 1 bs.length (byteCells bs)) (hb : ∀ x ∈ bs, 0 ≤ x ∧ x ≤ 255) :
    Calls Tryz.prog 4 #[v] w (DStr 1000 w) := by
  go_enter Tryz.func4, Tryz.ntmps4
  go_wp2_with fail
  (go_at_call 11; (with_reducible refine (c_open _ _ _ h hb).mono ?_); rintro e w1 ⟨g, rfl, hg, hr1, hbq⟩)
  have hr2 := hr1.mono (m' := 3 + 200) (by omega)
  have hz1 := hbq.size
  clear hr1
  go_wp2_with fail
  (go_at_call 13; (with_reducible refine (c_l20Voice g 3 0 _ hr2 (by omega) (by omega)).mono ?_); rintro e w2 ⟨v2, ns, rfl, hov, hl2, hsm, hrq, hgq⟩)
  have HB2 := Lib.hid (show Below w.heap.size w w2 from below_of_kp hbq hgq hg hz1)
  have hg2 := hrq.lt
  have HR2 := Lib.hid (Rd.of_own hov)
  have hslen := vtx_len ns
  clear hsm hgq hbq hov
  go_wp2_with fail
  (go_at_call 12; (with_reducible refine (c_sVoiceText _ ns _ HR2.out).mono ?_); rintro e w3 ⟨rfl, hb3⟩)
  generalize vtx ns = s at *
  have hs : s.length ≤ 900 := by omega
  have hr3 : Rdr w3 g (2 + 1) := (hrq.below hb3 hg2)
  have HB3 := Lib.hid (HB2.out.trans (hb3.mono HB2.out.size))
  have hz3 := HB3.out.size
  clear hrq hb3
  go_wp2_with fail
  (go_at_call 14; (with_reducible refine (c_odd g 2 4 _ hr3 (by omega) (by omega)).mono ?_); rintro e w4 ⟨b4, rfl, hrq, hgq⟩)
  have HB4 := Lib.hid (show Below w.heap.size w w4 from below_of_kp HB3.out hgq hg hz3)
  have hr4 : Rdr w4 g (1 + 1) := hrq
  have hz4 := HB4.out.size
  clear hrq hgq
  cases b4
  · go_wp2_with fail
    go_ret
    exact ⟨s, rfl, by omega, HB4.out⟩
  · go_wp2_with fail
    (go_at_call 15; (with_reducible refine (c_pick g (1) _ _ ?_ (by omega) (by omega)).mono ?_); (focus (repeat' (first | (with_reducible assumption) | (with_reducible refine Rdr.alloc ?_ _) | (with_reducible refine Rdr.setCell ?_ ?_ _) | (with_reducible refine Rdr.drewN ?_ _) | (with_reducible refine Rdr.drew ?_) | (show _ < _; first | omega | (simp only [size_alloc', size_setCell', size_drew', size_drewN'] at *; omega))))); rintro e w5 ⟨x5, rfl, hx5, hy5, hz5, hrq, hgq⟩; have hsq := hgq.size; (try simp only [size_alloc', size_setCell', size_drew', size_drewN'] at hsq); skip)
    have HB5 := Lib.hid (show Below w.heap.size w w5 from below_of_kp HB4.out hgq hg hz4)
    have hr5 : Rdr w5 g (0 + 1) := hrq
    have hz5w := HB5.out.size
    have hg5 := hr5.lt
    clear hrq hgq
    obtain ⟨n, rfl, hn⟩ : ∃ n : Nat, x5 = (n : Int) ∧ n ≤ s.length := ⟨x5.toNat, by omega, by omega⟩
    have hn' : (n : Int) ≤ (s.length : Int) := by omega
    clear hy5
    have htl : (s.take n).length ≤ 900 := by rw [List.length_take]; omega
    have hdl : (s.drop n).length ≤ 900 := by rw [List.length_drop]; omega
    have ha1 := fun W => run_add_snoc (P := Tryz.prog) s 32 (by omega) W
    have ha3 : ∀ W, (Op.stringOp .add ⟨#[32]⟩ ⟨s.toArray⟩).run Tryz.prog W = .ok (.string ⟨(32 :: s).toArray⟩) W := fun W => run_string_add_lists (P := Tryz.prog) W [32] s (by simp) (by omega)
    have ha4 := fun W => run_add_snoc (P := Tryz.prog) (s.take n) 32 (by omega) W
    have ha5 := fun W => run_string_add_lists (P := Tryz.prog) W (s.take n ++ [32]) (s.drop n) (by simp only [List.length_append, List.length_cons, List.length_nil]; omega) (by omega)
    have hex := head_ex s n
    have hex2 := tail_ex s n
    have HS := Lib.hid (fun (W W' : World) (hm : Mv (· = g) W W') => JRV.mv (B := w5.heap.size) (g := g) (s := s) (n := n) hm (fun b hb => by rw [hb]; exact hg5))
    have HLN := Lib.hid (strsRV_len s n hs)
    go_upto_region 5 with fail
    refine wp_region_rg ?F (fun c W => Rdr W g c ∧ Mv (· = g) w5 W) (JRV w5.heap.size g s n) (fun i => match i with | 17 => 1 | _ => 0) (fun _ => false) 0 ?hF (by kernel_rfl) (by kernel_rfl) (by kernel_rfl) (by kernel_rfl) ?_ ?_ ?_
    case hF =>
      intro vs
      simp [fillA, Act.put]
      rfl
    · exact ⟨hr5.drew, Mv.drew _⟩
    · (refine RGAll.plain rfl ?_ ?_; focus (intro vs W m hm0 ⟨hR, hM⟩ hdep K hK; clear hdep; go_wp2_with fail; exact ⟨_, rfl, ⟨hR, hM⟩, rfl, fun _ _ h => h⟩))
      (refine RGAll.plain rfl ?_ ?_; focus (intro vs W m hm0 ⟨hR, hM⟩ hdep K hK; have e0 : vs 0 = .string ⟨s.toArray⟩ := depOf hdep 0 (by kernel_rfl); simp only [e0] at hK ⊢; clear hdep; go_wp2_with fail; exact ⟨_, rfl, ⟨hR, hM⟩, rfl, fun _ _ h => h⟩))
      (refine RGAll.plain rfl ?_ ?_; focus (intro vs W m hm0 ⟨hR, hM⟩ hdep K hK; clear hdep; go_wp2_with fail; exact ⟨_, rfl, ⟨hR, hM⟩, rfl, fun _ _ h => h⟩))
      (refine RGAll.plain rfl ?_ ?_; focus (intro vs W m hm0 ⟨hR, hM⟩ hdep K hK; have e2 : vs 2 = .string ⟨s.toArray⟩ := depOf hdep 2 (by kernel_rfl); simp only [e2] at hK ⊢; clear hdep; go_wp2_with fail; exact ⟨_, rfl, ⟨hR, hM⟩, rfl, fun _ _ h => h⟩))
      (refine RGAll.plain rfl ?_ ?_; focus (intro vs W m hm0 ⟨hR, hM⟩ hdep K hK; clear hdep; go_wp2_with fail; exact ⟨_, rfl, ⟨hR, hM⟩, rfl, fun _ _ h => h⟩))
      (refine RGAll.plain rfl ?_ ?_; focus (intro vs W m hm0 ⟨hR, hM⟩ hdep K hK; clear hdep; go_wp2_with fail; exact ⟨_, rfl, ⟨hR, hM⟩, rfl, fun _ _ h => h⟩))
      (refine RGAll.plain rfl ?_ ?_; focus (intro vs W m hm0 ⟨hR, hM⟩ hdep K hK; have e4 : vs 4 = .string ⟨s.toArray⟩ := depOf hdep 4 (by kernel_rfl); have e5 : vs 5 = .int .i64 n := depOf hdep 5 (by kernel_rfl); simp only [e4, e5] at hK ⊢; clear hdep; go_wp2_with fail; exact ⟨_, rfl, ⟨hR, hM⟩, rfl, fun _ _ h => h⟩))
      (refine RGAll.plain rfl ?_ ?_; focus (intro vs W m hm0 ⟨hR, hM⟩ hdep K hK; clear hdep; go_wp2_with fail; exact ⟨_, rfl, ⟨hR, hM⟩, rfl, fun _ _ h => h⟩))
      (refine RGAll.plain rfl ?_ ?_; focus (intro vs W m hm0 ⟨hR, hM⟩ hdep K hK; clear hdep; go_wp2_with fail; exact ⟨_, rfl, ⟨hR, hM⟩, rfl, fun _ _ h => h⟩))
      (refine RGAll.plain rfl ?_ ?_; focus (intro vs W m hm0 ⟨hR, hM⟩ hdep K hK; have e7 : vs 7 = .string ⟨s.toArray⟩ := depOf hdep 7 (by kernel_rfl); have e8 : vs 8 = .int .i64 n := depOf hdep 8 (by kernel_rfl); simp only [e7, e8] at hK ⊢; clear hdep; go_wp2_with fail; exact ⟨_, rfl, ⟨hR, hM⟩, rfl, fun _ _ h => h⟩))
      (refine RGAll.plain rfl ?_ ?_; focus (intro vs W m hm0 ⟨hR, hM⟩ hdep K hK; have e9 : vs 9 = .string ⟨(s.take n).toArray⟩ := depOf hdep 9 (by kernel_rfl); simp only [e9] at hK ⊢; clear hdep; go_wp2_with fail; exact ⟨_, rfl, ⟨hR, hM⟩, rfl, fun _ _ h => h⟩))
      (refine RGAll.plain rfl ?_ ?_; focus (intro vs W m hm0 ⟨hR, hM⟩ hdep K hK; clear hdep; go_wp2_with fail; exact ⟨_, rfl, ⟨hR, hM⟩, rfl, fun _ _ h => h⟩))
      (refine RGAll.plain rfl ?_ ?_; focus (intro vs W m hm0 ⟨hR, hM⟩ hdep K hK; clear hdep; go_wp2_with fail; exact ⟨_, rfl, ⟨hR, hM⟩, rfl, fun _ _ h => h⟩))
      (refine RGAll.plain rfl ?_ ?_; focus (intro vs W m hm0 ⟨hR, hM⟩ hdep K hK; have e11 : vs 11 = .string ⟨s.toArray⟩ := depOf hdep 11 (by kernel_rfl); have e12 : vs 12 = .int .i64 n := depOf hdep 12 (by kernel_rfl); simp only [e11, e12] at hK ⊢; clear hdep; go_wp2_with fail; exact ⟨_, rfl, ⟨hR, hM⟩, rfl, fun _ _ h => h⟩))
      (refine RGAll.plain rfl ?_ ?_; focus (intro vs W m hm0 ⟨hR, hM⟩ hdep K hK; have e10 : vs 10 = .string ⟨(s.take n ++ [32]).toArray⟩ := depOf hdep 10 (by kernel_rfl); have e13 : vs 13 = .string ⟨(s.drop n).toArray⟩ := depOf hdep 13 (by kernel_rfl); simp only [e10, e13] at hK ⊢; clear hdep; go_wp2_with fail; exact ⟨_, rfl, ⟨hR, hM⟩, rfl, fun _ _ h => h⟩))
      (refine RGAll.plain rfl ?_ ?_; focus (intro vs W m hm0 ⟨hR, hM⟩ hdep K hK; have e1 : vs 1 = .string ⟨(s ++ [32]).toArray⟩ := depOf hdep 1 (by kernel_rfl); have e3 : vs 3 = .string ⟨(32 :: s).toArray⟩ := depOf hdep 3 (by kernel_rfl); have e6 : vs 6 = .string ⟨(s.take n).toArray⟩ := depOf hdep 6 (by kernel_rfl); have e14 : vs 14 = .string ⟨(s.take n ++ 32 :: s.drop n).toArray⟩ := depOf hdep 14 (by kernel_rfl); simp only [e1, e3, e6, e14] at hK ⊢; clear hdep; go_wp2_with fail; exact ⟨_, rfl, ⟨hR.alloc _, hM.trans (Mv.alloc _ _)⟩, ⟨_, rfl, hM.size, heap_alloc_new W _⟩, HS.out _ _ (Mv.alloc _ _)⟩))
      (refine RGAll.plain rfl ?_ ?_; focus (intro vs W m hm0 ⟨hR, hM⟩ hdep K hK; clear hdep; go_wp2_with fail; exact ⟨_, rfl, ⟨hR, hM⟩, rfl, fun _ _ h => h⟩))
      (refine RGAll.plain rfl ?_ ?_; focus (intro vs W m hm0 ⟨hR, hM⟩ hdep K hK; have e16 : vs 16 = .pointer (some ⟨g, 0, none⟩) := depOf hdep 16 (by kernel_rfl); simp only [e16] at hK ⊢; clear hdep; have hR' : Rdr W g (m + 1) := hR; go_wp2_with fail; (go_at_call 15; (with_reducible refine (c_pick g (m) _ _ ?_ (by omega) (by omega)).mono ?_); (focus (repeat' (first | (with_reducible assumption) | (with_reducible refine Rdr.alloc ?_ _) | (with_reducible refine Rdr.setCell ?_ ?_ _) | (with_reducible refine Rdr.drewN ?_ _) | (with_reducible refine Rdr.drew ?_) | (show _ < _; first | omega | (simp only [size_alloc', size_setCell', size_drew', size_drewN'] at *; omega))))); rintro e w7 ⟨x7, rfl, hx7, hy7, hz7, hrq, hgq⟩; have hsq := hgq.size; (try simp only [size_alloc', size_setCell', size_drew', size_drewN'] at hsq); skip); go_wp2_with fail; exact ⟨_, rfl, ⟨hrq, hM.trans (Mv.of_kp hgq)⟩, ⟨x7, rfl, hx7, hy7 (by omega)⟩, HS.out _ _ (Mv.of_kp hgq)⟩))
      (refine RGAll.plain rfl ?_ ?_; focus (intro vs W m hm0 ⟨hR, hM⟩ hdep K hK; obtain ⟨b, e15, h1, h2⟩ := depOf hdep 15 (by kernel_rfl); obtain ⟨x, e17, h3, h4⟩ := depOf hdep 17 (by kernel_rfl); simp only [e15, e17] at hK ⊢; clear hdep; obtain ⟨y, hc, hy⟩ := at_strs _ h2 x h3 (by exact h4); go_wp2_with fail; exact ⟨_, rfl, ⟨hR, hM⟩, ⟨b, x.toNat, y, rfl, h1, hc, HLN.out y hy⟩, fun _ _ h => h⟩))
      (refine RGAll.plain rfl ?_ ?_; focus (intro vs W m hm0 ⟨hR, hM⟩ hdep K hK; obtain ⟨b, k, y, e18, h1, h2, h3⟩ := depOf hdep 18 (by kernel_rfl); simp only [e18] at hK ⊢; clear hdep; go_wp2_with fail; exact ⟨_, rfl, ⟨hR, hM⟩, ⟨y, rfl, h3⟩, fun _ _ h => h⟩))
      (refine RGAll.plain rfl ?_ ?_; focus (intro vs W m hm0 ⟨hR, hM⟩ hdep K hK; obtain ⟨y, e19, h1⟩ := depOf hdep 19 (by kernel_rfl); simp only [e19] at hK ⊢; clear hdep; go_wp2_with fail; exact ⟨_, rfl, ⟨hR, hM⟩, ⟨y, rfl, h1⟩, fun _ _ h => h⟩))
      exact RGAll.nil
    · intro vs W ⟨hR, hM⟩ hJ
      obtain ⟨y, e20, h1⟩ := hJ 20 (by decide)
      clear hJ
      generalize vs 20 = v20 at *
      subst e20
      have HBW := Lib.hid (below_of_kp HB5.out hM.to_kp hg hz5w)
      go_wp2_with fail
      go_ret
      exact ⟨y, rfl, h1, HBW.out⟩
theorem walk_FnReadVoice (w : World) (v : Value) (bs : List Int) (h : Rd w v 1 bs.length (byteCells bs)) (hb : ∀ x ∈ bs, 0 ≤ x ∧ x ≤ 255) (hw : Wd w) :
    Calls Tryz.prog 3 #[v] w fun e w' => e = .returned (.bool true) ∧ Below w.heap.size w w' := by
  have h' := Lib.hid h
  have HW := Lib.hid (fun w' (h : Below w.heap.size w w') => hw.bel h)
  clear hw
  obtain ⟨_, A, c0, rfl, hnc, hcm, hA⟩ := h
  unfold maxLen at hcm
  clear hA
  by_cases hlen : bs.length ≤ 1048576
  · go_enter Tryz.func3, Tryz.ntmps3
    go_wp2_with fail
    (go_at_call 4; (with_reducible refine (c_DrawReadVoice _ bs _ h'.out hb).mono ?_); rintro e w1 ⟨l, rfl, hl, hb1⟩)
    have S := hb1
    clear hb1
    have HS := Lib.hid (fun W => c_sReadVoice l W (by omega))
    have HI := Lib.hid (fun W h => c_iReadVoice l W (by omega) h)
    have HBad := Lib.hid (fun h : (rdV l).2 = false => rdV_bad h)
    have HOK := Lib.hid (fun h : (rdV l).2 = true => rdV_ok h)
    generalize rdV l = rv at *
    obtain ⟨L, ok⟩ := rv
    go_wp2_with fail
    (go_at_call 5; (with_reducible refine (HI.out _ (HW.out _ S)).mono ?_); rintro e w2 ⟨v2, rfl, ho2, hl2, hb2⟩)
    dsimp only at ho2 hl2
    have S := S.trans (hb2.mono S.size)
    have HR2 := Lib.hid (Rd.of_own ho2)
    clear ho2
    go_wp2_with fail
    (go_at_call 6; (with_reducible refine (HS.out _).mono ?_); rintro e w3 ⟨v3, rfl, ho3, hl3, hb3⟩)
    dsimp only at ho3 hl3
    have S := S.trans (hb3.mono S.size)
    have HR3 := Lib.hid (HR2.out.below (Nat.le_refl _) hb3)
    have HX3 := Lib.hid (Rd.of_own ho3)
    clear ho3
    go_wp2_with fail
    (go_at_call 7; (with_reducible refine (c_sameVoice_eq _ _ L _ HR3.out HX3.out).mono ?_); rintro e w4 ⟨rfl, hb4⟩)
    have S := S.trans (hb4.mono S.size)
    have HR4 := Lib.hid (HR3.out.below (Nat.le_refl _) hb4)
    cases ok
    · have hbd := HBad.out rfl
      simp only [Prod.mk.injEq, and_true] at hbd
      subst hbd
      obtain ⟨_, A4, c4, rfl, -, -, -⟩ := HR4.out
      go_wp2_with fail
      (go_at_call 8; (with_reducible refine (c_alive _).mono ?_); rintro e w5 ⟨rfl, hb5⟩)
      have S := S.trans (hb5.mono S.size)
      go_wp2_with fail
      go_ret
      exact ⟨rfl, S⟩
    · obtain ⟨hvv, hjn⟩ := HOK.out rfl
      have HVV := Lib.hid hvv
      have HT := Lib.hid (show vtx L = l by rw [vtx_jn hvv]; exact hjn)
      have HRI := Lib.hid (fun W h => c_iReadVoice (32 :: l) W (by simp only [List.length_cons]; omega) h)
      have HSP := Lib.hid (rdV_space l)
      generalize rdV (32 :: l) = rq at *
      obtain ⟨Q, okq⟩ := rq
      obtain rfl : okq = false := HSP.out
      have ha3 : ∀ W, (Op.stringOp .add ⟨#[32]⟩ ⟨l.toArray⟩).run Tryz.prog W = .ok (.string ⟨(32 :: l).toArray⟩) W := fun W => run_string_add_lists (P := Tryz.prog) W [32] l (by simp) (by omega)
      clear hvv hjn
      go_wp2_with fail
      (go_at_call 5; (with_reducible refine (HRI.out _ (HW.out _ S)).mono ?_); rintro e w5 ⟨v5, rfl, ho5, hl5, hb5⟩)
      have S := S.trans (hb5.mono S.size)
      have HR5 := Lib.hid (HR4.out.below (Nat.le_refl _) hb5)
      clear ho5 hl5
      go_wp2_with fail
      (go_at_call 9; (with_reducible refine (c_iVoiceText _ L _ HR5.out (HW.out _ S).tab).mono ?_); rintro e w6 ⟨rfl, hb6⟩)
      have S := S.trans (hb6.mono S.size)
      have HR6 := Lib.hid (HR5.out.below (Nat.le_refl _) hb6)
      rw [HT.out]
      go_wp2_with fail
      (go_at_call 10; (with_reducible refine (c_VoiceValid _ L _ HR6.out).mono ?_); rintro e w7 ⟨rfl, hb7⟩)
      have S := S.trans (hb7.mono S.size)
      rw [HVV.out]
      go_wp2_with fail
      go_ret
      exact ⟨rfl, S⟩
  · go_enter Tryz.func3, Tryz.ntmps3
    go_wp2_with fail
    go_ret
    exact ⟨rfl, Below.refl _ _⟩
end Go.Proofs.YtaikcpidijekpaaGreatDoor
