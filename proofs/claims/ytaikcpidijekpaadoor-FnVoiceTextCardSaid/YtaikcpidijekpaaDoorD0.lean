/- The reader of codes (spec.l20Rd): opening and picking. Conditions: none; at most 1,000,000 picks from one reader (every drawing function stays far below). -/
import Derived.Test.YtaikcpidijekpaaDoorB1
namespace Go.Proofs.YtaikcpidijekpaaDoor
open Go.RowKit
set_option linter.unusedSimpArgs false
set_option linter.unusedVariables false
set_option maxHeartbeats 1000000

/-- Block g is a reader with at least m picks left. -/
def Rdr (w : World) (g m : Nat) : Prop :=
  ∃ (A : Option Addr) (n c p : Nat) (bs : List Int), w.heap[g]? = some (.cells #[.slice A n c, .int .i64 p] 82 (0, 0)) ∧ bs.length = n ∧ n ≤ 2000 ∧ p + m ≤ 1000000 ∧ (∀ x ∈ bs, 0 ≤ x ∧ x ≤ 255) ∧
    (0 < n → ∃ b off, A = some ⟨b, off, none⟩ ∧ b < g ∧ ∀ j (hj : j < bs.length), w.cell? ⟨b, off + j, none⟩ = some (.int .u8 bs[j]))

theorem Rdr.lt {w : World} {g m : Nat} (h : Rdr w g m) : g < w.heap.size := by
  obtain ⟨A, n, c, p, bs, hg, _⟩ := h
  exact (Array.getElem?_eq_some_iff.1 hg).1
theorem Rdr.mono {w : World} {g m m' : Nat} (h : Rdr w g m) (hm : m' ≤ m) : Rdr w g m' := by
  obtain ⟨A, n, c, p, bs, hg, hn, h1, h2, h3, h4⟩ := h
  exact ⟨A, n, c, p, bs, hg, hn, h1, by omega, h3, h4⟩
theorem Rdr.keep {w w' : World} {g m : Nat} (h : Rdr w g m) (hk : ∀ k, k ≤ g → w'.heap[k]? = w.heap[k]?) : Rdr w' g m := by
  obtain ⟨A, n, c, p, bs, hg, hn, h1, h2, h3, h4⟩ := h
  refine ⟨A, n, c, p, bs, (hk g (Nat.le_refl _)).trans hg, hn, h1, h2, h3, fun h0 => ?_⟩
  obtain ⟨b, off, hA, hb, hc⟩ := h4 h0
  exact ⟨b, off, hA, hb, fun j hj => (World.cell?_of_block (w := w) (hk b (by omega))).trans (hc j hj)⟩
theorem Rdr.below {w w' : World} {g m B : Nat} (h : Rdr w g m) (hb : Below B w w') (hB : g < B) : Rdr w' g m := h.keep fun k hk => hb.block k (by omega)
theorem Rdr.alloc {w : World} {g m : Nat} (h : Rdr w g m) (o : Obj) : Rdr (w.alloc o) g m := h.below (bel1 w o) h.lt
theorem Rdr.setCell {w : World} {g m : Nat} (h : Rdr w g m) {p : Addr} (hp : g < p.block) (u : Value) : Rdr (w.setCell p u) g m :=
  h.keep fun k hk => Below.heap_setCell w p u k (by omega)
theorem Rdr.drew {w : World} {g m : Nat} (h : Rdr w g m) : Rdr w.drew g m := h
theorem Rdr.drewN {w : World} {g m : Nat} (h : Rdr w g m) (k : Nat) : Rdr (w.drewN k) g m := h

theorem keep_heap_g {g b : Nat} {W w1 : World} {G : Prop} (hg : W.grownBy w1 (some g)) (h : b < W.heap.size) (hne : b ≠ g) (k : w1.heap[b]? = W.heap[b]? → G) : G :=
  k (hg.block b h (by simpa using hne))
section
variable {g : Nat} {a w w' : World}
theorem kp_alloc (h : a.grownBy w (some g)) (o : Obj) : a.grownBy (w.alloc o) (some g) :=
  ⟨h.os, h.tape, h.output, Nat.le_trans h.size (by simp), fun i hi hne => (Below.heap_alloc w o i (Nat.lt_of_lt_of_le hi h.size)).trans (h.block i hi hne)⟩
theorem kp_setCell (h : a.grownBy w (some g)) {p : Addr} (hp : p.block = g ∨ a.heap.size ≤ p.block) (u : Value) : a.grownBy (w.setCell p u) (some g) :=
  ⟨h.os, h.tape, h.output, by simpa [World.setCell] using h.size, fun i hi hne => (Below.heap_setCell w p u i (by
    rintro rfl
    rcases hp with hp | hp
    · exact hne (by rw [hp])
    · omega)).trans (h.block i hi hne)⟩
theorem kp_drew (h : a.grownBy w (some g)) : a.grownBy w.drew (some g) := ⟨h.os, h.tape, h.output, h.size, h.block⟩
theorem kp_drewN (h : a.grownBy w (some g)) (n : Nat) : a.grownBy (w.drewN n) (some g) := ⟨h.os, h.tape, h.output, h.size, h.block⟩
theorem kp_trans (h : a.grownBy w (some g)) (k : w.grownBy w' (some g)) : a.grownBy w' (some g) :=
  ⟨k.os.trans h.os, k.tape.trans h.tape, k.output.trans h.output, Nat.le_trans h.size k.size, fun i hi hne => (k.block i (Nat.lt_of_lt_of_le hi h.size) hne).trans (h.block i hi hne)⟩
theorem kp_below (h : a.grownBy w (some g)) (k : Below w.heap.size w w') : a.grownBy w' (some g) :=
  ⟨k.os.trans h.os, k.tape.trans h.tape, k.output.trans h.output, Nat.le_trans h.size k.size, fun i hi hne => (k.block i (Nat.lt_of_lt_of_le hi h.size)).trans (h.block i hi hne)⟩
/-- A reader of one's own: nothing that was there has turned. -/
theorem below_of_kp {B : Nat} (hb : Below B a w) (k : w.grownBy w' (some g)) (hg : B ≤ g) (hB : B ≤ w.heap.size) : Below B a w' :=
  hb.trans ⟨k.os, k.tape, k.output, k.size, fun i hi => k.block i (by omega) (by simp; omega)⟩
end
/-- A number out of a short list. -/
theorem at_list (l : List Int) {W : World} {b : Nat} {T : TypeId} (h : W.heap[b]? = some (.cells (l.map (Value.int .i64)).toArray T (0, 0))) (x : Int) (h0 : 0 ≤ x) (h1 : x < l.length) :
    ∃ y, W.cell? ⟨b, x.toNat, none⟩ = some (.int .i64 y) ∧ y ∈ l := by
  have hx : x.toNat < l.length := by omega
  refine ⟨l[x.toNat], ?_, List.getElem_mem _⟩
  rw [cell_of_row W b x.toNat _ T (0, 0) h]
  simp [hx]

theorem ofInt_i64 (a : Nat) (ha : a < 9223372036854775808) : (BitVec.ofInt 64 (a : Int)).toNat = a := by
  rw [BitVec.ofInt_natCast, BitVec.toNat_ofNat]; exact Nat.mod_eq_of_lt (by omega)
theorem i64_xor_nat (a b : Nat) (ha : a < 9223372036854775808) (hb : b < 9223372036854775808) : bits .xor .i64 (a : Int) (b : Int) = ((a ^^^ b : Nat) : Int) := by
  have hx : a ^^^ b < 2 ^ 63 := Nat.xor_lt_two_pow (by omega) (by omega)
  show IntKind.i64.wrap ((BitVec.ofInt 64 (a : Int) ^^^ BitVec.ofInt 64 (b : Int)).toNat : Int) = _
  rw [BitVec.toNat_xor, ofInt_i64 a ha, ofInt_i64 b hb, IntKind.wrap_i64]
  omega
theorem xor_nonneg (a b : Int) (ha : 0 ≤ a) (ha' : a < 1000000000000) (hb : 0 ≤ b) (hb' : b < 1000000000000) : 0 ≤ bits .xor .i64 a b ∧ bits .xor .i64 a b ≤ 9223372036854775807 := by
  obtain ⟨x, rfl⟩ := Int.eq_ofNat_of_zero_le ha
  obtain ⟨y, rfl⟩ := Int.eq_ofNat_of_zero_le hb
  have hx : x ^^^ y < 2 ^ 63 := Nat.xor_lt_two_pow (by omega) (by omega)
  rw [i64_xor_nat x y (by omega) (by omega)]
  omega

/-- What a pick leaves. -/
def Picked (g m : Nat) (n : Int) (w : World) (e : Ending) (w' : World) : Prop :=
  ∃ x : Int, e = .returned (.int .i64 x) ∧ 0 ≤ x ∧ (1 ≤ n → x < n) ∧ (n < 1 → x = 0) ∧ Rdr w' g m ∧ w.grownBy w' (some g)

theorem mod_bd (x n : Int) (h : 0 ≤ x) (hn : 1 ≤ n) : 0 ≤ x % n ∧ x % n < n := ⟨Int.emod_nonneg _ (by omega), Int.emod_lt_of_pos _ (by omega)⟩

theorem picked_of {g m : Nat} {n x : Int} {w w1 : World} {A : Option Addr} {k c P : Nat} {bs : List Int}
    (hw : w1 = w.setCell ⟨g, 1, none⟩ (.int .i64 ((P : Int) + 1))) (hg : w.heap[g]? = some (.cells #[.slice A k c, .int .i64 P] 82 (0, 0))) (hn : bs.length = k) (h1 : k ≤ 2000) (h2 : P + (m + 1) ≤ 1000000)
    (h3 : ∀ x ∈ bs, 0 ≤ x ∧ x ≤ 255) (h4 : 0 < k → ∃ b off, A = some ⟨b, off, none⟩ ∧ b < g ∧ ∀ j (hj : j < bs.length), w.cell? ⟨b, off + j, none⟩ = some (.int .u8 bs[j]))
    (hx0 : 0 ≤ x) (hx1 : 1 ≤ n → x < n) (hx2 : n < 1 → x = 0) (nq : Nat) : Picked g m n w (.returned (.int .i64 x)) (w1.drewN nq) := by
  subst hw
  refine ⟨x, rfl, hx0, hx1, hx2, ⟨A, k, c, P + 1, bs, ?_, hn, h1, by omega, h3, fun h0 => ?_⟩, ⟨rfl, rfl, rfl, by simp [World.setCell], fun j _ hj => ?_⟩⟩
  · simp [heap_drewN_get, heap_setCell_get, hg]
  · obtain ⟨b, off, hA, hb, hc⟩ := h4 h0
    refine ⟨b, off, hA, hb, fun j hj => ?_⟩
    rw [show ((w.setCell ⟨g, 1, none⟩ (.int .i64 ((P : Int) + 1))).drewN nq).cell? ⟨b, off + j, none⟩ = (w.setCell ⟨g, 1, none⟩ (.int .i64 ((P : Int) + 1))).cell? ⟨b, off + j, none⟩ from rfl,
      World.cell?_of_block (w := w) (Below.heap_setCell w ⟨g, 1, none⟩ _ b (by show b ≠ g; omega))]
    exact hc j hj
  · show ((w.setCell ⟨g, 1, none⟩ (.int .i64 ((P : Int) + 1))).heap[j]? = _)
    exact Below.heap_setCell w ⟨g, 1, none⟩ _ j (fun e => hj (by rw [e]))

theorem c_pick (g m : Nat) (n : Int) (w : World) (h : Rdr w g (m + 1)) (hn : n ≤ 1000000) (hn' : -1000000 ≤ n) :
    Calls Tryd.prog 40 #[.pointer (some ⟨g, 0, none⟩), .int .i64 n] w (Picked g m n w) := by
  obtain ⟨A, k, c, P, bs, hg, hk, h1, h2, h3, h4⟩ := h
  obtain ⟨hc, hf⟩ := blk_facts hg
  have hH := Lib.hid hg
  have hK := Lib.hid hk
  have hfin := Lib.hid (fun x hx0 hx1 hx2 nq => picked_of (g := g) (m := m) (n := n) (x := x) (w := w) rfl hg hk h1 h2 h3 h4 hx0 hx1 hx2 nq)
  clear hg
  by_cases hn1 : n < 1
  · clear hk h4
    go_enter Tryd.func40, Tryd.ntmps40
    go_wp2
    go_ret
    exact hfin.out 0 (by omega) (by omega) (by omega) 0
  · by_cases hk0 : k = 0
    · subst hk0
      clear hk h4
      go_enter Tryd.func40, Tryd.ntmps40
      go_wp2
      go_ret
      exact hfin.out 0 (by omega) (by omega) (by omega) 0
    · obtain ⟨b, off, rfl, hb, hcell⟩ := h4 (by omega)
      clear hk h4
      by_cases hP : P < k
      · have c0 := hcell P (by have := hK.out; omega)
        have r0 := h3 _ (List.getElem_mem (l := bs) (n := P) (by have := hK.out; omega))
        obtain ⟨y, hy⟩ : ∃ y, bs[P]'(by have := hK.out; omega) = y := ⟨_, rfl⟩
        rw [hy] at c0 r0
        clear hcell hy
        go_enter Tryd.func40, Tryd.ntmps40
        go_wp2
        go_ret
        have hmb := mod_bd y n r0.1 (by omega)
        exact hfin.out _ hmb.1 (fun _ => hmb.2) (by omega) 0
      · have hkP : 0 < k := by omega
        have m1 : P % k < k := Nat.mod_lt _ hkP
        have m2 : (P * 7 + 3) % k < k := Nat.mod_lt _ hkP
        have c1 := hcell (P % k) (by have := hK.out; omega)
        have c2 := hcell ((P * 7 + 3) % k) (by have := hK.out; omega)
        have r1 := h3 _ (List.getElem_mem (l := bs) (n := P % k) (by have := hK.out; omega))
        have r2 := h3 _ (List.getElem_mem (l := bs) (n := (P * 7 + 3) % k) (by have := hK.out; omega))
        generalize bs[P % k]'_ = y1 at c1 r1
        generalize bs[(P * 7 + 3) % k]'_ = y2 at c2 r2
        have hP2 : P ≤ 1000000 := by omega
        have hdv : 0 ≤ (P : Int) / (k : Int) ∧ (P : Int) / (k : Int) ≤ P := ⟨Int.ediv_nonneg (by omega) (by omega), Int.ediv_le_self _ (by omega)⟩
        have i1 := Int.emod_nonneg (P : Int) (show (k : Int) ≠ 0 by omega)
        have i2 := Int.emod_lt_of_pos (P : Int) (show (0 : Int) < (k : Int) by omega)
        have i3 := Int.emod_nonneg ((P : Int) * 7 + 3) (show (k : Int) ≠ 0 by omega)
        have i4 := Int.emod_lt_of_pos ((P : Int) * 7 + 3) (show (0 : Int) < (k : Int) by omega)
        clear hcell
        go_enter Tryd.func40, Tryd.ntmps40
        go_wp2_with fail
        go_quiet (fail)
        go_wp2_with fail
        go_ret
        have hx := xor_nonneg (y1 * 131 + y2 * 1117 + (P : Int) * 29 + (P : Int) / (k : Int) * 53) ((y1 * 131 + y2 * 1117 + (P : Int) * 29 + (P : Int) / (k : Int) * 53) / 64) (by omega) (by omega) (by omega) (by omega)
        exact hfin.out _ (Int.tmod_nonneg _ hx.1) (fun _ => Int.tmod_lt_of_pos _ (by omega)) (by omega) nq
end Go.Proofs.YtaikcpidijekpaaDoor
