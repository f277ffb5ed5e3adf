/- Strings: marks; slices of strings read, copied, compared, marked. Conditions: lengths up to 2^20. -/
import Derived.Test.YtlhekgjckjcbhaaI1
import Derived.Test.YtlhekgjckjcbhaaAP
import Derived.Laws.IdiomStrings
import Derived.Laws.Concat
import Derived.OpenShut
import Derived.Deep.Slices
namespace Go.Proofs.Ytlhekgjckjcbhaa
open Go.RowKit Go.Deep
set_option linter.unusedSimpArgs false
set_option linter.unusedVariables false
set_option maxHeartbeats 4000000
set_option maxRecDepth 100000

def digs (n : Nat) : List UInt8 := if h : n = 0 then [] else digs (n / 10) ++ [UInt8.ofNat (48 + n % 10)]
decreasing_by omega
theorem digs_pos {n : Nat} (h : 0 < n) : digs n = digs (n / 10) ++ [UInt8.ofNat (48 + n % 10)] := by
  rw [digs, dif_neg (by omega)]
def mkT (n : Nat) : ByteArray := if n = 0 then ⟨#[109, 48]⟩ else ⟨(109 :: digs n).toArray⟩
/-- A string of one byte. -/
theorem run_byte_string {P : Program} (src dst e : TypeId) (hs : P.underlying src = some (.slice e)) (he : P.underlying e = some (.int .u8)) (hd : P.underlying dst = some .string) (c : Int) (h0 : 0 ≤ c) (h1 : c < 256) (W : World) (T : TypeId) :
    (convert src dst (.slice (some ⟨W.heap.size, 0, none⟩) 1 1)).run P (W.alloc (.cells #[.int .u8 c] T)) = .ok (.string ⟨#[UInt8.ofNat c.toNat]⟩) (W.alloc (.cells #[.int .u8 c] T)) := by
  obtain ⟨x, rfl⟩ := Int.eq_ofNat_of_zero_le h0
  have := run_convert_bytes_back (P := P) (W.alloc (.cells #[.int .u8 (x : Int)] T)) src dst e ⟨W.heap.size, 0, none⟩ 1 [UInt8.ofNat x] hs he hd (by
    intro j hj
    have hj0 : j = 0 := by simp at hj; omega
    subst hj0
    have hadd : (⟨W.heap.size, 0, none⟩ : Addr).add 0 = ⟨W.heap.size, 0, none⟩ := by simp [Addr.add]
    rw [hadd, World.cell?_alloc_mark]
    simp
    omega)
  simpa using this
theorem run_add_cons {P : Program} (c : UInt8) (out : List UInt8) (h : out.length ≤ 8000000) (W : World) : (Op.stringOp .add ⟨#[c]⟩ ⟨out.toArray⟩).run P W = .ok (.string ⟨(c :: out).toArray⟩) W :=
  run_string_add_lists W [c] out (by simp) (by omega)
theorem pow_step {k i : Nat} (h : k < 10 ^ (i + 1)) : k / 10 < 10 ^ i := by
  rw [Nat.pow_succ] at h
  omega
theorem c_markText (n : Nat) (w : World) (hn : n < 100000000000000) :
    Calls Try.prog 64 #[.int .i64 n] w fun e w' => e = .returned (.string (mkT n)) ∧ Below w.heap.size w w' := by
  by_cases h0 : n = 0
  · subst h0
    go_enter Try.func64, Try.ntmps64
    go_wp2
    go_ret
    exact ⟨rfl, Below.refl _ _⟩
  · have hpos : 0 < (n : Int) := by omega
    go_enter Try.func64, Try.ntmps64
    go_wp2_with fail
    go_loopw [0, 3] (fun s0 s3 wr => ∃ (k i : Nat) (out : List UInt8), s0 = .int .i64 k ∧ s3 = .string ⟨out.toArray⟩ ∧ digs k ++ out = digs n ∧ k ≤ n ∧ k < 10 ^ i ∧ i + out.length ≤ 14 ∧ Below w.heap.size w wr) (fun s0 _ _ => (intOf s0).toNat)
    case atStart => exact ⟨n, 14, [], rfl, rfl, by simp, Nat.le_refl _, by omega, by simp, Below.refl _ _⟩
    case round =>
      obtain ⟨k, i, out, rfl, rfl, hd, hkn, hki, hl, hbl⟩ := hrel
      have HD := Lib.hid hd
      have HK := Lib.hid hki
      clear hd hki
      by_cases hk : 0 < k
      · have hk' : (0 : Int) < (k : Int) := by omega
        obtain ⟨i', rfl⟩ : ∃ i', i = i' + 1 := ⟨i - 1, by
          rcases i with _ | i
          · have := HK.out; simp at this; omega
          · rfl⟩
        have HK2 := Lib.hid (pow_step HK.out)
        have hcv := fun W => run_byte_string (P := Try.prog) 22 9 5 Try.underlying22 Try.underlying5 Try.underlying9 (48 + (k : Int) % 10) (by omega) (by omega) W 5
        have ec : UInt8.ofNat (48 + (k : Int) % 10).toNat = UInt8.ofNat (48 + k % 10) := by rw [show (48 + (k : Int) % 10).toNat = 48 + k % 10 by omega]
        rw [ec] at hcv
        have HP := Lib.hid (show digs (k / 10) ++ (UInt8.ofNat (48 + k % 10) :: out) = digs n by rw [← HD.out, digs_pos hk]; simp)
        generalize UInt8.ofNat (48 + k % 10) = c at *
        have hcc := fun W => run_add_cons (P := Try.prog) c out (by omega) W
        clear ec
        go_wp2_with fail
        go_roundw
        case rel => exact ⟨k / 10, i', c :: out, by first | rfl | go_num, rfl, HP.out, by omega, HK2.out, by simp; omega, hbl.trans ((bel1 wr _).mono hbl.size)⟩
        case measure => simp [intOf]; omega
      · have hk0 : k = 0 := by omega
        subst hk0
        have HE := Lib.hid (show out = digs n by have := HD.out; rwa [digs, dif_pos rfl] at this)
        have hcc := fun W => run_add_cons (P := Try.prog) 109 out (by omega) W
        go_wp2_with fail
        go_ret
        refine ⟨?_, hbl⟩
        rw [HE.out]
        unfold mkT
        rw [if_neg h0]
        rfl
abbrev strCells (l : List ByteArray) : List Value := cellsOf (fun s => [Value.string s]) l
theorem str_at {w : World} {b off : Nat} {l : List ByteArray} (hc : ∀ j u, (strCells l)[j]? = some u → w.cell? ⟨b, off + j, none⟩ = some u) (k : Nat) (hk : k < l.length) : w.cell? ⟨b, off + k, none⟩ = some (.string l[k]) := by
  have h := cellsOf_get (fun s => [Value.string s]) 1 (fun _ => rfl) l k 0 (by omega) hk
  exact hc k _ (by simpa using h)
theorem strCells_map (l : List ByteArray) : strCells l = l.map Value.string := by
  induction l with
  | nil => rfl
  | cons a l ih => show cellsOf _ _ = _; rw [cellsOf_cons, List.map_cons]; show [_] ++ strCells l = _; rw [ih]; rfl
theorem strCells_len (l : List ByteArray) : (strCells l).length = l.length := by rw [strCells_map, List.length_map]
theorem strs_take_succ (l : List ByteArray) (k : Nat) (hk : k < l.length) : strCells (l.take (k + 1)) = strCells (l.take k) ++ [.string l[k]] := by
  rw [strCells_map, strCells_map, List.take_succ_eq_append_getElem hk, List.map_append]
  rfl
theorem strs_snoc (l : List ByteArray) (s : ByteArray) : strCells (l ++ [s]) = strCells l ++ [.string s] := by rw [strCells_map, strCells_map, List.map_append]; rfl
section
variable {H : Type} {enc : TypeId × Value → H} {w : World} {base : Nat} {spare : Nat → Bool} {held : Bool}
theorem read_strs {fuel : Nat} {cs : List Value} {x : DataW H × List MemPlace} (h : DataW.trod enc Try.prog w base spare held fuel 47 cs = some x) :
    ∃ (v : Value) (l : List ByteArray), cs = [v] ∧ Rd w v 1 l.length (strCells l) ∧ ∀ a ∈ l, a.size ≤ maxLen :=
  read_slice (fun s => [Value.string s]) 1 (fun _ => rfl) (by omega) (fun s => s.size ≤ maxLen) Try.underlying47 (by kernel_rfl) (fun _ _ _ h => by
    obtain ⟨s, hc, _, hs⟩ := DataW.trod_string Try.underlying9 h
    exact ⟨s, hc, hs⟩) h
end
theorem info_str : (Try.prog.info? 9).map (fun i => (i.zero, i.size, i.bytes)) = some (some (.string ByteArray.empty), 1, 16) := by kernel_rfl
def SzS (l : List ByteArray) (m : Nat) (w : World) (e : Ending) (w' : World) : Prop := ∃ r : Int, e = .returned (.int .i64 r) ∧ w = w' ∧ -9223372036854775807 ≤ r ∧ r ≤ 1048576 ∧ (0 ≤ r → l.length ≤ m)
theorem c_szStringS (v : Value) (l : List ByteArray) (m : Nat) (w : World) (h : Rd w v 1 l.length (strCells l)) (hg : ∀ a ∈ l, a.size ≤ maxLen) (hm : m ≤ 1048576) :
    Calls Try.prog 25 #[v, .int .i64 m] w (SzS l m w) := by
  obtain ⟨_, A, c, rfl, hnc, hcm, hA⟩ := h
  unfold maxLen at hcm hg
  have HG := Lib.hid hg
  clear hg
  by_cases hl : l.length ≤ m
  · go_enter Try.func25, Try.ntmps25
    go_wp2
    go_loop [1, 5] (fun t i => ∃ (k : Nat) (q : Int), k ≤ l.length ∧ i = .int .i64 k ∧ t = .int .i64 q ∧ 0 ≤ q ∧ q ≤ 1048576) (fun _ i => l.length - (intOf i).toNat)
    case atStart => exact ⟨0, _, Nat.zero_le _, rfl, rfl, by omega, by omega⟩
    case round =>
      obtain ⟨k, q, hk, rfl, rfl, hq0, hq1⟩ := hrel
      by_cases hlt : k < l.length
      · obtain ⟨b, off, rfl, hcc⟩ := hA (by omega)
        have p0 := str_at hcc k hlt
        have hs := HG.out _ (List.getElem_mem hlt)
        generalize l[k] = s at *
        clear hA hcc
        by_cases hn : q - s.size < 0
        · go_wp2
          go_ret
          exact ⟨-1, rfl, rfl, by omega, by omega, fun _ => hl⟩
        · go_wp2
          go_round
          case rel => exact ⟨k + 1, _, by omega, by go_num, rfl, by omega, by omega⟩
          case measure => simp [intOf]; omega
      · clear hA
        go_wp2
        go_ret
        exact ⟨q, rfl, rfl, by omega, by omega, fun _ => hl⟩
  · clear hA
    go_enter Try.func25, Try.ntmps25
    go_wp2
    go_ret
    exact ⟨-1, rfl, rfl, by omega, by omega, by omega⟩
theorem c_toStringS (v : Value) (l : List ByteArray) (w : World) (h : Rd w v 1 l.length (strCells l)) (hn : l.length ≤ 1048576) :
    Calls Try.prog 28 #[v] w (Made 9 1 l.length (strCells l) w) := by
  obtain ⟨_, A, c, rfl, hnc, hcm, hA⟩ := h
  unfold maxLen at hcm
  obtain ⟨i0, hi0, hz0, hz1, hz2⟩ := info_parts info_str
  have hmk := fun W => run_make_rowN (P := Try.prog) 47 9 i0 _ Try.underlying47 hi0 hz0 .i64 .i64 l.length l.length (Nat.le_refl _) (by rw [hz2]; omega) (by omega) W
  rw [hz1] at hmk
  clear hi0 hz0 hz1 hz2
  go_enter Try.func28, Try.ntmps28
  go_wp2
  clear hmk
  go_loopw [4] (fun i wr => ∃ (k : Nat) (cur : Array Value), k ≤ l.length ∧ i = .int .i64 k ∧ wr.heap[w.heap.size]? = some (.cells cur 9 (0, 0)) ∧ cur.size = l.length ∧ cur.toList.take k = strCells (l.take k) ∧ Below w.heap.size w wr) (fun i _ => l.length - (intOf i).toNat)
  case atStart => exact ⟨0, _, Nat.zero_le _, rfl, heap_alloc_new w _, (size_madeCells _ _).trans (by simp), by simp [cellsOf], bel1 _ _⟩
  case round =>
    obtain ⟨k, cur, hk, rfl, hcur, hsz, htk, hbl⟩ := hrel
    have HS := Lib.hid hsz
    have HT := Lib.hid htk
    have HC := Lib.hid hcur
    clear hsz htk
    by_cases hlt : k < l.length
    · obtain ⟨b, off, rfl, hcc⟩ := hA (by omega)
      have p0 := str_at (rd_later hbl hcc) k hlt
      have hX := Lib.hid (strs_take_succ l k hlt)
      generalize l[k] = x at *
      have f0 := (cell_of_row wr w.heap.size k cur 9 (0, 0) hcur).trans (Array.getElem?_eq_getElem (show k < cur.size by rw [HS.out]; exact hlt))
      have hfr := (blk_facts hcur).2
      generalize cur[k]'_ = u0 at f0
      obtain ⟨cur', hc', hs', ht'⟩ := store1 hcur k (.string x) (by rw [HS.out]; omega)
      have H1 := Lib.hid hc'
      have H2 := Lib.hid hs'
      have H3 := Lib.hid ht'
      have H4 := Lib.hid (hbl.setCell (p := ⟨w.heap.size, k, none⟩) (Nat.le_refl _) (.string x))
      clear hA hcc hcur hc' hs' ht'
      go_wp2
      go_roundw
      case rel => exact ⟨k + 1, cur', by omega, by go_num, H1.out, H2.out.trans HS.out, by rw [H3.out, HT.out, hX.out], H4.out⟩
      case measure => simp [intOf]; omega
    · clear hA hcur
      go_wp2
      go_ret
      refine ⟨_, rfl, ⟨cellsOf_len _ 1 (fun _ => rfl) l, .inr ⟨w.heap.size, l.length, cur, rfl, Nat.le_refl _, HC.out, Nat.le_refl _, by unfold maxLen; omega, by rw [HS.out, Nat.mul_one], ?_⟩⟩, hbl⟩
      have hke : k = l.length := by omega
      rw [Nat.mul_one, ← hke, HT.out, hke, List.take_length]
theorem c_eqStringS_eq (u v : Value) (la : List ByteArray) (w : World) (ha : Rd w u 1 la.length (strCells la)) (hb : Rd w v 1 la.length (strCells la)) :
    Calls Try.prog 30 #[u, v] w fun e w' => e = .returned (.bool true) ∧ Below w.heap.size w w' := by
  obtain ⟨_, A1, c1, rfl, hn1, hm1, hA1⟩ := ha
  obtain ⟨_, A2, c2, rfl, hn2, hm2, hA2⟩ := hb
  unfold maxLen at hm1 hm2
  go_enter Try.func30, Try.ntmps30
  go_wp2
  go_loopw [5] (fun i wr => ∃ k : Nat, k ≤ la.length ∧ i = .int .i64 k ∧ Below w.heap.size w wr) (fun i _ => la.length - (intOf i).toNat)
  case atStart => exact ⟨0, Nat.zero_le _, rfl, Below.refl _ _⟩
  case round =>
    obtain ⟨k, hk, rfl, hbl⟩ := hrel
    by_cases hlt : k < la.length
    · obtain ⟨b1, f1, rfl, hc1⟩ := hA1 (by omega)
      obtain ⟨b2, f2, rfl, hc2⟩ := hA2 (by omega)
      have p0 := str_at (rd_later hbl hc1) k hlt
      have q0 := str_at (rd_later hbl hc2) k hlt
      have hi1 : (0 : Int) ≤ (k : Int) := by omega
      have hi2 : (k : Int) < (la.length : Int) := by omega
      generalize la[k] = x at *
      clear hA1 hA2 hc1 hc2
      go_wp2_with fail
      go_quiet (fail)
      go_wp2
      go_roundw
      case rel => exact ⟨k + 1, by omega, by go_num, by (repeat' (first | (with_reducible exact Below.refl _ _) | (with_reducible refine Below.setCell ?_ ?_ _) | (with_reducible refine Below.alloc ?_ ?_ _) | (with_reducible refine Below.drew ?_) | (with_reducible refine below_drewN ?_ _) | (with_reducible refine Below.trans ?_ (Below.mono (by with_reducible assumption) ?_)) | omega | (simp only [size_alloc', size_setCell', size_drew', size_drewN'] at *; omega)))⟩
      case measure => simp [intOf]; omega
    · clear hA1 hA2
      go_wp2
      go_ret
      exact ⟨rfl, hbl⟩
def mkTs (m n : Nat) : List ByteArray := (List.range n).map fun i => mkT (m + i)
theorem mkTs_len (m n : Nat) : (mkTs m n).length = n := by simp [mkTs]
theorem mkTs_succ (m n : Nat) : strCells (mkTs m (n + 1)) = strCells (mkTs m n) ++ [.string (mkT (m + n))] := by
  unfold mkTs
  rw [List.range_succ, List.map_append, ← strs_snoc]
  rfl
theorem mkTs_get (m n k : Nat) (h : k < (mkTs m n).length) : (mkTs m n)[k] = mkT (m + k) := by simp [mkTs]
def MarkedT (base : Nat) (v : Value) (n : Nat) (xs : List Value) (m : Int) (w : World) (e : Ending) (w' : World) : Prop :=
  e = .returned (.int .i64 m) ∧ w'.ownsRow base 9 1 v n xs ∧ w.grownBy w' v.ownBlock
theorem kp_belT {g : Nat} {a w w' : World} (h : a.grownBy w (some g)) (k : Below w.heap.size w w') : a.grownBy w' (some g) :=
  ⟨k.os.trans h.os, k.tape.trans h.tape, k.output.trans h.output, Nat.le_trans h.size k.size, fun i hi hne => (k.block i (Nat.lt_of_lt_of_le hi h.size)).trans (h.block i hi hne)⟩
theorem kp_setT {g i : Nat} {a w : World} (h : a.grownBy w (some g)) (u : Value) : a.grownBy (w.setCell ⟨g, i, none⟩ u) (some g) :=
  ⟨h.os, h.tape, h.output, by simpa [World.setCell] using h.size, fun b hb hne => (Below.heap_setCell w ⟨g, i, none⟩ u b (by rintro rfl; exact hne rfl)).trans (h.block b hb hne)⟩
theorem c_markStringS (base : Nat) (v : Value) (n : Nat) (xs : List Value) (m : Nat) (w : World) (h : w.ownsRow base 9 1 v n xs) (hn : n ≤ 1048576) (hm1 : m ≤ 10000000000000) :
    Calls Try.prog 33 #[v, .int .i64 m] w (MarkedT base v n (strCells (mkTs m n)) ((m + n : Nat) : Int) w) := by
  rcases h.2 with ⟨rfl, rfl⟩ | ⟨g, cap, cur0, rfl, hbg, hg0, hnc, hcm, hsz0, htk0⟩
  · go_enter Try.func33, Try.ntmps33
    go_wp2
    go_loop [1, 5] (fun t i => i = .int .i64 0 ∧ t = .int .i64 m) (fun _ _ => 0)
    case atStart => exact ⟨rfl, rfl⟩
    case round =>
      obtain ⟨rfl, rfl⟩ := hrel
      go_wp2
      go_ret
      exact ⟨by simp, ⟨by simp [mkTs, cellsOf], .inl ⟨rfl, rfl⟩⟩, World.grownBy.refl _ _⟩
  · have HG := Lib.hid hg0
    have HS0 := Lib.hid hsz0
    clear hg0 hsz0 htk0 h
    unfold maxLen at hcm
    go_enter Try.func33, Try.ntmps33
    go_wp2
    go_loopw [1, 5] (fun t i wr => ∃ (k M : Nat) (cur : Array Value), k ≤ n ∧ i = .int .i64 k ∧ t = .int .i64 M ∧ M = m + k ∧ wr.heap[g]? = some (.cells cur 9 (0, 0)) ∧ cur.size = cap * 1 ∧ cur.toList.take k = strCells (mkTs m k) ∧ w.grownBy wr (some g)) (fun _ i _ => n - (intOf i).toNat)
    case atStart => exact ⟨0, m, cur0, Nat.zero_le _, rfl, rfl, by simp, HG.out, HS0.out, by simp [mkTs, cellsOf], World.grownBy.refl _ _⟩
    case round =>
      obtain ⟨k, M, cur, hk, rfl, rfl, hM, hcur, hsz, htk, hkp⟩ := hrel
      have M1 : M ≤ 10000000000000 + 1048576 := by omega
      have HM := Lib.hid hM
      have HS := Lib.hid hsz
      have HT := Lib.hid htk
      have HC := Lib.hid hcur
      have HK := Lib.hid hkp
      clear hM hsz htk hcur hkp
      by_cases hlt : k < n
      · go_wp2_with fail
        (go_at_call 64; (with_reducible refine (c_markText M _ (by omega)).mono ?_); rintro e wq ⟨rfl, hbq⟩)
        have hcur := below_heap hbq HC.out
        have f0 := (cell_of_row wq g k cur 9 (0, 0) hcur).trans (Array.getElem?_eq_getElem (show k < cur.size by rw [HS.out]; omega))
        have hfr := (blk_facts hcur).2
        generalize cur[k]'_ = u0 at f0
        obtain ⟨cur', hc', hs', ht'⟩ := store1 hcur k (.string (mkT M)) (by rw [HS.out]; omega)
        have H1 := Lib.hid hc'
        have H2 := Lib.hid hs'
        have H3 := Lib.hid ht'
        have H4 := Lib.hid (kp_setT (i := k) (kp_belT HK.out hbq) (.string (mkT M)))
        have HMk := Lib.hid (show strCells (mkTs m k) ++ [.string (mkT M)] = strCells (mkTs m (k + 1)) by rw [mkTs_succ, HM.out])
        generalize mkT M = ss at *
        clear hcur hc' hs' ht'
        go_wp2
        go_roundw
        case rel => exact ⟨k + 1, M + 1, cur', by omega, by go_num, by go_num, by have := HM.out; omega, H1.out, H2.out.trans HS.out, by rw [H3.out, HT.out, HMk.out], H4.out⟩
        case measure => simp [intOf]; omega
      · go_wp2
        go_ret
        have hke : k = n := by omega
        subst hke
        exact ⟨ret_int (by have := HM.out; omega), ⟨by rw [strCells_len, mkTs_len, Nat.mul_one], .inr ⟨g, cap, cur, rfl, hbg, HC.out, hnc, by unfold maxLen; omega, HS.out, by rw [Nat.mul_one]; exact HT.out⟩⟩, HK.out⟩
theorem c_heldStringS (v : Value) (n : Nat) (m : Nat) (w : World) (h : Rd w v 1 n (strCells (mkTs m n))) (hn : n ≤ 1048576) (hm1 : m ≤ 1000000000) :
    Calls Try.prog 34 #[v, .int .i64 m] w fun e w' => e = .returned (.int .i64 ((m + n : Nat) : Int)) ∧ Below w.heap.size w w' := by
  obtain ⟨_, A, c, rfl, hnc, hcm, hA⟩ := h
  unfold maxLen at hcm
  go_enter Try.func34, Try.ntmps34
  go_wp2
  go_loopw [1, 5] (fun t i wr => ∃ (k M : Nat), k ≤ n ∧ i = .int .i64 k ∧ t = .int .i64 M ∧ M = m + k ∧ Below w.heap.size w wr) (fun _ i _ => n - (intOf i).toNat)
  case atStart => exact ⟨0, m, Nat.zero_le _, rfl, rfl, by simp, Below.refl _ _⟩
  case round =>
    obtain ⟨k, M, hk, rfl, rfl, hM, hbl⟩ := hrel
    have M1 : M ≤ 1000000000 + 1048576 := by omega
    have HM := Lib.hid hM
    clear hM
    by_cases hlt : k < n
    · obtain ⟨b, off, rfl, hcc⟩ := hA (by omega)
      have c0 := str_at (rd_later hbl hcc) k (by rw [mkTs_len]; exact hlt)
      rw [mkTs_get, ← HM.out] at c0
      clear hA hcc
      have hi1 : (0 : Int) ≤ (k : Int) := by omega
      have hi2 : (k : Int) < (n : Int) := by omega
      have HT := Lib.hid (fun w => c_markText M w (by omega))
      generalize mkT M = ss at *
      go_wp2_with fail
      (refine wp_region_more_lit (by kernel_rfl) (by kernel_rfl) ?_; (repeat (go_big_quiet_step ((go_at_call 64; with_reducible exact Calls.more_of (HT.out _))))); refine wpQuiet_nil ?_; intro wq hwq; have hbq := below_of_more hwq; clear hwq; have hzq := hbq.size; (try simp only [size_alloc', size_setCell', size_drew', size_drewN'] at hzq); skip)
      go_wp2
      go_roundw
      case rel => exact ⟨k + 1, M + 1, by omega, by go_num, by go_num, by have := HM.out; omega, hbl.trans (hbq.mono hbl.size)⟩
      case measure => simp [intOf]; omega
    · clear hA
      go_wp2
      go_ret
      have hke : k = n := by omega
      subst hke
      exact ⟨ret_int (by have := HM.out; omega), hbl⟩
end Go.Proofs.Ytlhekgjckjcbhaa
