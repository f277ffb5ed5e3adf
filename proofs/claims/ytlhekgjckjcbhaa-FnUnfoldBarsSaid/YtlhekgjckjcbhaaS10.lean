/- The order in which bars are played: plain; impl.run. Conditions: small numbers. -/
import Derived.Test.YtlhekgjckjcbhaaS6
import Derived.Test.YtlhekgjckjcbhaaAP
namespace Go.Proofs.Ytlhekgjckjcbhaa
open Go.RowKit
set_option linter.unusedSimpArgs false
set_option linter.unusedVariables false
set_option maxHeartbeats 4000000

def runL (a : Int) (n : Nat) : List Int := (List.range n).map fun (i : Nat) => a + (i : Int)
theorem runL_len (a : Int) (n : Nat) : (runL a n).length = n := by simp [runL]
theorem runL_succ (a : Int) (n : Nat) : runL a (n + 1) = runL a n ++ [a + n] := by simp [runL, List.range_succ]
def endL (first : Int) (s : SD) (t : Nat) : List Int := match s.l[t]? with
  | some x => runL (first + s.bars + (s.l.take t).sum) x.toNat
  | none => []
def timesL (first : Int) (s : SD) : Nat → List Int
  | 0 => []
  | t + 1 => timesL first s t ++ (runL first s.bars.toNat ++ endL first s t)
def playedUp (ds : List SD) : Nat → List Int
  | 0 => []
  | k + 1 => playedUp ds k ++ (match ds[k]? with | some s => timesL (writtenS (ds.take k)) s s.times.toNat | none => [])
def playedB (ds : List SD) : List Int := if secsOk ds = true then playedUp ds ds.length else []
theorem endL_len {first : Int} {s : SD} (h : s.ok = true) (t : Nat) : (endL first s t).length ≤ 12 := by
  unfold endL
  split
  · rename_i x hx
    obtain ⟨_, _, _, h4⟩ := SD.ok_iff.1 h
    have := h4 x (List.mem_of_getElem? hx)
    rw [runL_len]
    omega
  · simp
theorem timesL_len {first : Int} {s : SD} (h : s.ok = true) (t : Nat) : (timesL first s t).length ≤ 24 * t := by
  induction t with
  | zero => simp [timesL]
  | succ t ih =>
    obtain ⟨h1, _⟩ := SD.ok_iff.1 h
    have := endL_len (first := first) h t
    simp only [timesL, List.length_append, runL_len]
    omega
theorem playedUp_len {ds : List SD} (h : ∀ i (hi : i < ds.length), ds[i].ok = true) (k : Nat) (hk : k ≤ ds.length) : (playedUp ds k).length ≤ 96 * k := by
  induction k with
  | zero => simp [playedUp]
  | succ k ih =>
    have h1 := ih (by omega)
    have hlt : k < ds.length := by omega
    simp only [playedUp, List.getElem?_eq_getElem hlt, List.length_append]
    have h2 := timesL_len (first := writtenS (ds.take k)) (h k hlt) ds[k].times.toNat
    obtain ⟨_, h3, _⟩ := SD.ok_iff.1 (h k hlt)
    omega
def MadeRun (a : Int) (n : Nat) (w : World) (e : Ending) (w' : World) : Prop :=
  ∃ g cap, e = .returned (.slice (some ⟨g, 0, none⟩) n cap) ∧ w'.ownsRow w.heap.size 3 1 (.slice (some ⟨g, 0, none⟩) n cap) n (intCells (runL a n)) ∧ Below w.heap.size w w'
theorem c_run (a : Int) (n : Nat) (w : World) (ha : 0 ≤ a ∧ a ≤ 1000) (hn : n ≤ 100) :
    Calls Try.prog 67 #[.int .i64 a, .int .i64 n] w (MadeRun a n w) := by
  obtain ⟨ha0, ha1⟩ := ha
  go_enter Try.func67, Try.ntmps67
  go_wp2_with fail
  go_loopw [5, 9] (fun o i wr => ∃ (k g cap : Nat), k ≤ n ∧ i = .int .i64 k ∧ o = .slice (some ⟨g, 0, none⟩) k cap ∧ wr.ownsRow w.heap.size 3 1 (.slice (some ⟨g, 0, none⟩) k cap) k (intCells (runL a k)) ∧ Below w.heap.size w wr) (fun _ i _ => n - (intOf i).toNat)
  case atStart => exact ⟨0, _, _, Nat.zero_le _, rfl, rfl, own_new w 3 1, bel1 _ _⟩
  case round =>
    obtain ⟨k, g, cap, hk, rfl, rfl, hown, hbl⟩ := hrel
    have hz := hbl.size
    have HO := Lib.hid (hown.alloc (.cells #[.int .i64 (a + k)] 3))
    have HO' := Lib.hid hown
    clear hown
    by_cases hlt : k < n
    · go_wp2_with (at_builtin; refine wp_appl (by rfl) (.tmp 12) (.tmp 16) 41 3 rfl _ 1 8 Try.underlying41 info_int rfl (by decide) (by decide) w.heap.size g cap k _ rfl HO.out wr.heap.size 0 1 1 [.int .i64 (a + k)] rfl rfl (cells_new1 _ _ _) (by simp [Value.oneCell']) (by omega) ?c2 ?_)
      case c2 => simp; omega
      intro g2 cap2 w2 hown2 hgr2 hat2 hlt2
      have HO2 := Lib.hid hown2
      have HB2 := Lib.hid (bel_app (hbl.alloc hz _) HO.out hgr2 (Nat.le_refl _) (by simp; omega))
      clear hown2 hgr2 hat2
      go_wp2_with fail
      go_roundw
      case rel => exact ⟨k + 1, g2, cap2, by omega, by go_num, rfl, by rw [runL_succ, intCells_app]; exact HO2.out, HB2.out⟩
      case measure => simp [intOf]; omega
    · have hke : k = n := by omega
      subst hke
      go_wp2_with fail
      go_ret
      exact ⟨g, cap, rfl, HO'.out, hbl⟩
end Go.Proofs.Ytlhekgjckjcbhaa
