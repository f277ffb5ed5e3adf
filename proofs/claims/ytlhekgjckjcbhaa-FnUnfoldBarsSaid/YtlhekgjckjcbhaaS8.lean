/- Drawing lists of sections. Conditions: none. -/
import Derived.Test.YtlhekgjckjcbhaaS7
namespace Go.Proofs.Ytlhekgjckjcbhaa
open Go.RowKit
set_option linter.unusedSimpArgs false
set_option linter.unusedVariables false
set_option maxHeartbeats 8000000

/-- A list of sections that is all of the call's own: the row of sections, and each one's endings, in other blocks than the row. -/
def SecsOwn (B : Nat) (W : World) (o : Value) (ss : List Sec) : Prop :=
  (∃ g cap, o = .slice (some ⟨g, 0, none⟩) ss.length cap) ∧ W.ownsRow B 43 3 o ss.length (secCells ss) ∧
    ∀ s ∈ ss, W.ownsRow B 3 1 s.v s.l.length (intCells s.l) ∧ (s.v.ownBlock = none ∨ s.v.ownBlock ≠ o.ownBlock)
theorem SecsOwn.rd {B : Nat} {W : World} {o : Value} {ss : List Sec} (h : SecsOwn B W o ss) : RdS W o ss := ⟨Rd.of_own h.2.1, fun s hs => Rd.of_own (h.2.2 s hs).1⟩
theorem SecsOwn.pick {B g : Nat} {W W' : World} {o : Value} {ss : List Sec} (h : SecsOwn B W o ss) (hk : W.grownBy W' (some g)) (hg : g < B) : SecsOwn B W' o ss :=
  ⟨h.1, own_pick h.2.1 hk hg, fun s hs => ⟨own_pick (h.2.2 s hs).1 hk hg, (h.2.2 s hs).2⟩⟩
theorem SecsOwn.alloc {B : Nat} {W : World} {o : Value} {ss : List Sec} (h : SecsOwn B W o ss) (x : Obj) : SecsOwn B (W.alloc x) o ss :=
  ⟨h.1, h.2.1.alloc x, fun s hs => ⟨(h.2.2 s hs).1.alloc x, (h.2.2 s hs).2⟩⟩
theorem SecsOwn.mono {B B' : Nat} {W : World} {o : Value} {ss : List Sec} (h : SecsOwn B W o ss) (hb : B' ≤ B) : SecsOwn B' W o ss :=
  ⟨h.1, own_mono h.2.1 hb, fun s hs => ⟨own_mono (h.2.2 s hs).1 hb, (h.2.2 s hs).2⟩⟩
theorem SecsOwn.push {B B' g n N cap : Nat} {W W' : World} {o : Value} {ss : List Sec} {y : Sec} (h : SecsOwn B W o ss) (hy : W.ownsRow B' 3 1 y.v y.l.length (intCells y.l)) (hB : B ≤ B')
    (hne : y.v.ownBlock = none ∨ y.v.ownBlock ≠ o.ownBlock) (hown : W'.ownsRow B 43 3 (.slice (some ⟨g, 0, none⟩) n cap) N (secCells (ss ++ [y]))) (hN : N = ss.length + 1) (hn : n = ss.length + 1)
    (hk : W.grownBy W' o.ownBlock) (hat : o.ownBlock = some g ∨ g = W.heap.size) : SecsOwn B W' (.slice (some ⟨g, 0, none⟩) n cap) (ss ++ [y]) := by
  have key : ∀ (B0 : Nat) (s : Sec), W.ownsRow B0 3 1 s.v s.l.length (intCells s.l) → (s.v.ownBlock = none ∨ s.v.ownBlock ≠ o.ownBlock) → B ≤ B0 →
      W'.ownsRow B 3 1 s.v s.l.length (intCells s.l) ∧ (s.v.ownBlock = none ∨ s.v.ownBlock ≠ some g) := by
    intro B0 s hs hsn hB0
    refine ⟨own_mono (hs.kept hk hsn) hB0, ?_⟩
    rcases hsn with h1 | h1
    · exact .inl h1
    · rcases hat with h2 | h2
      · right; rw [← h2]; exact h1
      · cases hb : s.v.ownBlock with
        | none => exact .inl rfl
        | some b =>
          right
          have := (hs.lt b hb).2
          intro e
          cases e
          omega
  refine ⟨⟨g, cap, by rw [hn]; simp⟩, own_len hown (by simp [hN]), fun s hs => ?_⟩
  rcases List.mem_append.1 hs with h1 | h1
  · exact key B s (h.2.2 s h1).1 (h.2.2 s h1).2 (Nat.le_refl _)
  · rw [List.mem_singleton.1 h1]; exact key B' y hy hne hB
theorem wpList_wanted {P : Program} {ops : Array Oper} {rest : List Oper} {o : Oper} {a : Act} {w : World} {Q : Exit → Act → World → Prop} (hw : Region.wanted o (yielded ops a.tmps) = true)
    (h : ∀ K : Act → World → Prop, (∀ a w, wpList P ops Q rest a w → K a w) → o.wp P a w K Q) : wpList P ops Q (o :: rest) a w :=
  wpList_step fun K hK => by rw [if_pos hw]; exact h K hK
/-- append of one section to a row of the call's own. -/
theorem wp_sec {W : World} {ops : Array Oper} {rest : List Oper} {o : Oper} {a : Act} {Q : Exit → Act → World → Prop} (hw : Region.wanted o (yielded ops a.tmps) = true) (s x : Operand)
    (ho : o.op = .call { callee := .builtin .append, args := #[s, x], argTypes := #[52, 52] }) (base : Nat) (v : Value) (ss : List Sec) (hs : a.eval s = v)
    (hown : W.ownsRow base 43 3 v ss.length (secCells ss)) (b : Nat) (sb st : Int) (A : Option Addr) (n c : Nat) (sl : List Int) (hx : a.eval x = .slice (some ⟨b, 0, none⟩) 1 1) (T : TypeId)
    (hc : W.heap[b]? = some (.cells #[.int .i64 sb, .int .i64 st, .slice A n c] T (0, 0))) (hl : ss.length ≤ 4000000) (hbase : base ≤ W.heap.size)
    (h : ∀ g cap w', w'.ownsRow base 43 3 (.slice (some ⟨g, 0, none⟩) (ss.length + 1) cap) (ss ++ [Sec.mk sb st (.slice A n c) sl]).length (secCells (ss ++ [Sec.mk sb st (.slice A n c) sl])) → W.grownBy w' v.ownBlock → (v.ownBlock = some g ∨ g = W.heap.size) → g < w'.heap.size →
      wpList Try.prog ops Q rest (a.put o.dst (.slice (some ⟨g, 0, none⟩) (ss.length + 1) cap)) w') :
    wpList Try.prog ops Q (o :: rest) a W := by
  obtain ⟨i0, hi0, hz0, hz1, hz2⟩ := info_parts info_sec
  refine wpList_wanted hw fun _ hK => wp_append_lies W s x 52 ho base 43 i0 _ 3 40 Try.underlying52 hi0 hz0 hz1 hz2 rfl (by decide) v _ _ hs hown ⟨b, 0, none⟩ 1 1 [.int .i64 sb, .int .i64 st, .slice A n c] hx rfl ?_ ?_ (by decide) ?_ ?_ hbase _ rfl ?_
  · intro j u hj
    exact World.news_of_block hc j u hj
  · intro u hu; simp at hu; rcases hu with rfl | rfl | rfl <;> rfl
  · unfold maxLen; omega
  · omega
  · intro g cap w' h1 h2 h3 h4
    refine hK _ _ (h g cap w' ?_ h2 h3 h4)
    rw [secs_snoc, List.length_append]
    exact h1
def DrewSecs (g m : Nat) (w : World) (e : Ending) (w' : World) : Prop :=
  ∃ v ss, e = .returned v ∧ SecsOwn w.heap.size w' v ss ∧ (ss : List Sec).length ≤ 9 ∧ (∀ s ∈ ss, s.l.length ≤ 8) ∧ Rdr w' g m ∧ w.grownBy w' (some g)
theorem all_snocS {p : Sec → Prop} {l : List Sec} {y : Sec} (h : ∀ a ∈ l, p a) (hy : p y) : ∀ a ∈ l ++ [y], p a := by
  intro a ha
  rcases List.mem_append.1 ha with h1 | h1
  · exact h a h1
  · rw [List.mem_singleton.1 h1]; exact hy
theorem slice_ne {W : World} {B B' : Nat} {e e' size size' n n' : Nat} {u v : Value} {xs ys : List Value} (hu : W.ownsRow B e size u n xs) (hB : B ≥ B') (hv : ∀ b, v.ownBlock = some b → b < B') : u.ownBlock = none ∨ u.ownBlock ≠ v.ownBlock := by
  cases hb : u.ownBlock with
  | none => exact .inl rfl
  | some b =>
    right
    have h1 := (hu.lt b hb).1
    intro e
    have := hv b e.symm
    omega
theorem c_l20Sections (g m : Nat) (n : Int) (w : World) (h : Rdr w g (m + 60)) (hn : n ≤ 1000000) (hn' : -1000000 ≤ n) :
    Calls Try.prog 65 #[.pointer (some ⟨g, 0, none⟩), .int .i64 n] w (DrewSecs g m w) := by
  have hg := h.lt
  go_enter Try.func65, Try.ntmps65
  go_wp2_with fail
  (go_at_call 47; (with_reducible refine (c_pick g (m+59) _ _ ?_ (by omega) (by omega)).mono ?_); (focus (repeat' (first | (with_reducible assumption) | (with_reducible refine Rdr.alloc ?_ _) | (with_reducible refine Rdr.setCell ?_ ?_ _) | (with_reducible refine Rdr.drewN ?_ _) | (with_reducible refine Rdr.drew ?_) | (show _ < _; first | omega | (simp only [size_alloc', size_setCell', size_drew', size_drewN'] at *; omega))))); rintro e w1 ⟨x1, rfl, hx1, hy1, hz1, hrq, hgq⟩; have hsq := hgq.size; (try simp only [size_alloc', size_setCell', size_drew', size_drewN'] at hsq); skip)
  have hx1' := hy1 (by omega)
  clear hy1 hz1
  go_wp2_with fail
  go_loopw [5, 6] (fun o i wr => ∃ (k : Nat) (ss : List Sec), i = .int .i64 k ∧ ss.length + k ≤ 3 ∧ SecsOwn w.heap.size wr o ss ∧ (∀ s ∈ ss, s.l.length ≤ 8) ∧ Rdr wr g (m + 17 + 14 * k) ∧ w.grownBy wr (some g)) (fun _ i _ => (intOf i).toNat)
  case atStart =>
    obtain ⟨k0, rfl⟩ := Int.eq_ofNat_of_zero_le hx1
    exact ⟨k0, [], rfl, by simp; omega, ⟨⟨_, _, rfl⟩, own_pick (g := g) ⟨rfl, .inr ⟨w.heap.size, 0, #[], rfl, Nat.le_refl _, heap_alloc_new w _, Nat.le_refl _, by unfold maxLen; omega, rfl, rfl⟩⟩ hgq hg, by simp⟩, by simp, hrq.mono (by omega), kp_trans (kp_alloc (World.grownBy.refl _ _) _) hgq⟩
  case round =>
    obtain ⟨k, ss, rfl, hkl, hso, hsl, hrk, hgk⟩ := hrel
    obtain ⟨⟨gb, cap, rfl⟩, -⟩ := id hso
    have hO := Lib.hid hso
    have hL := Lib.hid hsl
    have hG := Lib.hid hgk
    have hsk := hgk.size
    have hbk : gb < wr.heap.size := (hso.2.1.lt gb rfl).2
    clear hso hsl hgk
    rcases k with _ | k
    · have hrk' : Rdr wr g ((m + 16) + 1) := hrk
      go_wp2_with fail
      (go_at_call 66; (with_reducible refine (c_odd g (m+16) _ _ ?_ hn hn').mono ?_); (focus (repeat' (first | (with_reducible assumption) | (with_reducible refine Rdr.alloc ?_ _) | (with_reducible refine Rdr.setCell ?_ ?_ _) | (with_reducible refine Rdr.drewN ?_ _) | (with_reducible refine Rdr.drew ?_) | (show _ < _; first | omega | (simp only [size_alloc', size_setCell', size_drew', size_drewN'] at *; omega))))); rintro e w2 ⟨b2, rfl, hrq, hgq⟩; have hsq := hgq.size; (try simp only [size_alloc', size_setCell', size_drew', size_drewN'] at hsq); skip)
      have hO2 := Lib.hid (hO.out.pick hgq hg)
      have hG2 := Lib.hid (kp_trans hG.out hgq)
      cases b2
      · go_wp2_with fail
        go_ret
        exact ⟨_, ss, rfl, hO2.out, by omega, hL.out, hrq.mono (by omega), hG2.out⟩
      · go_wp2_with fail
        (go_at_call 47; (with_reducible refine (c_pick g (m+15) _ _ ?_ (by omega) (by omega)).mono ?_); (focus (repeat' (first | (with_reducible assumption) | (with_reducible refine Rdr.alloc ?_ _) | (with_reducible refine Rdr.setCell ?_ ?_ _) | (with_reducible refine Rdr.drewN ?_ _) | (with_reducible refine Rdr.drew ?_) | (show _ < _; first | omega | (simp only [size_alloc', size_setCell', size_drew', size_drewN'] at *; omega))))); rintro e w3 ⟨x3, rfl, hx3, hy3, hz3, hrq, hgq⟩; have hsq := hgq.size; (try simp only [size_alloc', size_setCell', size_drew', size_drewN'] at hsq); skip)
        have hx3' := hy3 (by omega)
        clear hy3 hz3
        have hO3 := Lib.hid (hO2.out.pick hgq hg)
        have hG3 := Lib.hid (kp_trans hG2.out hgq)
        have h01 : x3 = 0 ∨ x3 = 1 := by omega
        rcases h01 with rfl | rfl
        · have hrk4 : Rdr w3 g ((m + 1) + 14) := hrq
          go_wp2_with fail
          (go_at_call 54; (with_reducible refine (c_l20Section g (m+1) _ _ ?_ (by omega) (by omega)).mono ?_); (focus (repeat' (first | (with_reducible assumption) | (with_reducible refine Rdr.alloc ?_ _) | (with_reducible refine Rdr.setCell ?_ ?_ _) | (with_reducible refine Rdr.drewN ?_ _) | (with_reducible refine Rdr.drew ?_) | (show _ < _; first | omega | (simp only [size_alloc', size_setCell', size_drew', size_drewN'] at *; omega))))); rintro e w4 ⟨sb, st, sv, sl, rfl, hown4, hl8, hi1, hi2, hi3, hrq, hgq⟩; have hsq := hgq.size; (try simp only [size_alloc', size_setCell', size_drew', size_drewN'] at hsq); skip)
          have hO4 := Lib.hid (hO3.out.pick hgq hg)
          have hG4 := Lib.hid (kp_trans hG3.out hgq)
          have hNE := Lib.hid (slice_ne (e' := 0) (size' := 0) (n' := 0) (ys := []) (v := .slice (some ⟨gb, 0, none⟩) ss.length cap) hown4 (Nat.le_refl _) (by intro b hb; simp [Value.ownBlock] at hb; omega))
          obtain ⟨_, A4, c4, rfl, -, -, -⟩ := Rd.of_own hown4
          have HO4 := Lib.hid hown4
          have HH := Lib.hid (heap_alloc_new w4 (.cells #[.int .i64 sb, .int .i64 st, .slice A4 sl.length c4] 43))
          clear hown4
          go_wp2_with (at_builtin; refine wp_sec rfl (.tmp 25) (.tmp 28) rfl w.heap.size _ ss rfl (hO4.out.alloc _).2.1 w4.heap.size sb st A4 _ c4 sl rfl 43 HH.out (by omega) ?c2 ?_)
          case c2 => simp; omega
          intro g6 cap6 w6 hown6 hgr6 hat6 hlt6
          have HP := Lib.hid ((hO4.out.alloc _).push (HO4.out.alloc _) (by omega) hNE.out hown6 (by simp) rfl hgr6 (by simpa using hat6))
          have R6 := rdr_append (hrq.alloc _) (hO4.out.alloc _).2.1 hgr6 hg
          have K6 := kp_append (kp_alloc hG4.out _) (hO4.out.alloc _).2.1 hgr6 (Nat.le_refl _)
          clear hown6 hgr6 hat6 hlt6
          go_wp2_with fail
          go_ret
          exact ⟨.slice (some ⟨g6, 0, none⟩) (ss.length + 1) cap6, ss ++ [Sec.mk sb st (.slice A4 sl.length c4) sl], rfl, HP.out, by simp; omega, all_snocS hL.out hl8, R6.mono (by omega), K6⟩
        · have hG3' := hG3.out
          have hs3 := hG3'.size
          go_wp2_with fail
          go_loopw [5] (fun o wr => ∃ (ss : List Sec), ss.length ≤ 9 ∧ SecsOwn w.heap.size wr o ss ∧ (∀ s ∈ ss, s.l.length ≤ 8) ∧ Rdr wr g m ∧ w.grownBy wr (some g)) (fun o _ => 9 - (match o with | .slice _ n _ => n | _ => 0))
          case atStart => exact ⟨ss, by omega, hO3.out, hL.out, hrq.mono (by omega), hG3.out⟩
          case round =>
            obtain ⟨ss, hkl, hso, hsl, hrk, hgk⟩ := hrel
            obtain ⟨⟨gb, cap, rfl⟩, -⟩ := id hso
            have hO := Lib.hid hso
            have hL := Lib.hid hsl
            have hG := Lib.hid hgk
            have hsk := hgk.size
            clear hso hsl hgk
            by_cases h8 : ss.length ≤ 8
            · have HH := Lib.hid (heap_alloc_new wr (.cells #[.int .i64 0, .int .i64 1, .slice none 0 0] 43))
              go_wp2_with (at_builtin; refine wp_sec rfl (.tmp 33) (.tmp 35) rfl w.heap.size _ ss rfl (hO.out.alloc _).2.1 wr.heap.size 0 1 none 0 0 [] rfl 43 HH.out (by omega) ?c2 ?_)
              case c2 => simp; omega
              intro g6 cap6 w6 hown6 hgr6 hat6 hlt6
              have HP := Lib.hid ((hO.out.alloc _).push (B' := w.heap.size) (y := ⟨0, 1, .slice none 0 0, []⟩) ⟨rfl, .inl ⟨rfl, rfl⟩⟩ (Nat.le_refl _) (.inl rfl) hown6 (by simp) rfl hgr6 (by simpa using hat6))
              have R6 := Lib.hid (rdr_append (hrk.alloc _) (hO.out.alloc _).2.1 hgr6 hg)
              have K6 := Lib.hid (kp_append (kp_alloc hG.out _) (hO.out.alloc _).2.1 hgr6 (Nat.le_refl _))
              clear hown6 hgr6 hat6 hlt6
              go_wp2_with fail
              go_roundw
              case rel => exact ⟨ss ++ [Sec.mk 0 1 (.slice none 0 0) []], by simp; omega, HP.out, all_snocS hL.out (by simp), R6.out, K6.out⟩
              case measure => simp; omega
            · go_wp2_with fail
              go_ret
              exact ⟨_, ss, rfl, hO.out, hkl, hL.out, hrk, hG.out⟩
    · have hrk' : Rdr wr g ((m + 17 + 14 * k) + 14) := hrk.mono (by omega)
      go_wp2_with fail
      (go_at_call 54; (with_reducible refine (c_l20Section g (m+17+14*k) _ _ ?_ (by omega) (by omega)).mono ?_); (focus (repeat' (first | (with_reducible assumption) | (with_reducible refine Rdr.alloc ?_ _) | (with_reducible refine Rdr.setCell ?_ ?_ _) | (with_reducible refine Rdr.drewN ?_ _) | (with_reducible refine Rdr.drew ?_) | (show _ < _; first | omega | (simp only [size_alloc', size_setCell', size_drew', size_drewN'] at *; omega))))); rintro e w4 ⟨sb, st, sv, sl, rfl, hown4, hl8, hi1, hi2, hi3, hrq, hgq⟩; have hsq := hgq.size; (try simp only [size_alloc', size_setCell', size_drew', size_drewN'] at hsq); skip)
      have hO4 := Lib.hid (hO.out.pick hgq hg)
      have hG4 := Lib.hid (kp_trans hG.out hgq)
      have hNE := Lib.hid (slice_ne (e' := 0) (size' := 0) (n' := 0) (ys := []) (v := .slice (some ⟨gb, 0, none⟩) ss.length cap) hown4 (Nat.le_refl _) (by intro b hb; simp [Value.ownBlock] at hb; omega))
      obtain ⟨_, A4, c4, rfl, -, -, -⟩ := Rd.of_own hown4
      have HO4 := Lib.hid hown4
      have HH := Lib.hid (heap_alloc_new w4 (.cells #[.int .i64 sb, .int .i64 st, .slice A4 sl.length c4] 43))
      clear hown4
      go_wp2_with (at_builtin; refine wp_sec rfl (.tmp 14) (.tmp 17) rfl w.heap.size _ ss rfl (hO4.out.alloc _).2.1 w4.heap.size sb st A4 _ c4 sl rfl 43 HH.out (by omega) ?c2 ?_)
      case c2 => simp; omega
      intro g6 cap6 w6 hown6 hgr6 hat6 hlt6
      have HP := Lib.hid ((hO4.out.alloc _).push (HO4.out.alloc _) (by omega) hNE.out hown6 (by simp) rfl hgr6 (by simpa using hat6))
      have R6 := rdr_append (hrq.alloc _) (hO4.out.alloc _).2.1 hgr6 hg
      have K6 := kp_append (kp_alloc hG4.out _) (hO4.out.alloc _).2.1 hgr6 (Nat.le_refl _)
      clear hown6 hgr6 hat6 hlt6
      go_wp2_with fail
      go_roundw
      case rel => exact ⟨k, ss ++ [Sec.mk sb st (.slice A4 sl.length c4) sl], by go_num, by simp; omega, HP.out, all_snocS hL.out hl8, R6, K6⟩
      case measure => simp [intOf]
end Go.Proofs.Ytlhekgjckjcbhaa
