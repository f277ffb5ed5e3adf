/- Strings: marks; slices of strings read, copied, compared, marked. Conditions: lengths up to 2^20. -/
import Derived.Test.YtaikcpidijekpaaDoorI1
import Derived.Test.YtaikcpidijekpaaDoorAP
import Derived.Laws.IdiomStrings
import Derived.Laws.Concat
import Derived.OpenShut
import Derived.Deep.Slices
namespace Go.Proofs.YtaikcpidijekpaaDoor
open Go.RowKit Go.Deep
set_option linter.unusedSimpArgs false
set_option linter.unusedVariables false
set_option maxHeartbeats 4000000
set_option maxRecDepth 100000

def digs (n : Nat) : List UInt8 := if h : n = 0 then [] else digs (n / 10) ++ [UInt8.ofNat (48 + n % 10)]
decreasing_by omega
theorem digs_pos {n : Nat} (h : 0 < n) : digs n = digs (n / 10) ++ [UInt8.ofNat (48 + n % 10)] := by
  rw [digs, dif_neg (by omega)]
def mkT (n : Nat) : ByteArray := if n = 0 then ⟨#[109, 48]⟩ else ⟨(109 :: digs n).toArray⟩
/-- A string of one byte. -/
theorem run_byte_string {P : Program} (src dst e : TypeId) (hs : P.underlying src = some (.slice e)) (he : P.underlying e = some (.int .u8)) (hd : P.underlying dst = some .string) (c : Int) (h0 : 0 ≤ c) (h1 : c < 256) (W : World) (T : TypeId) :
    (convert src dst (.slice (some ⟨W.heap.size, 0, none⟩) 1 1)).run P (W.alloc (.cells #[.int .u8 c] T)) = .ok (.string ⟨#[UInt8.ofNat c.toNat]⟩) (W.alloc (.cells #[.int .u8 c] T)) := by
  obtain ⟨x, rfl⟩ := Int.eq_ofNat_of_zero_le h0
  have := run_convert_bytes_back (P := P) (W.alloc (.cells #[.int .u8 (x : Int)] T)) src dst e ⟨W.heap.size, 0, none⟩ 1 [UInt8.ofNat x] hs he hd (by
    intro j hj
    have hj0 : j = 0 := by simp at hj; omega
    subst hj0
    have hadd : (⟨W.heap.size, 0, none⟩ : Addr).add 0 = ⟨W.heap.size, 0, none⟩ := by simp [Addr.add]
    rw [hadd, World.cell?_alloc_mark]
    simp
    omega)
  simpa using this
theorem run_add_cons {P : Program} (c : UInt8) (out : List UInt8) (h : out.length ≤ 8000000) (W : World) : (Op.stringOp .add ⟨#[c]⟩ ⟨out.toArray⟩).run P W = .ok (.string ⟨(c :: out).toArray⟩) W :=
  run_string_add_lists W [c] out (by simp) (by omega)
abbrev strCells (l : List ByteArray) : List Value := cellsOf (fun s => [Value.string s]) l
theorem str_at {w : World} {b off : Nat} {l : List ByteArray} (hc : ∀ j u, (strCells l)[j]? = some u → w.cell? ⟨b, off + j, none⟩ = some u) (k : Nat) (hk : k < l.length) : w.cell? ⟨b, off + k, none⟩ = some (.string l[k]) := by
  have h := cellsOf_get (fun s => [Value.string s]) 1 (fun _ => rfl) l k 0 (by omega) hk
  exact hc k _ (by simpa using h)
theorem strCells_map (l : List ByteArray) : strCells l = l.map Value.string := by
  induction l with
  | nil => rfl
  | cons a l ih => show cellsOf _ _ = _; rw [cellsOf_cons, List.map_cons]; show [_] ++ strCells l = _; rw [ih]; rfl
theorem strCells_len (l : List ByteArray) : (strCells l).length = l.length := by rw [strCells_map, List.length_map]
theorem strs_take_succ (l : List ByteArray) (k : Nat) (hk : k < l.length) : strCells (l.take (k + 1)) = strCells (l.take k) ++ [.string l[k]] := by
  rw [strCells_map, strCells_map, List.take_succ_eq_append_getElem hk, List.map_append]
  rfl
theorem strs_snoc (l : List ByteArray) (s : ByteArray) : strCells (l ++ [s]) = strCells l ++ [.string s] := by rw [strCells_map, strCells_map, List.map_append]; rfl
section
variable {H : Type} {enc : TypeId × Value → H} {w : World} {base : Nat} {spare : Nat → Bool} {held : Bool}
end
end Go.Proofs.YtaikcpidijekpaaDoor
