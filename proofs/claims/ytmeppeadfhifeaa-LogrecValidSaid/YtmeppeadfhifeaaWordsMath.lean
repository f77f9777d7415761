/- Plain mathematics: the bytes of words, the least significant first. No condition. -/
import Derived.Test.YtmeppeadfhifeaaMath
namespace Go.Proofs.Ytmeppeadfhifeaa.Crc
set_option linter.unusedVariables false
set_option linter.unusedSimpArgs false

def byteOf (w k : Nat) : Nat := w / 256 ^ k % 256
def le8 (w : Nat) : List Nat := (List.range 8).map (byteOf w)
def wbytes (l : List Nat) : List Nat := l.flatMap le8
theorem byteOf_lt (w k : Nat) : byteOf w k < 256 := Nat.mod_lt _ (by omega)
theorem le8_length (w : Nat) : (le8 w).length = 8 := by simp [le8]
theorem le8_bytes (w : Nat) : Bytes (le8 w) := by
  intro x hx
  simp only [le8, List.mem_map] at hx
  obtain ⟨k, _, rfl⟩ := hx
  exact byteOf_lt w k
theorem le8_take (w k : Nat) (h : k < 8) : (le8 w).take (k + 1) = (le8 w).take k ++ [byteOf w k] := by
  rw [List.take_succ_eq_append_getElem (by rw [le8_length]; exact h)]
  simp [le8]
theorem wbytes_length (l : List Nat) : (wbytes l).length = 8 * l.length := by
  induction l with
  | nil => rfl
  | cons x l ih =>
    have : wbytes (x :: l) = le8 x ++ wbytes l := rfl
    rw [this, List.length_append, le8_length, ih, List.length_cons]
    omega
theorem wbytes_bytes (l : List Nat) : Bytes (wbytes l) := by
  intro x hx
  simp only [wbytes, List.mem_flatMap] at hx
  obtain ⟨w, _, h⟩ := hx
  exact le8_bytes w x h
theorem wbytes_append (a b : List Nat) : wbytes (a ++ b) = wbytes a ++ wbytes b := by simp [wbytes]
theorem wbytes_snoc (a : List Nat) (w : Nat) : wbytes (a ++ [w]) = wbytes a ++ le8 w := by simp [wbytes]
theorem wbytes_step (l : List Nat) (i : Nat) (h : i < l.length) : wbytes (l.take (i + 1)) = wbytes (l.take i) ++ le8 (l.getD i 0) := by
  rw [List.take_succ_eq_append_getElem h, wbytes_snoc, List.getD_eq_getElem?_getD, List.getElem?_eq_getElem h]
  rfl
/-- The bytes of the first i words and the first m bytes of the next. -/
def part (l : List Nat) (i m : Nat) : List Nat := wbytes (l.take i) ++ (le8 (l.getD i 0)).take m
theorem part_zero (l : List Nat) (i : Nat) : part l i 0 = wbytes (l.take i) := by simp [part]
theorem part_step (l : List Nat) (i m : Nat) (h : m < 8) : part l i (m + 1) = part l i m ++ [byteOf (l.getD i 0) m] := by
  unfold part
  rw [le8_take _ _ h, List.append_assoc]
theorem part_end (l : List Nat) (i : Nat) (h : i < l.length) : part l i 8 = wbytes (l.take (i + 1)) := by
  have e : (le8 (l.getD i 0)).take 8 = le8 (l.getD i 0) := List.take_of_length_le (by rw [le8_length]; exact Nat.le_refl _)
  unfold part
  rw [wbytes_step l i h, e]
theorem part_length (l : List Nat) (i m : Nat) (h : i ≤ l.length) (hm : m ≤ 8) : (part l i m).length = 8 * i + m := by
  unfold part
  rw [List.length_append, wbytes_length, List.length_take, List.length_take, le8_length]
  omega
theorem part_bytes (l : List Nat) (i m : Nat) : Bytes (part l i m) := by
  intro x hx
  rcases List.mem_append.1 hx with h | h
  · exact wbytes_bytes _ x h
  · exact le8_bytes _ x (List.mem_of_mem_take h)
def words (l : List Nat) : Nat := ext 0 (wbytes l)
theorem words_step (l : List Nat) (i : Nat) (h : i < l.length) : words (l.take (i + 1)) = ext (words (l.take i)) (le8 (l.getD i 0)) := by
  unfold words
  rw [wbytes_step l i h, ext_append _ _ _ (wbytes_bytes _)]
theorem shift_step (W m : Nat) : W / 256 ^ m / 256 = W / 256 ^ (m + 1) := by rw [Nat.div_div_eq_div_mul, Nat.pow_succ]

theorem byte_walk (W m : Nat) : (W : Int) / 2 ^ (8 * m) % 256 = ((byteOf W m : Nat) : Int) := by
  have e : (2 : Int) ^ (8 * m) = ((256 ^ m : Nat) : Int) := by
    rw [show (256 : Nat) ^ m = 2 ^ (8 * m) by rw [Nat.pow_mul], Int.natCast_pow]
    rfl
  rw [e]
  rfl
theorem le8_getD (W k : Nat) (h : k < 8) : (le8 W).getD k 0 = byteOf W k := by
  rw [List.getD_eq_getElem?_getD, List.getElem?_eq_getElem (by rw [le8_length]; exact h)]
  simp [le8]
theorem words_nil : words [] = 0 := by decide

end Go.Proofs.Ytmeppeadfhifeaa.Crc
