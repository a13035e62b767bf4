/- Segments of lists of cells: rows of elements of the same size. -/
import Derived.Test.YtffcilmllebdmaaAmEq
namespace Go.Am

theorem setSeg_length {l vs : List Value} {o : Nat} (h : o + vs.length ≤ l.length) : (setSeg l o vs).length = l.length := by
  simp [setSeg]; omega
theorem setSeg_left {A B vs : List Value} {o : Nat} (h : o + vs.length ≤ A.length) : setSeg (A ++ B) o vs = setSeg A o vs ++ B := by
  unfold setSeg
  rw [List.take_append_of_le_length (by omega), List.drop_append_of_le_length (by omega)]
  simp
theorem setSeg_right {A B vs : List Value} {o : Nat} : setSeg (A ++ B) (A.length + o) vs = A ++ setSeg B o vs := by
  unfold setSeg
  rw [List.take_length_add_append, Nat.add_assoc, List.drop_length_add_append]
  simp
theorem seg_left {A B : List Value} {o n : Nat} (h : o + n ≤ A.length) : ((A ++ B).drop o).take n = (A.drop o).take n := by
  rw [List.drop_append_of_le_length (by omega), List.take_append_of_le_length (by simp; omega)]
theorem seg_right {A B : List Value} {o n : Nat} : ((A ++ B).drop (A.length + o)).take n = (B.drop o).take n := by
  rw [List.drop_length_add_append]

section
variable {α : Type} {f : α → List Value} {n : Nat}

theorem flat_length (hf : ∀ x, (f x).length = n) : ∀ l : List α, (l.flatMap f).length = l.length * n
  | [] => by simp
  | x :: l => by rw [List.flatMap_cons, List.length_append, hf, flat_length hf l, List.length_cons, Nat.add_mul]; omega

theorem flat_seg (hf : ∀ x, (f x).length = n) : ∀ (l : List α) (j : Nat) (h : j < l.length), ((l.flatMap f).drop (j * n)).take n = f l[j]
  | x :: l, 0, _ => by
    rw [Nat.zero_mul, List.drop_zero, List.flatMap_cons, List.take_append_of_le_length (by rw [hf]; omega), List.take_of_length_le (by rw [hf]; omega)]; rfl
  | x :: l, j + 1, h => by
    have h1 := hf x
    rw [List.flatMap_cons, show (j + 1) * n = (f x).length + j * n by rw [h1, Nat.add_mul]; omega, List.drop_length_add_append]
    exact flat_seg hf l j (by simpa using h)

theorem flat_set (hf : ∀ x, (f x).length = n) (y : α) : ∀ (l : List α) (j : Nat), j < l.length → setSeg (l.flatMap f) (j * n) (f y) = (l.set j y).flatMap f
  | x :: l, 0, _ => by
    have h1 := hf x
    have h2 := hf y
    simp only [Nat.zero_mul, List.flatMap_cons, List.set_cons_zero]
    unfold setSeg
    rw [List.take_zero, List.nil_append, Nat.zero_add, h2, ← h1, List.drop_left]
  | x :: l, j + 1, h => by
    have h1 := hf x
    rw [List.flatMap_cons, show (j + 1) * n = (f x).length + j * n by rw [h1, Nat.add_mul]; omega, setSeg_right, flat_set hf y l j (by simpa using h)]
    simp

theorem flat_get (hf : ∀ x, (f x).length = n) (l : List α) (j o : Nat) (h : j < l.length) (ho : o < n) : (l.flatMap f)[j * n + o]? = (f l[j])[o]? := by
  have := flat_seg hf l j h
  have h2 := congrArg (fun z => z[o]?) this
  simp only [List.getElem?_take, ho, if_true, List.getElem?_drop] at h2
  exact h2

theorem flat_set1 (hf : ∀ x, (f x).length = n) (l : List α) (j o : Nat) (v : Value) (y : α) (h : j < l.length) (ho : o < n) (hy : (f l[j]).set o v = f y) : (l.flatMap f).set (j * n + o) v = (l.set j y).flatMap f := by
  induction l generalizing j with
  | nil => simp at h
  | cons x l ih =>
    have h1 := hf x
    cases j with
    | zero =>
      simp only [Nat.zero_mul, Nat.zero_add, List.flatMap_cons, List.set_cons_zero]
      rw [List.set_append, if_pos (by omega)]
      simp only [List.getElem_cons_zero] at hy
      rw [hy]
    | succ j =>
      simp only [List.flatMap_cons, List.set_cons_succ]
      rw [List.set_append, if_neg (by rw [h1, Nat.add_mul]; omega), show (j + 1) * n + o - (f x).length = j * n + o by rw [h1, Nat.add_mul]; omega]
      rw [ih j (by simpa using h) (by simpa using hy)]
end
end Go.Am
