/- The slot tables of the program: what each function of package slots does, at tables of pointers. -/
import Derived.Test.YtffcilmllebdmaaFacts
import Derived.Test.YtffcilmllebdmaaAmW
import Derived.Test.YtffcilmllebdmaaAmList
import Derived.Test.YtffcilmllebdmaaAmMore
namespace Go.Proofs.Ytffcilmllebdmaa
open Go.Am
set_option maxHeartbeats 4000000
set_option linter.unusedVariables false
set_option linter.unusedSimpArgs false
attribute [local irreducible] Ok GR G Fun OpRun EVS

/-- A pointer, or nil. -/
def ptr (p : Option Nat) : Value := .pointer (p.map fun b => ⟨b, 0, none⟩)

/-- The cells of a slot table's places: taken, and the pointer that lies there. -/
def slotCells : List (Option Nat) → List Value
  | [] => []
  | p :: ps => .bool p.isSome :: ptr p :: slotCells ps

theorem slotCells_length : ∀ ps : List (Option Nat), (slotCells ps).length = 2 * ps.length
  | [] => rfl
  | p :: ps => by simp [slotCells, slotCells_length ps]; omega

theorem slot_taken : ∀ (ps : List (Option Nat)) (j o : Nat), o = 2 * j → j < ps.length → (slotCells ps)[o]? = some (.bool (ps[j]?.join).isSome)
  | p :: ps, 0, o, h, _ => by subst h; rfl
  | p :: ps, j + 1, o, h, hj => by
    subst h
    rw [show 2 * (j + 1) = 2 * j + 1 + 1 by omega]
    simpa [slotCells] using slot_taken ps j _ rfl (by simpa using hj)
theorem slot_ptr : ∀ (ps : List (Option Nat)) (j o : Nat), o = 2 * j + 1 → j < ps.length → (slotCells ps)[o]? = some (ptr (ps[j]?.join))
  | p :: ps, 0, o, h, _ => by subst h; rfl
  | p :: ps, j + 1, o, h, hj => by
    subst h
    rw [show 2 * (j + 1) + 1 = 2 * j + 1 + 1 + 1 by omega]
    simpa [slotCells] using slot_ptr ps j _ rfl (by simpa using hj)
theorem slot_set : ∀ (ps : List (Option Nat)) (j o : Nat) (q : Option Nat), o = 2 * j → j < ps.length → setSeg (slotCells ps) o [.bool q.isSome, ptr q] = slotCells (ps.set j q)
  | p :: ps, 0, o, q, h, _ => by subst h; simp [setSeg, slotCells]
  | p :: ps, j + 1, o, q, h, hj => by
    subst h
    have := slot_set ps j _ q rfl (by simpa using hj)
    rw [show 2 * (j + 1) = 2 * j + 1 + 1 by omega]
    simp only [setSeg, slotCells, List.take_succ_cons, List.cons_append, List.set_cons_succ, List.length_cons, List.length_nil] at this ⊢
    rw [← this]
    congr 3

/-- The pointer at place i. -/
def getp (ps : List (Option Nat)) (i : Int) : Option Nat := if 0 ≤ i then (ps[i.toNat]?).join else none

/-- A slot table at S: 16 places ps, none below low free. -/
def Slots (S : Nat) (low : Int) (ps : List (Option Nat)) : HProp :=
  Pk (fun x : Nat × Int => ps.length = 16 ∧ x.2 = (ps.filter Option.isSome).length)
    (fun x => [cb S [.slice (some ⟨x.1, 0, none⟩) 16 16, .int .i64 x.2, .int .i64 low] 117, cb x.1 (slotCells ps) 119])

theorem getp_in {ps : List (Option Nat)} {i : Int} (h : 0 ≤ i) : getp ps i = (ps[i.toNat]?).join := by simp [getp, h]
theorem getp_neg {ps : List (Option Nat)} {i : Int} (h : i < 0) : getp ps i = none := by simp [getp]; omega
theorem getp_big {ps : List (Option Nat)} {i : Int} (h : (ps.length : Int) ≤ i) : getp ps i = none := by
  rw [getp_in (by omega), List.getElem?_eq_none (by omega)]; rfl

theorem has_ok (S : Nat) (low i : Int) (ps : List (Option Nat)) : Fun Try.prog 89 [ptr (some S), .int .i64 i] [Slots S low ps] (Ret (.bool (getp ps i).isSome) [Slots S low ps]) := by
  refine Fun.enter Try.func89 rfl rfl rfl ?_
  refine G.open (Slots S low ps) rfl ?_
  rintro ⟨C, cnt⟩ ⟨hl, hc⟩
  simp only [List.cons_append, List.nil_append]
  repeat' (first | refine G.w0 ?_ | refine G.w1 ?_ | refine G.wn ?_ | refine GR.w ?_ | (refine G.ws (h := ?_); try (simp only [Nat.reduceAdd, Nat.zero_add, List.set_cons_succ, List.set_cons_zero])) | (refine G.wb ?_; intro bx) | (refine G.wz ?_; intro bx) | refine G.wa (h := ?_) | refine G.seq ?_ | refine G.region ?_ | refine G.nil ?_ | refine G.block ?_ | refine G.skip ?_ | refine G.blk ?_ | refine G.wx ?_ | refine G.wt ?_ | refine G.wf ?_ | ((fail_if_success (first | refine G.take_yes rfl rfl rfl (by first | rfl | assumption) ?_ | refine G.take_n rfl rfl (by first | exact .inl rfl | exact .inr ⟨_, rfl, by first | rfl | assumption⟩) rfl ?_)); refine G.take_split rfl rfl rfl (fun hb => ?_) (fun hb => ?_)) | refine G.cond rfl (fun hb => ?_) (fun hb => ?_))
  · (first | refine G.take rfl ?_ | refine G.take_yes rfl rfl rfl (by first | rfl | assumption) ?_)
    refine GR.ok (Ok.load rfl (slot_taken ps i.toNat _ (by omega) (by simp only [decide_eq_true_eq] at *; omega))) rfl rfl ?_
    repeat (first | refine G.w0 ?_ | refine G.w1 ?_ | refine G.wn ?_ | refine GR.w ?_ | (refine G.ws (h := ?_); try (simp only [Nat.reduceAdd, Nat.zero_add, List.set_cons_succ, List.set_cons_zero])) | (refine G.wb ?_; intro bx) | (refine G.wz ?_; intro bx) | refine G.wa (h := ?_) | refine G.seq ?_ | refine G.region ?_ | refine G.nil ?_ | refine G.block ?_ | refine G.skip ?_ | refine G.blk ?_ | refine G.wx ?_ | refine G.wt ?_ | refine G.wf ?_)
    refine G.close (Slots S low ps) rfl (C, cnt) ⟨hl, hc⟩ rfl ?_
    refine G.ret rfl Try.func89 rfl rfl rfl ?_
    exact ⟨by rw [getp_in (by simp only [decide_eq_true_eq] at *; assumption)]; rfl, rfl⟩
  · refine G.close (Slots S low ps) rfl (C, cnt) ⟨hl, hc⟩ rfl ?_
    refine G.ret rfl Try.func89 rfl rfl rfl ?_
    exact ⟨by rw [getp_big (by simp at *; omega)]; rfl, rfl⟩
  · refine G.close (Slots S low ps) rfl (C, cnt) ⟨hl, hc⟩ rfl ?_
    refine G.ret rfl Try.func89 rfl rfl rfl ?_
    exact ⟨by rw [getp_neg (by simp at *; omega)]; rfl, rfl⟩

theorem getp_some {ps : List (Option Nat)} {i : Int} (h : (getp ps i).isSome = true) : 0 ≤ i ∧ i < ps.length := by
  unfold getp at h
  split at h
  · rename_i h0
    refine ⟨h0, ?_⟩
    by_cases hh : i < ps.length
    · exact hh
    · rw [List.getElem?_eq_none (by omega)] at h; cases h
  · cases h

theorem Get_ok (S : Nat) (low i : Int) (ps : List (Option Nat)) : Fun Try.prog 83 [ptr (some S), .int .i64 i] [Slots S low ps] (Ret (.tuple #[ptr (getp ps i), .bool (getp ps i).isSome]) [Slots S low ps]) := by
  refine Fun.enter Try.func83 rfl rfl rfl ?_
  repeat (first | refine G.w0 ?_ | refine G.w1 ?_ | refine G.wn ?_ | refine GR.w ?_ | (refine G.ws (h := ?_); try (simp only [Nat.reduceAdd, Nat.zero_add, List.set_cons_succ, List.set_cons_zero])) | (refine G.wb ?_; intro bx) | (refine G.wz ?_; intro bx) | refine G.wa (h := ?_) | refine G.seq ?_ | refine G.region ?_ | refine G.nil ?_ | refine G.block ?_ | refine G.skip ?_ | refine G.blk ?_ | refine G.wx ?_ | refine G.wt ?_ | refine G.wf ?_)
  (first | refine G.take rfl ?_ | refine G.take_yes rfl rfl rfl (by first | rfl | assumption) ?_); (first | refine R.callD Try.func89 rfl (by decide) rfl rfl (has_ok S low i ps) ?_ | refine R.callD0 Try.func89 rfl (by decide) rfl (has_ok S low i ps) ?_); simp only [List.cons_append, List.nil_append]
  repeat (first | refine G.w0 ?_ | refine G.w1 ?_ | refine G.wn ?_ | refine GR.w ?_ | (refine G.ws (h := ?_); try (simp only [Nat.reduceAdd, Nat.zero_add, List.set_cons_succ, List.set_cons_zero])) | (refine G.wb ?_; intro bx) | (refine G.wz ?_; intro bx) | refine G.wa (h := ?_) | refine G.seq ?_ | refine G.region ?_ | refine G.nil ?_ | refine G.block ?_ | refine G.skip ?_ | refine G.blk ?_ | refine G.wx ?_ | refine G.wt ?_ | refine G.wf ?_)
  refine G.cond rfl (fun hb => ?_) (fun hb => ?_)
  · repeat (first | refine G.w0 ?_ | refine G.w1 ?_ | refine G.wn ?_ | refine GR.w ?_ | (refine G.ws (h := ?_); try (simp only [Nat.reduceAdd, Nat.zero_add, List.set_cons_succ, List.set_cons_zero])) | (refine G.wb ?_; intro bx) | (refine G.wz ?_; intro bx) | refine G.wa (h := ?_) | refine G.seq ?_ | refine G.region ?_ | refine G.nil ?_ | refine G.block ?_ | refine G.skip ?_ | refine G.blk ?_ | refine G.wx ?_ | refine G.wt ?_ | refine G.wf ?_)
    refine G.ret rfl Try.func83 rfl rfl rfl ?_
    have : getp ps i = none := by simpa using hb
    rw [this]; exact ⟨rfl, rfl⟩
  · have hi : 0 ≤ i ∧ i < ps.length := getp_some (by simpa using hb)
    refine G.open (Slots S low ps) rfl ?_
    rintro ⟨C, cnt⟩ ⟨hl, hc⟩
    simp only [List.cons_append, List.nil_append]
    repeat (first | refine G.w0 ?_ | refine G.w1 ?_ | refine G.wn ?_ | refine GR.w ?_ | (refine G.ws (h := ?_); try (simp only [Nat.reduceAdd, Nat.zero_add, List.set_cons_succ, List.set_cons_zero])) | (refine G.wb ?_; intro bx) | (refine G.wz ?_; intro bx) | refine G.wa (h := ?_) | refine G.seq ?_ | refine G.region ?_ | refine G.nil ?_ | refine G.block ?_ | refine G.skip ?_ | refine G.blk ?_ | refine G.wx ?_ | refine G.wt ?_ | refine G.wf ?_)
    (first | refine G.take rfl ?_ | refine G.take_yes rfl rfl rfl (by first | rfl | assumption) ?_)
    refine GR.ok (Ok.load rfl (slot_ptr ps i.toNat _ (by omega) (by omega))) rfl rfl ?_
    repeat (first | refine G.w0 ?_ | refine G.w1 ?_ | refine G.wn ?_ | refine GR.w ?_ | (refine G.ws (h := ?_); try (simp only [Nat.reduceAdd, Nat.zero_add, List.set_cons_succ, List.set_cons_zero])) | (refine G.wb ?_; intro bx) | (refine G.wz ?_; intro bx) | refine G.wa (h := ?_) | refine G.seq ?_ | refine G.region ?_ | refine G.nil ?_ | refine G.block ?_ | refine G.skip ?_ | refine G.blk ?_ | refine G.wx ?_ | refine G.wt ?_ | refine G.wf ?_)
    refine G.close (Slots S low ps) rfl (C, cnt) ⟨hl, hc⟩ rfl ?_
    refine G.ret rfl Try.func83 rfl rfl rfl ?_
    have h2 : (getp ps i).isSome = true := by simpa using hb
    exact ⟨by rw [h2, getp_in hi.1]; rfl, rfl⟩

theorem wrap_id {k : Int} (h0 : -9223372036854775808 ≤ k) (h1 : k < 9223372036854775808) : IntKind.i64.wrap k = k := by
  simp only [IntKind.wrap, IntKind.bits, IntKind.signed]
  by_cases h : k % 2 ^ 64 ≥ 2 ^ (64 - 1)
  · simp [h]; omega
  · simp [h]; omega

theorem filter_le (ps : List (Option Nat)) : (ps.filter Option.isSome).length ≤ ps.length := List.length_filter_le _ _

theorem filter_set : ∀ (ps : List (Option Nat)) (j : Nat) (q : Option Nat), j < ps.length →
    ((ps.set j q).filter Option.isSome).length + (if (ps[j]?.join).isSome then 1 else 0) = (ps.filter Option.isSome).length + (if q.isSome then 1 else 0)
  | p :: ps, 0, q, _ => by cases p <;> cases q <;> simp
  | p :: ps, j + 1, q, h => by
    have := filter_set ps j q (by simpa using h)
    cases p <;> simp [List.filter_cons] at this ⊢ <;> omega

theorem slot_seg (ps : List (Option Nat)) (j o : Nat) (q : Option Nat) (t : Bool) (v : Value) (h : o = 2 * j) (hj : j < ps.length) (ht : t = q.isSome) (hv : v = ptr q) : setSeg (slotCells ps) o [.bool t, v] = slotCells (ps.set j q) := by
  rw [ht, hv]; exact slot_set ps j o q h hj

theorem lay_ok (S : Nat) (low i : Int) (ps : List (Option Nat)) (q : Nat) (hi : 0 ≤ i ∧ i < 16) (hf : getp ps i = none) :
    Fun Try.prog 85 [ptr (some S), .int .i64 i, ptr (some q)] [Slots S low ps] (Ret (.tuple #[]) [Slots S low (ps.set i.toNat (some q))]) := by
  refine Fun.enter Try.func85 rfl rfl rfl ?_
  refine G.open (Slots S low ps) rfl ?_
  rintro ⟨C, cnt⟩ ⟨hl, hc⟩
  dsimp only at hc
  have hfl := filter_le ps
  have hw : IntKind.i64.wrap (cnt + 1) = cnt + 1 := wrap_id (by omega) (by omega)
  have hs := filter_set ps i.toNat (some q) (by omega)
  rw [getp_in hi.1] at hf
  simp only [List.cons_append, List.nil_append]
  repeat (first | refine G.w0 ?_ | refine G.w1 ?_ | refine G.wn ?_ | refine GR.w ?_ | (refine G.ws (h := ?_); try (simp only [Nat.reduceAdd, Nat.zero_add, List.set_cons_succ, List.set_cons_zero])) | (refine G.wb ?_; intro bx) | (refine G.wz ?_; intro bx) | refine G.wa (h := ?_) | refine G.seq ?_ | refine G.region ?_ | refine G.nil ?_ | refine G.block ?_ | refine G.skip ?_ | refine G.blk ?_ | refine G.wx ?_ | refine G.wt ?_ | refine G.wf ?_)
  (first | refine G.take rfl ?_ | refine G.take_yes rfl rfl rfl (by first | rfl | assumption) ?_)
  refine R.storeA (vs := [.bool true, ptr (some q)]) rfl rfl rfl rfl (by simp [slotCells_length]; omega) ?_
  rw [slot_seg ps i.toNat (0 + i.toNat * 2) (some q) true (ptr (some q)) (by omega) (by omega) rfl rfl]
  repeat (first | refine G.w0 ?_ | refine G.w1 ?_ | refine G.wn ?_ | refine GR.w ?_ | (refine G.ws (h := ?_); try (simp only [Nat.reduceAdd, Nat.zero_add, List.set_cons_succ, List.set_cons_zero])) | (refine G.wb ?_; intro bx) | (refine G.wz ?_; intro bx) | refine G.wa (h := ?_) | refine G.seq ?_ | refine G.region ?_ | refine G.nil ?_ | refine G.block ?_ | refine G.skip ?_ | refine G.blk ?_ | refine G.wx ?_ | refine G.wt ?_ | refine G.wf ?_)
  refine G.close (Slots S low (ps.set i.toNat (some q))) rfl ((C, cnt + 1)) (⟨by simp [hl], by rw [hf] at hs; simp at hs; dsimp only; omega⟩) (by dsimp only) ?_
  refine G.end rfl Try.func85 rfl rfl rfl ?_
  exact ⟨rfl, rfl⟩

/-- What Next answers: the lowest taken place from i on, or -1. -/
def IsNext (ps : List (Option Nat)) (i r : Int) : Prop :=
  (0 ≤ r ∧ i ≤ r ∧ (getp ps r).isSome = true ∧ ∀ j, 0 ≤ j → i ≤ j → j < r → (getp ps j).isSome = false) ∨ (r = -1 ∧ ∀ j, 0 ≤ j → i ≤ j → (getp ps j).isSome = false)

theorem Next_ok (S : Nat) (low i : Int) (ps : List (Option Nat)) : Fun Try.prog 88 [ptr (some S), .int .i64 i] [Slots S low ps] (fun v H => ∃ r, IsNext ps i r ∧ v = .int .i64 r ∧ H = [Slots S low ps]) := by
  refine Fun.enter Try.func88 rfl rfl rfl ?_
  refine G.open (Slots S low ps) rfl ?_
  rintro ⟨C, cnt⟩ ⟨hl, hc⟩
  simp only [List.cons_append, List.nil_append]
  repeat (first | refine G.w0 ?_ | refine G.w1 ?_ | refine G.wn ?_ | refine GR.w ?_ | (refine G.ws (h := ?_); try (simp only [Nat.reduceAdd, Nat.zero_add, List.set_cons_succ, List.set_cons_zero])) | (refine G.wb ?_; intro bx) | (refine G.wz ?_; intro bx) | refine G.wa (h := ?_) | refine G.seq ?_ | refine G.region ?_ | refine G.nil ?_ | refine G.block ?_ | refine G.skip ?_ | refine G.blk ?_ | refine G.wx ?_ | refine G.wt ?_ | refine G.wf ?_)
  refine G.loopI (fun k : Int => [(5, .int .i64 k), (0, ptr (some S))]) (fun _ => _) (fun k => 0 ≤ k ∧ i ≤ k ∧ k ≤ max i 16 ∧ ∀ j, 0 ≤ j → i ≤ j → j < k → (getp ps j).isSome = false) (fun k => (max i 16 - k).toNat) (max i 0) ⟨by omega, by omega, by omega, fun j h1 h2 h3 => by omega⟩ (Env.le_cons rfl (Env.le_cons rfl (Env.le_nil _))) rfl ?_
  rintro k ⟨h0, h1, h2, hno⟩ ih
  repeat (first | refine G.w0 ?_ | refine G.w1 ?_ | refine G.wn ?_ | refine GR.w ?_ | (refine G.ws (h := ?_); try (simp only [Nat.reduceAdd, Nat.zero_add, List.set_cons_succ, List.set_cons_zero])) | (refine G.wb ?_; intro bx) | (refine G.wz ?_; intro bx) | refine G.wa (h := ?_) | refine G.seq ?_ | refine G.region ?_ | refine G.nil ?_ | refine G.block ?_ | refine G.skip ?_ | refine G.blk ?_ | refine G.wx ?_ | refine G.wt ?_ | refine G.wf ?_)
  refine G.cond rfl (fun hb => ?_) (fun hb => ?_)
  · repeat (first | refine G.w0 ?_ | refine G.w1 ?_ | refine G.wn ?_ | refine GR.w ?_ | (refine G.ws (h := ?_); try (simp only [Nat.reduceAdd, Nat.zero_add, List.set_cons_succ, List.set_cons_zero])) | (refine G.wb ?_; intro bx) | (refine G.wz ?_; intro bx) | refine G.wa (h := ?_) | refine G.seq ?_ | refine G.region ?_ | refine G.nil ?_ | refine G.block ?_ | refine G.skip ?_ | refine G.blk ?_ | refine G.wx ?_ | refine G.wt ?_ | refine G.wf ?_)
    have hk : k < 16 := by simpa using hb
    (first | refine G.take rfl ?_ | refine G.take_yes rfl rfl rfl (by first | rfl | assumption) ?_)
    refine GR.ok (Ok.load rfl (slot_taken ps k.toNat _ (by omega) (by omega))) rfl rfl ?_
    repeat (first | refine G.w0 ?_ | refine G.w1 ?_ | refine G.wn ?_ | refine GR.w ?_ | (refine G.ws (h := ?_); try (simp only [Nat.reduceAdd, Nat.zero_add, List.set_cons_succ, List.set_cons_zero])) | (refine G.wb ?_; intro bx) | (refine G.wz ?_; intro bx) | refine G.wa (h := ?_) | refine G.seq ?_ | refine G.region ?_ | refine G.nil ?_ | refine G.block ?_ | refine G.skip ?_ | refine G.blk ?_ | refine G.wx ?_ | refine G.wt ?_ | refine G.wf ?_)
    refine G.cond rfl (fun hb => ?_) (fun hb => ?_)
    · repeat (first | refine G.w0 ?_ | refine G.w1 ?_ | refine G.wn ?_ | refine GR.w ?_ | (refine G.ws (h := ?_); try (simp only [Nat.reduceAdd, Nat.zero_add, List.set_cons_succ, List.set_cons_zero])) | (refine G.wb ?_; intro bx) | (refine G.wz ?_; intro bx) | refine G.wa (h := ?_) | refine G.seq ?_ | refine G.region ?_ | refine G.nil ?_ | refine G.block ?_ | refine G.skip ?_ | refine G.blk ?_ | refine G.wx ?_ | refine G.wt ?_ | refine G.wf ?_)
      refine G.close (Slots S low ps) rfl ((C, cnt)) (⟨hl, hc⟩) (by dsimp only) ?_
      refine G.ret rfl Try.func88 rfl rfl rfl ?_
      exact ⟨k, .inl ⟨h0, h1, by rw [getp_in h0]; exact hb, hno⟩, rfl, rfl⟩
    · have hw : IntKind.i64.wrap (k + 1) = k + 1 := wrap_id (by omega) (by omega)
      repeat (first | refine G.w0 ?_ | refine G.w1 ?_ | refine G.wn ?_ | refine GR.w ?_ | (refine G.ws (h := ?_); try (simp only [Nat.reduceAdd, Nat.zero_add, List.set_cons_succ, List.set_cons_zero])) | (refine G.wb ?_; intro bx) | (refine G.wz ?_; intro bx) | refine G.wa (h := ?_) | refine G.seq ?_ | refine G.region ?_ | refine G.nil ?_ | refine G.block ?_ | refine G.skip ?_ | refine G.blk ?_ | refine G.wx ?_ | refine G.wt ?_ | refine G.wf ?_)
      refine (ih (k + 1) ⟨by omega, by omega, by omega, fun j a b c => ?_⟩ (by omega)).forget _ (Env.le_cons rfl (Env.le_cons rfl (Env.le_nil _)))
      by_cases e : j = k
      · rw [e, getp_in h0]; exact hb
      · exact hno j a b (by omega)
  · repeat (first | refine G.w0 ?_ | refine G.w1 ?_ | refine G.wn ?_ | refine GR.w ?_ | (refine G.ws (h := ?_); try (simp only [Nat.reduceAdd, Nat.zero_add, List.set_cons_succ, List.set_cons_zero])) | (refine G.wb ?_; intro bx) | (refine G.wz ?_; intro bx) | refine G.wa (h := ?_) | refine G.seq ?_ | refine G.region ?_ | refine G.nil ?_ | refine G.block ?_ | refine G.skip ?_ | refine G.blk ?_ | refine G.wx ?_ | refine G.wt ?_ | refine G.wf ?_)
    refine G.close (Slots S low ps) rfl ((C, cnt)) (⟨hl, hc⟩) (by dsimp only) ?_
    refine G.ret rfl Try.func88 rfl rfl rfl ?_
    have hk : 16 ≤ k := by simpa using hb
    refine ⟨-1, .inr ⟨rfl, fun j a b => ?_⟩, rfl, rfl⟩
    by_cases e : j < k
    · exact hno j a b e
    · rw [getp_big (by omega)]; rfl
end Go.Proofs.Ytffcilmllebdmaa

namespace Go.Proofs.Ytffcilmllebdmaa
open Go.Am
set_option maxHeartbeats 4000000
set_option linter.unusedVariables false
set_option linter.unusedSimpArgs false
attribute [local irreducible] Ok GR G Fun OpRun EVS

/-- No place below low is free. -/
def LowOk (low : Int) (ps : List (Option Nat)) : Prop := 0 ≤ low ∧ low ≤ 16 ∧ ∀ j, 0 ≤ j → j < low → (getp ps j).isSome = true

/-- r is the lowest free place. -/
def IsFree (ps : List (Option Nat)) (r : Int) : Prop := 0 ≤ r ∧ r < 16 ∧ getp ps r = none ∧ ∀ j, 0 ≤ j → j < r → (getp ps j).isSome = true

theorem Put_ok (S q : Nat) (low : Int) (ps : List (Option Nat)) (hlow : LowOk low ps) : Fun Try.prog 54 [ptr (some S), ptr (some q)] [Slots S low ps]
    (fun v H => (∃ r, IsFree ps r ∧ v = .tuple #[.int .i64 r, .int .i64 0] ∧ H = [Slots S r (ps.set r.toNat (some q))]) ∨
      ((∀ j, 0 ≤ j → j < 16 → (getp ps j).isSome = true) ∧ v = .tuple #[.int .i64 (-1), .int .i64 2] ∧ ∃ low', LowOk low' ps ∧ H = [Slots S low' ps])) := by
  refine Fun.enter Try.func54 rfl rfl rfl ?_
  refine G.open (Slots S low ps) rfl ?_
  rintro ⟨C, cnt⟩ ⟨hl, hc⟩
  simp only [List.cons_append, List.nil_append]
  repeat (first | refine G.w0 ?_ | refine G.w1 ?_ | refine G.wn ?_ | refine GR.w ?_ | (refine G.ws (h := ?_); try (simp only [Nat.reduceAdd, Nat.zero_add, List.set_cons_succ, List.set_cons_zero])) | (refine G.wb ?_; intro bx) | (refine G.wz ?_; intro bx) | refine G.wa (h := ?_) | refine G.seq ?_ | refine G.region ?_ | refine G.nil ?_ | refine G.block ?_ | refine G.skip ?_ | refine G.blk ?_ | refine G.wx ?_ | refine G.wt ?_ | refine G.wf ?_)
  refine G.loopI (fun _ : Int => [(1, ptr (some q)), (0, ptr (some S))]) (fun k => [cb S [.slice (some ⟨C, 0, none⟩) 16 16, .int .i64 cnt, .int .i64 k] 117, cb C (slotCells ps) 119]) (fun k => LowOk k ps) (fun k => (16 - k).toNat) low hlow (Env.le_cons rfl (Env.le_cons rfl (Env.le_nil _))) rfl ?_
  rintro k ⟨h0, h1, hall⟩ ih
  refine G.seq ?_

  (repeat refine G.seq ?_); refine G.draw [0, 1, 2, 3, 4, 5, 6, 7, 8, 9, 10, 11, 12, 13, 14, 15, 16, 17, 18, 19, 20, 21, 22] [] [] (by kernel_rfl) (by kernel_rfl) rfl rfl rfl ?_
  repeat' (first | refine EV.w0 ?_ | refine EV.wy ?_ | refine EV.wn ?_ | refine EV.wm ?_ | (refine EV.wb ?_; intro bx) | refine EV.done ?_ | ((fail_if_success (first | refine EV.yes (v := .bool true) rfl rfl (by first | rfl | assumption) ?_ ?_ | refine EV.no rfl rfl (by first | exact .inl rfl | exact .inr ⟨_, rfl, by first | rfl | assumption⟩) ?_)); refine EV.split rfl rfl rfl (fun hb => ?_) (fun hb => ?_)))
  · have hk : k < 16 := by simpa using hb
    refine EV.yes rfl rfl (by assumption) (Ok.load rfl (slot_taken ps k.toNat _ (by omega) (by omega))) ?_
    repeat (first | refine EV.w0 ?_ | refine EV.wy ?_ | refine EV.wn ?_ | refine EV.wm ?_ | (refine EV.wb ?_; intro bx) | refine EV.done ?_)
    repeat (first | refine G.w0 ?_ | refine G.w1 ?_ | refine G.wn ?_ | refine GR.w ?_ | (refine G.ws (h := ?_); try (simp only [Nat.reduceAdd, Nat.zero_add, List.set_cons_succ, List.set_cons_zero])) | (refine G.wb ?_; intro bx) | (refine G.wz ?_; intro bx) | refine G.wa (h := ?_) | refine G.seq ?_ | refine G.region ?_ | refine G.nil ?_ | refine G.block ?_ | refine G.skip ?_ | refine G.blk ?_ | refine G.wx ?_ | refine G.wt ?_ | refine G.wf ?_)
    refine G.cond rfl (fun hb => ?_) (fun hb => ?_)
    · have hw : IntKind.i64.wrap (k + 1) = k + 1 := wrap_id (by omega) (by omega)
      repeat (first | refine G.w0 ?_ | refine G.w1 ?_ | refine G.wn ?_ | refine GR.w ?_ | (refine G.ws (h := ?_); try (simp only [Nat.reduceAdd, Nat.zero_add, List.set_cons_succ, List.set_cons_zero])) | (refine G.wb ?_; intro bx) | (refine G.wz ?_; intro bx) | refine G.wa (h := ?_) | refine G.seq ?_ | refine G.region ?_ | refine G.nil ?_ | refine G.block ?_ | refine G.skip ?_ | refine G.blk ?_ | refine G.wx ?_ | refine G.wt ?_ | refine G.wf ?_)
      refine (ih (k + 1) ⟨by omega, by omega, fun j a b => ?_⟩ (by omega)).forget _ (Env.le_cons rfl (Env.le_cons rfl (Env.le_nil _)))
      by_cases e : j = k
      · rw [e, getp_in h0]; exact hb
      · exact hall j a (by omega)
    · repeat (first | refine G.w0 ?_ | refine G.w1 ?_ | refine G.wn ?_ | refine GR.w ?_ | (refine G.ws (h := ?_); try (simp only [Nat.reduceAdd, Nat.zero_add, List.set_cons_succ, List.set_cons_zero])) | (refine G.wb ?_; intro bx) | (refine G.wz ?_; intro bx) | refine G.wa (h := ?_) | refine G.seq ?_ | refine G.region ?_ | refine G.nil ?_ | refine G.block ?_ | refine G.skip ?_ | refine G.blk ?_ | refine G.wx ?_ | refine G.wt ?_ | refine G.wf ?_)
      (repeat refine G.seq ?_); refine G.draw [0, 1, 2, 3, 4, 5, 6, 7, 8, 9] [] [] (by kernel_rfl) (by kernel_rfl) rfl rfl rfl ?_
      repeat (first | refine EV.w0 ?_ | refine EV.wy ?_ | refine EV.wn ?_ | refine EV.wm ?_ | (refine EV.wb ?_; intro bx) | refine EV.done ?_)
      repeat (first | refine G.w0 ?_ | refine G.w1 ?_ | refine G.wn ?_ | refine GR.w ?_ | (refine G.ws (h := ?_); try (simp only [Nat.reduceAdd, Nat.zero_add, List.set_cons_succ, List.set_cons_zero])) | (refine G.wb ?_; intro bx) | (refine G.wz ?_; intro bx) | refine G.wa (h := ?_) | refine G.seq ?_ | refine G.region ?_ | refine G.nil ?_ | refine G.block ?_ | refine G.skip ?_ | refine G.blk ?_ | refine G.wx ?_ | refine G.wt ?_ | refine G.wf ?_)
      refine G.cond_f rfl (by simp; omega) ?_
      repeat (first | refine G.w0 ?_ | refine G.w1 ?_ | refine G.wn ?_ | refine GR.w ?_ | (refine G.ws (h := ?_); try (simp only [Nat.reduceAdd, Nat.zero_add, List.set_cons_succ, List.set_cons_zero])) | (refine G.wb ?_; intro bx) | (refine G.wz ?_; intro bx) | refine G.wa (h := ?_) | refine G.seq ?_ | refine G.region ?_ | refine G.nil ?_ | refine G.block ?_ | refine G.skip ?_ | refine G.blk ?_ | refine G.wx ?_ | refine G.wt ?_ | refine G.wf ?_)
      refine G.close (Slots S k ps) rfl ((C, cnt)) (⟨hl, hc⟩) (by dsimp only) ?_
      have hg : getp ps k = none := by rw [getp_in h0]; simpa using hb
      (first | refine G.take rfl ?_ | refine G.take_yes rfl rfl rfl (by first | rfl | assumption) ?_); (first | refine R.callD Try.func85 rfl (by decide) rfl rfl (lay_ok S k k ps q ⟨h0, hk⟩ hg) ?_ | refine R.callD0 Try.func85 rfl (by decide) rfl (lay_ok S k k ps q ⟨h0, hk⟩ hg) ?_); simp only [List.cons_append, List.nil_append]
      repeat (first | refine G.w0 ?_ | refine G.w1 ?_ | refine G.wn ?_ | refine GR.w ?_ | (refine G.ws (h := ?_); try (simp only [Nat.reduceAdd, Nat.zero_add, List.set_cons_succ, List.set_cons_zero])) | (refine G.wb ?_; intro bx) | (refine G.wz ?_; intro bx) | refine G.wa (h := ?_) | refine G.seq ?_ | refine G.region ?_ | refine G.nil ?_ | refine G.block ?_ | refine G.skip ?_ | refine G.blk ?_ | refine G.wx ?_ | refine G.wt ?_ | refine G.wf ?_)
      refine G.ret rfl Try.func54 rfl rfl rfl ?_
      exact .inl ⟨k, ⟨h0, hk, hg, fun j a b => hall j a b⟩, rfl, rfl⟩
  · repeat (first | refine G.w0 ?_ | refine G.w1 ?_ | refine G.wn ?_ | refine GR.w ?_ | (refine G.ws (h := ?_); try (simp only [Nat.reduceAdd, Nat.zero_add, List.set_cons_succ, List.set_cons_zero])) | (refine G.wb ?_; intro bx) | (refine G.wz ?_; intro bx) | refine G.wa (h := ?_) | refine G.seq ?_ | refine G.region ?_ | refine G.nil ?_ | refine G.block ?_ | refine G.skip ?_ | refine G.blk ?_ | refine G.wx ?_ | refine G.wt ?_ | refine G.wf ?_)
    (repeat refine G.seq ?_); refine G.draw [0, 1, 2, 3, 4, 5, 6, 7, 8, 9] [] [] (by kernel_rfl) (by kernel_rfl) rfl rfl rfl ?_
    repeat (first | refine EV.w0 ?_ | refine EV.wy ?_ | refine EV.wn ?_ | refine EV.wm ?_ | (refine EV.wb ?_; intro bx) | refine EV.done ?_)
    repeat (first | refine G.w0 ?_ | refine G.w1 ?_ | refine G.wn ?_ | refine GR.w ?_ | (refine G.ws (h := ?_); try (simp only [Nat.reduceAdd, Nat.zero_add, List.set_cons_succ, List.set_cons_zero])) | (refine G.wb ?_; intro bx) | (refine G.wz ?_; intro bx) | refine G.wa (h := ?_) | refine G.seq ?_ | refine G.region ?_ | refine G.nil ?_ | refine G.block ?_ | refine G.skip ?_ | refine G.blk ?_ | refine G.wx ?_ | refine G.wt ?_ | refine G.wf ?_)
    have hk : ¬ k < 16 := by simpa using hb
    refine G.cond_t rfl (by simp; omega) ?_
    repeat (first | refine G.w0 ?_ | refine G.w1 ?_ | refine G.wn ?_ | refine GR.w ?_ | (refine G.ws (h := ?_); try (simp only [Nat.reduceAdd, Nat.zero_add, List.set_cons_succ, List.set_cons_zero])) | (refine G.wb ?_; intro bx) | (refine G.wz ?_; intro bx) | refine G.wa (h := ?_) | refine G.seq ?_ | refine G.region ?_ | refine G.nil ?_ | refine G.block ?_ | refine G.skip ?_ | refine G.blk ?_ | refine G.wx ?_ | refine G.wt ?_ | refine G.wf ?_)
    refine G.close (Slots S k ps) rfl ((C, cnt)) (⟨hl, hc⟩) (by dsimp only) ?_
    refine G.ret rfl Try.func54 rfl rfl rfl ?_
    exact .inr ⟨fun j a b => hall j a (by omega), rfl, k, ⟨h0, h1, hall⟩, rfl⟩

theorem Drop_ok (S : Nat) (low i : Int) (ps : List (Option Nat)) (hi : (getp ps i).isSome = true) (hlow : LowOk low ps) : Fun Try.prog 61 [ptr (some S), .int .i64 i] [Slots S low ps]
    (Ret (.tuple #[ptr (getp ps i), .bool true]) [Slots S (min low i) (ps.set i.toNat none)]) := by
  refine Fun.enter Try.func61 rfl rfl rfl ?_
  repeat (first | refine G.w0 ?_ | refine G.w1 ?_ | refine G.wn ?_ | refine GR.w ?_ | (refine G.ws (h := ?_); try (simp only [Nat.reduceAdd, Nat.zero_add, List.set_cons_succ, List.set_cons_zero])) | (refine G.wb ?_; intro bx) | (refine G.wz ?_; intro bx) | refine G.wa (h := ?_) | refine G.seq ?_ | refine G.region ?_ | refine G.nil ?_ | refine G.block ?_ | refine G.skip ?_ | refine G.blk ?_ | refine G.wx ?_ | refine G.wt ?_ | refine G.wf ?_)
  (first | refine G.take rfl ?_ | refine G.take_yes rfl rfl rfl (by first | rfl | assumption) ?_); (first | refine R.callD Try.func89 rfl (by decide) rfl rfl (has_ok S low i ps) ?_ | refine R.callD0 Try.func89 rfl (by decide) rfl (has_ok S low i ps) ?_); simp only [List.cons_append, List.nil_append]
  repeat (first | refine G.w0 ?_ | refine G.w1 ?_ | refine G.wn ?_ | refine GR.w ?_ | (refine G.ws (h := ?_); try (simp only [Nat.reduceAdd, Nat.zero_add, List.set_cons_succ, List.set_cons_zero])) | (refine G.wb ?_; intro bx) | (refine G.wz ?_; intro bx) | refine G.wa (h := ?_) | refine G.seq ?_ | refine G.region ?_ | refine G.nil ?_ | refine G.block ?_ | refine G.skip ?_ | refine G.blk ?_ | refine G.wx ?_ | refine G.wt ?_ | refine G.wf ?_)
  refine G.cond_f rfl (by simp [hi]) ?_
  have h2 := getp_some hi
  have h3 : (ps[i.toNat]?.join).isSome = true := by rw [← getp_in h2.1]; exact hi
  refine G.open (Slots S low ps) rfl ?_
  rintro ⟨C, cnt⟩ ⟨hl, hc⟩
  dsimp only at hc
  have hfl := filter_le ps
  have hs := filter_set ps i.toNat none (by omega)
  have hw : IntKind.i64.wrap (cnt - 1) = cnt - 1 := wrap_id (by omega) (by omega)
  simp only [List.cons_append, List.nil_append]
  repeat (first | refine G.w0 ?_ | refine G.w1 ?_ | refine G.wn ?_ | refine GR.w ?_ | (refine G.ws (h := ?_); try (simp only [Nat.reduceAdd, Nat.zero_add, List.set_cons_succ, List.set_cons_zero])) | (refine G.wb ?_; intro bx) | (refine G.wz ?_; intro bx) | refine G.wa (h := ?_) | refine G.seq ?_ | refine G.region ?_ | refine G.nil ?_ | refine G.block ?_ | refine G.skip ?_ | refine G.blk ?_ | refine G.wx ?_ | refine G.wt ?_ | refine G.wf ?_)
  (first | refine G.take rfl ?_ | refine G.take_yes rfl rfl rfl (by first | rfl | assumption) ?_)
  refine GR.ok (Ok.load rfl (slot_ptr ps i.toNat _ (by omega) (by omega))) rfl rfl ?_
  repeat (first | refine G.w0 ?_ | refine G.w1 ?_ | refine G.wn ?_ | refine GR.w ?_ | (refine G.ws (h := ?_); try (simp only [Nat.reduceAdd, Nat.zero_add, List.set_cons_succ, List.set_cons_zero])) | (refine G.wb ?_; intro bx) | (refine G.wz ?_; intro bx) | refine G.wa (h := ?_) | refine G.seq ?_ | refine G.region ?_ | refine G.nil ?_ | refine G.block ?_ | refine G.skip ?_ | refine G.blk ?_ | refine G.wx ?_ | refine G.wt ?_ | refine G.wf ?_)
  (first | refine G.take rfl ?_ | refine G.take_yes rfl rfl rfl (by first | rfl | assumption) ?_)
  refine R.storeA (vs := [.bool false, .pointer none]) rfl rfl rfl rfl (by simp [slotCells_length]; omega) ?_
  rw [slot_seg ps i.toNat (0 + i.toNat * 2) none false (.pointer none) (by omega) (by omega) rfl rfl]
  repeat (first | refine G.w0 ?_ | refine G.w1 ?_ | refine G.wn ?_ | refine GR.w ?_ | (refine G.ws (h := ?_); try (simp only [Nat.reduceAdd, Nat.zero_add, List.set_cons_succ, List.set_cons_zero])) | (refine G.wb ?_; intro bx) | (refine G.wz ?_; intro bx) | refine G.wa (h := ?_) | refine G.seq ?_ | refine G.region ?_ | refine G.nil ?_ | refine G.block ?_ | refine G.skip ?_ | refine G.blk ?_ | refine G.wx ?_ | refine G.wt ?_ | refine G.wf ?_)
  refine G.close (Slots S (min low i) (ps.set i.toNat none)) rfl ((C, cnt - 1)) (⟨by simp [hl], by rw [h3] at hs; simp at hs; dsimp only; omega⟩) (by dsimp only) ?_
  refine G.ret rfl Try.func61 rfl rfl rfl ?_
  exact ⟨by rw [getp_in h2.1]; rfl, rfl⟩
end Go.Proofs.Ytffcilmllebdmaa


namespace Go.Proofs.Ytffcilmllebdmaa
open Go.Am
set_option maxHeartbeats 4000000
set_option linter.unusedVariables false
set_option linter.unusedSimpArgs false
attribute [local irreducible] Ok GR G Fun OpRun EVS

/-- A quota. -/
structure Qt where
  f : Int
  e : Int
  x : Int
  deriving DecidableEq
/-- Registers. -/
structure Rg where
  r0 : Int
  r1 : Int
  r2 : Int
  r3 : Int
  r4 : Int
  r5 : Int
  r6 : Int
  r7 : Int
  pc : Int
  deriving DecidableEq
/-- An environment's record. -/
structure Rec where
  serial : Int
  parent : Int
  state : Int
  code : Int
  bits : Int
  frozen : Bool
  regs : Rg
  whole : Qt
  paid : Qt
  carved : Qt
  kids : List Int

def i64 (n : Int) : Value := .int .i64 n
def u32 (n : Int) : Value := .int .u32 n
def qtCells (q : Qt) : List Value := [i64 q.f, i64 q.e, i64 q.x]
def qtVal (q : Qt) : Value := .agg (qtCells q).toArray
def rgCells (r : Rg) : List Value := [u32 r.r0, u32 r.r1, u32 r.r2, u32 r.r3, u32 r.r4, u32 r.r5, u32 r.r6, u32 r.r7, u32 r.pc]
def recCells (r : Rec) (kv : Value) : List Value :=
  [i64 r.serial, i64 r.parent, i64 r.state, i64 r.code, i64 r.bits, .bool r.frozen,
   u32 r.regs.r0, u32 r.regs.r1, u32 r.regs.r2, u32 r.regs.r3, u32 r.regs.r4, u32 r.regs.r5, u32 r.regs.r6, u32 r.regs.r7, u32 r.regs.pc,
   i64 0, i64 0, i64 0, i64 0, i64 0, i64 0,
   i64 r.whole.f, i64 r.whole.e, i64 r.whole.x, i64 r.paid.f, i64 r.paid.e, i64 r.paid.x, i64 r.carved.f, i64 r.carved.e, i64 r.carved.x, kv]
def ints (l : List Int) : List Value := l.map i64

/-- A record in memory. -/
def recC (b : Nat) (r : Rec) : HProp := Pk (fun _ : Value => True) fun kv => [cb b (recCells r kv) 95, OwnS 3 1 kv r.kids.length (ints r.kids)]

/-- The records, each at its pointer. -/
def recsL : List (Option Nat) → List (Option Rec) → List HProp
  | some b :: ps, some r :: rs => recC b r :: recsL ps rs
  | _ :: ps, _ :: rs => recsL ps rs
  | _, _ => []
def Recs (ps : List (Option Nat)) (rs : List (Option Rec)) : HProp := sep (recsL ps rs)

def getr (rs : List (Option Rec)) (i : Int) : Option Rec := if 0 ≤ i then (rs[i.toNat]?).join else none

theorem recs_out : ∀ (ps : List (Option Nat)) (rs : List (Option Rec)) (j b : Nat) (r : Rec), ps[j]?.join = some b → rs[j]?.join = some r → (recsL ps rs).Perm (recC b r :: recsL (ps.set j none) (rs.set j none))
  | [], _, j, b, r, h, _ => by simp at h
  | _ :: _, [], j, b, r, _, h => by simp at h
  | p :: ps, q :: rs, 0, b, r, h1, h2 => by
    simp at h1 h2; subst h1 h2; simp [recsL]
  | p :: ps, q :: rs, j + 1, b, r, h1, h2 => by
    have ih := recs_out ps rs j b r (by simpa using h1) (by simpa using h2)
    cases p <;> cases q <;> simp only [recsL, List.set_cons_succ] <;> first | exact ih | exact (List.Perm.cons _ ih).trans (.swap _ _ _)

theorem recs_in : ∀ (ps : List (Option Nat)) (rs : List (Option Rec)) (j b : Nat) (r : Rec), j < ps.length → j < rs.length → ps[j]?.join = none → rs[j]?.join = none → (recsL (ps.set j (some b)) (rs.set j (some r))).Perm (recC b r :: recsL ps rs)
  | [], _, j, b, r, h, _, _, _ => by simp at h
  | _ :: _, [], j, b, r, _, h, _, _ => by simp at h
  | p :: ps, q :: rs, 0, b, r, _, _, h1, h2 => by
    simp at h1 h2; subst h1 h2; simp [recsL]
  | p :: ps, q :: rs, j + 1, b, r, l1, l2, h1, h2 => by
    have ih := recs_in ps rs j b r (by simpa using l1) (by simpa using l2) (by simpa using h1) (by simpa using h2)
    cases p <;> cases q <;> simp only [recsL, List.set_cons_succ] <;> first | exact ih | exact (List.Perm.cons _ ih).trans (.swap _ _ _)

/-- Where a pointer lies a record stands. -/
def Alike (ps : List (Option Nat)) (rs : List (Option Rec)) : Prop := ps.map Option.isSome = rs.map Option.isSome

theorem Alike.get {ps : List (Option Nat)} {rs : List (Option Rec)} (h : Alike ps rs) (j : Nat) : (ps[j]?.join).isSome = (rs[j]?.join).isSome := by
  have := congrArg (fun l => l[j]?) h
  simp only [List.getElem?_map] at this
  cases h1 : ps[j]? <;> cases h2 : rs[j]? <;> simp_all

theorem Alike.getp {ps : List (Option Nat)} {rs : List (Option Rec)} (h : Alike ps rs) (i : Int) : (getp ps i).isSome = (getr rs i).isSome := by
  unfold Proofs.Ytffcilmllebdmaa.getp getr
  split
  · exact h.get _
  · rfl

theorem Alike.length {ps : List (Option Nat)} {rs : List (Option Rec)} (h : Alike ps rs) : ps.length = rs.length := by
  have := congrArg List.length h
  simpa using this

theorem Alike.set {ps : List (Option Nat)} {rs : List (Option Rec)} (h : Alike ps rs) (j : Nat) (p : Option Nat) (r : Option Rec) (e : p.isSome = r.isSome) : Alike (ps.set j p) (rs.set j r) := by
  unfold Alike at *
  rw [List.map_set, List.map_set, h, e]

theorem Alike.setr {ps : List (Option Nat)} {rs : List (Option Rec)} (h : Alike ps rs) {i : Int} {b : Nat} (hp : Proofs.Ytffcilmllebdmaa.getp ps i = some b) (r : Rec) : Alike ps (rs.set i.toNat (some r)) := by
  have hs := h.set i.toNat (some b) (some r) rfl
  have h0 := getp_some (ps := ps) (i := i) (by rw [hp]; rfl)
  rw [getp_in h0.1] at hp
  have hps : ps.set i.toNat (some b) = ps := by
    apply List.ext_getElem?
    intro j
    rw [List.getElem?_set]
    split
    · rename_i hj; subst hj
      have hl : i.toNat < ps.length := by omega
      rw [List.getElem?_eq_getElem hl] at hp ⊢; simp at hp; rw [hp]; simp [hl]
    · rfl
  rwa [hps] at hs

/-- A table at T: its places and records, the greatest serial that was given. -/
def Table (T : Nat) (last : Int) (rs : List (Option Rec)) : HProp :=
  Pk (fun x : Nat × Int × List (Option Nat) => LowOk x.2.1 x.2.2 ∧ Alike x.2.2 rs ∧ rs.length = 16)
    (fun x => [cb T [ptr (some x.1), i64 last] 90, Slots x.1 x.2.1 x.2.2, Recs x.2.2 rs])

section
variable {P : Program} {c : Ctx} {ds : List Nat} {todo : List It} {e : Env} {H R : List HProp} {Q : Post}

/-- One record is taken out. -/
theorem G.recOut {ps : List (Option Nat)} {rs : List (Option Rec)} {i : Int} {b : Nat} {r : Rec} [h : SelH H (Recs ps rs) R] (hp : getp ps i = some b) (hr : getr rs i = some r)
    (k : ∀ kv, G P c ds todo e (cb b (recCells r kv) 95 :: OwnS 3 1 kv r.kids.length (ints r.kids) :: Recs (ps.set i.toNat none) (rs.set i.toNat none) :: R) Q) : G P c ds todo e H Q := by
  have h0 : 0 ≤ i := (getp_some (by rw [hp]; rfl)).1
  rw [getp_in h0] at hp
  have hr' : rs[i.toNat]?.join = some r := by unfold getr at hr; rw [if_pos h0] at hr; exact hr
  have hperm := recs_out ps rs i.toNat b r hp hr'
  refine G.convEx (H' := fun kv => cb b (recCells r kv) 95 :: OwnS 3 1 kv r.kids.length (ints r.kids) :: Recs (ps.set i.toNat none) (rs.set i.toNat none) :: R) (fun g w s => ?_) k
  have s1 := Sat.sep.1 (s.perm h.sel)
  have s2 : Sat (recC b r :: (recsL (ps.set i.toNat none) (rs.set i.toNat none) ++ R)) g w := s1.perm (List.Perm.append_right R hperm)
  obtain ⟨kv, _, s3⟩ := Pk.open s2
  refine ⟨kv, ?_⟩
  have s4 : Sat ([cb b (recCells r kv) 95, OwnS 3 1 kv r.kids.length (ints r.kids)] ++ (recsL (ps.set i.toNat none) (rs.set i.toNat none) ++ R)) g w := s3
  have s5 : Sat ((recsL (ps.set i.toNat none) (rs.set i.toNat none) ++ (cb b (recCells r kv) 95 :: OwnS 3 1 kv r.kids.length (ints r.kids) :: R))) g w := s4.perm (by
    simp only [List.cons_append, List.nil_append]
    exact (List.perm_middle.trans (List.Perm.cons _ List.perm_middle)).symm)
  exact (Sat.sep.2 s5).perm ((List.Perm.swap _ _ _).trans (List.Perm.cons _ (List.Perm.swap _ _ _)))

/-- The record at i, as it is now, is put back. -/
theorem G.recIn {ps : List (Option Nat)} {rs : List (Option Rec)} (i : Int) (b : Nat) (r : Rec) (kv : Value) {L : List Value} {T el : TypeId} {n len : Nat} {cs : List Value} {R1 R2 R3 : List HProp} [h1 : DelC H b L T R1] [h2 : DelS R1 kv el n len cs R2] [h3 : SelH R2 (Recs (ps.set i.toNat none) (rs.set i.toNat none)) R3]
    (hL : L = recCells r kv) (hT : T = 95) (hs : el = 3 ∧ n = 1 ∧ len = r.kids.length ∧ cs = ints r.kids) (hp : getp ps i = some b) (hlen : Alike ps rs)
    (k : G P c ds todo e (Recs ps (rs.set i.toNat (some r)) :: R3) Q) : G P c ds todo e H Q := by
  obtain ⟨rfl, rfl, rfl, rfl⟩ := hs
  subst hL hT
  have h0 := getp_some (ps := ps) (i := i) (by rw [hp]; rfl)
  rw [getp_in h0.1] at hp
  have hl : i.toNat < ps.length := by omega
  have hps : (ps.set i.toNat none).set i.toNat (some b) = ps := by
    rw [List.set_set]
    apply List.ext_getElem?
    intro j
    rw [List.getElem?_set]
    split
    · rename_i hj; subst hj
      rw [List.getElem?_eq_getElem hl] at hp ⊢; simp at hp; rw [hp]
    · rfl
  have hperm := recs_in (ps.set i.toNat none) (rs.set i.toNat none) i.toNat b r (by simpa using hl) (by rw [List.length_set, ← hlen.length]; exact hl) (by simp [List.getElem?_set, hl]) (by simp [List.getElem?_set, ← hlen.length, hl])
  rw [hps, List.set_set] at hperm
  refine k.conv fun g w s => ?_
  have s1 : Sat (cb b (recCells r kv) 95 :: OwnS 3 1 kv r.kids.length (ints r.kids) :: Recs (ps.set i.toNat none) (rs.set i.toNat none) :: R3) g w :=
    s.perm (h1.del.trans (List.Perm.cons _ (h2.del.trans (List.Perm.cons _ h3.sel))))
  have s2 : Sat (recC b r :: Recs (ps.set i.toNat none) (rs.set i.toNat none) :: R3) g w := Pk.close (p := _) (l := _) kv trivial s1
  have s3 := Sat.sep.1 (s2.perm (.swap _ _ _))
  have s4 : Sat (recC b r :: recsL (ps.set i.toNat none) (rs.set i.toNat none) ++ R3) g w := s3.perm (by simp)
  exact Sat.sep.2 (s4.perm (List.Perm.append_right R3 hperm.symm))
end

theorem at_ok (S : Nat) (low i : Int) (ps : List (Option Nat)) (p : Option Nat) (hp : getp ps i = p) : Fun Try.prog 44 [.agg #[ptr (some S)], i64 i] [Slots S low ps] (Ret (ptr p) [Slots S low ps]) := by
  subst hp
  refine Fun.enter Try.func44 rfl rfl rfl ?_
  repeat (first | refine G.w0 ?_ | refine G.w1 ?_ | refine G.wn ?_ | refine GR.w ?_ | (refine G.ws (h := ?_); try (simp only [Nat.reduceAdd, Nat.zero_add, List.set_cons_succ, List.set_cons_zero])) | (refine G.wb ?_; intro bx) | (refine G.wz ?_; intro bx) | refine G.wa (h := ?_) | refine G.seq ?_ | refine G.region ?_ | refine G.nil ?_ | refine G.block ?_ | refine G.skip ?_ | refine G.blk ?_ | refine G.wx ?_ | refine G.wt ?_ | refine G.wf ?_)
  (first | refine G.take rfl ?_ | refine G.take_yes rfl rfl rfl (by first | rfl | assumption) ?_); (first | refine R.callD Try.func83 rfl (by decide) rfl rfl (Get_ok S low i ps) ?_ | refine R.callD0 Try.func83 rfl (by decide) rfl (Get_ok S low i ps) ?_); simp only [List.cons_append, List.nil_append]
  repeat (first | refine G.w0 ?_ | refine G.w1 ?_ | refine G.wn ?_ | refine GR.w ?_ | (refine G.ws (h := ?_); try (simp only [Nat.reduceAdd, Nat.zero_add, List.set_cons_succ, List.set_cons_zero])) | (refine G.wb ?_; intro bx) | (refine G.wz ?_; intro bx) | refine G.wa (h := ?_) | refine G.seq ?_ | refine G.region ?_ | refine G.nil ?_ | refine G.block ?_ | refine G.skip ?_ | refine G.blk ?_ | refine G.wx ?_ | refine G.wt ?_ | refine G.wf ?_)
  refine G.keep [Slots S low ps] ?_
  refine G.ret rfl Try.func44 rfl rfl rfl ?_
  exact ⟨rfl, rfl⟩

theorem isWord_ok (n : Int) : Fun Try.prog 45 [i64 n] [] (Ret (.bool (decide (0 ≤ n ∧ n ≤ 4294967295))) []) := by
  refine Fun.enter Try.func45 rfl rfl rfl ?_
  repeat' (first | refine G.w0 ?_ | refine G.w1 ?_ | refine G.wn ?_ | refine GR.w ?_ | (refine G.ws (h := ?_); try (simp only [Nat.reduceAdd, Nat.zero_add, List.set_cons_succ, List.set_cons_zero])) | (refine G.wb ?_; intro bx) | (refine G.wz ?_; intro bx) | refine G.wa (h := ?_) | refine G.seq ?_ | refine G.region ?_ | refine G.nil ?_ | refine G.block ?_ | refine G.skip ?_ | refine G.blk ?_ | refine G.wx ?_ | refine G.wt ?_ | refine G.wf ?_ | ((fail_if_success (first | refine G.take_yes rfl rfl rfl (by first | rfl | assumption) ?_ | refine G.take_n rfl rfl (by first | exact .inl rfl | exact .inr ⟨_, rfl, by first | rfl | assumption⟩) rfl ?_)); refine G.take_split rfl rfl rfl (fun hb => ?_) (fun hb => ?_)) | refine G.cond rfl (fun hb => ?_) (fun hb => ?_))
  all_goals refine G.ret rfl Try.func45 rfl rfl rfl ?_
  all_goals refine ⟨?_, rfl⟩
  · simp only [decide_eq_true_eq] at hb
    exact congrArg Value.bool (by simp [hb])
  · simp only [Bool.not_true, decide_eq_false_iff_not] at hb
    exact congrArg Value.bool (by simp [hb])

theorem getr_none {ps : List (Option Nat)} {rs : List (Option Rec)} {i : Int} (h : Alike ps rs) (hp : getp ps i = none) : getr rs i = none := by
  have := h.getp i
  rw [hp] at this
  cases hr : getr rs i <;> simp_all
theorem getr_some {ps : List (Option Nat)} {rs : List (Option Rec)} {i : Int} {b : Nat} (h : Alike ps rs) (hp : getp ps i = some b) : ∃ r, getr rs i = some r := by
  have := h.getp i
  rw [hp] at this
  cases hr : getr rs i <;> simp_all

/-- A step on one environment's record: ErrEnv, or f's error and record. -/
def onRec (rs : List (Option Rec)) (i : Int) (f : Rec → Int × Rec) : Int × List (Option Rec) :=
  match getr rs i with
  | none => (90, rs)
  | some r => ((f r).1, rs.set i.toNat (some (f r).2))

theorem set_same {rs : List (Option Rec)} {i : Int} {r : Rec} (h : getr rs i = some r) : rs.set i.toNat (some r) = rs := by
  unfold getr at h
  split at h
  · apply List.ext_getElem?
    intro j
    rw [List.getElem?_set]
    split
    · rename_i hj; subst hj
      split
      · rename_i hl; rw [List.getElem?_eq_getElem hl] at h ⊢; simp at h; rw [h]
      · rename_i hl; rw [List.getElem?_eq_none (by omega)]
    · rfl
  · cases h

theorem SetBits_ok (T : Nat) (last : Int) (rs : List (Option Rec)) (e n : Int) : Fun Try.prog 47 [ptr (some T), i64 e, i64 n] [Table T last rs]
    (Ret (i64 (onRec rs e fun r => if 0 ≤ n ∧ n ≤ 4294967295 then (0, { r with bits := n }) else (1, r)).1) [Table T last (onRec rs e fun r => if 0 ≤ n ∧ n ≤ 4294967295 then (0, { r with bits := n }) else (1, r)).2]) := by
  refine Fun.enter Try.func47 rfl rfl rfl ?_
  refine G.open (Table T last rs) rfl ?_
  rintro ⟨S, low, ps⟩ ⟨hlow, hal, hl⟩
  simp only [List.cons_append, List.nil_append]
  rcases hp : getp ps e with _ | b
  · repeat (first | refine G.w0 ?_ | refine G.w1 ?_ | refine G.wn ?_ | refine GR.w ?_ | (refine G.ws (h := ?_); try (simp only [Nat.reduceAdd, Nat.zero_add, List.set_cons_succ, List.set_cons_zero])) | (refine G.wb ?_; intro bx) | (refine G.wz ?_; intro bx) | refine G.wa (h := ?_) | refine G.seq ?_ | refine G.region ?_ | refine G.nil ?_ | refine G.block ?_ | refine G.skip ?_ | refine G.blk ?_ | refine G.wx ?_ | refine G.wt ?_ | refine G.wf ?_)
    (first | refine G.take rfl ?_ | refine G.take_yes rfl rfl rfl (by first | rfl | assumption) ?_); (first | refine R.callD Try.func44 rfl (by decide) rfl rfl (at_ok S low e ps _ hp) ?_ | refine R.callD0 Try.func44 rfl (by decide) rfl (at_ok S low e ps _ hp) ?_); simp only [List.cons_append, List.nil_append]
    repeat (first | refine G.w0 ?_ | refine G.w1 ?_ | refine G.wn ?_ | refine GR.w ?_ | (refine G.ws (h := ?_); try (simp only [Nat.reduceAdd, Nat.zero_add, List.set_cons_succ, List.set_cons_zero])) | (refine G.wb ?_; intro bx) | (refine G.wz ?_; intro bx) | refine G.wa (h := ?_) | refine G.seq ?_ | refine G.region ?_ | refine G.nil ?_ | refine G.block ?_ | refine G.skip ?_ | refine G.blk ?_ | refine G.wx ?_ | refine G.wt ?_ | refine G.wf ?_)
    refine G.close (Table T last rs) rfl ((S, low, ps)) (⟨hlow, hal, hl⟩) (by dsimp only) ?_
    refine G.ret rfl Try.func47 rfl rfl rfl ?_
    simp only [onRec, getr_none hal hp]
    exact ⟨rfl, rfl⟩
  · obtain ⟨r, hr⟩ := getr_some hal hp
    repeat (first | refine G.w0 ?_ | refine G.w1 ?_ | refine G.wn ?_ | refine GR.w ?_ | (refine G.ws (h := ?_); try (simp only [Nat.reduceAdd, Nat.zero_add, List.set_cons_succ, List.set_cons_zero])) | (refine G.wb ?_; intro bx) | (refine G.wz ?_; intro bx) | refine G.wa (h := ?_) | refine G.seq ?_ | refine G.region ?_ | refine G.nil ?_ | refine G.block ?_ | refine G.skip ?_ | refine G.blk ?_ | refine G.wx ?_ | refine G.wt ?_ | refine G.wf ?_)
    (first | refine G.take rfl ?_ | refine G.take_yes rfl rfl rfl (by first | rfl | assumption) ?_); (first | refine R.callD Try.func44 rfl (by decide) rfl rfl (at_ok S low e ps _ hp) ?_ | refine R.callD0 Try.func44 rfl (by decide) rfl (at_ok S low e ps _ hp) ?_); simp only [List.cons_append, List.nil_append]
    repeat (first | refine G.w0 ?_ | refine G.w1 ?_ | refine G.wn ?_ | refine GR.w ?_ | (refine G.ws (h := ?_); try (simp only [Nat.reduceAdd, Nat.zero_add, List.set_cons_succ, List.set_cons_zero])) | (refine G.wb ?_; intro bx) | (refine G.wz ?_; intro bx) | refine G.wa (h := ?_) | refine G.seq ?_ | refine G.region ?_ | refine G.nil ?_ | refine G.block ?_ | refine G.skip ?_ | refine G.blk ?_ | refine G.wx ?_ | refine G.wt ?_ | refine G.wf ?_)
    (first | refine G.take rfl ?_ | refine G.take_yes rfl rfl rfl (by first | rfl | assumption) ?_); (first | refine R.callD Try.func45 rfl (by decide) rfl rfl (isWord_ok n) ?_ | refine R.callD0 Try.func45 rfl (by decide) rfl (isWord_ok n) ?_); simp only [List.cons_append, List.nil_append]
    repeat (first | refine G.w0 ?_ | refine G.w1 ?_ | refine G.wn ?_ | refine GR.w ?_ | (refine G.ws (h := ?_); try (simp only [Nat.reduceAdd, Nat.zero_add, List.set_cons_succ, List.set_cons_zero])) | (refine G.wb ?_; intro bx) | (refine G.wz ?_; intro bx) | refine G.wa (h := ?_) | refine G.seq ?_ | refine G.region ?_ | refine G.nil ?_ | refine G.block ?_ | refine G.skip ?_ | refine G.blk ?_ | refine G.wx ?_ | refine G.wt ?_ | refine G.wf ?_)
    refine G.cond rfl (fun hb => ?_) (fun hb => ?_)
    · repeat (first | refine G.w0 ?_ | refine G.w1 ?_ | refine G.wn ?_ | refine GR.w ?_ | (refine G.ws (h := ?_); try (simp only [Nat.reduceAdd, Nat.zero_add, List.set_cons_succ, List.set_cons_zero])) | (refine G.wb ?_; intro bx) | (refine G.wz ?_; intro bx) | refine G.wa (h := ?_) | refine G.seq ?_ | refine G.region ?_ | refine G.nil ?_ | refine G.block ?_ | refine G.skip ?_ | refine G.blk ?_ | refine G.wx ?_ | refine G.wt ?_ | refine G.wf ?_)
      refine G.close (Table T last rs) rfl ((S, low, ps)) (⟨hlow, hal, hl⟩) (by dsimp only) ?_
      refine G.ret rfl Try.func47 rfl rfl rfl ?_
      have hn : ¬ (0 ≤ n ∧ n ≤ 4294967295) := by simp at hb; omega
      simp only [onRec, hr, hn, if_false, set_same hr]
      exact ⟨rfl, rfl⟩
    · repeat (first | refine G.w0 ?_ | refine G.w1 ?_ | refine G.wn ?_ | refine GR.w ?_ | (refine G.ws (h := ?_); try (simp only [Nat.reduceAdd, Nat.zero_add, List.set_cons_succ, List.set_cons_zero])) | (refine G.wb ?_; intro bx) | (refine G.wz ?_; intro bx) | refine G.wa (h := ?_) | refine G.seq ?_ | refine G.region ?_ | refine G.nil ?_ | refine G.block ?_ | refine G.skip ?_ | refine G.blk ?_ | refine G.wx ?_ | refine G.wt ?_ | refine G.wf ?_)
      refine G.recOut hp hr fun kv => ?_
      repeat (first | refine G.w0 ?_ | refine G.w1 ?_ | refine G.wn ?_ | refine GR.w ?_ | (refine G.ws (h := ?_); try (simp only [Nat.reduceAdd, Nat.zero_add, List.set_cons_succ, List.set_cons_zero])) | (refine G.wb ?_; intro bx) | (refine G.wz ?_; intro bx) | refine G.wa (h := ?_) | refine G.seq ?_ | refine G.region ?_ | refine G.nil ?_ | refine G.block ?_ | refine G.skip ?_ | refine G.blk ?_ | refine G.wx ?_ | refine G.wt ?_ | refine G.wf ?_)
      refine G.recIn e b { r with bits := n } kv rfl rfl ⟨rfl, rfl, rfl, rfl⟩ hp hal ?_
      repeat (first | refine G.w0 ?_ | refine G.w1 ?_ | refine G.wn ?_ | refine GR.w ?_ | (refine G.ws (h := ?_); try (simp only [Nat.reduceAdd, Nat.zero_add, List.set_cons_succ, List.set_cons_zero])) | (refine G.wb ?_; intro bx) | (refine G.wz ?_; intro bx) | refine G.wa (h := ?_) | refine G.seq ?_ | refine G.region ?_ | refine G.nil ?_ | refine G.block ?_ | refine G.skip ?_ | refine G.blk ?_ | refine G.wx ?_ | refine G.wt ?_ | refine G.wf ?_)
      refine G.close (Table T last (rs.set e.toNat (some { r with bits := n }))) rfl ((S, low, ps)) (⟨hlow, hal.setr hp _, by simpa using hl⟩) (by dsimp only) ?_
      refine G.ret rfl Try.func47 rfl rfl rfl ?_
      have hn : (0 ≤ n ∧ n ≤ 4294967295) := by simp at hb; omega
      simp only [onRec, hr, if_pos hn]
      exact ⟨rfl, rfl⟩
end Go.Proofs.Ytffcilmllebdmaa

namespace Go.Proofs.Ytffcilmllebdmaa
open Go.Am
set_option maxHeartbeats 4000000
set_option linter.unusedVariables false
set_option linter.unusedSimpArgs false
attribute [local irreducible] Ok GR G Fun OpRun EVS

def rgVal (r : Rg) : Value := .agg (rgCells r).toArray

theorem SetRegs_ok (T : Nat) (last : Int) (rs : List (Option Rec)) (e : Int) (q : Rg) : Fun Try.prog 46 [ptr (some T), i64 e, rgVal q] [Table T last rs]
    (Ret (i64 (onRec rs e fun r => (0, { r with regs := q })).1) [Table T last (onRec rs e fun r => (0, { r with regs := q })).2]) := by
  refine Fun.enter Try.func46 rfl rfl rfl ?_
  refine G.open (Table T last rs) rfl ?_
  rintro ⟨S, low, ps⟩ ⟨hlow, hal, hl⟩
  simp only [List.cons_append, List.nil_append]
  rcases hp : getp ps e with _ | b
  · repeat (first | refine G.w0 ?_ | refine G.w1 ?_ | refine G.wn ?_ | refine GR.w ?_ | (refine G.ws (h := ?_); try (simp only [Nat.reduceAdd, Nat.zero_add, List.set_cons_succ, List.set_cons_zero])) | (refine G.wb ?_; intro bx) | (refine G.wz ?_; intro bx) | refine G.wa (h := ?_) | refine G.seq ?_ | refine G.region ?_ | refine G.nil ?_ | refine G.block ?_ | refine G.skip ?_ | refine G.blk ?_ | refine G.wx ?_ | refine G.wt ?_ | refine G.wf ?_)
    (first | refine G.take rfl ?_ | refine G.take_yes rfl rfl rfl (by first | rfl | assumption) ?_); (first | refine R.callD Try.func44 rfl (by decide) rfl rfl (at_ok S low e ps _ hp) ?_ | refine R.callD0 Try.func44 rfl (by decide) rfl (at_ok S low e ps _ hp) ?_); simp only [List.cons_append, List.nil_append]
    repeat (first | refine G.w0 ?_ | refine G.w1 ?_ | refine G.wn ?_ | refine GR.w ?_ | (refine G.ws (h := ?_); try (simp only [Nat.reduceAdd, Nat.zero_add, List.set_cons_succ, List.set_cons_zero])) | (refine G.wb ?_; intro bx) | (refine G.wz ?_; intro bx) | refine G.wa (h := ?_) | refine G.seq ?_ | refine G.region ?_ | refine G.nil ?_ | refine G.block ?_ | refine G.skip ?_ | refine G.blk ?_ | refine G.wx ?_ | refine G.wt ?_ | refine G.wf ?_)
    refine G.close (Table T last rs) rfl ((S, low, ps)) (⟨hlow, hal, hl⟩) (by dsimp only) ?_
    refine G.keep [Table T last rs] ?_
    refine G.ret rfl Try.func46 rfl rfl rfl ?_
    simp only [onRec, getr_none hal hp]
    exact ⟨rfl, rfl⟩
  · obtain ⟨r, hr⟩ := getr_some hal hp
    repeat (first | refine G.w0 ?_ | refine G.w1 ?_ | refine G.wn ?_ | refine GR.w ?_ | (refine G.ws (h := ?_); try (simp only [Nat.reduceAdd, Nat.zero_add, List.set_cons_succ, List.set_cons_zero])) | (refine G.wb ?_; intro bx) | (refine G.wz ?_; intro bx) | refine G.wa (h := ?_) | refine G.seq ?_ | refine G.region ?_ | refine G.nil ?_ | refine G.block ?_ | refine G.skip ?_ | refine G.blk ?_ | refine G.wx ?_ | refine G.wt ?_ | refine G.wf ?_)
    (first | refine G.take rfl ?_ | refine G.take_yes rfl rfl rfl (by first | rfl | assumption) ?_); (first | refine R.callD Try.func44 rfl (by decide) rfl rfl (at_ok S low e ps _ hp) ?_ | refine R.callD0 Try.func44 rfl (by decide) rfl (at_ok S low e ps _ hp) ?_); simp only [List.cons_append, List.nil_append]
    repeat (first | refine G.w0 ?_ | refine G.w1 ?_ | refine G.wn ?_ | refine GR.w ?_ | (refine G.ws (h := ?_); try (simp only [Nat.reduceAdd, Nat.zero_add, List.set_cons_succ, List.set_cons_zero])) | (refine G.wb ?_; intro bx) | (refine G.wz ?_; intro bx) | refine G.wa (h := ?_) | refine G.seq ?_ | refine G.region ?_ | refine G.nil ?_ | refine G.block ?_ | refine G.skip ?_ | refine G.blk ?_ | refine G.wx ?_ | refine G.wt ?_ | refine G.wf ?_)
    refine G.recOut hp hr fun kv => ?_
    repeat (first | refine G.w0 ?_ | refine G.w1 ?_ | refine G.wn ?_ | refine GR.w ?_ | (refine G.ws (h := ?_); try (simp only [Nat.reduceAdd, Nat.zero_add, List.set_cons_succ, List.set_cons_zero])) | (refine G.wb ?_; intro bx) | (refine G.wz ?_; intro bx) | refine G.wa (h := ?_) | refine G.seq ?_ | refine G.region ?_ | refine G.nil ?_ | refine G.block ?_ | refine G.skip ?_ | refine G.blk ?_ | refine G.wx ?_ | refine G.wt ?_ | refine G.wf ?_)
    refine G.recIn e b { r with regs := q } kv rfl rfl ⟨rfl, rfl, rfl, rfl⟩ hp hal ?_
    repeat (first | refine G.w0 ?_ | refine G.w1 ?_ | refine G.wn ?_ | refine GR.w ?_ | (refine G.ws (h := ?_); try (simp only [Nat.reduceAdd, Nat.zero_add, List.set_cons_succ, List.set_cons_zero])) | (refine G.wb ?_; intro bx) | (refine G.wz ?_; intro bx) | refine G.wa (h := ?_) | refine G.seq ?_ | refine G.region ?_ | refine G.nil ?_ | refine G.block ?_ | refine G.skip ?_ | refine G.blk ?_ | refine G.wx ?_ | refine G.wt ?_ | refine G.wf ?_)
    refine G.close (Table T last (rs.set e.toNat (some { r with regs := q }))) rfl ((S, low, ps)) (⟨hlow, hal.setr hp _, by simpa using hl⟩) (by dsimp only) ?_
    refine G.keep [Table T last (rs.set e.toNat (some { r with regs := q }))] ?_
    refine G.ret rfl Try.func46 rfl rfl rfl ?_
    simp only [onRec, hr]
    exact ⟨rfl, rfl⟩

theorem Freeze_ok (T : Nat) (last : Int) (rs : List (Option Rec)) (e : Int) (on : Bool) : Fun Try.prog 14 [ptr (some T), i64 e, .bool on] [Table T last rs]
    (Ret (i64 (onRec rs e fun r => (0, { r with frozen := on })).1) [Table T last (onRec rs e fun r => (0, { r with frozen := on })).2]) := by
  refine Fun.enter Try.func14 rfl rfl rfl ?_
  refine G.open (Table T last rs) rfl ?_
  rintro ⟨S, low, ps⟩ ⟨hlow, hal, hl⟩
  simp only [List.cons_append, List.nil_append]
  rcases hp : getp ps e with _ | b
  · repeat (first | refine G.w0 ?_ | refine G.w1 ?_ | refine G.wn ?_ | refine GR.w ?_ | (refine G.ws (h := ?_); try (simp only [Nat.reduceAdd, Nat.zero_add, List.set_cons_succ, List.set_cons_zero])) | (refine G.wb ?_; intro bx) | (refine G.wz ?_; intro bx) | refine G.wa (h := ?_) | refine G.seq ?_ | refine G.region ?_ | refine G.nil ?_ | refine G.block ?_ | refine G.skip ?_ | refine G.blk ?_ | refine G.wx ?_ | refine G.wt ?_ | refine G.wf ?_)
    (first | refine G.take rfl ?_ | refine G.take_yes rfl rfl rfl (by first | rfl | assumption) ?_); (first | refine R.callD Try.func44 rfl (by decide) rfl rfl (at_ok S low e ps _ hp) ?_ | refine R.callD0 Try.func44 rfl (by decide) rfl (at_ok S low e ps _ hp) ?_); simp only [List.cons_append, List.nil_append]
    repeat (first | refine G.w0 ?_ | refine G.w1 ?_ | refine G.wn ?_ | refine GR.w ?_ | (refine G.ws (h := ?_); try (simp only [Nat.reduceAdd, Nat.zero_add, List.set_cons_succ, List.set_cons_zero])) | (refine G.wb ?_; intro bx) | (refine G.wz ?_; intro bx) | refine G.wa (h := ?_) | refine G.seq ?_ | refine G.region ?_ | refine G.nil ?_ | refine G.block ?_ | refine G.skip ?_ | refine G.blk ?_ | refine G.wx ?_ | refine G.wt ?_ | refine G.wf ?_)
    refine G.close (Table T last rs) rfl ((S, low, ps)) (⟨hlow, hal, hl⟩) (by dsimp only) ?_
    refine G.ret rfl Try.func14 rfl rfl rfl ?_
    simp only [onRec, getr_none hal hp]
    exact ⟨rfl, rfl⟩
  · obtain ⟨r, hr⟩ := getr_some hal hp
    repeat (first | refine G.w0 ?_ | refine G.w1 ?_ | refine G.wn ?_ | refine GR.w ?_ | (refine G.ws (h := ?_); try (simp only [Nat.reduceAdd, Nat.zero_add, List.set_cons_succ, List.set_cons_zero])) | (refine G.wb ?_; intro bx) | (refine G.wz ?_; intro bx) | refine G.wa (h := ?_) | refine G.seq ?_ | refine G.region ?_ | refine G.nil ?_ | refine G.block ?_ | refine G.skip ?_ | refine G.blk ?_ | refine G.wx ?_ | refine G.wt ?_ | refine G.wf ?_)
    (first | refine G.take rfl ?_ | refine G.take_yes rfl rfl rfl (by first | rfl | assumption) ?_); (first | refine R.callD Try.func44 rfl (by decide) rfl rfl (at_ok S low e ps _ hp) ?_ | refine R.callD0 Try.func44 rfl (by decide) rfl (at_ok S low e ps _ hp) ?_); simp only [List.cons_append, List.nil_append]
    repeat (first | refine G.w0 ?_ | refine G.w1 ?_ | refine G.wn ?_ | refine GR.w ?_ | (refine G.ws (h := ?_); try (simp only [Nat.reduceAdd, Nat.zero_add, List.set_cons_succ, List.set_cons_zero])) | (refine G.wb ?_; intro bx) | (refine G.wz ?_; intro bx) | refine G.wa (h := ?_) | refine G.seq ?_ | refine G.region ?_ | refine G.nil ?_ | refine G.block ?_ | refine G.skip ?_ | refine G.blk ?_ | refine G.wx ?_ | refine G.wt ?_ | refine G.wf ?_)
    refine G.recOut hp hr fun kv => ?_
    repeat (first | refine G.w0 ?_ | refine G.w1 ?_ | refine G.wn ?_ | refine GR.w ?_ | (refine G.ws (h := ?_); try (simp only [Nat.reduceAdd, Nat.zero_add, List.set_cons_succ, List.set_cons_zero])) | (refine G.wb ?_; intro bx) | (refine G.wz ?_; intro bx) | refine G.wa (h := ?_) | refine G.seq ?_ | refine G.region ?_ | refine G.nil ?_ | refine G.block ?_ | refine G.skip ?_ | refine G.blk ?_ | refine G.wx ?_ | refine G.wt ?_ | refine G.wf ?_)
    refine G.recIn e b { r with frozen := on } kv rfl rfl ⟨rfl, rfl, rfl, rfl⟩ hp hal ?_
    repeat (first | refine G.w0 ?_ | refine G.w1 ?_ | refine G.wn ?_ | refine GR.w ?_ | (refine G.ws (h := ?_); try (simp only [Nat.reduceAdd, Nat.zero_add, List.set_cons_succ, List.set_cons_zero])) | (refine G.wb ?_; intro bx) | (refine G.wz ?_; intro bx) | refine G.wa (h := ?_) | refine G.seq ?_ | refine G.region ?_ | refine G.nil ?_ | refine G.block ?_ | refine G.skip ?_ | refine G.blk ?_ | refine G.wx ?_ | refine G.wt ?_ | refine G.wf ?_)
    refine G.close (Table T last (rs.set e.toNat (some { r with frozen := on }))) rfl ((S, low, ps)) (⟨hlow, hal.setr hp _, by simpa using hl⟩) (by dsimp only) ?_
    refine G.ret rfl Try.func14 rfl rfl rfl ?_
    simp only [onRec, hr]
    exact ⟨rfl, rfl⟩

def waitRec (r : Rec) : Rec := if r.bits = 0 then { r with bits := 0, state := 2 } else { r with bits := 0 }
theorem Wait_ok (T : Nat) (last : Int) (rs : List (Option Rec)) (e : Int) : Fun Try.prog 49 [ptr (some T), i64 e] [Table T last rs]
    (Ret (.tuple #[i64 ((getr rs e).elim 0 (·.bits)), i64 (onRec rs e fun r => (0, waitRec r)).1]) [Table T last (onRec rs e fun r => (0, waitRec r)).2]) := by
  refine Fun.enter Try.func49 rfl rfl rfl ?_
  refine G.open (Table T last rs) rfl ?_
  rintro ⟨S, low, ps⟩ ⟨hlow, hal, hl⟩
  simp only [List.cons_append, List.nil_append]
  rcases hp : getp ps e with _ | b
  · repeat (first | refine G.w0 ?_ | refine G.w1 ?_ | refine G.wn ?_ | refine GR.w ?_ | (refine G.ws (h := ?_); try (simp only [Nat.reduceAdd, Nat.zero_add, List.set_cons_succ, List.set_cons_zero])) | (refine G.wb ?_; intro bx) | (refine G.wz ?_; intro bx) | refine G.wa (h := ?_) | refine G.seq ?_ | refine G.region ?_ | refine G.nil ?_ | refine G.block ?_ | refine G.skip ?_ | refine G.blk ?_ | refine G.wx ?_ | refine G.wt ?_ | refine G.wf ?_)
    (first | refine G.take rfl ?_ | refine G.take_yes rfl rfl rfl (by first | rfl | assumption) ?_); (first | refine R.callD Try.func44 rfl (by decide) rfl rfl (at_ok S low e ps _ hp) ?_ | refine R.callD0 Try.func44 rfl (by decide) rfl (at_ok S low e ps _ hp) ?_); simp only [List.cons_append, List.nil_append]
    repeat (first | refine G.w0 ?_ | refine G.w1 ?_ | refine G.wn ?_ | refine GR.w ?_ | (refine G.ws (h := ?_); try (simp only [Nat.reduceAdd, Nat.zero_add, List.set_cons_succ, List.set_cons_zero])) | (refine G.wb ?_; intro bx) | (refine G.wz ?_; intro bx) | refine G.wa (h := ?_) | refine G.seq ?_ | refine G.region ?_ | refine G.nil ?_ | refine G.block ?_ | refine G.skip ?_ | refine G.blk ?_ | refine G.wx ?_ | refine G.wt ?_ | refine G.wf ?_)
    refine G.close (Table T last rs) rfl ((S, low, ps)) (⟨hlow, hal, hl⟩) (by dsimp only) ?_
    refine G.ret rfl Try.func49 rfl rfl rfl ?_
    simp only [onRec, getr_none hal hp]
    exact ⟨rfl, rfl⟩
  · obtain ⟨r, hr⟩ := getr_some hal hp
    repeat (first | refine G.w0 ?_ | refine G.w1 ?_ | refine G.wn ?_ | refine GR.w ?_ | (refine G.ws (h := ?_); try (simp only [Nat.reduceAdd, Nat.zero_add, List.set_cons_succ, List.set_cons_zero])) | (refine G.wb ?_; intro bx) | (refine G.wz ?_; intro bx) | refine G.wa (h := ?_) | refine G.seq ?_ | refine G.region ?_ | refine G.nil ?_ | refine G.block ?_ | refine G.skip ?_ | refine G.blk ?_ | refine G.wx ?_ | refine G.wt ?_ | refine G.wf ?_)
    (first | refine G.take rfl ?_ | refine G.take_yes rfl rfl rfl (by first | rfl | assumption) ?_); (first | refine R.callD Try.func44 rfl (by decide) rfl rfl (at_ok S low e ps _ hp) ?_ | refine R.callD0 Try.func44 rfl (by decide) rfl (at_ok S low e ps _ hp) ?_); simp only [List.cons_append, List.nil_append]
    repeat (first | refine G.w0 ?_ | refine G.w1 ?_ | refine G.wn ?_ | refine GR.w ?_ | (refine G.ws (h := ?_); try (simp only [Nat.reduceAdd, Nat.zero_add, List.set_cons_succ, List.set_cons_zero])) | (refine G.wb ?_; intro bx) | (refine G.wz ?_; intro bx) | refine G.wa (h := ?_) | refine G.seq ?_ | refine G.region ?_ | refine G.nil ?_ | refine G.block ?_ | refine G.skip ?_ | refine G.blk ?_ | refine G.wx ?_ | refine G.wt ?_ | refine G.wf ?_)
    refine G.recOut hp hr fun kv => ?_
    repeat (first | refine G.w0 ?_ | refine G.w1 ?_ | refine G.wn ?_ | refine GR.w ?_ | (refine G.ws (h := ?_); try (simp only [Nat.reduceAdd, Nat.zero_add, List.set_cons_succ, List.set_cons_zero])) | (refine G.wb ?_; intro bx) | (refine G.wz ?_; intro bx) | refine G.wa (h := ?_) | refine G.seq ?_ | refine G.region ?_ | refine G.nil ?_ | refine G.block ?_ | refine G.skip ?_ | refine G.blk ?_ | refine G.wx ?_ | refine G.wt ?_ | refine G.wf ?_)
    refine G.cond rfl (fun hb => ?_) (fun hb => ?_)
    · repeat (first | refine G.w0 ?_ | refine G.w1 ?_ | refine G.wn ?_ | refine GR.w ?_ | (refine G.ws (h := ?_); try (simp only [Nat.reduceAdd, Nat.zero_add, List.set_cons_succ, List.set_cons_zero])) | (refine G.wb ?_; intro bx) | (refine G.wz ?_; intro bx) | refine G.wa (h := ?_) | refine G.seq ?_ | refine G.region ?_ | refine G.nil ?_ | refine G.block ?_ | refine G.skip ?_ | refine G.blk ?_ | refine G.wx ?_ | refine G.wt ?_ | refine G.wf ?_)
      refine G.recIn e b { r with bits := 0, state := 2 } kv rfl rfl ⟨rfl, rfl, rfl, rfl⟩ hp hal ?_
      repeat (first | refine G.w0 ?_ | refine G.w1 ?_ | refine G.wn ?_ | refine GR.w ?_ | (refine G.ws (h := ?_); try (simp only [Nat.reduceAdd, Nat.zero_add, List.set_cons_succ, List.set_cons_zero])) | (refine G.wb ?_; intro bx) | (refine G.wz ?_; intro bx) | refine G.wa (h := ?_) | refine G.seq ?_ | refine G.region ?_ | refine G.nil ?_ | refine G.block ?_ | refine G.skip ?_ | refine G.blk ?_ | refine G.wx ?_ | refine G.wt ?_ | refine G.wf ?_)
      refine G.close (Table T last (rs.set e.toNat (some { r with bits := 0, state := 2 }))) rfl ((S, low, ps)) (⟨hlow, hal.setr hp _, by simpa using hl⟩) (by dsimp only) ?_
      refine G.ret rfl Try.func49 rfl rfl rfl ?_
      have hb' : r.bits = 0 := by simpa using hb
      simp only [onRec, hr, waitRec, if_pos hb']
      exact ⟨rfl, rfl⟩
    · repeat (first | refine G.w0 ?_ | refine G.w1 ?_ | refine G.wn ?_ | refine GR.w ?_ | (refine G.ws (h := ?_); try (simp only [Nat.reduceAdd, Nat.zero_add, List.set_cons_succ, List.set_cons_zero])) | (refine G.wb ?_; intro bx) | (refine G.wz ?_; intro bx) | refine G.wa (h := ?_) | refine G.seq ?_ | refine G.region ?_ | refine G.nil ?_ | refine G.block ?_ | refine G.skip ?_ | refine G.blk ?_ | refine G.wx ?_ | refine G.wt ?_ | refine G.wf ?_)
      refine G.recIn e b { r with bits := 0 } kv rfl rfl ⟨rfl, rfl, rfl, rfl⟩ hp hal ?_
      repeat (first | refine G.w0 ?_ | refine G.w1 ?_ | refine G.wn ?_ | refine GR.w ?_ | (refine G.ws (h := ?_); try (simp only [Nat.reduceAdd, Nat.zero_add, List.set_cons_succ, List.set_cons_zero])) | (refine G.wb ?_; intro bx) | (refine G.wz ?_; intro bx) | refine G.wa (h := ?_) | refine G.seq ?_ | refine G.region ?_ | refine G.nil ?_ | refine G.block ?_ | refine G.skip ?_ | refine G.blk ?_ | refine G.wx ?_ | refine G.wt ?_ | refine G.wf ?_)
      refine G.close (Table T last (rs.set e.toNat (some { r with bits := 0 }))) rfl ((S, low, ps)) (⟨hlow, hal.setr hp _, by simpa using hl⟩) (by dsimp only) ?_
      refine G.ret rfl Try.func49 rfl rfl rfl ?_
      have hb' : ¬ r.bits = 0 := by simpa using hb
      simp only [onRec, hr, waitRec, if_neg hb']
      exact ⟨rfl, rfl⟩
end Go.Proofs.Ytffcilmllebdmaa
