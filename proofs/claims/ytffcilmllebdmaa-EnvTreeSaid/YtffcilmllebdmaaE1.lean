/- The slot tables of the program: what each function of package slots does, at tables of pointers. -/
import Derived.Test.YtffcilmllebdmaaFacts
import Derived.Test.YtffcilmllebdmaaAmW
namespace Go.Proofs.Ytffcilmllebdmaa
open Go.Am
set_option maxHeartbeats 4000000
set_option linter.unusedVariables false
set_option linter.unusedSimpArgs false
attribute [local irreducible] Ok GR G Fun OpRun EVS

/-- A pointer, or nil. -/
def ptr (p : Option Nat) : Value := .pointer (p.map fun b => ⟨b, 0, none⟩)

/-- The cells of a slot table's places: taken, and the pointer that lies there. -/
def slotCells : List (Option Nat) → List Value
  | [] => []
  | p :: ps => .bool p.isSome :: ptr p :: slotCells ps

theorem slotCells_length : ∀ ps : List (Option Nat), (slotCells ps).length = 2 * ps.length
  | [] => rfl
  | p :: ps => by simp [slotCells, slotCells_length ps]; omega

theorem slot_taken : ∀ (ps : List (Option Nat)) (j o : Nat), o = 2 * j → j < ps.length → (slotCells ps)[o]? = some (.bool (ps[j]?.join).isSome)
  | p :: ps, 0, o, h, _ => by subst h; rfl
  | p :: ps, j + 1, o, h, hj => by
    subst h
    rw [show 2 * (j + 1) = 2 * j + 1 + 1 by omega]
    simpa [slotCells] using slot_taken ps j _ rfl (by simpa using hj)
theorem slot_ptr : ∀ (ps : List (Option Nat)) (j o : Nat), o = 2 * j + 1 → j < ps.length → (slotCells ps)[o]? = some (ptr (ps[j]?.join))
  | p :: ps, 0, o, h, _ => by subst h; rfl
  | p :: ps, j + 1, o, h, hj => by
    subst h
    rw [show 2 * (j + 1) + 1 = 2 * j + 1 + 1 + 1 by omega]
    simpa [slotCells] using slot_ptr ps j _ rfl (by simpa using hj)
theorem slot_set : ∀ (ps : List (Option Nat)) (j o : Nat) (q : Option Nat), o = 2 * j → j < ps.length → setSeg (slotCells ps) o [.bool q.isSome, ptr q] = slotCells (ps.set j q)
  | p :: ps, 0, o, q, h, _ => by subst h; simp [setSeg, slotCells]
  | p :: ps, j + 1, o, q, h, hj => by
    subst h
    have := slot_set ps j _ q rfl (by simpa using hj)
    rw [show 2 * (j + 1) = 2 * j + 1 + 1 by omega]
    simp only [setSeg, slotCells, List.take_succ_cons, List.cons_append, List.set_cons_succ, List.length_cons, List.length_nil] at this ⊢
    rw [← this]
    congr 3

/-- The pointer at place i. -/
def getp (ps : List (Option Nat)) (i : Int) : Option Nat := if 0 ≤ i then (ps[i.toNat]?).join else none

/-- A slot table at S: 16 places ps, none below low free. -/
def Slots (S : Nat) (low : Int) (ps : List (Option Nat)) : HProp :=
  Pk (fun x : Nat × Int => ps.length = 16 ∧ x.2 = (ps.filter Option.isSome).length)
    (fun x => [cb S [.slice (some ⟨x.1, 0, none⟩) 16 16, .int .i64 x.2, .int .i64 low] 117, cb x.1 (slotCells ps) 119])

theorem getp_in {ps : List (Option Nat)} {i : Int} (h : 0 ≤ i) : getp ps i = (ps[i.toNat]?).join := by simp [getp, h]
theorem getp_neg {ps : List (Option Nat)} {i : Int} (h : i < 0) : getp ps i = none := by simp [getp]; omega
theorem getp_big {ps : List (Option Nat)} {i : Int} (h : (ps.length : Int) ≤ i) : getp ps i = none := by
  rw [getp_in (by omega), List.getElem?_eq_none (by omega)]; rfl

theorem has_ok (S : Nat) (low i : Int) (ps : List (Option Nat)) : Fun Try.prog 89 [ptr (some S), .int .i64 i] [Slots S low ps] (Ret (.bool (getp ps i).isSome) [Slots S low ps]) := by
  refine Fun.enter Try.func89 rfl rfl rfl ?_
  refine G.open (Slots S low ps) rfl ?_
  rintro ⟨C, cnt⟩ ⟨hl, hc⟩
  simp only [List.cons_append, List.nil_append]
  repeat' (first | refine G.w0 ?_ | refine G.w1 ?_ | refine G.wn ?_ | refine GR.w ?_ | (refine G.ws (h := ?_); try (simp only [Nat.reduceAdd, Nat.zero_add, List.set_cons_succ, List.set_cons_zero])) | (refine G.wb ?_; intro bx) | (refine G.wz ?_; intro bx) | refine G.wa (h := ?_) | refine G.seq ?_ | refine G.region ?_ | refine G.nil ?_ | refine G.block ?_ | refine G.skip ?_ | refine G.blk ?_ | refine G.wx ?_ | refine G.wt ?_ | refine G.wf ?_ | ((fail_if_success (first | refine G.take_yes rfl rfl rfl (by first | rfl | assumption) ?_ | refine G.take_n rfl rfl (by first | exact .inl rfl | exact .inr ⟨_, rfl, by first | rfl | assumption⟩) rfl ?_)); refine G.take_split rfl rfl rfl (fun hb => ?_) (fun hb => ?_)) | refine G.cond rfl (fun hb => ?_) (fun hb => ?_))
  · (first | refine G.take rfl ?_ | refine G.take_yes rfl rfl rfl (by first | rfl | assumption) ?_)
    refine GR.ok (Ok.load rfl (slot_taken ps i.toNat _ (by omega) (by simp only [decide_eq_true_eq] at *; omega))) rfl rfl ?_
    repeat (first | refine G.w0 ?_ | refine G.w1 ?_ | refine G.wn ?_ | refine GR.w ?_ | (refine G.ws (h := ?_); try (simp only [Nat.reduceAdd, Nat.zero_add, List.set_cons_succ, List.set_cons_zero])) | (refine G.wb ?_; intro bx) | (refine G.wz ?_; intro bx) | refine G.wa (h := ?_) | refine G.seq ?_ | refine G.region ?_ | refine G.nil ?_ | refine G.block ?_ | refine G.skip ?_ | refine G.blk ?_ | refine G.wx ?_ | refine G.wt ?_ | refine G.wf ?_)
    refine G.close (Slots S low ps) rfl (C, cnt) ⟨hl, hc⟩ rfl ?_
    refine G.ret rfl Try.func89 rfl rfl rfl ?_
    exact ⟨by rw [getp_in (by simp only [decide_eq_true_eq] at *; assumption)]; rfl, rfl⟩
  · refine G.close (Slots S low ps) rfl (C, cnt) ⟨hl, hc⟩ rfl ?_
    refine G.ret rfl Try.func89 rfl rfl rfl ?_
    exact ⟨by rw [getp_big (by simp at *; omega)]; rfl, rfl⟩
  · refine G.close (Slots S low ps) rfl (C, cnt) ⟨hl, hc⟩ rfl ?_
    refine G.ret rfl Try.func89 rfl rfl rfl ?_
    exact ⟨by rw [getp_neg (by simp at *; omega)]; rfl, rfl⟩

theorem getp_some {ps : List (Option Nat)} {i : Int} (h : (getp ps i).isSome = true) : 0 ≤ i ∧ i < ps.length := by
  unfold getp at h
  split at h
  · rename_i h0
    refine ⟨h0, ?_⟩
    by_cases hh : i < ps.length
    · exact hh
    · rw [List.getElem?_eq_none (by omega)] at h; cases h
  · cases h

theorem Get_ok (S : Nat) (low i : Int) (ps : List (Option Nat)) : Fun Try.prog 83 [ptr (some S), .int .i64 i] [Slots S low ps] (Ret (.tuple #[ptr (getp ps i), .bool (getp ps i).isSome]) [Slots S low ps]) := by
  refine Fun.enter Try.func83 rfl rfl rfl ?_
  repeat (first | refine G.w0 ?_ | refine G.w1 ?_ | refine G.wn ?_ | refine GR.w ?_ | (refine G.ws (h := ?_); try (simp only [Nat.reduceAdd, Nat.zero_add, List.set_cons_succ, List.set_cons_zero])) | (refine G.wb ?_; intro bx) | (refine G.wz ?_; intro bx) | refine G.wa (h := ?_) | refine G.seq ?_ | refine G.region ?_ | refine G.nil ?_ | refine G.block ?_ | refine G.skip ?_ | refine G.blk ?_ | refine G.wx ?_ | refine G.wt ?_ | refine G.wf ?_)
  (first | refine G.take rfl ?_ | refine G.take_yes rfl rfl rfl (by first | rfl | assumption) ?_); (first | refine R.callD Try.func89 rfl (by decide) rfl rfl (has_ok S low i ps) ?_ | refine R.callD0 Try.func89 rfl (by decide) rfl (has_ok S low i ps) ?_); simp only [List.cons_append, List.nil_append]
  repeat (first | refine G.w0 ?_ | refine G.w1 ?_ | refine G.wn ?_ | refine GR.w ?_ | (refine G.ws (h := ?_); try (simp only [Nat.reduceAdd, Nat.zero_add, List.set_cons_succ, List.set_cons_zero])) | (refine G.wb ?_; intro bx) | (refine G.wz ?_; intro bx) | refine G.wa (h := ?_) | refine G.seq ?_ | refine G.region ?_ | refine G.nil ?_ | refine G.block ?_ | refine G.skip ?_ | refine G.blk ?_ | refine G.wx ?_ | refine G.wt ?_ | refine G.wf ?_)
  refine G.cond rfl (fun hb => ?_) (fun hb => ?_)
  · repeat (first | refine G.w0 ?_ | refine G.w1 ?_ | refine G.wn ?_ | refine GR.w ?_ | (refine G.ws (h := ?_); try (simp only [Nat.reduceAdd, Nat.zero_add, List.set_cons_succ, List.set_cons_zero])) | (refine G.wb ?_; intro bx) | (refine G.wz ?_; intro bx) | refine G.wa (h := ?_) | refine G.seq ?_ | refine G.region ?_ | refine G.nil ?_ | refine G.block ?_ | refine G.skip ?_ | refine G.blk ?_ | refine G.wx ?_ | refine G.wt ?_ | refine G.wf ?_)
    refine G.ret rfl Try.func83 rfl rfl rfl ?_
    have : getp ps i = none := by simpa using hb
    rw [this]; exact ⟨rfl, rfl⟩
  · have hi : 0 ≤ i ∧ i < ps.length := getp_some (by simpa using hb)
    refine G.open (Slots S low ps) rfl ?_
    rintro ⟨C, cnt⟩ ⟨hl, hc⟩
    simp only [List.cons_append, List.nil_append]
    repeat (first | refine G.w0 ?_ | refine G.w1 ?_ | refine G.wn ?_ | refine GR.w ?_ | (refine G.ws (h := ?_); try (simp only [Nat.reduceAdd, Nat.zero_add, List.set_cons_succ, List.set_cons_zero])) | (refine G.wb ?_; intro bx) | (refine G.wz ?_; intro bx) | refine G.wa (h := ?_) | refine G.seq ?_ | refine G.region ?_ | refine G.nil ?_ | refine G.block ?_ | refine G.skip ?_ | refine G.blk ?_ | refine G.wx ?_ | refine G.wt ?_ | refine G.wf ?_)
    (first | refine G.take rfl ?_ | refine G.take_yes rfl rfl rfl (by first | rfl | assumption) ?_)
    refine GR.ok (Ok.load rfl (slot_ptr ps i.toNat _ (by omega) (by omega))) rfl rfl ?_
    repeat (first | refine G.w0 ?_ | refine G.w1 ?_ | refine G.wn ?_ | refine GR.w ?_ | (refine G.ws (h := ?_); try (simp only [Nat.reduceAdd, Nat.zero_add, List.set_cons_succ, List.set_cons_zero])) | (refine G.wb ?_; intro bx) | (refine G.wz ?_; intro bx) | refine G.wa (h := ?_) | refine G.seq ?_ | refine G.region ?_ | refine G.nil ?_ | refine G.block ?_ | refine G.skip ?_ | refine G.blk ?_ | refine G.wx ?_ | refine G.wt ?_ | refine G.wf ?_)
    refine G.close (Slots S low ps) rfl (C, cnt) ⟨hl, hc⟩ rfl ?_
    refine G.ret rfl Try.func83 rfl rfl rfl ?_
    have h2 : (getp ps i).isSome = true := by simpa using hb
    exact ⟨by rw [h2, getp_in hi.1]; rfl, rfl⟩

theorem wrap_id {k : Int} (h0 : -9223372036854775808 ≤ k) (h1 : k < 9223372036854775808) : IntKind.i64.wrap k = k := by
  simp only [IntKind.wrap, IntKind.bits, IntKind.signed]
  by_cases h : k % 2 ^ 64 ≥ 2 ^ (64 - 1)
  · simp [h]; omega
  · simp [h]; omega

theorem filter_le (ps : List (Option Nat)) : (ps.filter Option.isSome).length ≤ ps.length := List.length_filter_le _ _

theorem filter_set : ∀ (ps : List (Option Nat)) (j : Nat) (q : Option Nat), j < ps.length →
    ((ps.set j q).filter Option.isSome).length + (if (ps[j]?.join).isSome then 1 else 0) = (ps.filter Option.isSome).length + (if q.isSome then 1 else 0)
  | p :: ps, 0, q, _ => by cases p <;> cases q <;> simp
  | p :: ps, j + 1, q, h => by
    have := filter_set ps j q (by simpa using h)
    cases p <;> simp [List.filter_cons] at this ⊢ <;> omega

theorem slot_seg (ps : List (Option Nat)) (j o : Nat) (q : Option Nat) (t : Bool) (v : Value) (h : o = 2 * j) (hj : j < ps.length) (ht : t = q.isSome) (hv : v = ptr q) : setSeg (slotCells ps) o [.bool t, v] = slotCells (ps.set j q) := by
  rw [ht, hv]; exact slot_set ps j o q h hj

theorem lay_ok (S : Nat) (low i : Int) (ps : List (Option Nat)) (q : Nat) (hi : 0 ≤ i ∧ i < 16) (hf : getp ps i = none) :
    Fun Try.prog 85 [ptr (some S), .int .i64 i, ptr (some q)] [Slots S low ps] (Ret (.tuple #[]) [Slots S low (ps.set i.toNat (some q))]) := by
  refine Fun.enter Try.func85 rfl rfl rfl ?_
  refine G.open (Slots S low ps) rfl ?_
  rintro ⟨C, cnt⟩ ⟨hl, hc⟩
  dsimp only at hc
  have hfl := filter_le ps
  have hw : IntKind.i64.wrap (cnt + 1) = cnt + 1 := wrap_id (by omega) (by omega)
  have hs := filter_set ps i.toNat (some q) (by omega)
  rw [getp_in hi.1] at hf
  simp only [List.cons_append, List.nil_append]
  repeat (first | refine G.w0 ?_ | refine G.w1 ?_ | refine G.wn ?_ | refine GR.w ?_ | (refine G.ws (h := ?_); try (simp only [Nat.reduceAdd, Nat.zero_add, List.set_cons_succ, List.set_cons_zero])) | (refine G.wb ?_; intro bx) | (refine G.wz ?_; intro bx) | refine G.wa (h := ?_) | refine G.seq ?_ | refine G.region ?_ | refine G.nil ?_ | refine G.block ?_ | refine G.skip ?_ | refine G.blk ?_ | refine G.wx ?_ | refine G.wt ?_ | refine G.wf ?_)
  (first | refine G.take rfl ?_ | refine G.take_yes rfl rfl rfl (by first | rfl | assumption) ?_)
  refine R.storeA (vs := [.bool true, ptr (some q)]) rfl rfl rfl rfl (by simp [slotCells_length]; omega) ?_
  rw [slot_seg ps i.toNat (0 + i.toNat * 2) (some q) true (ptr (some q)) (by omega) (by omega) rfl rfl]
  repeat (first | refine G.w0 ?_ | refine G.w1 ?_ | refine G.wn ?_ | refine GR.w ?_ | (refine G.ws (h := ?_); try (simp only [Nat.reduceAdd, Nat.zero_add, List.set_cons_succ, List.set_cons_zero])) | (refine G.wb ?_; intro bx) | (refine G.wz ?_; intro bx) | refine G.wa (h := ?_) | refine G.seq ?_ | refine G.region ?_ | refine G.nil ?_ | refine G.block ?_ | refine G.skip ?_ | refine G.blk ?_ | refine G.wx ?_ | refine G.wt ?_ | refine G.wf ?_)
  refine G.close (Slots S low (ps.set i.toNat (some q))) rfl ((C, cnt + 1)) (⟨by simp [hl], by rw [hf] at hs; simp at hs; dsimp only; omega⟩) (by dsimp only) ?_
  refine G.end rfl Try.func85 rfl rfl rfl ?_
  exact ⟨rfl, rfl⟩

/-- What Next answers: the lowest taken place from i on, or -1. -/
def IsNext (ps : List (Option Nat)) (i r : Int) : Prop :=
  (0 ≤ r ∧ i ≤ r ∧ (getp ps r).isSome = true ∧ ∀ j, 0 ≤ j → i ≤ j → j < r → (getp ps j).isSome = false) ∨ (r = -1 ∧ ∀ j, 0 ≤ j → i ≤ j → (getp ps j).isSome = false)

theorem Next_ok (S : Nat) (low i : Int) (ps : List (Option Nat)) : Fun Try.prog 88 [ptr (some S), .int .i64 i] [Slots S low ps] (fun v H => ∃ r, IsNext ps i r ∧ v = .int .i64 r ∧ H = [Slots S low ps]) := by
  refine Fun.enter Try.func88 rfl rfl rfl ?_
  refine G.open (Slots S low ps) rfl ?_
  rintro ⟨C, cnt⟩ ⟨hl, hc⟩
  simp only [List.cons_append, List.nil_append]
  repeat (first | refine G.w0 ?_ | refine G.w1 ?_ | refine G.wn ?_ | refine GR.w ?_ | (refine G.ws (h := ?_); try (simp only [Nat.reduceAdd, Nat.zero_add, List.set_cons_succ, List.set_cons_zero])) | (refine G.wb ?_; intro bx) | (refine G.wz ?_; intro bx) | refine G.wa (h := ?_) | refine G.seq ?_ | refine G.region ?_ | refine G.nil ?_ | refine G.block ?_ | refine G.skip ?_ | refine G.blk ?_ | refine G.wx ?_ | refine G.wt ?_ | refine G.wf ?_)
  refine G.loopI (fun k : Int => [(5, .int .i64 k), (0, ptr (some S))]) (fun _ => _) (fun k => 0 ≤ k ∧ i ≤ k ∧ k ≤ max i 16 ∧ ∀ j, 0 ≤ j → i ≤ j → j < k → (getp ps j).isSome = false) (fun k => (max i 16 - k).toNat) (max i 0) ⟨by omega, by omega, by omega, fun j h1 h2 h3 => by omega⟩ (Env.le_cons rfl (Env.le_cons rfl (Env.le_nil _))) rfl ?_
  rintro k ⟨h0, h1, h2, hno⟩ ih
  repeat (first | refine G.w0 ?_ | refine G.w1 ?_ | refine G.wn ?_ | refine GR.w ?_ | (refine G.ws (h := ?_); try (simp only [Nat.reduceAdd, Nat.zero_add, List.set_cons_succ, List.set_cons_zero])) | (refine G.wb ?_; intro bx) | (refine G.wz ?_; intro bx) | refine G.wa (h := ?_) | refine G.seq ?_ | refine G.region ?_ | refine G.nil ?_ | refine G.block ?_ | refine G.skip ?_ | refine G.blk ?_ | refine G.wx ?_ | refine G.wt ?_ | refine G.wf ?_)
  refine G.cond rfl (fun hb => ?_) (fun hb => ?_)
  · repeat (first | refine G.w0 ?_ | refine G.w1 ?_ | refine G.wn ?_ | refine GR.w ?_ | (refine G.ws (h := ?_); try (simp only [Nat.reduceAdd, Nat.zero_add, List.set_cons_succ, List.set_cons_zero])) | (refine G.wb ?_; intro bx) | (refine G.wz ?_; intro bx) | refine G.wa (h := ?_) | refine G.seq ?_ | refine G.region ?_ | refine G.nil ?_ | refine G.block ?_ | refine G.skip ?_ | refine G.blk ?_ | refine G.wx ?_ | refine G.wt ?_ | refine G.wf ?_)
    have hk : k < 16 := by simpa using hb
    (first | refine G.take rfl ?_ | refine G.take_yes rfl rfl rfl (by first | rfl | assumption) ?_)
    refine GR.ok (Ok.load rfl (slot_taken ps k.toNat _ (by omega) (by omega))) rfl rfl ?_
    repeat (first | refine G.w0 ?_ | refine G.w1 ?_ | refine G.wn ?_ | refine GR.w ?_ | (refine G.ws (h := ?_); try (simp only [Nat.reduceAdd, Nat.zero_add, List.set_cons_succ, List.set_cons_zero])) | (refine G.wb ?_; intro bx) | (refine G.wz ?_; intro bx) | refine G.wa (h := ?_) | refine G.seq ?_ | refine G.region ?_ | refine G.nil ?_ | refine G.block ?_ | refine G.skip ?_ | refine G.blk ?_ | refine G.wx ?_ | refine G.wt ?_ | refine G.wf ?_)
    refine G.cond rfl (fun hb => ?_) (fun hb => ?_)
    · repeat (first | refine G.w0 ?_ | refine G.w1 ?_ | refine G.wn ?_ | refine GR.w ?_ | (refine G.ws (h := ?_); try (simp only [Nat.reduceAdd, Nat.zero_add, List.set_cons_succ, List.set_cons_zero])) | (refine G.wb ?_; intro bx) | (refine G.wz ?_; intro bx) | refine G.wa (h := ?_) | refine G.seq ?_ | refine G.region ?_ | refine G.nil ?_ | refine G.block ?_ | refine G.skip ?_ | refine G.blk ?_ | refine G.wx ?_ | refine G.wt ?_ | refine G.wf ?_)
      refine G.close (Slots S low ps) rfl ((C, cnt)) (⟨hl, hc⟩) (by dsimp only) ?_
      refine G.ret rfl Try.func88 rfl rfl rfl ?_
      exact ⟨k, .inl ⟨h0, h1, by rw [getp_in h0]; exact hb, hno⟩, rfl, rfl⟩
    · have hw : IntKind.i64.wrap (k + 1) = k + 1 := wrap_id (by omega) (by omega)
      repeat (first | refine G.w0 ?_ | refine G.w1 ?_ | refine G.wn ?_ | refine GR.w ?_ | (refine G.ws (h := ?_); try (simp only [Nat.reduceAdd, Nat.zero_add, List.set_cons_succ, List.set_cons_zero])) | (refine G.wb ?_; intro bx) | (refine G.wz ?_; intro bx) | refine G.wa (h := ?_) | refine G.seq ?_ | refine G.region ?_ | refine G.nil ?_ | refine G.block ?_ | refine G.skip ?_ | refine G.blk ?_ | refine G.wx ?_ | refine G.wt ?_ | refine G.wf ?_)
      refine (ih (k + 1) ⟨by omega, by omega, by omega, fun j a b c => ?_⟩ (by omega)).forget _ (Env.le_cons rfl (Env.le_cons rfl (Env.le_nil _)))
      by_cases e : j = k
      · rw [e, getp_in h0]; exact hb
      · exact hno j a b (by omega)
  · repeat (first | refine G.w0 ?_ | refine G.w1 ?_ | refine G.wn ?_ | refine GR.w ?_ | (refine G.ws (h := ?_); try (simp only [Nat.reduceAdd, Nat.zero_add, List.set_cons_succ, List.set_cons_zero])) | (refine G.wb ?_; intro bx) | (refine G.wz ?_; intro bx) | refine G.wa (h := ?_) | refine G.seq ?_ | refine G.region ?_ | refine G.nil ?_ | refine G.block ?_ | refine G.skip ?_ | refine G.blk ?_ | refine G.wx ?_ | refine G.wt ?_ | refine G.wf ?_)
    refine G.close (Slots S low ps) rfl ((C, cnt)) (⟨hl, hc⟩) (by dsimp only) ?_
    refine G.ret rfl Try.func88 rfl rfl rfl ?_
    have hk : 16 ≤ k := by simpa using hb
    refine ⟨-1, .inr ⟨rfl, fun j a b => ?_⟩, rfl, rfl⟩
    by_cases e : j < k
    · exact hno j a b e
    · rw [getp_big (by omega)]; rfl
end Go.Proofs.Ytffcilmllebdmaa
