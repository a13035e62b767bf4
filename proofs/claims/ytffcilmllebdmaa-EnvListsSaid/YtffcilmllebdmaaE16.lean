/- The table that the statements begin with. -/
import Derived.Test.YtffcilmllebdmaaE15
namespace Go.Proofs.Ytffcilmllebdmaa
open Go.Am
set_option maxHeartbeats 4000000
set_option linter.unusedVariables false
set_option linter.unusedSimpArgs false
attribute [local irreducible] Ok GR G Fun OpRun EVS

def rs0 : List (Option Rec) := some (newRec 1 (-1) ⟨40, 24, 8⟩) :: List.replicate 15 none
def rsA : List (Option Rec) := (createF rs0 1 0 2 ⟨20, 7, 3⟩).2.2
def rsB : List (Option Rec) := (createF rsA 2 1 3 ⟨6, 2, 1⟩).2.2
theorem rsA_eq : createF rs0 1 0 2 ⟨20, 7, 3⟩ = ((1, 0), 2, rsA) := rfl
theorem rsB_eq : createF rsA 2 1 3 ⟨6, 2, 1⟩ = ((2, 0), 3, rsB) := rfl
theorem rsB_val : rsB = [some { newRec 1 (-1) ⟨40, 24, 8⟩ with carved := ⟨20, 8, 3⟩, kids := [1] }, some { newRec 2 0 ⟨20, 7, 3⟩ with carved := ⟨6, 3, 1⟩, kids := [2] }, some (newRec 3 1 ⟨6, 2, 1⟩)] ++ List.replicate 13 none := rfl

def livesTo (n : Nat) : List Bool := (List.range 16).map fun k => decide (k < n)
theorem livesTo_set (n : Nat) (hn : n < 16) : (livesTo n).set n true = livesTo (n + 1) := by
  unfold livesTo
  apply List.ext_getElem
  · simp
  · intro j h1 h2
    simp only [List.length_map, List.length_range] at h2
    rw [List.getElem_set]
    simp only [List.getElem_map, List.getElem_range]
    by_cases hj : n = j
    · subst hj; simp
    · rw [if_neg hj]; exact decide_eq_decide.2 (by omega)

theorem first_ok : Fun Try.prog 8 [] [] (fun v H => ∃ T B, v = .tuple #[ptr (some T), ptr (some B)] ∧ H = [Table T 3 rsB, Book B (livesTo 3) 3]) := by
  have c1 : ∀ T, Fun Try.prog 18 [ptr (some T), i64 0, i64 2, qtVal ⟨20, 7, 3⟩] [Table T 1 rs0] (Ret (.tuple #[i64 1, i64 0]) [Table T 2 rsA]) := fun T => by
    have := Create_ok T 1 rs0 0 2 ⟨20, 7, 3⟩ (by rintro r hr; cases hr; exact ⟨by show qgood _ ∧ qgood _ ∧ qgood _ ∧ qle _ _; decide, by decide⟩)
    rw [rsA_eq] at this
    exact this
  have c2 : ∀ T, Fun Try.prog 18 [ptr (some T), i64 1, i64 3, qtVal ⟨6, 2, 1⟩] [Table T 2 rsA] (Ret (.tuple #[i64 2, i64 0]) [Table T 3 rsB]) := fun T => by
    have := Create_ok T 2 rsA 1 3 ⟨6, 2, 1⟩ (by rintro r hr; cases hr; exact ⟨by show qgood _ ∧ qgood _ ∧ qgood _ ∧ qle _ _; decide, by decide⟩)
    rw [rsB_eq] at this
    exact this
  have c0 : Fun Try.prog 43 [i64 1, qtVal ⟨40, 24, 8⟩] [] (fun v H => ∃ T, v = ptr (some T) ∧ H = [Table T 1 rs0]) := New_ok 1 ⟨40, 24, 8⟩
  refine Fun.enter Try.func8 rfl rfl rfl ?_
  repeat (first | refine G.w0 ?_ | refine G.w1 ?_ | refine G.wn ?_ | refine GR.w ?_ | (refine G.ws (h := ?_); try (simp only [Nat.reduceAdd, Nat.zero_add, List.set_cons_succ, List.set_cons_zero])) | (refine G.wb ?_; intro bx) | (refine G.wz ?_; intro bx) | refine G.wa (h := ?_) | refine G.seq ?_ | refine G.region ?_ | refine G.nil ?_ | refine G.block ?_ | refine G.skip ?_ | refine G.blk ?_ | refine G.wx ?_ | refine G.wt ?_ | refine G.wf ?_)
  (first | refine G.take rfl ?_ | refine G.take_yes rfl rfl rfl (by first | rfl | assumption) ?_); (first | refine R.callQ Try.func43 rfl (by decide) rfl rfl (c0) ?_ | refine R.callQ0 Try.func43 rfl (by decide) rfl (c0) ?_); (rintro _ _ ⟨T, rfl, rfl⟩ <;> simp only [List.cons_append, List.nil_append])
  repeat (first | refine G.w0 ?_ | refine G.w1 ?_ | refine G.wn ?_ | refine GR.w ?_ | (refine G.ws (h := ?_); try (simp only [Nat.reduceAdd, Nat.zero_add, List.set_cons_succ, List.set_cons_zero])) | (refine G.wb ?_; intro bx) | (refine G.wz ?_; intro bx) | refine G.wa (h := ?_) | refine G.seq ?_ | refine G.region ?_ | refine G.nil ?_ | refine G.block ?_ | refine G.skip ?_ | refine G.blk ?_ | refine G.wx ?_ | refine G.wt ?_ | refine G.wf ?_)
  (first | refine G.take rfl ?_ | refine G.take_yes rfl rfl rfl (by first | rfl | assumption) ?_); (first | refine R.callD Try.func18 rfl (by decide) rfl rfl (c1 T) ?_ | refine R.callD0 Try.func18 rfl (by decide) rfl (c1 T) ?_); simp only [List.cons_append, List.nil_append]
  repeat (first | refine G.w0 ?_ | refine G.w1 ?_ | refine G.wn ?_ | refine GR.w ?_ | (refine G.ws (h := ?_); try (simp only [Nat.reduceAdd, Nat.zero_add, List.set_cons_succ, List.set_cons_zero])) | (refine G.wb ?_; intro bx) | (refine G.wz ?_; intro bx) | refine G.wa (h := ?_) | refine G.seq ?_ | refine G.region ?_ | refine G.nil ?_ | refine G.block ?_ | refine G.skip ?_ | refine G.blk ?_ | refine G.wx ?_ | refine G.wt ?_ | refine G.wf ?_)
  (first | refine G.take rfl ?_ | refine G.take_yes rfl rfl rfl (by first | rfl | assumption) ?_); (first | refine R.callD Try.func18 rfl (by decide) rfl rfl (c2 T) ?_ | refine R.callD0 Try.func18 rfl (by decide) rfl (c2 T) ?_); simp only [List.cons_append, List.nil_append]
  repeat (first | refine G.w0 ?_ | refine G.w1 ?_ | refine G.wn ?_ | refine GR.w ?_ | (refine G.ws (h := ?_); try (simp only [Nat.reduceAdd, Nat.zero_add, List.set_cons_succ, List.set_cons_zero])) | (refine G.wb ?_; intro bx) | (refine G.wz ?_; intro bx) | refine G.wa (h := ?_) | refine G.seq ?_ | refine G.region ?_ | refine G.nil ?_ | refine G.block ?_ | refine G.skip ?_ | refine G.blk ?_ | refine G.wx ?_ | refine G.wt ?_ | refine G.wf ?_)
  refine G.isC bx ((livesTo 0).map Value.bool ++ (List.replicate 16 (⟨0, 0, 0⟩ : Qt)).flatMap qtCells ++ [i64 3]) rfl ?_
  refine G.loopI (fun n : Nat => [(8, .int .i64 n), (3, ptr (some T)), (2, ptr (some bx))]) (fun n => [cb bx ((livesTo n).map Value.bool ++ (List.replicate 16 (⟨0, 0, 0⟩ : Qt)).flatMap qtCells ++ [i64 3]) 53, Table T 3 rsB])
      (fun n => n ≤ 3) (fun n => 3 - n) 0 (by omega) (Env.le_cons rfl (Env.le_cons rfl (Env.le_cons rfl (Env.le_nil _)))) rfl ?_
  rintro n hn hloop
  by_cases h3 : n < 3
  · have hb : decide ((n : Int) < 3) = true := by simp; omega
    have hidx : 0 ≤ (n : Int) ∧ (n : Int) < ((16 : Nat) : Int) := by omega
    have hw : IntKind.i64.wrap ((n : Int) + 1) = (n : Int) + 1 := wrap_id (by omega) (by omega)
    have e1 : 0 + (n : Int).toNat * 1 = n := by simp
    have e2 : ((livesTo n).map Value.bool ++ (List.replicate 16 (⟨0, 0, 0⟩ : Qt)).flatMap qtCells ++ [i64 3]).set n (.bool true) = (livesTo (n + 1)).map Value.bool ++ (List.replicate 16 (⟨0, 0, 0⟩ : Qt)).flatMap qtCells ++ [i64 3] := by
      have hl : n < ((livesTo n).map Value.bool).length := by simp [livesTo]; omega
      rw [List.append_assoc, List.set_append, if_pos hl, ← livesTo_set n (by omega), List.map_set, List.append_assoc]
    repeat (first | refine G.w0 ?_ | refine G.w1 ?_ | refine G.wn ?_ | refine GR.w ?_ | (refine G.ws (h := ?_); try (simp only [Nat.reduceAdd, Nat.zero_add, List.set_cons_succ, List.set_cons_zero])) | (refine G.wb ?_; intro bx) | (refine G.wz ?_; intro bx) | refine G.wa (h := ?_) | refine G.seq ?_ | refine G.region ?_ | refine G.nil ?_ | refine G.block ?_ | refine G.skip ?_ | refine G.blk ?_ | refine G.wx ?_ | refine G.wt ?_ | refine G.wf ?_)
    (first | refine G.take rfl ?_ | refine G.take_yes rfl rfl rfl (by first | rfl | assumption) ?_)
    refine R.store rfl rfl rfl (by rw [e1]; simp [livesTo]; omega) ?_
    rw [e1, e2]
    repeat (first | refine G.w0 ?_ | refine G.w1 ?_ | refine G.wn ?_ | refine GR.w ?_ | (refine G.ws (h := ?_); try (simp only [Nat.reduceAdd, Nat.zero_add, List.set_cons_succ, List.set_cons_zero])) | (refine G.wb ?_; intro bx) | (refine G.wz ?_; intro bx) | refine G.wa (h := ?_) | refine G.seq ?_ | refine G.region ?_ | refine G.nil ?_ | refine G.block ?_ | refine G.skip ?_ | refine G.blk ?_ | refine G.wx ?_ | refine G.wt ?_ | refine G.wf ?_)
    exact (hloop (n + 1) (by omega) (by omega)).forget _ (Env.le_cons rfl (Env.le_cons rfl (Env.le_cons rfl (Env.le_nil _))))
  · have hb : decide ((n : Int) < 3) = false := by simp; omega
    have : n = 3 := by omega
    subst this
    repeat (first | refine G.w0 ?_ | refine G.w1 ?_ | refine G.wn ?_ | refine GR.w ?_ | (refine G.ws (h := ?_); try (simp only [Nat.reduceAdd, Nat.zero_add, List.set_cons_succ, List.set_cons_zero])) | (refine G.wb ?_; intro bx) | (refine G.wz ?_; intro bx) | refine G.wa (h := ?_) | refine G.seq ?_ | refine G.region ?_ | refine G.nil ?_ | refine G.block ?_ | refine G.skip ?_ | refine G.blk ?_ | refine G.wx ?_ | refine G.wt ?_ | refine G.wf ?_)
    refine G.close (Book bx (livesTo 3) 3) rfl (List.replicate 16 (⟨0, 0, 0⟩ : Qt)) (⟨rfl, rfl⟩) (by dsimp only) ?_
    first | refine G.retK [Table T 3 rsB, Book bx (livesTo 3) 3] rfl Try.func8 rfl Res.nil ?_ | refine G.retK [Table T 3 rsB, Book bx (livesTo 3) 3] rfl Try.func8 rfl (Res.tmp rfl Res.nil) ?_ | refine G.retK [Table T 3 rsB, Book bx (livesTo 3) 3] rfl Try.func8 rfl (Res.tmp rfl (Res.tmp rfl Res.nil)) ?_ | refine G.retK [Table T 3 rsB, Book bx (livesTo 3) 3] rfl Try.func8 rfl (Res.tmp rfl (Res.tmp rfl (Res.tmp rfl Res.nil))) ?_ | refine G.retK [Table T 3 rsB, Book bx (livesTo 3) 3] rfl Try.func8 rfl (Res.cellA rfl rfl rfl Res.nil) ?_ | refine G.retK [Table T 3 rsB, Book bx (livesTo 3) 3] rfl Try.func8 rfl (Res.cellA rfl rfl rfl (Res.tmp rfl Res.nil)) ?_ | refine G.retK [Table T 3 rsB, Book bx (livesTo 3) 3] rfl Try.func8 rfl (Res.cell rfl rfl Res.nil) ?_
    exact ⟨T, bx, rfl, rfl⟩
end Go.Proofs.Ytffcilmllebdmaa
