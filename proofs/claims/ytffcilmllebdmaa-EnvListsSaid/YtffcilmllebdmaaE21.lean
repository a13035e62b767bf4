/- The law EnvFreezes. -/
import Derived.Test.YtffcilmllebdmaaE20
import Derived.Test.YtffcilmllebdmaaM7
namespace Go.Proofs.Ytffcilmllebdmaa
open Go.Am
set_option maxHeartbeats 4000000
set_option linter.unusedVariables false
set_option linter.unusedSimpArgs false
attribute [local irreducible] Ok GR G Fun OpRun EVS

theorem noted_ok (T B : Nat) (last : Int) (rs : List (Option Rec)) (o : Op) (ht : TreeOk rs last) : Fun Try.prog 11 [ptr (some B), ptr (some T), opVal o] [Table T last rs, Book B (livesOf rs) last]
    (Ret (.bool true) [Table T (stepF rs last o).2 (stepF rs last o).1, Book B (livesOf (stepF rs last o).1) (stepF rs last o).2]) := by
  obtain ⟨k, t, e, n, m, q, r, on⟩ := o
  by_cases h2 : k = 2
  · subst h2; exact noted2 T B last rs t e n m q r on ht
  by_cases h3 : k = 3
  · subst h3; exact noted3 T B last rs t e n m q r on ht
  by_cases h11 : k = 11
  · subst h11; exact noted11 T B last rs t e n m q r on ht.len (fun r hr => ht.ok e r hr)
  by_cases h12 : k = 12
  · subst h12; exact noted12 T B last rs t e n m q r on ht.len (fun r hr => ht.ok e r hr)
  by_cases h5 : k = 5
  · subst h5; exact noted5 T B last rs t e n m q r on
  by_cases h6 : k = 6
  · subst h6; exact noted6 T B last rs t e n m q r on
  by_cases h7 : k = 7
  · subst h7; exact noted7 T B last rs t e n m q r on
  by_cases h8 : k = 8
  · subst h8; exact noted8 T B last rs t e n m q r on
  by_cases h9 : k = 9
  · subst h9; exact noted9 T B last rs t e n m q r on
  by_cases h10 : k = 10
  · subst h10; exact noted10 T B last rs t e n m q r on
  exact noted0 T B last rs k t e n m q r on h2 h3 h11 h12 h5 h6 h7 h8 h9 h10

/-- A script in memory. -/
def ScriptAt (W : World) (a : Option Addr) (ops : List Op) : Prop := ∀ (i : Nat) (h : i < ops.length), ∃ ad, a = some ad ∧ CellsAt W (ad.add (i * 18)) (opCells ops[i])

/-- The table behind the first steps of a script. -/
def played (rs : List (Option Rec)) (last : Int) : List Op → List (Option Rec) × Int
  | [] => (rs, last)
  | o :: l => played (stepF rs last o).1 (stepF rs last o).2 l

def rsC : List (Option Rec) := (onRec rsB 2 (stateRec 1 0)).2

theorem runs_C : runsF rsC 2 = true := by unfold rsC; rw [rsB_val]; rfl
theorem tree_C : TreeOk rsC 3 := tree_B.onRec (mild_state 1 0) 2
theorem lives_C : livesOf rsC = livesTo 3 := by unfold rsC; rw [livesOf_onRec, lives_B]

theorem EnvFreezes_ok (W : World) (a : Option Addr) (cap : Nat) (ops : List Op) (hs : ScriptAt W a ops) (e : Int) (hlen : ops.length < 9223372036854775808) :
    Fun Try.prog 3 [.slice a ops.length cap, i64 e] [Old W] (Ret (.bool true) [Old W]) := by
  refine Fun.enter Try.func3 rfl rfl rfl ?_
  repeat (first | refine G.w0 ?_ | refine G.w1 ?_ | refine G.wn ?_ | refine GR.w ?_ | (refine G.ws (h := ?_); try (simp only [Nat.reduceAdd, Nat.zero_add, List.set_cons_succ, List.set_cons_zero])) | (refine G.wb ?_; intro bx) | (refine G.wz ?_; intro bx) | refine G.wa (h := ?_) | refine G.seq ?_ | refine G.region ?_ | refine G.nil ?_ | refine G.block ?_ | refine G.skip ?_ | refine G.blk ?_ | refine G.wx ?_ | refine G.wt ?_ | refine G.wf ?_)
  (first | refine G.take rfl ?_ | refine G.take_yes rfl rfl rfl (by first | rfl | assumption) ?_); (first | refine R.callQ Try.func8 rfl (by decide) rfl rfl (first_ok) ?_ | refine R.callQ0 Try.func8 rfl (by decide) rfl (first_ok) ?_); (rintro _ _ ⟨T, B, rfl, rfl⟩ <;> simp only [List.cons_append, List.nil_append])
  repeat (first | refine G.w0 ?_ | refine G.w1 ?_ | refine G.wn ?_ | refine GR.w ?_ | (refine G.ws (h := ?_); try (simp only [Nat.reduceAdd, Nat.zero_add, List.set_cons_succ, List.set_cons_zero])) | (refine G.wb ?_; intro bx) | (refine G.wz ?_; intro bx) | refine G.wa (h := ?_) | refine G.seq ?_ | refine G.region ?_ | refine G.nil ?_ | refine G.block ?_ | refine G.skip ?_ | refine G.blk ?_ | refine G.wx ?_ | refine G.wt ?_ | refine G.wf ?_)
  have c9 : Fun Try.prog 9 [ptr (some T), i64 2, i64 1, i64 0] [Table T 3 rsB] (Ret (i64 (onRec rsB 2 (stateRec 1 0)).1) [Table T 3 rsC]) := SetState_ok T 3 rsB 2 1 0
  have hr2 : (!runsF rsC 2) = false := by rw [runs_C]; rfl
  rw [← lives_C]
  (first | refine G.take rfl ?_ | refine G.take_yes rfl rfl rfl (by first | rfl | assumption) ?_); (first | refine R.callD Try.func9 rfl (by decide) rfl rfl (c9) ?_ | refine R.callD0 Try.func9 rfl (by decide) rfl (c9) ?_); simp only [List.cons_append, List.nil_append]
  repeat (first | refine G.w0 ?_ | refine G.w1 ?_ | refine G.wn ?_ | refine GR.w ?_ | (refine G.ws (h := ?_); try (simp only [Nat.reduceAdd, Nat.zero_add, List.set_cons_succ, List.set_cons_zero])) | (refine G.wb ?_; intro bx) | (refine G.wz ?_; intro bx) | refine G.wa (h := ?_) | refine G.seq ?_ | refine G.region ?_ | refine G.nil ?_ | refine G.block ?_ | refine G.skip ?_ | refine G.blk ?_ | refine G.wx ?_ | refine G.wt ?_ | refine G.wf ?_)
  (first | refine G.take rfl ?_ | refine G.take_yes rfl rfl rfl (by first | rfl | assumption) ?_); (first | refine R.callD Try.func10 rfl (by decide) rfl rfl (Runs_ok T 3 rsC 2 (tree_C.up16 2)) ?_ | refine R.callD0 Try.func10 rfl (by decide) rfl (Runs_ok T 3 rsC 2 (tree_C.up16 2)) ?_); simp only [List.cons_append, List.nil_append]
  repeat (first | refine G.w0 ?_ | refine G.w1 ?_ | refine G.wn ?_ | refine GR.w ?_ | (refine G.ws (h := ?_); try (simp only [Nat.reduceAdd, Nat.zero_add, List.set_cons_succ, List.set_cons_zero])) | (refine G.wb ?_; intro bx) | (refine G.wz ?_; intro bx) | refine G.wa (h := ?_) | refine G.seq ?_ | refine G.region ?_ | refine G.nil ?_ | refine G.block ?_ | refine G.skip ?_ | refine G.blk ?_ | refine G.wx ?_ | refine G.wt ?_ | refine G.wf ?_)
  refine G.loopI (α := Nat × List (Option Rec) × Int) (fun x => [(7, .int .i64 x.1), (6, ptr (some B)), (5, ptr (some T)), (1, i64 e), (0, .slice a ops.length cap)])
    (fun x => [Table T x.2.2 x.2.1, Book B (livesOf x.2.1) x.2.2, Old W]) (fun x => x.1 ≤ ops.length ∧ TreeOk x.2.1 x.2.2) (fun x => ops.length - x.1) (0, rsC, 3) ⟨by omega, tree_C⟩ (Env.le_cons rfl (Env.le_cons rfl (Env.le_cons rfl (Env.le_cons rfl (Env.le_cons rfl (Env.le_nil _)))))) rfl ?_
  rintro ⟨i, rs, last⟩ ⟨hi, ht⟩ hloop
  dsimp only at hi ht hloop ⊢
  by_cases hlt : i < ops.length
  · have hb1 : decide ((i : Int) < (ops.length : Int)) = true := by simpa using hlt
    have hidx : 0 ≤ (i : Int) ∧ (i : Int) < (ops.length : Int) := by omega
    have hw : IntKind.i64.wrap ((i : Int) + 1) = (i : Int) + 1 := wrap_id (by omega) (by omega)
    obtain ⟨ad, rfl, hcells⟩ := hs i hlt
    have hcells' : CellsAt W (ad.add ((i : Int).toNat * 18)) (opCells ops[i]) := by rw [Int.toNat_natCast]; exact hcells
    repeat (first | refine G.w0 ?_ | refine G.w1 ?_ | refine G.wn ?_ | refine GR.w ?_ | (refine G.ws (h := ?_); try (simp only [Nat.reduceAdd, Nat.zero_add, List.set_cons_succ, List.set_cons_zero])) | (refine G.wb ?_; intro bx) | (refine G.wz ?_; intro bx) | refine G.wa (h := ?_) | refine G.seq ?_ | refine G.region ?_ | refine G.nil ?_ | refine G.block ?_ | refine G.skip ?_ | refine G.blk ?_ | refine G.wx ?_ | refine G.wt ?_ | refine G.wf ?_)
    (first | refine G.take rfl ?_ | refine G.take_yes rfl rfl rfl (by first | rfl | assumption) ?_)
    refine GR.ok (Ok.indexOld rfl rfl hidx) rfl rfl ?_
    repeat (first | refine G.w0 ?_ | refine G.w1 ?_ | refine G.wn ?_ | refine GR.w ?_ | (refine G.ws (h := ?_); try (simp only [Nat.reduceAdd, Nat.zero_add, List.set_cons_succ, List.set_cons_zero])) | (refine G.wb ?_; intro bx) | (refine G.wz ?_; intro bx) | refine G.wa (h := ?_) | refine G.seq ?_ | refine G.region ?_ | refine G.nil ?_ | refine G.block ?_ | refine G.skip ?_ | refine G.blk ?_ | refine G.wx ?_ | refine G.wt ?_ | refine G.wf ?_)
    (first | refine G.take rfl ?_ | refine G.take_yes rfl rfl rfl (by first | rfl | assumption) ?_)
    refine GR.ok (Ok.loadOldA W rfl hcells' rfl) rfl rfl ?_
    (first | refine G.take rfl ?_ | refine G.take_yes rfl rfl rfl (by first | rfl | assumption) ?_); (first | refine R.callD Try.func11 rfl (by decide) rfl rfl (noted_ok T B last rs ops[i] ht) ?_ | refine R.callD0 Try.func11 rfl (by decide) rfl (noted_ok T B last rs ops[i] ht) ?_); simp only [List.cons_append, List.nil_append]
    repeat (first | refine G.w0 ?_ | refine G.w1 ?_ | refine G.wn ?_ | refine GR.w ?_ | (refine G.ws (h := ?_); try (simp only [Nat.reduceAdd, Nat.zero_add, List.set_cons_succ, List.set_cons_zero])) | (refine G.wb ?_; intro bx) | (refine G.wz ?_; intro bx) | refine G.wa (h := ?_) | refine G.seq ?_ | refine G.region ?_ | refine G.nil ?_ | refine G.block ?_ | refine G.skip ?_ | refine G.blk ?_ | refine G.wx ?_ | refine G.wt ?_ | refine G.wf ?_)
    exact (hloop (i + 1, (stepF rs last ops[i]).1, (stepF rs last ops[i]).2) ⟨by dsimp only; omega, ht.step _⟩ (by dsimp only; omega)).forget _ (Env.le_cons rfl (Env.le_cons rfl (Env.le_cons rfl (Env.le_cons rfl (Env.le_cons rfl (Env.le_nil _))))))
  have hb1 : decide ((i : Int) < (ops.length : Int)) = false := by simpa using hlt
  clear hloop
  repeat (first | refine G.w0 ?_ | refine G.w1 ?_ | refine G.wn ?_ | refine GR.w ?_ | (refine G.ws (h := ?_); try (simp only [Nat.reduceAdd, Nat.zero_add, List.set_cons_succ, List.set_cons_zero])) | (refine G.wb ?_; intro bx) | (refine G.wz ?_; intro bx) | refine G.wa (h := ?_) | refine G.seq ?_ | refine G.region ?_ | refine G.nil ?_ | refine G.block ?_ | refine G.skip ?_ | refine G.blk ?_ | refine G.wx ?_ | refine G.wt ?_ | refine G.wf ?_)
  refine G.loopI (fun k : Nat => [(8, .int .i64 k), (6, ptr (some B)), (5, ptr (some T)), (1, i64 e)]) (fun k => [Table T last rs, Book B (livesOf rs) last, Old W]) (fun k => k ≤ 16) (fun k => 16 - k) 0 (by omega) (Env.le_cons rfl (Env.le_cons rfl (Env.le_cons rfl (Env.le_cons rfl (Env.le_nil _))))) rfl ?_
  rintro k hk hloop
  by_cases hk16 : k < 16
  · have hb2 : decide ((k : Int) < 16) = true := by simp; omega
    have hw : IntKind.i64.wrap ((k : Int) + 1) = (k : Int) + 1 := wrap_id (by omega) (by omega)
    have hinfo := Info_ok T last rs (k : Int) (fun r hr => ht.ok _ r hr)
    cases hr : getr rs (k : Int) with
    | none =>
      simp only [infoOf, errOf, hr] at hinfo
      have hrun : runsF rs (k : Int) = false := by simp only [runsF, hr]
      have hruns := Runs_ok T last rs (k : Int) (ht.up16 _)
      rw [hrun] at hruns
      repeat (first | refine G.w0 ?_ | refine G.w1 ?_ | refine G.wn ?_ | refine GR.w ?_ | (refine G.ws (h := ?_); try (simp only [Nat.reduceAdd, Nat.zero_add, List.set_cons_succ, List.set_cons_zero])) | (refine G.wb ?_; intro bx) | (refine G.wz ?_; intro bx) | refine G.wa (h := ?_) | refine G.seq ?_ | refine G.region ?_ | refine G.nil ?_ | refine G.block ?_ | refine G.skip ?_ | refine G.blk ?_ | refine G.wx ?_ | refine G.wt ?_ | refine G.wf ?_)
      (first | refine G.take rfl ?_ | refine G.take_yes rfl rfl rfl (by first | rfl | assumption) ?_); (first | refine R.callD Try.func12 rfl (by decide) rfl rfl (hinfo) ?_ | refine R.callD0 Try.func12 rfl (by decide) rfl (hinfo) ?_); simp only [List.cons_append, List.nil_append]
      repeat (first | refine G.w0 ?_ | refine G.w1 ?_ | refine G.wn ?_ | refine GR.w ?_ | (refine G.ws (h := ?_); try (simp only [Nat.reduceAdd, Nat.zero_add, List.set_cons_succ, List.set_cons_zero])) | (refine G.wb ?_; intro bx) | (refine G.wz ?_; intro bx) | refine G.wa (h := ?_) | refine G.seq ?_ | refine G.region ?_ | refine G.nil ?_ | refine G.block ?_ | refine G.skip ?_ | refine G.blk ?_ | refine G.wx ?_ | refine G.wt ?_ | refine G.wf ?_)
      (first | refine G.take rfl ?_ | refine G.take_yes rfl rfl rfl (by first | rfl | assumption) ?_); (first | refine R.callD Try.func10 rfl (by decide) rfl rfl (hruns) ?_ | refine R.callD0 Try.func10 rfl (by decide) rfl (hruns) ?_); simp only [List.cons_append, List.nil_append]
      repeat (first | refine G.w0 ?_ | refine G.w1 ?_ | refine G.wn ?_ | refine GR.w ?_ | (refine G.ws (h := ?_); try (simp only [Nat.reduceAdd, Nat.zero_add, List.set_cons_succ, List.set_cons_zero])) | (refine G.wb ?_; intro bx) | (refine G.wz ?_; intro bx) | refine G.wa (h := ?_) | refine G.seq ?_ | refine G.region ?_ | refine G.nil ?_ | refine G.block ?_ | refine G.skip ?_ | refine G.blk ?_ | refine G.wx ?_ | refine G.wt ?_ | refine G.wf ?_)
      refine G.keep [Table T last rs, Book B (livesOf rs) last, Old W] ?_
      exact (hloop (k + 1) (by omega) (by omega)).forget _ (Env.le_cons rfl (Env.le_cons rfl (Env.le_cons rfl (Env.le_cons rfl (Env.le_nil _)))))
    | some r =>
      simp only [infoOf, errOf, hr] at hinfo
      have hruns := Runs_ok T last rs (k : Int) (ht.up16 _)
      have hfl := flag16 ht hr
      have hflag := flagged_ok T last rs (k : Int) (fun e r hr => ht.ok e r hr)
      have hrun : runsF rs (k : Int) = (decide (r.state = 1) && clear 16 rs (k : Int)) := by simp only [runsF, hr]
      rw [hrun] at hruns
      rw [hfl] at hflag
      by_cases hst : r.state = 1
      · have hb3 : decide (r.state = 1) = true := decide_eq_true hst
        have hb4 : decide ((decide (r.state = 1) && clear 16 rs (k : Int)) ≠ (!!clear 16 rs (k : Int))) = false := by rw [hb3]; simp
        repeat (first | refine G.w0 ?_ | refine G.w1 ?_ | refine G.wn ?_ | refine GR.w ?_ | (refine G.ws (h := ?_); try (simp only [Nat.reduceAdd, Nat.zero_add, List.set_cons_succ, List.set_cons_zero])) | (refine G.wb ?_; intro bx) | (refine G.wz ?_; intro bx) | refine G.wa (h := ?_) | refine G.seq ?_ | refine G.region ?_ | refine G.nil ?_ | refine G.block ?_ | refine G.skip ?_ | refine G.blk ?_ | refine G.wx ?_ | refine G.wt ?_ | refine G.wf ?_)
        (first | refine G.take rfl ?_ | refine G.take_yes rfl rfl rfl (by first | rfl | assumption) ?_); (first | refine R.callD Try.func12 rfl (by decide) rfl rfl (hinfo) ?_ | refine R.callD0 Try.func12 rfl (by decide) rfl (hinfo) ?_); simp only [List.cons_append, List.nil_append]
        repeat (first | refine G.w0 ?_ | refine G.w1 ?_ | refine G.wn ?_ | refine GR.w ?_ | (refine G.ws (h := ?_); try (simp only [Nat.reduceAdd, Nat.zero_add, List.set_cons_succ, List.set_cons_zero])) | (refine G.wb ?_; intro bx) | (refine G.wz ?_; intro bx) | refine G.wa (h := ?_) | refine G.seq ?_ | refine G.region ?_ | refine G.nil ?_ | refine G.block ?_ | refine G.skip ?_ | refine G.blk ?_ | refine G.wx ?_ | refine G.wt ?_ | refine G.wf ?_)
        (first | refine G.take rfl ?_ | refine G.take_yes rfl rfl rfl (by first | rfl | assumption) ?_); (first | refine R.callD Try.func10 rfl (by decide) rfl rfl (hruns) ?_ | refine R.callD0 Try.func10 rfl (by decide) rfl (hruns) ?_); simp only [List.cons_append, List.nil_append]
        repeat (first | refine G.w0 ?_ | refine G.w1 ?_ | refine G.wn ?_ | refine GR.w ?_ | (refine G.ws (h := ?_); try (simp only [Nat.reduceAdd, Nat.zero_add, List.set_cons_succ, List.set_cons_zero])) | (refine G.wb ?_; intro bx) | (refine G.wz ?_; intro bx) | refine G.wa (h := ?_) | refine G.seq ?_ | refine G.region ?_ | refine G.nil ?_ | refine G.block ?_ | refine G.skip ?_ | refine G.blk ?_ | refine G.wx ?_ | refine G.wt ?_ | refine G.wf ?_)
        (first | refine G.take rfl ?_ | refine G.take_yes rfl rfl rfl (by first | rfl | assumption) ?_); (first | refine R.callD Try.func13 rfl (by decide) rfl rfl (hflag) ?_ | refine R.callD0 Try.func13 rfl (by decide) rfl (hflag) ?_); simp only [List.cons_append, List.nil_append]
        repeat (first | refine G.w0 ?_ | refine G.w1 ?_ | refine G.wn ?_ | refine GR.w ?_ | (refine G.ws (h := ?_); try (simp only [Nat.reduceAdd, Nat.zero_add, List.set_cons_succ, List.set_cons_zero])) | (refine G.wb ?_; intro bx) | (refine G.wz ?_; intro bx) | refine G.wa (h := ?_) | refine G.seq ?_ | refine G.region ?_ | refine G.nil ?_ | refine G.block ?_ | refine G.skip ?_ | refine G.blk ?_ | refine G.wx ?_ | refine G.wt ?_ | refine G.wf ?_)
        refine G.keep [Table T last rs, Book B (livesOf rs) last, Old W] ?_
        exact (hloop (k + 1) (by omega) (by omega)).forget _ (Env.le_cons rfl (Env.le_cons rfl (Env.le_cons rfl (Env.le_cons rfl (Env.le_nil _)))))
      · have hb3 : decide (r.state = 1) = false := decide_eq_false hst
        have hb4 : decide ((decide (r.state = 1) && clear 16 rs (k : Int)) ≠ false) = false := by rw [hb3]; simp
        repeat (first | refine G.w0 ?_ | refine G.w1 ?_ | refine G.wn ?_ | refine GR.w ?_ | (refine G.ws (h := ?_); try (simp only [Nat.reduceAdd, Nat.zero_add, List.set_cons_succ, List.set_cons_zero])) | (refine G.wb ?_; intro bx) | (refine G.wz ?_; intro bx) | refine G.wa (h := ?_) | refine G.seq ?_ | refine G.region ?_ | refine G.nil ?_ | refine G.block ?_ | refine G.skip ?_ | refine G.blk ?_ | refine G.wx ?_ | refine G.wt ?_ | refine G.wf ?_)
        (first | refine G.take rfl ?_ | refine G.take_yes rfl rfl rfl (by first | rfl | assumption) ?_); (first | refine R.callD Try.func12 rfl (by decide) rfl rfl (hinfo) ?_ | refine R.callD0 Try.func12 rfl (by decide) rfl (hinfo) ?_); simp only [List.cons_append, List.nil_append]
        repeat (first | refine G.w0 ?_ | refine G.w1 ?_ | refine G.wn ?_ | refine GR.w ?_ | (refine G.ws (h := ?_); try (simp only [Nat.reduceAdd, Nat.zero_add, List.set_cons_succ, List.set_cons_zero])) | (refine G.wb ?_; intro bx) | (refine G.wz ?_; intro bx) | refine G.wa (h := ?_) | refine G.seq ?_ | refine G.region ?_ | refine G.nil ?_ | refine G.block ?_ | refine G.skip ?_ | refine G.blk ?_ | refine G.wx ?_ | refine G.wt ?_ | refine G.wf ?_)
        (first | refine G.take rfl ?_ | refine G.take_yes rfl rfl rfl (by first | rfl | assumption) ?_); (first | refine R.callD Try.func10 rfl (by decide) rfl rfl (hruns) ?_ | refine R.callD0 Try.func10 rfl (by decide) rfl (hruns) ?_); simp only [List.cons_append, List.nil_append]
        repeat (first | refine G.w0 ?_ | refine G.w1 ?_ | refine G.wn ?_ | refine GR.w ?_ | (refine G.ws (h := ?_); try (simp only [Nat.reduceAdd, Nat.zero_add, List.set_cons_succ, List.set_cons_zero])) | (refine G.wb ?_; intro bx) | (refine G.wz ?_; intro bx) | refine G.wa (h := ?_) | refine G.seq ?_ | refine G.region ?_ | refine G.nil ?_ | refine G.block ?_ | refine G.skip ?_ | refine G.blk ?_ | refine G.wx ?_ | refine G.wt ?_ | refine G.wf ?_)
        refine G.keep [Table T last rs, Book B (livesOf rs) last, Old W] ?_
        exact (hloop (k + 1) (by omega) (by omega)).forget _ (Env.le_cons rfl (Env.le_cons rfl (Env.le_cons rfl (Env.le_cons rfl (Env.le_nil _)))))
  have hb2 : decide ((k : Int) < 16) = false := by simp; omega
  clear hloop
  have t1 := ht.froze e false
  have t2 := t1.froze e true
  have t3 := t2.froze e false
  have f1 : ∀ x on, Fun Try.prog 14 [ptr (some T), i64 e, .bool on] [Table T last x] (Ret (i64 (onRec x e fun r => (0, { r with frozen := on })).1) [Table T last (froze x e on)]) := fun x on => Freeze_ok T last x e on
  have hok : (onRec (froze rs e false) e fun r => (0, { r with frozen := true })).1 = 0 ↔ livesF (livesOf rs) e = true := by
    rw [livesF_of rs ht.len]
    unfold onRec
    rw [getr_froze, if_pos rfl]
    cases getr rs e <;> simp
  have hb5 : decide (decide ((onRec (froze rs e false) e fun r => (0, { r with frozen := true })).1 = 0) ≠ livesF (livesOf rs) e) = false := by
    generalize (onRec (froze rs e false) e fun r => (0, { r with frozen := true })).1 = z at hok ⊢
    cases hv : livesF (livesOf rs) e with
    | true => rw [hv] at hok; simp [hok.2 rfl]
    | false =>
      rw [hv] at hok
      have : z ≠ 0 := fun h => by have := hok.1 h; cases this
      simp [this]
  repeat (first | refine G.w0 ?_ | refine G.w1 ?_ | refine G.wn ?_ | refine GR.w ?_ | (refine G.ws (h := ?_); try (simp only [Nat.reduceAdd, Nat.zero_add, List.set_cons_succ, List.set_cons_zero])) | (refine G.wb ?_; intro bx) | (refine G.wz ?_; intro bx) | refine G.wa (h := ?_) | refine G.seq ?_ | refine G.region ?_ | refine G.nil ?_ | refine G.block ?_ | refine G.skip ?_ | refine G.blk ?_ | refine G.wx ?_ | refine G.wt ?_ | refine G.wf ?_)
  (first | refine G.take rfl ?_ | refine G.take_yes rfl rfl rfl (by first | rfl | assumption) ?_); (first | refine R.callD Try.func14 rfl (by decide) rfl rfl (f1 rs false) ?_ | refine R.callD0 Try.func14 rfl (by decide) rfl (f1 rs false) ?_); simp only [List.cons_append, List.nil_append]
  repeat (first | refine G.w0 ?_ | refine G.w1 ?_ | refine G.wn ?_ | refine GR.w ?_ | (refine G.ws (h := ?_); try (simp only [Nat.reduceAdd, Nat.zero_add, List.set_cons_succ, List.set_cons_zero])) | (refine G.wb ?_; intro bx) | (refine G.wz ?_; intro bx) | refine G.wa (h := ?_) | refine G.seq ?_ | refine G.region ?_ | refine G.nil ?_ | refine G.block ?_ | refine G.skip ?_ | refine G.blk ?_ | refine G.wx ?_ | refine G.wt ?_ | refine G.wf ?_)
  (first | refine G.take rfl ?_ | refine G.take_yes rfl rfl rfl (by first | rfl | assumption) ?_); (first | refine R.callD Try.func15 rfl (by decide) rfl rfl (running_ok T last (froze rs e false) t1.up16) ?_ | refine R.callD0 Try.func15 rfl (by decide) rfl (running_ok T last (froze rs e false) t1.up16) ?_); simp only [List.cons_append, List.nil_append]
  repeat (first | refine G.w0 ?_ | refine G.w1 ?_ | refine G.wn ?_ | refine GR.w ?_ | (refine G.ws (h := ?_); try (simp only [Nat.reduceAdd, Nat.zero_add, List.set_cons_succ, List.set_cons_zero])) | (refine G.wb ?_; intro bx) | (refine G.wz ?_; intro bx) | refine G.wa (h := ?_) | refine G.seq ?_ | refine G.region ?_ | refine G.nil ?_ | refine G.block ?_ | refine G.skip ?_ | refine G.blk ?_ | refine G.wx ?_ | refine G.wt ?_ | refine G.wf ?_)
  have hlr : ∀ x, (runsTo x 16).length = 16 := fun x => by simp [runsTo]
  have hpl : ∀ x, plainCells (runsTo x 16) = true := fun x => rfl
  refine G.isC bx (runsTo (froze rs e false) 16) rfl ?_
  (first | refine G.take rfl ?_ | refine G.take_yes rfl rfl rfl (by first | rfl | assumption) ?_); (first | refine R.callD Try.func14 rfl (by decide) rfl rfl (f1 (froze rs e false) true) ?_ | refine R.callD0 Try.func14 rfl (by decide) rfl (f1 (froze rs e false) true) ?_); simp only [List.cons_append, List.nil_append]
  repeat (first | refine G.w0 ?_ | refine G.w1 ?_ | refine G.wn ?_ | refine GR.w ?_ | (refine G.ws (h := ?_); try (simp only [Nat.reduceAdd, Nat.zero_add, List.set_cons_succ, List.set_cons_zero])) | (refine G.wb ?_; intro bx) | (refine G.wz ?_; intro bx) | refine G.wa (h := ?_) | refine G.seq ?_ | refine G.region ?_ | refine G.nil ?_ | refine G.block ?_ | refine G.skip ?_ | refine G.blk ?_ | refine G.wx ?_ | refine G.wt ?_ | refine G.wf ?_)
  (first | refine G.take rfl ?_ | refine G.take_yes rfl rfl rfl (by first | rfl | assumption) ?_); (first | refine R.callD Try.func16 rfl (by decide) rfl rfl (lives_ok B (livesOf rs) last e) ?_ | refine R.callD0 Try.func16 rfl (by decide) rfl (lives_ok B (livesOf rs) last e) ?_); simp only [List.cons_append, List.nil_append]
  repeat (first | refine G.w0 ?_ | refine G.w1 ?_ | refine G.wn ?_ | refine GR.w ?_ | (refine G.ws (h := ?_); try (simp only [Nat.reduceAdd, Nat.zero_add, List.set_cons_succ, List.set_cons_zero])) | (refine G.wb ?_; intro bx) | (refine G.wz ?_; intro bx) | refine G.wa (h := ?_) | refine G.seq ?_ | refine G.region ?_ | refine G.nil ?_ | refine G.block ?_ | refine G.skip ?_ | refine G.blk ?_ | refine G.wx ?_ | refine G.wt ?_ | refine G.wf ?_)
  refine G.keep [Table T last (froze (froze rs e false) e true), cb bx (runsTo (froze rs e false) 16) 45, Old W] ?_
  refine G.loopI (fun k : Nat => [(13, .int .i64 k), (11, ptr (some bx)), (5, ptr (some T)), (1, i64 e)]) (fun k => [Table T last (froze (froze rs e false) e true), cb bx (runsTo (froze rs e false) 16) 45, Old W]) (fun k => k ≤ 16) (fun k => 16 - k) 0 (by omega) (Env.le_cons rfl (Env.le_cons rfl (Env.le_cons rfl (Env.le_cons rfl (Env.le_nil _))))) rfl ?_
  rintro k hk hloop
  by_cases hk16 : k < 16
  · have hb2 : decide ((k : Int) < 16) = true := by simp; omega
    have hw : IntKind.i64.wrap ((k : Int) + 1) = (k : Int) + 1 := wrap_id (by omega) (by omega)
    have hidx : 0 ≤ (k : Int) ∧ (k : Int) < ((16 : Nat) : Int) := by omega
    have hcell : (runsTo (froze rs e false) 16)[0 + (k : Int).toNat * 1]? = some (.bool (runsF (froze rs e false) (k : Int))) := by
      rw [show 0 + (k : Int).toNat * 1 = k by simp]
      unfold runsTo
      rw [List.getElem?_map, List.getElem?_range hk16]
      simp [hk16]
    have hrz := runs_froze (rs := rs) e (k : Int)
    have hin := Inside_ok T last (froze (froze rs e false) e true) e (k : Int) (t2.up16 _)
    generalize ((getr (froze (froze rs e false) e true) e).isSome && insideF 16 (froze (froze rs e false) e true) e (k : Int)) = ins at hrz hin
    by_cases hfr : runsF (froze rs e false) (k : Int) = true
    · rw [hfr] at hcell hrz
      have hb3 : decide (runsF (froze (froze rs e false) e true) (k : Int) ≠ (!ins)) = false := by rw [hrz]; simp
      repeat (first | refine G.w0 ?_ | refine G.w1 ?_ | refine G.wn ?_ | refine GR.w ?_ | (refine G.ws (h := ?_); try (simp only [Nat.reduceAdd, Nat.zero_add, List.set_cons_succ, List.set_cons_zero])) | (refine G.wb ?_; intro bx) | (refine G.wz ?_; intro bx) | refine G.wa (h := ?_) | refine G.seq ?_ | refine G.region ?_ | refine G.nil ?_ | refine G.block ?_ | refine G.skip ?_ | refine G.blk ?_ | refine G.wx ?_ | refine G.wt ?_ | refine G.wf ?_)
      (repeat refine G.seq ?_); refine G.drawS [(.pur, 0), (.pur, 1), (.look, 2), (.pur, 3), (.pur, 4), (.look, 5), (.pur, 6), (.pur, 7), (.pur, 8), (.pur, 9), (.look, 10), (.pur, 11), (.pur, 12), (.pur, 13)] (by kernel_rfl) (by kernel_rfl) rfl ?_
      repeat (first | refine EVS.wq ?_ | refine EVS.wp ?_ | refine EVS.wn ?_ | refine EVS.w0 ?_ | refine EVS.wy ?_ | (refine EVS.ws (h := ?_); try (simp only [Nat.reduceAdd, Nat.zero_add, List.set_cons_succ, List.set_cons_zero])) | refine EVS.wa (h := ?_) | (refine EVS.wb ?_; intro bx) | (refine EVS.wz ?_; intro bx) | refine EVS.wm ?_ | refine EVS.done ?_)
      refine EVS.ok (Ok.callD Try.func10 rfl (by decide) rfl (Runs_ok T last (froze (froze rs e false) e true) (k : Int) (t2.up16 _))) ?_
      repeat (first | refine EVS.wq ?_ | refine EVS.wp ?_ | refine EVS.wn ?_ | refine EVS.w0 ?_ | refine EVS.wy ?_ | (refine EVS.ws (h := ?_); try (simp only [Nat.reduceAdd, Nat.zero_add, List.set_cons_succ, List.set_cons_zero])) | refine EVS.wa (h := ?_) | (refine EVS.wb ?_; intro bx) | (refine EVS.wz ?_; intro bx) | refine EVS.wm ?_ | refine EVS.done ?_)
      refine EVS.ok (Ok.load rfl hcell) ?_
      repeat (first | refine EVS.wq ?_ | refine EVS.wp ?_ | refine EVS.wn ?_ | refine EVS.w0 ?_ | refine EVS.wy ?_ | (refine EVS.ws (h := ?_); try (simp only [Nat.reduceAdd, Nat.zero_add, List.set_cons_succ, List.set_cons_zero])) | refine EVS.wa (h := ?_) | (refine EVS.wb ?_; intro bx) | (refine EVS.wz ?_; intro bx) | refine EVS.wm ?_ | refine EVS.done ?_)
      refine EVS.oky rfl rfl rfl (Ok.callD Try.func17 rfl (by decide) rfl (hin)) ?_
      repeat (first | refine EVS.wq ?_ | refine EVS.wp ?_ | refine EVS.wn ?_ | refine EVS.w0 ?_ | refine EVS.wy ?_ | (refine EVS.ws (h := ?_); try (simp only [Nat.reduceAdd, Nat.zero_add, List.set_cons_succ, List.set_cons_zero])) | refine EVS.wa (h := ?_) | (refine EVS.wb ?_; intro bx) | (refine EVS.wz ?_; intro bx) | refine EVS.wm ?_ | refine EVS.done ?_)
      repeat (first | refine G.w0 ?_ | refine G.w1 ?_ | refine G.wn ?_ | refine GR.w ?_ | (refine G.ws (h := ?_); try (simp only [Nat.reduceAdd, Nat.zero_add, List.set_cons_succ, List.set_cons_zero])) | (refine G.wb ?_; intro bx) | (refine G.wz ?_; intro bx) | refine G.wa (h := ?_) | refine G.seq ?_ | refine G.region ?_ | refine G.nil ?_ | refine G.block ?_ | refine G.skip ?_ | refine G.blk ?_ | refine G.wx ?_ | refine G.wt ?_ | refine G.wf ?_)
      refine G.keep [Table T last (froze (froze rs e false) e true), cb bx (runsTo (froze rs e false) 16) 45, Old W] ?_
      exact (hloop (k + 1) (by omega) (by omega)).forget _ (Env.le_cons rfl (Env.le_cons rfl (Env.le_cons rfl (Env.le_cons rfl (Env.le_nil _)))))
    · have hfr : runsF (froze rs e false) (k : Int) = false := by simpa using hfr
      rw [hfr] at hcell hrz
      have hb3 : decide (runsF (froze (froze rs e false) e true) (k : Int) ≠ false) = false := by rw [hrz]; simp
      repeat (first | refine G.w0 ?_ | refine G.w1 ?_ | refine G.wn ?_ | refine GR.w ?_ | (refine G.ws (h := ?_); try (simp only [Nat.reduceAdd, Nat.zero_add, List.set_cons_succ, List.set_cons_zero])) | (refine G.wb ?_; intro bx) | (refine G.wz ?_; intro bx) | refine G.wa (h := ?_) | refine G.seq ?_ | refine G.region ?_ | refine G.nil ?_ | refine G.block ?_ | refine G.skip ?_ | refine G.blk ?_ | refine G.wx ?_ | refine G.wt ?_ | refine G.wf ?_)
      (repeat refine G.seq ?_); refine G.drawS [(.pur, 0), (.pur, 1), (.look, 2), (.pur, 3), (.pur, 4), (.look, 5), (.pur, 6), (.pur, 7), (.pur, 8), (.pur, 9), (.look, 10), (.pur, 11), (.pur, 12), (.pur, 13)] (by kernel_rfl) (by kernel_rfl) rfl ?_
      repeat (first | refine EVS.wq ?_ | refine EVS.wp ?_ | refine EVS.wn ?_ | refine EVS.w0 ?_ | refine EVS.wy ?_ | (refine EVS.ws (h := ?_); try (simp only [Nat.reduceAdd, Nat.zero_add, List.set_cons_succ, List.set_cons_zero])) | refine EVS.wa (h := ?_) | (refine EVS.wb ?_; intro bx) | (refine EVS.wz ?_; intro bx) | refine EVS.wm ?_ | refine EVS.done ?_)
      refine EVS.ok (Ok.callD Try.func10 rfl (by decide) rfl (Runs_ok T last (froze (froze rs e false) e true) (k : Int) (t2.up16 _))) ?_
      repeat (first | refine EVS.wq ?_ | refine EVS.wp ?_ | refine EVS.wn ?_ | refine EVS.w0 ?_ | refine EVS.wy ?_ | (refine EVS.ws (h := ?_); try (simp only [Nat.reduceAdd, Nat.zero_add, List.set_cons_succ, List.set_cons_zero])) | refine EVS.wa (h := ?_) | (refine EVS.wb ?_; intro bx) | (refine EVS.wz ?_; intro bx) | refine EVS.wm ?_ | refine EVS.done ?_)
      refine EVS.ok (Ok.load rfl hcell) ?_
      repeat (first | refine EVS.wq ?_ | refine EVS.wp ?_ | refine EVS.wn ?_ | refine EVS.w0 ?_ | refine EVS.wy ?_ | (refine EVS.ws (h := ?_); try (simp only [Nat.reduceAdd, Nat.zero_add, List.set_cons_succ, List.set_cons_zero])) | refine EVS.wa (h := ?_) | (refine EVS.wb ?_; intro bx) | (refine EVS.wz ?_; intro bx) | refine EVS.wm ?_ | refine EVS.done ?_)
      repeat (first | refine G.w0 ?_ | refine G.w1 ?_ | refine G.wn ?_ | refine GR.w ?_ | (refine G.ws (h := ?_); try (simp only [Nat.reduceAdd, Nat.zero_add, List.set_cons_succ, List.set_cons_zero])) | (refine G.wb ?_; intro bx) | (refine G.wz ?_; intro bx) | refine G.wa (h := ?_) | refine G.seq ?_ | refine G.region ?_ | refine G.nil ?_ | refine G.block ?_ | refine G.skip ?_ | refine G.blk ?_ | refine G.wx ?_ | refine G.wt ?_ | refine G.wf ?_)
      refine G.keep [Table T last (froze (froze rs e false) e true), cb bx (runsTo (froze rs e false) 16) 45, Old W] ?_
      exact (hloop (k + 1) (by omega) (by omega)).forget _ (Env.le_cons rfl (Env.le_cons rfl (Env.le_cons rfl (Env.le_cons rfl (Env.le_nil _)))))
  have hb2 : decide ((k : Int) < 16) = false := by simp; omega
  clear hloop
  have f3 := f1 (froze (froze rs e false) e true) false
  rw [thaw_again] at f3
  repeat (first | refine G.w0 ?_ | refine G.w1 ?_ | refine G.wn ?_ | refine GR.w ?_ | (refine G.ws (h := ?_); try (simp only [Nat.reduceAdd, Nat.zero_add, List.set_cons_succ, List.set_cons_zero])) | (refine G.wb ?_; intro bx) | (refine G.wz ?_; intro bx) | refine G.wa (h := ?_) | refine G.seq ?_ | refine G.region ?_ | refine G.nil ?_ | refine G.block ?_ | refine G.skip ?_ | refine G.blk ?_ | refine G.wx ?_ | refine G.wt ?_ | refine G.wf ?_)
  (first | refine G.take rfl ?_ | refine G.take_yes rfl rfl rfl (by first | rfl | assumption) ?_); (first | refine R.callD Try.func14 rfl (by decide) rfl rfl (f3) ?_ | refine R.callD0 Try.func14 rfl (by decide) rfl (f3) ?_); simp only [List.cons_append, List.nil_append]
  repeat (first | refine G.w0 ?_ | refine G.w1 ?_ | refine G.wn ?_ | refine GR.w ?_ | (refine G.ws (h := ?_); try (simp only [Nat.reduceAdd, Nat.zero_add, List.set_cons_succ, List.set_cons_zero])) | (refine G.wb ?_; intro bx) | (refine G.wz ?_; intro bx) | refine G.wa (h := ?_) | refine G.seq ?_ | refine G.region ?_ | refine G.nil ?_ | refine G.block ?_ | refine G.skip ?_ | refine G.blk ?_ | refine G.wx ?_ | refine G.wt ?_ | refine G.wf ?_)
  (repeat refine G.seq ?_); refine G.drawS [(.pur, 0), (.look, 1), (.look, 2), (.pur, 3), (.pur, 4)] (by kernel_rfl) (by kernel_rfl) rfl ?_
  repeat (first | refine EVS.wq ?_ | refine EVS.wp ?_ | refine EVS.wn ?_ | refine EVS.w0 ?_ | refine EVS.wy ?_ | (refine EVS.ws (h := ?_); try (simp only [Nat.reduceAdd, Nat.zero_add, List.set_cons_succ, List.set_cons_zero])) | refine EVS.wa (h := ?_) | (refine EVS.wb ?_; intro bx) | (refine EVS.wz ?_; intro bx) | refine EVS.wm ?_ | refine EVS.done ?_)
  refine EVS.ok (Ok.callD Try.func15 rfl (by decide) rfl (running_ok T last (froze rs e false) t1.up16)) ?_
  refine EVS.ok (Ok.loadA (vs := runsTo (froze rs e false) 16) rfl (by rfl) (by rfl)) ?_
  refine EVS.pure (fun _ => Ok.eqlA rfl rfl (hlr _) (hlr _) rfl rfl) ?_
  repeat (first | refine EVS.wq ?_ | refine EVS.wp ?_ | refine EVS.wn ?_ | refine EVS.w0 ?_ | refine EVS.wy ?_ | (refine EVS.ws (h := ?_); try (simp only [Nat.reduceAdd, Nat.zero_add, List.set_cons_succ, List.set_cons_zero])) | refine EVS.wa (h := ?_) | (refine EVS.wb ?_; intro bx) | (refine EVS.wz ?_; intro bx) | refine EVS.wm ?_ | refine EVS.done ?_)
  repeat (first | refine G.w0 ?_ | refine G.w1 ?_ | refine G.wn ?_ | refine GR.w ?_ | (refine G.ws (h := ?_); try (simp only [Nat.reduceAdd, Nat.zero_add, List.set_cons_succ, List.set_cons_zero])) | (refine G.wb ?_; intro bx) | (refine G.wz ?_; intro bx) | refine G.wa (h := ?_) | refine G.seq ?_ | refine G.region ?_ | refine G.nil ?_ | refine G.block ?_ | refine G.skip ?_ | refine G.blk ?_ | refine G.wx ?_ | refine G.wt ?_ | refine G.wf ?_)
  first | refine G.retK [Old W] rfl Try.func3 rfl Res.nil ?_ | refine G.retK [Old W] rfl Try.func3 rfl (Res.tmp rfl Res.nil) ?_ | refine G.retK [Old W] rfl Try.func3 rfl (Res.tmp rfl (Res.tmp rfl Res.nil)) ?_ | refine G.retK [Old W] rfl Try.func3 rfl (Res.tmp rfl (Res.tmp rfl (Res.tmp rfl Res.nil))) ?_ | refine G.retK [Old W] rfl Try.func3 rfl (Res.cellA rfl rfl rfl Res.nil) ?_ | refine G.retK [Old W] rfl Try.func3 rfl (Res.cellA rfl rfl rfl (Res.tmp rfl Res.nil)) ?_ | refine G.retK [Old W] rfl Try.func3 rfl (Res.cell rfl rfl Res.nil) ?_
  refine ⟨?_, rfl⟩
  simp only [packRes]
  congr 1
  exact (eqCells_iff (hlr _) (hlr _) rfl rfl rfl).2 rfl
end Go.Proofs.Ytffcilmllebdmaa
