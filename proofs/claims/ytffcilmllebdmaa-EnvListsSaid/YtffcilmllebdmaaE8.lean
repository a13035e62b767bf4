/- Quotas. -/
import Derived.Test.YtffcilmllebdmaaE4
import Derived.Test.YtffcilmllebdmaaAmDrawS
namespace Go.Proofs.Ytffcilmllebdmaa
open Go.Am
set_option maxHeartbeats 4000000
set_option linter.unusedVariables false
set_option linter.unusedSimpArgs false
attribute [local irreducible] Ok GR G Fun OpRun EVS

def qadd (a b : Qt) : Qt := ⟨a.f + b.f, a.e + b.e, a.x + b.x⟩
def qsub (a b : Qt) : Qt := ⟨a.f - b.f, a.e - b.e, a.x - b.x⟩
def qone (a : Qt) : Qt := ⟨a.f, a.e + 1, a.x⟩
def qle (a b : Qt) : Prop := a.f ≤ b.f ∧ a.e ≤ b.e ∧ a.x ≤ b.x
instance (a b : Qt) : Decidable (qle a b) := by unfold qle; infer_instance
def qgood (a : Qt) : Prop := 0 ≤ a.f ∧ 0 ≤ a.e ∧ 0 ≤ a.x ∧ a.f ≤ 4611686018427387903 ∧ a.e ≤ 4611686018427387903 ∧ a.x ≤ 4611686018427387903
instance (a : Qt) : Decidable (qgood a) := by unfold qgood; infer_instance

theorem wrap_small {n : Int} (h : -9223372036854775808 ≤ n ∧ n ≤ 9223372036854775807) : IntKind.i64.wrap n = n := by
  exact wrap_id (by omega) (by omega)

def in64 (n : Int) : Prop := -9223372036854775808 ≤ n ∧ n ≤ 9223372036854775807
def Qt.in64 (q : Qt) : Prop := Proofs.Ytffcilmllebdmaa.in64 q.f ∧ Proofs.Ytffcilmllebdmaa.in64 q.e ∧ Proofs.Ytffcilmllebdmaa.in64 q.x

theorem plus_ok (a b : Qt) (h : (qadd a b).in64) : Fun Try.prog 86 [qtVal a, qtVal b] [] (Ret (qtVal (qadd a b)) []) := by
  have w1 : IntKind.i64.wrap (a.f + b.f) = a.f + b.f := wrap_small h.1
  have w2 : IntKind.i64.wrap (a.e + b.e) = a.e + b.e := wrap_small h.2.1
  have w3 : IntKind.i64.wrap (a.x + b.x) = a.x + b.x := wrap_small h.2.2
  refine Fun.enter Try.func86 rfl rfl rfl ?_
  repeat (first | refine G.w0 ?_ | refine G.w1 ?_ | refine G.wn ?_ | refine GR.w ?_ | (refine G.ws (h := ?_); try (simp only [Nat.reduceAdd, Nat.zero_add, List.set_cons_succ, List.set_cons_zero])) | (refine G.wb ?_; intro bx) | (refine G.wz ?_; intro bx) | refine G.wa (h := ?_) | refine G.seq ?_ | refine G.region ?_ | refine G.nil ?_ | refine G.block ?_ | refine G.skip ?_ | refine G.blk ?_ | refine G.wx ?_ | refine G.wt ?_ | refine G.wf ?_)
  first | refine G.retK [] rfl Try.func86 rfl Res.nil ?_ | refine G.retK [] rfl Try.func86 rfl (Res.tmp rfl Res.nil) ?_ | refine G.retK [] rfl Try.func86 rfl (Res.tmp rfl (Res.tmp rfl Res.nil)) ?_ | refine G.retK [] rfl Try.func86 rfl (Res.tmp rfl (Res.tmp rfl (Res.tmp rfl Res.nil))) ?_ | refine G.retK [] rfl Try.func86 rfl (Res.cellA rfl rfl rfl Res.nil) ?_ | refine G.retK [] rfl Try.func86 rfl (Res.cellA rfl rfl rfl (Res.tmp rfl Res.nil)) ?_ | refine G.retK [] rfl Try.func86 rfl (Res.cell rfl rfl Res.nil) ?_
  exact ⟨rfl, rfl⟩

theorem minus_ok (a b : Qt) (h : (qsub a b).in64) : Fun Try.prog 84 [qtVal a, qtVal b] [] (Ret (qtVal (qsub a b)) []) := by
  have w1 : IntKind.i64.wrap (a.f - b.f) = a.f - b.f := wrap_small h.1
  have w2 : IntKind.i64.wrap (a.e - b.e) = a.e - b.e := wrap_small h.2.1
  have w3 : IntKind.i64.wrap (a.x - b.x) = a.x - b.x := wrap_small h.2.2
  refine Fun.enter Try.func84 rfl rfl rfl ?_
  repeat (first | refine G.w0 ?_ | refine G.w1 ?_ | refine G.wn ?_ | refine GR.w ?_ | (refine G.ws (h := ?_); try (simp only [Nat.reduceAdd, Nat.zero_add, List.set_cons_succ, List.set_cons_zero])) | (refine G.wb ?_; intro bx) | (refine G.wz ?_; intro bx) | refine G.wa (h := ?_) | refine G.seq ?_ | refine G.region ?_ | refine G.nil ?_ | refine G.block ?_ | refine G.skip ?_ | refine G.blk ?_ | refine G.wx ?_ | refine G.wt ?_ | refine G.wf ?_)
  first | refine G.retK [] rfl Try.func84 rfl Res.nil ?_ | refine G.retK [] rfl Try.func84 rfl (Res.tmp rfl Res.nil) ?_ | refine G.retK [] rfl Try.func84 rfl (Res.tmp rfl (Res.tmp rfl Res.nil)) ?_ | refine G.retK [] rfl Try.func84 rfl (Res.tmp rfl (Res.tmp rfl (Res.tmp rfl Res.nil))) ?_ | refine G.retK [] rfl Try.func84 rfl (Res.cellA rfl rfl rfl Res.nil) ?_ | refine G.retK [] rfl Try.func84 rfl (Res.cellA rfl rfl rfl (Res.tmp rfl Res.nil)) ?_ | refine G.retK [] rfl Try.func84 rfl (Res.cell rfl rfl Res.nil) ?_
  exact ⟨rfl, rfl⟩

theorem forChild_ok (a : Qt) (h : (qone a).in64) : Fun Try.prog 53 [qtVal a] [] (Ret (qtVal (qone a)) []) := by
  have w2 : IntKind.i64.wrap (a.e + 1) = a.e + 1 := wrap_small h.2.1
  refine Fun.enter Try.func53 rfl rfl rfl ?_
  repeat (first | refine G.w0 ?_ | refine G.w1 ?_ | refine G.wn ?_ | refine GR.w ?_ | (refine G.ws (h := ?_); try (simp only [Nat.reduceAdd, Nat.zero_add, List.set_cons_succ, List.set_cons_zero])) | (refine G.wb ?_; intro bx) | (refine G.wz ?_; intro bx) | refine G.wa (h := ?_) | refine G.seq ?_ | refine G.region ?_ | refine G.nil ?_ | refine G.block ?_ | refine G.skip ?_ | refine G.blk ?_ | refine G.wx ?_ | refine G.wt ?_ | refine G.wf ?_)
  first | refine G.retK [] rfl Try.func53 rfl Res.nil ?_ | refine G.retK [] rfl Try.func53 rfl (Res.tmp rfl Res.nil) ?_ | refine G.retK [] rfl Try.func53 rfl (Res.tmp rfl (Res.tmp rfl Res.nil)) ?_ | refine G.retK [] rfl Try.func53 rfl (Res.tmp rfl (Res.tmp rfl (Res.tmp rfl Res.nil))) ?_ | refine G.retK [] rfl Try.func53 rfl (Res.cellA rfl rfl rfl Res.nil) ?_ | refine G.retK [] rfl Try.func53 rfl (Res.cellA rfl rfl rfl (Res.tmp rfl Res.nil)) ?_ | refine G.retK [] rfl Try.func53 rfl (Res.cell rfl rfl Res.nil) ?_
  exact ⟨rfl, rfl⟩

theorem fits_ok (a b : Qt) : Fun Try.prog 52 [qtVal a, qtVal b] [] (Ret (.bool (decide (qle a b))) []) := by
  refine Fun.enter Try.func52 rfl rfl rfl ?_
  repeat' (first | refine G.w0 ?_ | refine G.w1 ?_ | refine G.wn ?_ | refine GR.w ?_ | (refine G.ws (h := ?_); try (simp only [Nat.reduceAdd, Nat.zero_add, List.set_cons_succ, List.set_cons_zero])) | (refine G.wb ?_; intro bx) | (refine G.wz ?_; intro bx) | refine G.wa (h := ?_) | refine G.seq ?_ | refine G.region ?_ | refine G.nil ?_ | refine G.block ?_ | refine G.skip ?_ | refine G.blk ?_ | refine G.wx ?_ | refine G.wt ?_ | refine G.wf ?_ | ((fail_if_success (first | refine G.take_yes rfl rfl rfl (by first | rfl | assumption) ?_ | refine G.take_n rfl rfl (by first | exact .inl rfl | exact .inr ⟨_, rfl, by first | rfl | assumption⟩) rfl ?_)); refine G.take_split rfl rfl rfl (fun hb => ?_) (fun hb => ?_)) | refine G.cond rfl (fun hb => ?_) (fun hb => ?_))
  all_goals first | refine G.retK [] rfl Try.func52 rfl Res.nil ?_ | refine G.retK [] rfl Try.func52 rfl (Res.tmp rfl Res.nil) ?_ | refine G.retK [] rfl Try.func52 rfl (Res.tmp rfl (Res.tmp rfl Res.nil)) ?_ | refine G.retK [] rfl Try.func52 rfl (Res.tmp rfl (Res.tmp rfl (Res.tmp rfl Res.nil))) ?_ | refine G.retK [] rfl Try.func52 rfl (Res.cellA rfl rfl rfl Res.nil) ?_ | refine G.retK [] rfl Try.func52 rfl (Res.cellA rfl rfl rfl (Res.tmp rfl Res.nil)) ?_ | refine G.retK [] rfl Try.func52 rfl (Res.cell rfl rfl Res.nil) ?_
  all_goals refine ⟨?_, rfl⟩
  all_goals simp_all [packRes, qle]
  all_goals first | (intros; omega) | exact decide_eq_false (by omega)
theorem good_ok (a : Qt) : Fun Try.prog 51 [qtVal a] [] (Ret (.bool (decide (qgood a))) []) := by
  refine Fun.enter Try.func51 rfl rfl rfl ?_
  repeat' (first | refine G.w0 ?_ | refine G.w1 ?_ | refine G.wn ?_ | refine GR.w ?_ | (refine G.ws (h := ?_); try (simp only [Nat.reduceAdd, Nat.zero_add, List.set_cons_succ, List.set_cons_zero])) | (refine G.wb ?_; intro bx) | (refine G.wz ?_; intro bx) | refine G.wa (h := ?_) | refine G.seq ?_ | refine G.region ?_ | refine G.nil ?_ | refine G.block ?_ | refine G.skip ?_ | refine G.blk ?_ | refine G.wx ?_ | refine G.wt ?_ | refine G.wf ?_ | ((fail_if_success (first | refine G.take_yes rfl rfl rfl (by first | rfl | assumption) ?_ | refine G.take_n rfl rfl (by first | exact .inl rfl | exact .inr ⟨_, rfl, by first | rfl | assumption⟩) rfl ?_)); refine G.take_split rfl rfl rfl (fun hb => ?_) (fun hb => ?_)) | refine G.cond rfl (fun hb => ?_) (fun hb => ?_))
  all_goals first | refine G.retK [] rfl Try.func51 rfl Res.nil ?_ | refine G.retK [] rfl Try.func51 rfl (Res.tmp rfl Res.nil) ?_ | refine G.retK [] rfl Try.func51 rfl (Res.tmp rfl (Res.tmp rfl Res.nil)) ?_ | refine G.retK [] rfl Try.func51 rfl (Res.tmp rfl (Res.tmp rfl (Res.tmp rfl Res.nil))) ?_ | refine G.retK [] rfl Try.func51 rfl (Res.cellA rfl rfl rfl Res.nil) ?_ | refine G.retK [] rfl Try.func51 rfl (Res.cellA rfl rfl rfl (Res.tmp rfl Res.nil)) ?_ | refine G.retK [] rfl Try.func51 rfl (Res.cell rfl rfl Res.nil) ?_
  all_goals refine ⟨?_, rfl⟩
  all_goals simp_all [packRes, qgood]
  all_goals first | exact decide_eq_false (by omega) | exact decide_eq_decide.2 (by omega)

/-- A book at b + 21 within a record: whole, paid, carved. -/
def qleft (r : Rec) : Qt := qsub (qsub r.whole r.paid) r.carved
def RecOk (r : Rec) : Prop := qgood r.whole ∧ qgood r.paid ∧ qgood r.carved ∧ qle (qadd r.paid r.carved) r.whole

theorem left_ok (b : Nat) (r : Rec) (kv : Value) (h : RecOk r) : Fun Try.prog 50 [.pointer (some ⟨b, 21, none⟩)] [cb b (recCells r kv) 95] (Ret (qtVal (qleft r)) [cb b (recCells r kv) 95]) := by
  have hw1 : (qsub r.whole r.paid).in64 := by
    obtain ⟨h1, h2, h3, h4⟩ := h
    unfold qgood qle qadd at *; refine ⟨?_, ?_, ?_⟩ <;> simp only [qsub, in64] <;> omega
  have hw2 : (qsub (qsub r.whole r.paid) r.carved).in64 := by
    obtain ⟨h1, h2, h3, h4⟩ := h
    unfold qgood qle qadd at *; refine ⟨?_, ?_, ?_⟩ <;> simp only [qsub, in64] <;> omega
  refine Fun.enter Try.func50 rfl rfl rfl ?_
  repeat (first | refine G.w0 ?_ | refine G.w1 ?_ | refine G.wn ?_ | refine GR.w ?_ | (refine G.ws (h := ?_); try (simp only [Nat.reduceAdd, Nat.zero_add, List.set_cons_succ, List.set_cons_zero])) | (refine G.wb ?_; intro bx) | (refine G.wz ?_; intro bx) | refine G.wa (h := ?_) | refine G.seq ?_ | refine G.region ?_ | refine G.nil ?_ | refine G.block ?_ | refine G.skip ?_ | refine G.blk ?_ | refine G.wx ?_ | refine G.wt ?_ | refine G.wf ?_)
  (repeat refine G.seq ?_); refine G.draw [0, 1, 2, 3, 4, 5, 6, 7, 8, 9, 10, 11, 12, 13] [] [14] (by kernel_rfl) (by kernel_rfl) rfl rfl rfl ?_
  repeat (first | refine EV.w0 ?_ | refine EV.wy ?_ | refine EV.wn ?_ | refine EV.wm ?_ | (refine EV.wb ?_; intro bx) | refine EV.done ?_)
  refine EV.ok (Ok.callD Try.func84 rfl (by decide) rfl (minus_ok _ _ hw1)) ?_
  repeat (first | refine EV.w0 ?_ | refine EV.wy ?_ | refine EV.wn ?_ | refine EV.wm ?_ | (refine EV.wb ?_; intro bx) | refine EV.done ?_)
  refine EV.ok (Ok.callD Try.func84 rfl (by decide) rfl (minus_ok _ _ hw2)) ?_
  repeat (first | refine EV.w0 ?_ | refine EV.wy ?_ | refine EV.wn ?_ | refine EV.wm ?_ | (refine EV.wb ?_; intro bx) | refine EV.done ?_)
  repeat (first | refine G.w0 ?_ | refine G.w1 ?_ | refine G.wn ?_ | refine GR.w ?_ | (refine G.ws (h := ?_); try (simp only [Nat.reduceAdd, Nat.zero_add, List.set_cons_succ, List.set_cons_zero])) | (refine G.wb ?_; intro bx) | (refine G.wz ?_; intro bx) | refine G.wa (h := ?_) | refine G.seq ?_ | refine G.region ?_ | refine G.nil ?_ | refine G.block ?_ | refine G.skip ?_ | refine G.blk ?_ | refine G.wx ?_ | refine G.wt ?_ | refine G.wf ?_)
  first | refine G.retK [cb b (recCells r kv) 95] rfl Try.func50 rfl Res.nil ?_ | refine G.retK [cb b (recCells r kv) 95] rfl Try.func50 rfl (Res.tmp rfl Res.nil) ?_ | refine G.retK [cb b (recCells r kv) 95] rfl Try.func50 rfl (Res.tmp rfl (Res.tmp rfl Res.nil)) ?_ | refine G.retK [cb b (recCells r kv) 95] rfl Try.func50 rfl (Res.tmp rfl (Res.tmp rfl (Res.tmp rfl Res.nil))) ?_ | refine G.retK [cb b (recCells r kv) 95] rfl Try.func50 rfl (Res.cellA rfl rfl rfl Res.nil) ?_ | refine G.retK [cb b (recCells r kv) 95] rfl Try.func50 rfl (Res.cellA rfl rfl rfl (Res.tmp rfl Res.nil)) ?_ | refine G.retK [cb b (recCells r kv) 95] rfl Try.func50 rfl (Res.cell rfl rfl Res.nil) ?_
  exact ⟨rfl, rfl⟩
end Go.Proofs.Ytffcilmllebdmaa

namespace Go.Proofs.Ytffcilmllebdmaa
open Go.Am
set_option maxHeartbeats 4000000
set_option linter.unusedVariables false
set_option linter.unusedSimpArgs false
attribute [local irreducible] Ok GR G Fun OpRun EVS

theorem carve_ok (b : Nat) (r : Rec) (kv : Value) (q : Qt) (h1 : (qone q).in64) (h2 : (qadd r.carved (qone q)).in64) :
    Fun Try.prog 55 [.pointer (some ⟨b, 21, none⟩), qtVal q] [cb b (recCells r kv) 95] (Ret (.tuple #[]) [cb b (recCells { r with carved := qadd r.carved (qone q) } kv) 95]) := by
  refine Fun.enter Try.func55 rfl rfl rfl ?_
  repeat (first | refine G.w0 ?_ | refine G.w1 ?_ | refine G.wn ?_ | refine GR.w ?_ | (refine G.ws (h := ?_); try (simp only [Nat.reduceAdd, Nat.zero_add, List.set_cons_succ, List.set_cons_zero])) | (refine G.wb ?_; intro bx) | (refine G.wz ?_; intro bx) | refine G.wa (h := ?_) | refine G.seq ?_ | refine G.region ?_ | refine G.nil ?_ | refine G.block ?_ | refine G.skip ?_ | refine G.blk ?_ | refine G.wx ?_ | refine G.wt ?_ | refine G.wf ?_)
  (repeat refine G.seq ?_); refine G.draw [0, 1, 2, 3, 4, 5, 6, 7] [] [8, 9, 10] (by kernel_rfl) (by kernel_rfl) rfl rfl rfl ?_
  repeat (first | refine EV.w0 ?_ | refine EV.wy ?_ | refine EV.wn ?_ | refine EV.wm ?_ | (refine EV.wb ?_; intro bx) | refine EV.done ?_)
  refine EV.ok (Ok.callD Try.func53 rfl (by decide) rfl (forChild_ok q h1)) ?_
  repeat (first | refine EV.w0 ?_ | refine EV.wy ?_ | refine EV.wn ?_ | refine EV.wm ?_ | (refine EV.wb ?_; intro bx) | refine EV.done ?_)
  refine EV.ok (Ok.callD Try.func86 rfl (by decide) rfl (plus_ok _ _ h2)) ?_
  repeat (first | refine EV.w0 ?_ | refine EV.wy ?_ | refine EV.wn ?_ | refine EV.wm ?_ | (refine EV.wb ?_; intro bx) | refine EV.done ?_)
  repeat (first | refine G.w0 ?_ | refine G.w1 ?_ | refine G.wn ?_ | refine GR.w ?_ | (refine G.ws (h := ?_); try (simp only [Nat.reduceAdd, Nat.zero_add, List.set_cons_succ, List.set_cons_zero])) | (refine G.wb ?_; intro bx) | (refine G.wz ?_; intro bx) | refine G.wa (h := ?_) | refine G.seq ?_ | refine G.region ?_ | refine G.nil ?_ | refine G.block ?_ | refine G.skip ?_ | refine G.blk ?_ | refine G.wx ?_ | refine G.wt ?_ | refine G.wf ?_)
  refine G.isC b (recCells { r with carved := qadd r.carved (qone q) } kv) rfl ?_
  first | refine G.endK [cb b (recCells { r with carved := qadd r.carved (qone q) } kv) 95] rfl Try.func55 rfl Res.nil ?_ | refine G.endK [cb b (recCells { r with carved := qadd r.carved (qone q) } kv) 95] rfl Try.func55 rfl (Res.tmp rfl Res.nil) ?_ | refine G.endK [cb b (recCells { r with carved := qadd r.carved (qone q) } kv) 95] rfl Try.func55 rfl (Res.tmp rfl (Res.tmp rfl Res.nil)) ?_ | refine G.endK [cb b (recCells { r with carved := qadd r.carved (qone q) } kv) 95] rfl Try.func55 rfl (Res.tmp rfl (Res.tmp rfl (Res.tmp rfl Res.nil))) ?_ | refine G.endK [cb b (recCells { r with carved := qadd r.carved (qone q) } kv) 95] rfl Try.func55 rfl (Res.cellA rfl rfl rfl Res.nil) ?_ | refine G.endK [cb b (recCells { r with carved := qadd r.carved (qone q) } kv) 95] rfl Try.func55 rfl (Res.cellA rfl rfl rfl (Res.tmp rfl Res.nil)) ?_ | refine G.endK [cb b (recCells { r with carved := qadd r.carved (qone q) } kv) 95] rfl Try.func55 rfl (Res.cell rfl rfl Res.nil) ?_
  exact ⟨rfl, rfl⟩

theorem uncarve_ok (b : Nat) (r : Rec) (kv : Value) (q : Qt) (h1 : (qone q).in64) (h2 : (qsub r.carved (qone q)).in64) :
    Fun Try.prog 60 [.pointer (some ⟨b, 21, none⟩), qtVal q] [cb b (recCells r kv) 95] (Ret (.tuple #[]) [cb b (recCells { r with carved := qsub r.carved (qone q) } kv) 95]) := by
  refine Fun.enter Try.func60 rfl rfl rfl ?_
  repeat (first | refine G.w0 ?_ | refine G.w1 ?_ | refine G.wn ?_ | refine GR.w ?_ | (refine G.ws (h := ?_); try (simp only [Nat.reduceAdd, Nat.zero_add, List.set_cons_succ, List.set_cons_zero])) | (refine G.wb ?_; intro bx) | (refine G.wz ?_; intro bx) | refine G.wa (h := ?_) | refine G.seq ?_ | refine G.region ?_ | refine G.nil ?_ | refine G.block ?_ | refine G.skip ?_ | refine G.blk ?_ | refine G.wx ?_ | refine G.wt ?_ | refine G.wf ?_)
  (repeat refine G.seq ?_); refine G.draw [0, 1, 2, 3, 4, 5, 6, 7] [] [8, 9, 10] (by kernel_rfl) (by kernel_rfl) rfl rfl rfl ?_
  repeat (first | refine EV.w0 ?_ | refine EV.wy ?_ | refine EV.wn ?_ | refine EV.wm ?_ | (refine EV.wb ?_; intro bx) | refine EV.done ?_)
  refine EV.ok (Ok.callD Try.func53 rfl (by decide) rfl (forChild_ok q h1)) ?_
  repeat (first | refine EV.w0 ?_ | refine EV.wy ?_ | refine EV.wn ?_ | refine EV.wm ?_ | (refine EV.wb ?_; intro bx) | refine EV.done ?_)
  refine EV.ok (Ok.callD Try.func84 rfl (by decide) rfl (minus_ok _ _ h2)) ?_
  repeat (first | refine EV.w0 ?_ | refine EV.wy ?_ | refine EV.wn ?_ | refine EV.wm ?_ | (refine EV.wb ?_; intro bx) | refine EV.done ?_)
  repeat (first | refine G.w0 ?_ | refine G.w1 ?_ | refine G.wn ?_ | refine GR.w ?_ | (refine G.ws (h := ?_); try (simp only [Nat.reduceAdd, Nat.zero_add, List.set_cons_succ, List.set_cons_zero])) | (refine G.wb ?_; intro bx) | (refine G.wz ?_; intro bx) | refine G.wa (h := ?_) | refine G.seq ?_ | refine G.region ?_ | refine G.nil ?_ | refine G.block ?_ | refine G.skip ?_ | refine G.blk ?_ | refine G.wx ?_ | refine G.wt ?_ | refine G.wf ?_)
  refine G.isC b (recCells { r with carved := qsub r.carved (qone q) } kv) rfl ?_
  first | refine G.endK [cb b (recCells { r with carved := qsub r.carved (qone q) } kv) 95] rfl Try.func60 rfl Res.nil ?_ | refine G.endK [cb b (recCells { r with carved := qsub r.carved (qone q) } kv) 95] rfl Try.func60 rfl (Res.tmp rfl Res.nil) ?_ | refine G.endK [cb b (recCells { r with carved := qsub r.carved (qone q) } kv) 95] rfl Try.func60 rfl (Res.tmp rfl (Res.tmp rfl Res.nil)) ?_ | refine G.endK [cb b (recCells { r with carved := qsub r.carved (qone q) } kv) 95] rfl Try.func60 rfl (Res.tmp rfl (Res.tmp rfl (Res.tmp rfl Res.nil))) ?_ | refine G.endK [cb b (recCells { r with carved := qsub r.carved (qone q) } kv) 95] rfl Try.func60 rfl (Res.cellA rfl rfl rfl Res.nil) ?_ | refine G.endK [cb b (recCells { r with carved := qsub r.carved (qone q) } kv) 95] rfl Try.func60 rfl (Res.cellA rfl rfl rfl (Res.tmp rfl Res.nil)) ?_ | refine G.endK [cb b (recCells { r with carved := qsub r.carved (qone q) } kv) 95] rfl Try.func60 rfl (Res.cell rfl rfl Res.nil) ?_
  exact ⟨rfl, rfl⟩

def payRec (q : Qt) (r : Rec) : Int × Rec := if qgood q then if qle q (qleft r) then (0, { r with paid := qadd r.paid q }) else (2, r) else (1, r)
def refundRec (q : Qt) (r : Rec) : Int × Rec := if qgood q ∧ qle q r.paid then (0, { r with paid := qsub r.paid q }) else (1, r)

theorem pay_ok (b : Nat) (r : Rec) (kv : Value) (q : Qt) (h : RecOk r) :
    Fun Try.prog 56 [.pointer (some ⟨b, 21, none⟩), qtVal q] [cb b (recCells r kv) 95] (Ret (i64 (payRec q r).1) [cb b (recCells (payRec q r).2 kv) 95]) := by
  refine Fun.enter Try.func56 rfl rfl rfl ?_
  repeat (first | refine G.w0 ?_ | refine G.w1 ?_ | refine G.wn ?_ | refine GR.w ?_ | (refine G.ws (h := ?_); try (simp only [Nat.reduceAdd, Nat.zero_add, List.set_cons_succ, List.set_cons_zero])) | (refine G.wb ?_; intro bx) | (refine G.wz ?_; intro bx) | refine G.wa (h := ?_) | refine G.seq ?_ | refine G.region ?_ | refine G.nil ?_ | refine G.block ?_ | refine G.skip ?_ | refine G.blk ?_ | refine G.wx ?_ | refine G.wt ?_ | refine G.wf ?_)
  (first | refine G.take rfl ?_ | refine G.take_yes rfl rfl rfl (by first | rfl | assumption) ?_); (first | refine R.callD Try.func51 rfl (by decide) rfl rfl (good_ok q) ?_ | refine R.callD0 Try.func51 rfl (by decide) rfl (good_ok q) ?_); simp only [List.cons_append, List.nil_append]
  repeat (first | refine G.w0 ?_ | refine G.w1 ?_ | refine G.wn ?_ | refine GR.w ?_ | (refine G.ws (h := ?_); try (simp only [Nat.reduceAdd, Nat.zero_add, List.set_cons_succ, List.set_cons_zero])) | (refine G.wb ?_; intro bx) | (refine G.wz ?_; intro bx) | refine G.wa (h := ?_) | refine G.seq ?_ | refine G.region ?_ | refine G.nil ?_ | refine G.block ?_ | refine G.skip ?_ | refine G.blk ?_ | refine G.wx ?_ | refine G.wt ?_ | refine G.wf ?_)
  refine G.cond rfl (fun hb => ?_) (fun hb => ?_)
  · repeat (first | refine G.w0 ?_ | refine G.w1 ?_ | refine G.wn ?_ | refine GR.w ?_ | (refine G.ws (h := ?_); try (simp only [Nat.reduceAdd, Nat.zero_add, List.set_cons_succ, List.set_cons_zero])) | (refine G.wb ?_; intro bx) | (refine G.wz ?_; intro bx) | refine G.wa (h := ?_) | refine G.seq ?_ | refine G.region ?_ | refine G.nil ?_ | refine G.block ?_ | refine G.skip ?_ | refine G.blk ?_ | refine G.wx ?_ | refine G.wt ?_ | refine G.wf ?_)
    have hq : ¬ qgood q := by simpa using hb
    simp only [payRec, if_neg hq]
    first | refine G.retK [cb b (recCells r kv) 95] rfl Try.func56 rfl Res.nil ?_ | refine G.retK [cb b (recCells r kv) 95] rfl Try.func56 rfl (Res.tmp rfl Res.nil) ?_ | refine G.retK [cb b (recCells r kv) 95] rfl Try.func56 rfl (Res.tmp rfl (Res.tmp rfl Res.nil)) ?_ | refine G.retK [cb b (recCells r kv) 95] rfl Try.func56 rfl (Res.tmp rfl (Res.tmp rfl (Res.tmp rfl Res.nil))) ?_ | refine G.retK [cb b (recCells r kv) 95] rfl Try.func56 rfl (Res.cellA rfl rfl rfl Res.nil) ?_ | refine G.retK [cb b (recCells r kv) 95] rfl Try.func56 rfl (Res.cellA rfl rfl rfl (Res.tmp rfl Res.nil)) ?_ | refine G.retK [cb b (recCells r kv) 95] rfl Try.func56 rfl (Res.cell rfl rfl Res.nil) ?_
    exact ⟨rfl, rfl⟩
  · repeat (first | refine G.w0 ?_ | refine G.w1 ?_ | refine G.wn ?_ | refine GR.w ?_ | (refine G.ws (h := ?_); try (simp only [Nat.reduceAdd, Nat.zero_add, List.set_cons_succ, List.set_cons_zero])) | (refine G.wb ?_; intro bx) | (refine G.wz ?_; intro bx) | refine G.wa (h := ?_) | refine G.seq ?_ | refine G.region ?_ | refine G.nil ?_ | refine G.block ?_ | refine G.skip ?_ | refine G.blk ?_ | refine G.wx ?_ | refine G.wt ?_ | refine G.wf ?_)
    have hq : qgood q := by simpa using hb
    (repeat refine G.seq ?_); refine G.draw [0, 1, 2, 3, 4] [] [] (by kernel_rfl) (by kernel_rfl) rfl rfl rfl ?_
    repeat (first | refine EV.w0 ?_ | refine EV.wy ?_ | refine EV.wn ?_ | refine EV.wm ?_ | (refine EV.wb ?_; intro bx) | refine EV.done ?_)
    refine EV.ok (Ok.callD Try.func50 rfl (by decide) rfl (left_ok b r kv h)) ?_
    repeat (first | refine EV.w0 ?_ | refine EV.wy ?_ | refine EV.wn ?_ | refine EV.wm ?_ | (refine EV.wb ?_; intro bx) | refine EV.done ?_)
    refine EV.ok (Ok.callD Try.func52 rfl (by decide) rfl (fits_ok q _)) ?_
    repeat (first | refine EV.w0 ?_ | refine EV.wy ?_ | refine EV.wn ?_ | refine EV.wm ?_ | (refine EV.wb ?_; intro bx) | refine EV.done ?_)
    repeat (first | refine G.w0 ?_ | refine G.w1 ?_ | refine G.wn ?_ | refine GR.w ?_ | (refine G.ws (h := ?_); try (simp only [Nat.reduceAdd, Nat.zero_add, List.set_cons_succ, List.set_cons_zero])) | (refine G.wb ?_; intro bx) | (refine G.wz ?_; intro bx) | refine G.wa (h := ?_) | refine G.seq ?_ | refine G.region ?_ | refine G.nil ?_ | refine G.block ?_ | refine G.skip ?_ | refine G.blk ?_ | refine G.wx ?_ | refine G.wt ?_ | refine G.wf ?_)
    refine G.cond rfl (fun hb => ?_) (fun hb => ?_)
    · repeat (first | refine G.w0 ?_ | refine G.w1 ?_ | refine G.wn ?_ | refine GR.w ?_ | (refine G.ws (h := ?_); try (simp only [Nat.reduceAdd, Nat.zero_add, List.set_cons_succ, List.set_cons_zero])) | (refine G.wb ?_; intro bx) | (refine G.wz ?_; intro bx) | refine G.wa (h := ?_) | refine G.seq ?_ | refine G.region ?_ | refine G.nil ?_ | refine G.block ?_ | refine G.skip ?_ | refine G.blk ?_ | refine G.wx ?_ | refine G.wt ?_ | refine G.wf ?_)
      have hl : ¬ qle q (qleft r) := by simpa using hb
      simp only [payRec, if_pos hq, if_neg hl]
      first | refine G.retK [cb b (recCells r kv) 95] rfl Try.func56 rfl Res.nil ?_ | refine G.retK [cb b (recCells r kv) 95] rfl Try.func56 rfl (Res.tmp rfl Res.nil) ?_ | refine G.retK [cb b (recCells r kv) 95] rfl Try.func56 rfl (Res.tmp rfl (Res.tmp rfl Res.nil)) ?_ | refine G.retK [cb b (recCells r kv) 95] rfl Try.func56 rfl (Res.tmp rfl (Res.tmp rfl (Res.tmp rfl Res.nil))) ?_ | refine G.retK [cb b (recCells r kv) 95] rfl Try.func56 rfl (Res.cellA rfl rfl rfl Res.nil) ?_ | refine G.retK [cb b (recCells r kv) 95] rfl Try.func56 rfl (Res.cellA rfl rfl rfl (Res.tmp rfl Res.nil)) ?_ | refine G.retK [cb b (recCells r kv) 95] rfl Try.func56 rfl (Res.cell rfl rfl Res.nil) ?_
      exact ⟨rfl, rfl⟩
    · repeat (first | refine G.w0 ?_ | refine G.w1 ?_ | refine G.wn ?_ | refine GR.w ?_ | (refine G.ws (h := ?_); try (simp only [Nat.reduceAdd, Nat.zero_add, List.set_cons_succ, List.set_cons_zero])) | (refine G.wb ?_; intro bx) | (refine G.wz ?_; intro bx) | refine G.wa (h := ?_) | refine G.seq ?_ | refine G.region ?_ | refine G.nil ?_ | refine G.block ?_ | refine G.skip ?_ | refine G.blk ?_ | refine G.wx ?_ | refine G.wt ?_ | refine G.wf ?_)
      have hl : qle q (qleft r) := by simpa using hb
      have hs : (qadd r.paid q).in64 := by
        obtain ⟨h1, h2, h3, h4⟩ := h
        unfold qgood qle qleft qsub qadd at *; refine ⟨?_, ?_, ?_⟩ <;> simp only [qadd, in64] <;> omega
      simp only [payRec, if_pos hq, if_pos hl]
      (repeat refine G.seq ?_); refine G.draw [0, 1, 2, 3, 4, 5, 6] [] [7, 8, 9] (by kernel_rfl) (by kernel_rfl) rfl rfl rfl ?_
      repeat (first | refine EV.w0 ?_ | refine EV.wy ?_ | refine EV.wn ?_ | refine EV.wm ?_ | (refine EV.wb ?_; intro bx) | refine EV.done ?_)
      refine EV.ok (Ok.callD Try.func86 rfl (by decide) rfl (plus_ok _ _ hs)) ?_
      repeat (first | refine EV.w0 ?_ | refine EV.wy ?_ | refine EV.wn ?_ | refine EV.wm ?_ | (refine EV.wb ?_; intro bx) | refine EV.done ?_)
      repeat (first | refine G.w0 ?_ | refine G.w1 ?_ | refine G.wn ?_ | refine GR.w ?_ | (refine G.ws (h := ?_); try (simp only [Nat.reduceAdd, Nat.zero_add, List.set_cons_succ, List.set_cons_zero])) | (refine G.wb ?_; intro bx) | (refine G.wz ?_; intro bx) | refine G.wa (h := ?_) | refine G.seq ?_ | refine G.region ?_ | refine G.nil ?_ | refine G.block ?_ | refine G.skip ?_ | refine G.blk ?_ | refine G.wx ?_ | refine G.wt ?_ | refine G.wf ?_)
      refine G.isC b (recCells { r with paid := qadd r.paid q } kv) rfl ?_
      first | refine G.retK [cb b (recCells { r with paid := qadd r.paid q } kv) 95] rfl Try.func56 rfl Res.nil ?_ | refine G.retK [cb b (recCells { r with paid := qadd r.paid q } kv) 95] rfl Try.func56 rfl (Res.tmp rfl Res.nil) ?_ | refine G.retK [cb b (recCells { r with paid := qadd r.paid q } kv) 95] rfl Try.func56 rfl (Res.tmp rfl (Res.tmp rfl Res.nil)) ?_ | refine G.retK [cb b (recCells { r with paid := qadd r.paid q } kv) 95] rfl Try.func56 rfl (Res.tmp rfl (Res.tmp rfl (Res.tmp rfl Res.nil))) ?_ | refine G.retK [cb b (recCells { r with paid := qadd r.paid q } kv) 95] rfl Try.func56 rfl (Res.cellA rfl rfl rfl Res.nil) ?_ | refine G.retK [cb b (recCells { r with paid := qadd r.paid q } kv) 95] rfl Try.func56 rfl (Res.cellA rfl rfl rfl (Res.tmp rfl Res.nil)) ?_ | refine G.retK [cb b (recCells { r with paid := qadd r.paid q } kv) 95] rfl Try.func56 rfl (Res.cell rfl rfl Res.nil) ?_
      exact ⟨rfl, rfl⟩

theorem refund_ok (b : Nat) (r : Rec) (kv : Value) (q : Qt) (h : RecOk r) :
    Fun Try.prog 57 [.pointer (some ⟨b, 21, none⟩), qtVal q] [cb b (recCells r kv) 95] (Ret (i64 (refundRec q r).1) [cb b (recCells (refundRec q r).2 kv) 95]) := by
  refine Fun.enter Try.func57 rfl rfl rfl ?_
  repeat (first | refine G.w0 ?_ | refine G.w1 ?_ | refine G.wn ?_ | refine GR.w ?_ | (refine G.ws (h := ?_); try (simp only [Nat.reduceAdd, Nat.zero_add, List.set_cons_succ, List.set_cons_zero])) | (refine G.wb ?_; intro bx) | (refine G.wz ?_; intro bx) | refine G.wa (h := ?_) | refine G.seq ?_ | refine G.region ?_ | refine G.nil ?_ | refine G.block ?_ | refine G.skip ?_ | refine G.blk ?_ | refine G.wx ?_ | refine G.wt ?_ | refine G.wf ?_)
  (repeat refine G.seq ?_); refine G.draw [0, 1, 2, 3, 4, 5, 6, 7, 8, 9, 10, 11] [] [] (by kernel_rfl) (by kernel_rfl) rfl rfl rfl ?_
  repeat (first | refine EV.w0 ?_ | refine EV.wy ?_ | refine EV.wn ?_ | refine EV.wm ?_ | (refine EV.wb ?_; intro bx) | refine EV.done ?_)
  refine EV.ok (Ok.callD Try.func51 rfl (by decide) rfl (good_ok q)) ?_
  repeat (first | refine EV.w0 ?_ | refine EV.wy ?_ | refine EV.wn ?_ | refine EV.wm ?_ | (refine EV.wb ?_; intro bx) | refine EV.done ?_)
  ((fail_if_success (first | refine EV.yes (v := .bool true) rfl rfl (by first | rfl | assumption) ?_ ?_ | refine EV.no rfl rfl (by first | exact .inl rfl | exact .inr ⟨_, rfl, by first | rfl | assumption⟩) ?_)); refine EV.split rfl rfl rfl (fun hb => ?_) (fun hb => ?_))
  · repeat (first | refine EV.w0 ?_ | refine EV.wy ?_ | refine EV.wn ?_ | refine EV.wm ?_ | (refine EV.wb ?_; intro bx) | refine EV.done ?_)
    refine EV.yes rfl rfl hb (Ok.callD Try.func52 rfl (by decide) rfl (fits_ok q r.paid)) ?_
    repeat (first | refine EV.w0 ?_ | refine EV.wy ?_ | refine EV.wn ?_ | refine EV.wm ?_ | (refine EV.wb ?_; intro bx) | refine EV.done ?_)
    repeat (first | refine G.w0 ?_ | refine G.w1 ?_ | refine G.wn ?_ | refine GR.w ?_ | (refine G.ws (h := ?_); try (simp only [Nat.reduceAdd, Nat.zero_add, List.set_cons_succ, List.set_cons_zero])) | (refine G.wb ?_; intro bx) | (refine G.wz ?_; intro bx) | refine G.wa (h := ?_) | refine G.seq ?_ | refine G.region ?_ | refine G.nil ?_ | refine G.block ?_ | refine G.skip ?_ | refine G.blk ?_ | refine G.wx ?_ | refine G.wt ?_ | refine G.wf ?_)
    refine G.cond rfl (fun hb => ?_) (fun hb => ?_)
    · repeat (first | refine G.w0 ?_ | refine G.w1 ?_ | refine G.wn ?_ | refine GR.w ?_ | (refine G.ws (h := ?_); try (simp only [Nat.reduceAdd, Nat.zero_add, List.set_cons_succ, List.set_cons_zero])) | (refine G.wb ?_; intro bx) | (refine G.wz ?_; intro bx) | refine G.wa (h := ?_) | refine G.seq ?_ | refine G.region ?_ | refine G.nil ?_ | refine G.block ?_ | refine G.skip ?_ | refine G.blk ?_ | refine G.wx ?_ | refine G.wt ?_ | refine G.wf ?_)
      have hl : ¬ (qgood q ∧ qle q r.paid) := by simp at hb; exact fun h => hb h.2
      simp only [refundRec, if_neg hl]
      first | refine G.retK [cb b (recCells r kv) 95] rfl Try.func57 rfl Res.nil ?_ | refine G.retK [cb b (recCells r kv) 95] rfl Try.func57 rfl (Res.tmp rfl Res.nil) ?_ | refine G.retK [cb b (recCells r kv) 95] rfl Try.func57 rfl (Res.tmp rfl (Res.tmp rfl Res.nil)) ?_ | refine G.retK [cb b (recCells r kv) 95] rfl Try.func57 rfl (Res.tmp rfl (Res.tmp rfl (Res.tmp rfl Res.nil))) ?_ | refine G.retK [cb b (recCells r kv) 95] rfl Try.func57 rfl (Res.cellA rfl rfl rfl Res.nil) ?_ | refine G.retK [cb b (recCells r kv) 95] rfl Try.func57 rfl (Res.cellA rfl rfl rfl (Res.tmp rfl Res.nil)) ?_ | refine G.retK [cb b (recCells r kv) 95] rfl Try.func57 rfl (Res.cell rfl rfl Res.nil) ?_
      exact ⟨rfl, rfl⟩
    · repeat (first | refine G.w0 ?_ | refine G.w1 ?_ | refine G.wn ?_ | refine GR.w ?_ | (refine G.ws (h := ?_); try (simp only [Nat.reduceAdd, Nat.zero_add, List.set_cons_succ, List.set_cons_zero])) | (refine G.wb ?_; intro bx) | (refine G.wz ?_; intro bx) | refine G.wa (h := ?_) | refine G.seq ?_ | refine G.region ?_ | refine G.nil ?_ | refine G.block ?_ | refine G.skip ?_ | refine G.blk ?_ | refine G.wx ?_ | refine G.wt ?_ | refine G.wf ?_)
      have hl : qgood q ∧ qle q r.paid := by simp_all
      have hs : (qsub r.paid q).in64 := by
        obtain ⟨h1, h2, h3, h4⟩ := h
        obtain ⟨g1, g2⟩ := hl
        unfold qgood qle qadd at *; refine ⟨?_, ?_, ?_⟩ <;> simp only [qsub, in64] <;> omega
      simp only [refundRec, if_pos hl]
      (repeat refine G.seq ?_); refine G.draw [0, 1, 2, 3, 4, 5, 6] [] [7, 8, 9] (by kernel_rfl) (by kernel_rfl) rfl rfl rfl ?_
      repeat (first | refine EV.w0 ?_ | refine EV.wy ?_ | refine EV.wn ?_ | refine EV.wm ?_ | (refine EV.wb ?_; intro bx) | refine EV.done ?_)
      refine EV.ok (Ok.callD Try.func84 rfl (by decide) rfl (minus_ok _ _ hs)) ?_
      repeat (first | refine EV.w0 ?_ | refine EV.wy ?_ | refine EV.wn ?_ | refine EV.wm ?_ | (refine EV.wb ?_; intro bx) | refine EV.done ?_)
      repeat (first | refine G.w0 ?_ | refine G.w1 ?_ | refine G.wn ?_ | refine GR.w ?_ | (refine G.ws (h := ?_); try (simp only [Nat.reduceAdd, Nat.zero_add, List.set_cons_succ, List.set_cons_zero])) | (refine G.wb ?_; intro bx) | (refine G.wz ?_; intro bx) | refine G.wa (h := ?_) | refine G.seq ?_ | refine G.region ?_ | refine G.nil ?_ | refine G.block ?_ | refine G.skip ?_ | refine G.blk ?_ | refine G.wx ?_ | refine G.wt ?_ | refine G.wf ?_)
      refine G.isC b (recCells { r with paid := qsub r.paid q } kv) rfl ?_
      first | refine G.retK [cb b (recCells { r with paid := qsub r.paid q } kv) 95] rfl Try.func57 rfl Res.nil ?_ | refine G.retK [cb b (recCells { r with paid := qsub r.paid q } kv) 95] rfl Try.func57 rfl (Res.tmp rfl Res.nil) ?_ | refine G.retK [cb b (recCells { r with paid := qsub r.paid q } kv) 95] rfl Try.func57 rfl (Res.tmp rfl (Res.tmp rfl Res.nil)) ?_ | refine G.retK [cb b (recCells { r with paid := qsub r.paid q } kv) 95] rfl Try.func57 rfl (Res.tmp rfl (Res.tmp rfl (Res.tmp rfl Res.nil))) ?_ | refine G.retK [cb b (recCells { r with paid := qsub r.paid q } kv) 95] rfl Try.func57 rfl (Res.cellA rfl rfl rfl Res.nil) ?_ | refine G.retK [cb b (recCells { r with paid := qsub r.paid q } kv) 95] rfl Try.func57 rfl (Res.cellA rfl rfl rfl (Res.tmp rfl Res.nil)) ?_ | refine G.retK [cb b (recCells { r with paid := qsub r.paid q } kv) 95] rfl Try.func57 rfl (Res.cell rfl rfl Res.nil) ?_
      exact ⟨rfl, rfl⟩
  · repeat (first | refine EV.w0 ?_ | refine EV.wy ?_ | refine EV.wn ?_ | refine EV.wm ?_ | (refine EV.wb ?_; intro bx) | refine EV.done ?_)
    repeat (first | refine G.w0 ?_ | refine G.w1 ?_ | refine G.wn ?_ | refine GR.w ?_ | (refine G.ws (h := ?_); try (simp only [Nat.reduceAdd, Nat.zero_add, List.set_cons_succ, List.set_cons_zero])) | (refine G.wb ?_; intro bx) | (refine G.wz ?_; intro bx) | refine G.wa (h := ?_) | refine G.seq ?_ | refine G.region ?_ | refine G.nil ?_ | refine G.block ?_ | refine G.skip ?_ | refine G.blk ?_ | refine G.wx ?_ | refine G.wt ?_ | refine G.wf ?_)
    have hl : ¬ (qgood q ∧ qle q r.paid) := by simp_all
    simp only [refundRec, if_neg hl]
    first | refine G.retK [cb b (recCells r kv) 95] rfl Try.func57 rfl Res.nil ?_ | refine G.retK [cb b (recCells r kv) 95] rfl Try.func57 rfl (Res.tmp rfl Res.nil) ?_ | refine G.retK [cb b (recCells r kv) 95] rfl Try.func57 rfl (Res.tmp rfl (Res.tmp rfl Res.nil)) ?_ | refine G.retK [cb b (recCells r kv) 95] rfl Try.func57 rfl (Res.tmp rfl (Res.tmp rfl (Res.tmp rfl Res.nil))) ?_ | refine G.retK [cb b (recCells r kv) 95] rfl Try.func57 rfl (Res.cellA rfl rfl rfl Res.nil) ?_ | refine G.retK [cb b (recCells r kv) 95] rfl Try.func57 rfl (Res.cellA rfl rfl rfl (Res.tmp rfl Res.nil)) ?_ | refine G.retK [cb b (recCells r kv) 95] rfl Try.func57 rfl (Res.cell rfl rfl Res.nil) ?_
    exact ⟨rfl, rfl⟩

theorem RecOk.pay {r : Rec} (h : RecOk r) (q : Qt) : RecOk (payRec q r).2 := by
  unfold payRec
  split
  · split
    · rename_i hg hl
      obtain ⟨h1, h2, h3, h4⟩ := h
      unfold RecOk
      unfold qgood qle qleft qsub qadd at *; dsimp only at *; omega
    · exact h
  · exact h
theorem RecOk.refund {r : Rec} (h : RecOk r) (q : Qt) : RecOk (refundRec q r).2 := by
  unfold refundRec
  split
  · rename_i hg
    obtain ⟨h1, h2, h3, h4⟩ := h
    unfold RecOk
    unfold qgood qle qsub qadd at *; dsimp only at *; omega
  · exact h

theorem payRec_kids (q : Qt) (r : Rec) : (payRec q r).2.kids = r.kids := by unfold payRec; split <;> first | rfl | (split <;> rfl)
theorem refundRec_kids (q : Qt) (r : Rec) : (refundRec q r).2.kids = r.kids := by unfold refundRec; split <;> rfl

theorem Pay_ok (T : Nat) (last : Int) (rs : List (Option Rec)) (e : Int) (q : Qt) (hok : ∀ r, getr rs e = some r → RecOk r) : Fun Try.prog 19 [ptr (some T), i64 e, qtVal q] [Table T last rs]
    (Ret (i64 (onRec rs e (payRec q)).1) [Table T last (onRec rs e (payRec q)).2]) := by
  refine Fun.enter Try.func19 rfl rfl rfl ?_
  refine G.open (Table T last rs) rfl ?_
  rintro ⟨S, low, ps⟩ ⟨hlow, hal, hl⟩
  simp only [List.cons_append, List.nil_append]
  rcases hp : getp ps e with _ | b
  · repeat (first | refine G.w0 ?_ | refine G.w1 ?_ | refine G.wn ?_ | refine GR.w ?_ | (refine G.ws (h := ?_); try (simp only [Nat.reduceAdd, Nat.zero_add, List.set_cons_succ, List.set_cons_zero])) | (refine G.wb ?_; intro bx) | (refine G.wz ?_; intro bx) | refine G.wa (h := ?_) | refine G.seq ?_ | refine G.region ?_ | refine G.nil ?_ | refine G.block ?_ | refine G.skip ?_ | refine G.blk ?_ | refine G.wx ?_ | refine G.wt ?_ | refine G.wf ?_)
    (first | refine G.take rfl ?_ | refine G.take_yes rfl rfl rfl (by first | rfl | assumption) ?_); (first | refine R.callD Try.func44 rfl (by decide) rfl rfl (at_ok S low e ps _ hp) ?_ | refine R.callD0 Try.func44 rfl (by decide) rfl (at_ok S low e ps _ hp) ?_); simp only [List.cons_append, List.nil_append]
    repeat (first | refine G.w0 ?_ | refine G.w1 ?_ | refine G.wn ?_ | refine GR.w ?_ | (refine G.ws (h := ?_); try (simp only [Nat.reduceAdd, Nat.zero_add, List.set_cons_succ, List.set_cons_zero])) | (refine G.wb ?_; intro bx) | (refine G.wz ?_; intro bx) | refine G.wa (h := ?_) | refine G.seq ?_ | refine G.region ?_ | refine G.nil ?_ | refine G.block ?_ | refine G.skip ?_ | refine G.blk ?_ | refine G.wx ?_ | refine G.wt ?_ | refine G.wf ?_)
    refine G.close (Table T last rs) rfl ((S, low, ps)) (⟨hlow, hal, hl⟩) (by dsimp only) ?_
    first | refine G.retK [Table T last rs] rfl Try.func19 rfl Res.nil ?_ | refine G.retK [Table T last rs] rfl Try.func19 rfl (Res.tmp rfl Res.nil) ?_ | refine G.retK [Table T last rs] rfl Try.func19 rfl (Res.tmp rfl (Res.tmp rfl Res.nil)) ?_ | refine G.retK [Table T last rs] rfl Try.func19 rfl (Res.tmp rfl (Res.tmp rfl (Res.tmp rfl Res.nil))) ?_ | refine G.retK [Table T last rs] rfl Try.func19 rfl (Res.cellA rfl rfl rfl Res.nil) ?_ | refine G.retK [Table T last rs] rfl Try.func19 rfl (Res.cellA rfl rfl rfl (Res.tmp rfl Res.nil)) ?_ | refine G.retK [Table T last rs] rfl Try.func19 rfl (Res.cell rfl rfl Res.nil) ?_
    simp only [onRec, getr_none hal hp]
    exact ⟨rfl, rfl⟩
  · obtain ⟨r, hr⟩ := getr_some hal hp
    repeat (first | refine G.w0 ?_ | refine G.w1 ?_ | refine G.wn ?_ | refine GR.w ?_ | (refine G.ws (h := ?_); try (simp only [Nat.reduceAdd, Nat.zero_add, List.set_cons_succ, List.set_cons_zero])) | (refine G.wb ?_; intro bx) | (refine G.wz ?_; intro bx) | refine G.wa (h := ?_) | refine G.seq ?_ | refine G.region ?_ | refine G.nil ?_ | refine G.block ?_ | refine G.skip ?_ | refine G.blk ?_ | refine G.wx ?_ | refine G.wt ?_ | refine G.wf ?_)
    (first | refine G.take rfl ?_ | refine G.take_yes rfl rfl rfl (by first | rfl | assumption) ?_); (first | refine R.callD Try.func44 rfl (by decide) rfl rfl (at_ok S low e ps _ hp) ?_ | refine R.callD0 Try.func44 rfl (by decide) rfl (at_ok S low e ps _ hp) ?_); simp only [List.cons_append, List.nil_append]
    repeat (first | refine G.w0 ?_ | refine G.w1 ?_ | refine G.wn ?_ | refine GR.w ?_ | (refine G.ws (h := ?_); try (simp only [Nat.reduceAdd, Nat.zero_add, List.set_cons_succ, List.set_cons_zero])) | (refine G.wb ?_; intro bx) | (refine G.wz ?_; intro bx) | refine G.wa (h := ?_) | refine G.seq ?_ | refine G.region ?_ | refine G.nil ?_ | refine G.block ?_ | refine G.skip ?_ | refine G.blk ?_ | refine G.wx ?_ | refine G.wt ?_ | refine G.wf ?_)
    refine G.recOut hp hr fun kv => ?_
    (repeat refine G.seq ?_); refine G.draw [0, 1, 2, 3] [] [4, 5] (by kernel_rfl) (by kernel_rfl) rfl rfl rfl ?_
    repeat (first | refine EV.w0 ?_ | refine EV.wy ?_ | refine EV.wn ?_ | refine EV.wm ?_ | (refine EV.wb ?_; intro bx) | refine EV.done ?_)
    (first | refine G.take rfl ?_ | refine G.take_yes rfl rfl rfl (by first | rfl | assumption) ?_); (first | refine R.callD Try.func56 rfl (by decide) rfl rfl (pay_ok b r kv q (hok r hr)) ?_ | refine R.callD0 Try.func56 rfl (by decide) rfl (pay_ok b r kv q (hok r hr)) ?_); simp only [List.cons_append, List.nil_append]
    repeat (first | refine G.w0 ?_ | refine G.w1 ?_ | refine G.wn ?_ | refine GR.w ?_ | (refine G.ws (h := ?_); try (simp only [Nat.reduceAdd, Nat.zero_add, List.set_cons_succ, List.set_cons_zero])) | (refine G.wb ?_; intro bx) | (refine G.wz ?_; intro bx) | refine G.wa (h := ?_) | refine G.seq ?_ | refine G.region ?_ | refine G.nil ?_ | refine G.block ?_ | refine G.skip ?_ | refine G.blk ?_ | refine G.wx ?_ | refine G.wt ?_ | refine G.wf ?_)
    refine G.recIn e b (payRec q r).2 kv rfl rfl ⟨rfl, rfl, by rw [payRec_kids], by rw [payRec_kids]⟩ hp hal ?_
    refine G.close (Table T last (rs.set e.toNat (some (payRec q r).2))) rfl ((S, low, ps)) (⟨hlow, hal.setr hp _, by simpa using hl⟩) (by dsimp only) ?_
    first | refine G.retK [Table T last (rs.set e.toNat (some (payRec q r).2))] rfl Try.func19 rfl Res.nil ?_ | refine G.retK [Table T last (rs.set e.toNat (some (payRec q r).2))] rfl Try.func19 rfl (Res.tmp rfl Res.nil) ?_ | refine G.retK [Table T last (rs.set e.toNat (some (payRec q r).2))] rfl Try.func19 rfl (Res.tmp rfl (Res.tmp rfl Res.nil)) ?_ | refine G.retK [Table T last (rs.set e.toNat (some (payRec q r).2))] rfl Try.func19 rfl (Res.tmp rfl (Res.tmp rfl (Res.tmp rfl Res.nil))) ?_ | refine G.retK [Table T last (rs.set e.toNat (some (payRec q r).2))] rfl Try.func19 rfl (Res.cellA rfl rfl rfl Res.nil) ?_ | refine G.retK [Table T last (rs.set e.toNat (some (payRec q r).2))] rfl Try.func19 rfl (Res.cellA rfl rfl rfl (Res.tmp rfl Res.nil)) ?_ | refine G.retK [Table T last (rs.set e.toNat (some (payRec q r).2))] rfl Try.func19 rfl (Res.cell rfl rfl Res.nil) ?_
    simp only [onRec, hr]
    exact ⟨rfl, rfl⟩

theorem Refund_ok (T : Nat) (last : Int) (rs : List (Option Rec)) (e : Int) (q : Qt) (hok : ∀ r, getr rs e = some r → RecOk r) : Fun Try.prog 20 [ptr (some T), i64 e, qtVal q] [Table T last rs]
    (Ret (i64 (onRec rs e (refundRec q)).1) [Table T last (onRec rs e (refundRec q)).2]) := by
  refine Fun.enter Try.func20 rfl rfl rfl ?_
  refine G.open (Table T last rs) rfl ?_
  rintro ⟨S, low, ps⟩ ⟨hlow, hal, hl⟩
  simp only [List.cons_append, List.nil_append]
  rcases hp : getp ps e with _ | b
  · repeat (first | refine G.w0 ?_ | refine G.w1 ?_ | refine G.wn ?_ | refine GR.w ?_ | (refine G.ws (h := ?_); try (simp only [Nat.reduceAdd, Nat.zero_add, List.set_cons_succ, List.set_cons_zero])) | (refine G.wb ?_; intro bx) | (refine G.wz ?_; intro bx) | refine G.wa (h := ?_) | refine G.seq ?_ | refine G.region ?_ | refine G.nil ?_ | refine G.block ?_ | refine G.skip ?_ | refine G.blk ?_ | refine G.wx ?_ | refine G.wt ?_ | refine G.wf ?_)
    (first | refine G.take rfl ?_ | refine G.take_yes rfl rfl rfl (by first | rfl | assumption) ?_); (first | refine R.callD Try.func44 rfl (by decide) rfl rfl (at_ok S low e ps _ hp) ?_ | refine R.callD0 Try.func44 rfl (by decide) rfl (at_ok S low e ps _ hp) ?_); simp only [List.cons_append, List.nil_append]
    repeat (first | refine G.w0 ?_ | refine G.w1 ?_ | refine G.wn ?_ | refine GR.w ?_ | (refine G.ws (h := ?_); try (simp only [Nat.reduceAdd, Nat.zero_add, List.set_cons_succ, List.set_cons_zero])) | (refine G.wb ?_; intro bx) | (refine G.wz ?_; intro bx) | refine G.wa (h := ?_) | refine G.seq ?_ | refine G.region ?_ | refine G.nil ?_ | refine G.block ?_ | refine G.skip ?_ | refine G.blk ?_ | refine G.wx ?_ | refine G.wt ?_ | refine G.wf ?_)
    refine G.close (Table T last rs) rfl ((S, low, ps)) (⟨hlow, hal, hl⟩) (by dsimp only) ?_
    first | refine G.retK [Table T last rs] rfl Try.func20 rfl Res.nil ?_ | refine G.retK [Table T last rs] rfl Try.func20 rfl (Res.tmp rfl Res.nil) ?_ | refine G.retK [Table T last rs] rfl Try.func20 rfl (Res.tmp rfl (Res.tmp rfl Res.nil)) ?_ | refine G.retK [Table T last rs] rfl Try.func20 rfl (Res.tmp rfl (Res.tmp rfl (Res.tmp rfl Res.nil))) ?_ | refine G.retK [Table T last rs] rfl Try.func20 rfl (Res.cellA rfl rfl rfl Res.nil) ?_ | refine G.retK [Table T last rs] rfl Try.func20 rfl (Res.cellA rfl rfl rfl (Res.tmp rfl Res.nil)) ?_ | refine G.retK [Table T last rs] rfl Try.func20 rfl (Res.cell rfl rfl Res.nil) ?_
    simp only [onRec, getr_none hal hp]
    exact ⟨rfl, rfl⟩
  · obtain ⟨r, hr⟩ := getr_some hal hp
    repeat (first | refine G.w0 ?_ | refine G.w1 ?_ | refine G.wn ?_ | refine GR.w ?_ | (refine G.ws (h := ?_); try (simp only [Nat.reduceAdd, Nat.zero_add, List.set_cons_succ, List.set_cons_zero])) | (refine G.wb ?_; intro bx) | (refine G.wz ?_; intro bx) | refine G.wa (h := ?_) | refine G.seq ?_ | refine G.region ?_ | refine G.nil ?_ | refine G.block ?_ | refine G.skip ?_ | refine G.blk ?_ | refine G.wx ?_ | refine G.wt ?_ | refine G.wf ?_)
    (first | refine G.take rfl ?_ | refine G.take_yes rfl rfl rfl (by first | rfl | assumption) ?_); (first | refine R.callD Try.func44 rfl (by decide) rfl rfl (at_ok S low e ps _ hp) ?_ | refine R.callD0 Try.func44 rfl (by decide) rfl (at_ok S low e ps _ hp) ?_); simp only [List.cons_append, List.nil_append]
    repeat (first | refine G.w0 ?_ | refine G.w1 ?_ | refine G.wn ?_ | refine GR.w ?_ | (refine G.ws (h := ?_); try (simp only [Nat.reduceAdd, Nat.zero_add, List.set_cons_succ, List.set_cons_zero])) | (refine G.wb ?_; intro bx) | (refine G.wz ?_; intro bx) | refine G.wa (h := ?_) | refine G.seq ?_ | refine G.region ?_ | refine G.nil ?_ | refine G.block ?_ | refine G.skip ?_ | refine G.blk ?_ | refine G.wx ?_ | refine G.wt ?_ | refine G.wf ?_)
    refine G.recOut hp hr fun kv => ?_
    (repeat refine G.seq ?_); refine G.draw [0, 1, 2, 3] [] [4, 5] (by kernel_rfl) (by kernel_rfl) rfl rfl rfl ?_
    repeat (first | refine EV.w0 ?_ | refine EV.wy ?_ | refine EV.wn ?_ | refine EV.wm ?_ | (refine EV.wb ?_; intro bx) | refine EV.done ?_)
    (first | refine G.take rfl ?_ | refine G.take_yes rfl rfl rfl (by first | rfl | assumption) ?_); (first | refine R.callD Try.func57 rfl (by decide) rfl rfl (refund_ok b r kv q (hok r hr)) ?_ | refine R.callD0 Try.func57 rfl (by decide) rfl (refund_ok b r kv q (hok r hr)) ?_); simp only [List.cons_append, List.nil_append]
    repeat (first | refine G.w0 ?_ | refine G.w1 ?_ | refine G.wn ?_ | refine GR.w ?_ | (refine G.ws (h := ?_); try (simp only [Nat.reduceAdd, Nat.zero_add, List.set_cons_succ, List.set_cons_zero])) | (refine G.wb ?_; intro bx) | (refine G.wz ?_; intro bx) | refine G.wa (h := ?_) | refine G.seq ?_ | refine G.region ?_ | refine G.nil ?_ | refine G.block ?_ | refine G.skip ?_ | refine G.blk ?_ | refine G.wx ?_ | refine G.wt ?_ | refine G.wf ?_)
    refine G.recIn e b (refundRec q r).2 kv rfl rfl ⟨rfl, rfl, by rw [refundRec_kids], by rw [refundRec_kids]⟩ hp hal ?_
    refine G.close (Table T last (rs.set e.toNat (some (refundRec q r).2))) rfl ((S, low, ps)) (⟨hlow, hal.setr hp _, by simpa using hl⟩) (by dsimp only) ?_
    first | refine G.retK [Table T last (rs.set e.toNat (some (refundRec q r).2))] rfl Try.func20 rfl Res.nil ?_ | refine G.retK [Table T last (rs.set e.toNat (some (refundRec q r).2))] rfl Try.func20 rfl (Res.tmp rfl Res.nil) ?_ | refine G.retK [Table T last (rs.set e.toNat (some (refundRec q r).2))] rfl Try.func20 rfl (Res.tmp rfl (Res.tmp rfl Res.nil)) ?_ | refine G.retK [Table T last (rs.set e.toNat (some (refundRec q r).2))] rfl Try.func20 rfl (Res.tmp rfl (Res.tmp rfl (Res.tmp rfl Res.nil))) ?_ | refine G.retK [Table T last (rs.set e.toNat (some (refundRec q r).2))] rfl Try.func20 rfl (Res.cellA rfl rfl rfl Res.nil) ?_ | refine G.retK [Table T last (rs.set e.toNat (some (refundRec q r).2))] rfl Try.func20 rfl (Res.cellA rfl rfl rfl (Res.tmp rfl Res.nil)) ?_ | refine G.retK [Table T last (rs.set e.toNat (some (refundRec q r).2))] rfl Try.func20 rfl (Res.cell rfl rfl Res.nil) ?_
    simp only [onRec, hr]
    exact ⟨rfl, rfl⟩
end Go.Proofs.Ytffcilmllebdmaa

namespace Go.Proofs.Ytffcilmllebdmaa
open Go.Am
set_option maxHeartbeats 4000000
set_option linter.unusedVariables false
set_option linter.unusedSimpArgs false
attribute [local irreducible] Ok GR G Fun OpRun EVS

def isWord (n : Int) : Prop := 0 ≤ n ∧ n ≤ 4294967295
instance (n : Int) : Decidable (isWord n) := by unfold isWord; infer_instance
def stateRec (s c : Int) (r : Rec) : Int × Rec := if (0 ≤ s ∧ s ≤ 4) ∧ isWord c then (0, { r with state := s, code := c }) else (1, r)

theorem SetState_ok (T : Nat) (last : Int) (rs : List (Option Rec)) (e s c : Int) : Fun Try.prog 9 [ptr (some T), i64 e, i64 s, i64 c] [Table T last rs]
    (Ret (i64 (onRec rs e (stateRec s c)).1) [Table T last (onRec rs e (stateRec s c)).2]) := by
  refine Fun.enter Try.func9 rfl rfl rfl ?_
  refine G.open (Table T last rs) rfl ?_
  rintro ⟨S, low, ps⟩ ⟨hlow, hal, hl⟩
  simp only [List.cons_append, List.nil_append]
  rcases hp : getp ps e with _ | b
  · repeat (first | refine G.w0 ?_ | refine G.w1 ?_ | refine G.wn ?_ | refine GR.w ?_ | (refine G.ws (h := ?_); try (simp only [Nat.reduceAdd, Nat.zero_add, List.set_cons_succ, List.set_cons_zero])) | (refine G.wb ?_; intro bx) | (refine G.wz ?_; intro bx) | refine G.wa (h := ?_) | refine G.seq ?_ | refine G.region ?_ | refine G.nil ?_ | refine G.block ?_ | refine G.skip ?_ | refine G.blk ?_ | refine G.wx ?_ | refine G.wt ?_ | refine G.wf ?_)
    (first | refine G.take rfl ?_ | refine G.take_yes rfl rfl rfl (by first | rfl | assumption) ?_); (first | refine R.callD Try.func44 rfl (by decide) rfl rfl (at_ok S low e ps _ hp) ?_ | refine R.callD0 Try.func44 rfl (by decide) rfl (at_ok S low e ps _ hp) ?_); simp only [List.cons_append, List.nil_append]
    repeat (first | refine G.w0 ?_ | refine G.w1 ?_ | refine G.wn ?_ | refine GR.w ?_ | (refine G.ws (h := ?_); try (simp only [Nat.reduceAdd, Nat.zero_add, List.set_cons_succ, List.set_cons_zero])) | (refine G.wb ?_; intro bx) | (refine G.wz ?_; intro bx) | refine G.wa (h := ?_) | refine G.seq ?_ | refine G.region ?_ | refine G.nil ?_ | refine G.block ?_ | refine G.skip ?_ | refine G.blk ?_ | refine G.wx ?_ | refine G.wt ?_ | refine G.wf ?_)
    refine G.close (Table T last rs) rfl ((S, low, ps)) (⟨hlow, hal, hl⟩) (by dsimp only) ?_
    first | refine G.retK [Table T last rs] rfl Try.func9 rfl Res.nil ?_ | refine G.retK [Table T last rs] rfl Try.func9 rfl (Res.tmp rfl Res.nil) ?_ | refine G.retK [Table T last rs] rfl Try.func9 rfl (Res.tmp rfl (Res.tmp rfl Res.nil)) ?_ | refine G.retK [Table T last rs] rfl Try.func9 rfl (Res.tmp rfl (Res.tmp rfl (Res.tmp rfl Res.nil))) ?_ | refine G.retK [Table T last rs] rfl Try.func9 rfl (Res.cellA rfl rfl rfl Res.nil) ?_ | refine G.retK [Table T last rs] rfl Try.func9 rfl (Res.cellA rfl rfl rfl (Res.tmp rfl Res.nil)) ?_ | refine G.retK [Table T last rs] rfl Try.func9 rfl (Res.cell rfl rfl Res.nil) ?_
    simp only [onRec, getr_none hal hp]
    exact ⟨rfl, rfl⟩
  · obtain ⟨r, hr⟩ := getr_some hal hp
    have bad : ¬ ((0 ≤ s ∧ s ≤ 4) ∧ isWord c) → Ret (i64 (onRec rs e (stateRec s c)).1) [Table T last (onRec rs e (stateRec s c)).2] (i64 1) [Table T last rs] := by
      intro h
      simp only [onRec, hr, stateRec, if_neg h, set_same hr]
      exact ⟨rfl, rfl⟩
    by_cases h1 : s < 0
    · have hb : decide (s < 0) = true := by simpa using h1
      repeat (first | refine G.w0 ?_ | refine G.w1 ?_ | refine G.wn ?_ | refine GR.w ?_ | (refine G.ws (h := ?_); try (simp only [Nat.reduceAdd, Nat.zero_add, List.set_cons_succ, List.set_cons_zero])) | (refine G.wb ?_; intro bx) | (refine G.wz ?_; intro bx) | refine G.wa (h := ?_) | refine G.seq ?_ | refine G.region ?_ | refine G.nil ?_ | refine G.block ?_ | refine G.skip ?_ | refine G.blk ?_ | refine G.wx ?_ | refine G.wt ?_ | refine G.wf ?_)
      (first | refine G.take rfl ?_ | refine G.take_yes rfl rfl rfl (by first | rfl | assumption) ?_); (first | refine R.callD Try.func44 rfl (by decide) rfl rfl (at_ok S low e ps _ hp) ?_ | refine R.callD0 Try.func44 rfl (by decide) rfl (at_ok S low e ps _ hp) ?_); simp only [List.cons_append, List.nil_append]
      repeat (first | refine G.w0 ?_ | refine G.w1 ?_ | refine G.wn ?_ | refine GR.w ?_ | (refine G.ws (h := ?_); try (simp only [Nat.reduceAdd, Nat.zero_add, List.set_cons_succ, List.set_cons_zero])) | (refine G.wb ?_; intro bx) | (refine G.wz ?_; intro bx) | refine G.wa (h := ?_) | refine G.seq ?_ | refine G.region ?_ | refine G.nil ?_ | refine G.block ?_ | refine G.skip ?_ | refine G.blk ?_ | refine G.wx ?_ | refine G.wt ?_ | refine G.wf ?_)
      refine G.close (Table T last rs) rfl ((S, low, ps)) (⟨hlow, hal, hl⟩) (by dsimp only) ?_
      first | refine G.retK [Table T last rs] rfl Try.func9 rfl Res.nil ?_ | refine G.retK [Table T last rs] rfl Try.func9 rfl (Res.tmp rfl Res.nil) ?_ | refine G.retK [Table T last rs] rfl Try.func9 rfl (Res.tmp rfl (Res.tmp rfl Res.nil)) ?_ | refine G.retK [Table T last rs] rfl Try.func9 rfl (Res.tmp rfl (Res.tmp rfl (Res.tmp rfl Res.nil))) ?_ | refine G.retK [Table T last rs] rfl Try.func9 rfl (Res.cellA rfl rfl rfl Res.nil) ?_ | refine G.retK [Table T last rs] rfl Try.func9 rfl (Res.cellA rfl rfl rfl (Res.tmp rfl Res.nil)) ?_ | refine G.retK [Table T last rs] rfl Try.func9 rfl (Res.cell rfl rfl Res.nil) ?_
      exact bad (by omega)
    have hb1 : decide (s < 0) = false := by simpa using h1
    by_cases h2 : 4 < s
    · have hb : decide (4 < s) = true := by simpa using h2
      repeat (first | refine G.w0 ?_ | refine G.w1 ?_ | refine G.wn ?_ | refine GR.w ?_ | (refine G.ws (h := ?_); try (simp only [Nat.reduceAdd, Nat.zero_add, List.set_cons_succ, List.set_cons_zero])) | (refine G.wb ?_; intro bx) | (refine G.wz ?_; intro bx) | refine G.wa (h := ?_) | refine G.seq ?_ | refine G.region ?_ | refine G.nil ?_ | refine G.block ?_ | refine G.skip ?_ | refine G.blk ?_ | refine G.wx ?_ | refine G.wt ?_ | refine G.wf ?_)
      (first | refine G.take rfl ?_ | refine G.take_yes rfl rfl rfl (by first | rfl | assumption) ?_); (first | refine R.callD Try.func44 rfl (by decide) rfl rfl (at_ok S low e ps _ hp) ?_ | refine R.callD0 Try.func44 rfl (by decide) rfl (at_ok S low e ps _ hp) ?_); simp only [List.cons_append, List.nil_append]
      repeat (first | refine G.w0 ?_ | refine G.w1 ?_ | refine G.wn ?_ | refine GR.w ?_ | (refine G.ws (h := ?_); try (simp only [Nat.reduceAdd, Nat.zero_add, List.set_cons_succ, List.set_cons_zero])) | (refine G.wb ?_; intro bx) | (refine G.wz ?_; intro bx) | refine G.wa (h := ?_) | refine G.seq ?_ | refine G.region ?_ | refine G.nil ?_ | refine G.block ?_ | refine G.skip ?_ | refine G.blk ?_ | refine G.wx ?_ | refine G.wt ?_ | refine G.wf ?_)
      refine G.close (Table T last rs) rfl ((S, low, ps)) (⟨hlow, hal, hl⟩) (by dsimp only) ?_
      first | refine G.retK [Table T last rs] rfl Try.func9 rfl Res.nil ?_ | refine G.retK [Table T last rs] rfl Try.func9 rfl (Res.tmp rfl Res.nil) ?_ | refine G.retK [Table T last rs] rfl Try.func9 rfl (Res.tmp rfl (Res.tmp rfl Res.nil)) ?_ | refine G.retK [Table T last rs] rfl Try.func9 rfl (Res.tmp rfl (Res.tmp rfl (Res.tmp rfl Res.nil))) ?_ | refine G.retK [Table T last rs] rfl Try.func9 rfl (Res.cellA rfl rfl rfl Res.nil) ?_ | refine G.retK [Table T last rs] rfl Try.func9 rfl (Res.cellA rfl rfl rfl (Res.tmp rfl Res.nil)) ?_ | refine G.retK [Table T last rs] rfl Try.func9 rfl (Res.cell rfl rfl Res.nil) ?_
      exact bad (by omega)
    have hb2 : decide (4 < s) = false := by simpa using h2
    by_cases h3 : isWord c
    · have hb3 : (!decide (0 ≤ c ∧ c ≤ 4294967295)) = false := by unfold isWord at h3; simpa using h3
      have hk : (0 ≤ s ∧ s ≤ 4) ∧ isWord c := ⟨by omega, h3⟩
      repeat (first | refine G.w0 ?_ | refine G.w1 ?_ | refine G.wn ?_ | refine GR.w ?_ | (refine G.ws (h := ?_); try (simp only [Nat.reduceAdd, Nat.zero_add, List.set_cons_succ, List.set_cons_zero])) | (refine G.wb ?_; intro bx) | (refine G.wz ?_; intro bx) | refine G.wa (h := ?_) | refine G.seq ?_ | refine G.region ?_ | refine G.nil ?_ | refine G.block ?_ | refine G.skip ?_ | refine G.blk ?_ | refine G.wx ?_ | refine G.wt ?_ | refine G.wf ?_)
      (first | refine G.take rfl ?_ | refine G.take_yes rfl rfl rfl (by first | rfl | assumption) ?_); (first | refine R.callD Try.func44 rfl (by decide) rfl rfl (at_ok S low e ps _ hp) ?_ | refine R.callD0 Try.func44 rfl (by decide) rfl (at_ok S low e ps _ hp) ?_); simp only [List.cons_append, List.nil_append]
      repeat (first | refine G.w0 ?_ | refine G.w1 ?_ | refine G.wn ?_ | refine GR.w ?_ | (refine G.ws (h := ?_); try (simp only [Nat.reduceAdd, Nat.zero_add, List.set_cons_succ, List.set_cons_zero])) | (refine G.wb ?_; intro bx) | (refine G.wz ?_; intro bx) | refine G.wa (h := ?_) | refine G.seq ?_ | refine G.region ?_ | refine G.nil ?_ | refine G.block ?_ | refine G.skip ?_ | refine G.blk ?_ | refine G.wx ?_ | refine G.wt ?_ | refine G.wf ?_)
      (first | refine G.take rfl ?_ | refine G.take_yes rfl rfl rfl (by first | rfl | assumption) ?_); (first | refine R.callD Try.func45 rfl (by decide) rfl rfl (isWord_ok c) ?_ | refine R.callD0 Try.func45 rfl (by decide) rfl (isWord_ok c) ?_); simp only [List.cons_append, List.nil_append]
      refine G.recOut hp hr fun kv => ?_
      repeat (first | refine G.w0 ?_ | refine G.w1 ?_ | refine G.wn ?_ | refine GR.w ?_ | (refine G.ws (h := ?_); try (simp only [Nat.reduceAdd, Nat.zero_add, List.set_cons_succ, List.set_cons_zero])) | (refine G.wb ?_; intro bx) | (refine G.wz ?_; intro bx) | refine G.wa (h := ?_) | refine G.seq ?_ | refine G.region ?_ | refine G.nil ?_ | refine G.block ?_ | refine G.skip ?_ | refine G.blk ?_ | refine G.wx ?_ | refine G.wt ?_ | refine G.wf ?_)
      refine G.recIn e b { r with state := s, code := c } kv rfl rfl ⟨rfl, rfl, rfl, rfl⟩ hp hal ?_
      repeat (first | refine G.w0 ?_ | refine G.w1 ?_ | refine G.wn ?_ | refine GR.w ?_ | (refine G.ws (h := ?_); try (simp only [Nat.reduceAdd, Nat.zero_add, List.set_cons_succ, List.set_cons_zero])) | (refine G.wb ?_; intro bx) | (refine G.wz ?_; intro bx) | refine G.wa (h := ?_) | refine G.seq ?_ | refine G.region ?_ | refine G.nil ?_ | refine G.block ?_ | refine G.skip ?_ | refine G.blk ?_ | refine G.wx ?_ | refine G.wt ?_ | refine G.wf ?_)
      refine G.close (Table T last (rs.set e.toNat (some { r with state := s, code := c }))) rfl ((S, low, ps)) (⟨hlow, hal.setr hp _, by simpa using hl⟩) (by dsimp only) ?_
      first | refine G.retK [Table T last (rs.set e.toNat (some { r with state := s, code := c }))] rfl Try.func9 rfl Res.nil ?_ | refine G.retK [Table T last (rs.set e.toNat (some { r with state := s, code := c }))] rfl Try.func9 rfl (Res.tmp rfl Res.nil) ?_ | refine G.retK [Table T last (rs.set e.toNat (some { r with state := s, code := c }))] rfl Try.func9 rfl (Res.tmp rfl (Res.tmp rfl Res.nil)) ?_ | refine G.retK [Table T last (rs.set e.toNat (some { r with state := s, code := c }))] rfl Try.func9 rfl (Res.tmp rfl (Res.tmp rfl (Res.tmp rfl Res.nil))) ?_ | refine G.retK [Table T last (rs.set e.toNat (some { r with state := s, code := c }))] rfl Try.func9 rfl (Res.cellA rfl rfl rfl Res.nil) ?_ | refine G.retK [Table T last (rs.set e.toNat (some { r with state := s, code := c }))] rfl Try.func9 rfl (Res.cellA rfl rfl rfl (Res.tmp rfl Res.nil)) ?_ | refine G.retK [Table T last (rs.set e.toNat (some { r with state := s, code := c }))] rfl Try.func9 rfl (Res.cell rfl rfl Res.nil) ?_
      simp only [onRec, hr, stateRec, if_pos hk]
      exact ⟨rfl, rfl⟩
    · have hb3 : (!decide (0 ≤ c ∧ c ≤ 4294967295)) = true := by unfold isWord at h3; simp; omega
      repeat (first | refine G.w0 ?_ | refine G.w1 ?_ | refine G.wn ?_ | refine GR.w ?_ | (refine G.ws (h := ?_); try (simp only [Nat.reduceAdd, Nat.zero_add, List.set_cons_succ, List.set_cons_zero])) | (refine G.wb ?_; intro bx) | (refine G.wz ?_; intro bx) | refine G.wa (h := ?_) | refine G.seq ?_ | refine G.region ?_ | refine G.nil ?_ | refine G.block ?_ | refine G.skip ?_ | refine G.blk ?_ | refine G.wx ?_ | refine G.wt ?_ | refine G.wf ?_)
      (first | refine G.take rfl ?_ | refine G.take_yes rfl rfl rfl (by first | rfl | assumption) ?_); (first | refine R.callD Try.func44 rfl (by decide) rfl rfl (at_ok S low e ps _ hp) ?_ | refine R.callD0 Try.func44 rfl (by decide) rfl (at_ok S low e ps _ hp) ?_); simp only [List.cons_append, List.nil_append]
      repeat (first | refine G.w0 ?_ | refine G.w1 ?_ | refine G.wn ?_ | refine GR.w ?_ | (refine G.ws (h := ?_); try (simp only [Nat.reduceAdd, Nat.zero_add, List.set_cons_succ, List.set_cons_zero])) | (refine G.wb ?_; intro bx) | (refine G.wz ?_; intro bx) | refine G.wa (h := ?_) | refine G.seq ?_ | refine G.region ?_ | refine G.nil ?_ | refine G.block ?_ | refine G.skip ?_ | refine G.blk ?_ | refine G.wx ?_ | refine G.wt ?_ | refine G.wf ?_)
      (first | refine G.take rfl ?_ | refine G.take_yes rfl rfl rfl (by first | rfl | assumption) ?_); (first | refine R.callD Try.func45 rfl (by decide) rfl rfl (isWord_ok c) ?_ | refine R.callD0 Try.func45 rfl (by decide) rfl (isWord_ok c) ?_); simp only [List.cons_append, List.nil_append]
      repeat (first | refine G.w0 ?_ | refine G.w1 ?_ | refine G.wn ?_ | refine GR.w ?_ | (refine G.ws (h := ?_); try (simp only [Nat.reduceAdd, Nat.zero_add, List.set_cons_succ, List.set_cons_zero])) | (refine G.wb ?_; intro bx) | (refine G.wz ?_; intro bx) | refine G.wa (h := ?_) | refine G.seq ?_ | refine G.region ?_ | refine G.nil ?_ | refine G.block ?_ | refine G.skip ?_ | refine G.blk ?_ | refine G.wx ?_ | refine G.wt ?_ | refine G.wf ?_)
      refine G.close (Table T last rs) rfl ((S, low, ps)) (⟨hlow, hal, hl⟩) (by dsimp only) ?_
      first | refine G.retK [Table T last rs] rfl Try.func9 rfl Res.nil ?_ | refine G.retK [Table T last rs] rfl Try.func9 rfl (Res.tmp rfl Res.nil) ?_ | refine G.retK [Table T last rs] rfl Try.func9 rfl (Res.tmp rfl (Res.tmp rfl Res.nil)) ?_ | refine G.retK [Table T last rs] rfl Try.func9 rfl (Res.tmp rfl (Res.tmp rfl (Res.tmp rfl Res.nil))) ?_ | refine G.retK [Table T last rs] rfl Try.func9 rfl (Res.cellA rfl rfl rfl Res.nil) ?_ | refine G.retK [Table T last rs] rfl Try.func9 rfl (Res.cellA rfl rfl rfl (Res.tmp rfl Res.nil)) ?_ | refine G.retK [Table T last rs] rfl Try.func9 rfl (Res.cell rfl rfl Res.nil) ?_
      exact bad (fun h => h3 h.2)

def woken (r : Rec) (n : Int) : Rec := { r with bits := 0, state := 1, regs := { r.regs with r0 := 0, r1 := IntKind.u32.wrap n } }
def notifyRec (n : Int) (r : Rec) : Int × Rec :=
  if isWord n then
    if r.state = 2 ∧ orI .i64 r.bits n ≠ 0 then (0, woken r (orI .i64 r.bits n)) else (0, { r with bits := orI .i64 r.bits n })
  else (1, r)

theorem Notify_ok (T : Nat) (last : Int) (rs : List (Option Rec)) (e n : Int) : Fun Try.prog 48 [ptr (some T), i64 e, i64 n] [Table T last rs]
    (Ret (i64 (onRec rs e (notifyRec n)).1) [Table T last (onRec rs e (notifyRec n)).2]) := by
  refine Fun.enter Try.func48 rfl rfl rfl ?_
  refine G.open (Table T last rs) rfl ?_
  rintro ⟨S, low, ps⟩ ⟨hlow, hal, hl⟩
  simp only [List.cons_append, List.nil_append]
  rcases hp : getp ps e with _ | b
  · repeat (first | refine G.w0 ?_ | refine G.w1 ?_ | refine G.wn ?_ | refine GR.w ?_ | (refine G.ws (h := ?_); try (simp only [Nat.reduceAdd, Nat.zero_add, List.set_cons_succ, List.set_cons_zero])) | (refine G.wb ?_; intro bx) | (refine G.wz ?_; intro bx) | refine G.wa (h := ?_) | refine G.seq ?_ | refine G.region ?_ | refine G.nil ?_ | refine G.block ?_ | refine G.skip ?_ | refine G.blk ?_ | refine G.wx ?_ | refine G.wt ?_ | refine G.wf ?_)
    (first | refine G.take rfl ?_ | refine G.take_yes rfl rfl rfl (by first | rfl | assumption) ?_); (first | refine R.callD Try.func44 rfl (by decide) rfl rfl (at_ok S low e ps _ hp) ?_ | refine R.callD0 Try.func44 rfl (by decide) rfl (at_ok S low e ps _ hp) ?_); simp only [List.cons_append, List.nil_append]
    repeat (first | refine G.w0 ?_ | refine G.w1 ?_ | refine G.wn ?_ | refine GR.w ?_ | (refine G.ws (h := ?_); try (simp only [Nat.reduceAdd, Nat.zero_add, List.set_cons_succ, List.set_cons_zero])) | (refine G.wb ?_; intro bx) | (refine G.wz ?_; intro bx) | refine G.wa (h := ?_) | refine G.seq ?_ | refine G.region ?_ | refine G.nil ?_ | refine G.block ?_ | refine G.skip ?_ | refine G.blk ?_ | refine G.wx ?_ | refine G.wt ?_ | refine G.wf ?_)
    refine G.close (Table T last rs) rfl ((S, low, ps)) (⟨hlow, hal, hl⟩) (by dsimp only) ?_
    first | refine G.retK [Table T last rs] rfl Try.func48 rfl Res.nil ?_ | refine G.retK [Table T last rs] rfl Try.func48 rfl (Res.tmp rfl Res.nil) ?_ | refine G.retK [Table T last rs] rfl Try.func48 rfl (Res.tmp rfl (Res.tmp rfl Res.nil)) ?_ | refine G.retK [Table T last rs] rfl Try.func48 rfl (Res.tmp rfl (Res.tmp rfl (Res.tmp rfl Res.nil))) ?_ | refine G.retK [Table T last rs] rfl Try.func48 rfl (Res.cellA rfl rfl rfl Res.nil) ?_ | refine G.retK [Table T last rs] rfl Try.func48 rfl (Res.cellA rfl rfl rfl (Res.tmp rfl Res.nil)) ?_ | refine G.retK [Table T last rs] rfl Try.func48 rfl (Res.cell rfl rfl Res.nil) ?_
    simp only [onRec, getr_none hal hp]
    exact ⟨rfl, rfl⟩
  · obtain ⟨r, hr⟩ := getr_some hal hp
    by_cases h3 : isWord n
    · have hb3 : (!decide (0 ≤ n ∧ n ≤ 4294967295)) = false := by unfold isWord at h3; simpa using h3
      by_cases h4 : r.state = 2
      · have hb4 : decide (r.state = 2) = true := by simpa using h4
        by_cases h5 : orI .i64 r.bits n ≠ 0
        · have hb5 : decide (orI .i64 r.bits n ≠ 0) = true := by simpa using h5
          repeat (first | refine G.w0 ?_ | refine G.w1 ?_ | refine G.wn ?_ | refine GR.w ?_ | (refine G.ws (h := ?_); try (simp only [Nat.reduceAdd, Nat.zero_add, List.set_cons_succ, List.set_cons_zero])) | (refine G.wb ?_; intro bx) | (refine G.wz ?_; intro bx) | refine G.wa (h := ?_) | refine G.seq ?_ | refine G.region ?_ | refine G.nil ?_ | refine G.block ?_ | refine G.skip ?_ | refine G.blk ?_ | refine G.wx ?_ | refine G.wt ?_ | refine G.wf ?_)
          (first | refine G.take rfl ?_ | refine G.take_yes rfl rfl rfl (by first | rfl | assumption) ?_); (first | refine R.callD Try.func44 rfl (by decide) rfl rfl (at_ok S low e ps _ hp) ?_ | refine R.callD0 Try.func44 rfl (by decide) rfl (at_ok S low e ps _ hp) ?_); simp only [List.cons_append, List.nil_append]
          repeat (first | refine G.w0 ?_ | refine G.w1 ?_ | refine G.wn ?_ | refine GR.w ?_ | (refine G.ws (h := ?_); try (simp only [Nat.reduceAdd, Nat.zero_add, List.set_cons_succ, List.set_cons_zero])) | (refine G.wb ?_; intro bx) | (refine G.wz ?_; intro bx) | refine G.wa (h := ?_) | refine G.seq ?_ | refine G.region ?_ | refine G.nil ?_ | refine G.block ?_ | refine G.skip ?_ | refine G.blk ?_ | refine G.wx ?_ | refine G.wt ?_ | refine G.wf ?_)
          (first | refine G.take rfl ?_ | refine G.take_yes rfl rfl rfl (by first | rfl | assumption) ?_); (first | refine R.callD Try.func45 rfl (by decide) rfl rfl (isWord_ok n) ?_ | refine R.callD0 Try.func45 rfl (by decide) rfl (isWord_ok n) ?_); simp only [List.cons_append, List.nil_append]
          repeat (first | refine G.w0 ?_ | refine G.w1 ?_ | refine G.wn ?_ | refine GR.w ?_ | (refine G.ws (h := ?_); try (simp only [Nat.reduceAdd, Nat.zero_add, List.set_cons_succ, List.set_cons_zero])) | (refine G.wb ?_; intro bx) | (refine G.wz ?_; intro bx) | refine G.wa (h := ?_) | refine G.seq ?_ | refine G.region ?_ | refine G.nil ?_ | refine G.block ?_ | refine G.skip ?_ | refine G.blk ?_ | refine G.wx ?_ | refine G.wt ?_ | refine G.wf ?_)
          refine G.recOut hp hr fun kv => ?_
          repeat (first | refine G.w0 ?_ | refine G.w1 ?_ | refine G.wn ?_ | refine GR.w ?_ | (refine G.ws (h := ?_); try (simp only [Nat.reduceAdd, Nat.zero_add, List.set_cons_succ, List.set_cons_zero])) | (refine G.wb ?_; intro bx) | (refine G.wz ?_; intro bx) | refine G.wa (h := ?_) | refine G.seq ?_ | refine G.region ?_ | refine G.nil ?_ | refine G.block ?_ | refine G.skip ?_ | refine G.blk ?_ | refine G.wx ?_ | refine G.wt ?_ | refine G.wf ?_)
          (repeat refine G.seq ?_); refine G.drawS [(.look, 0), (.look, 2), (.look, 3), (.look, 4), (.look, 5), (.look, 6), (.look, 8), (.look, 9), (.look, 10), (.look, 11), (.look, 12), (.pur, 1), (.pur, 7), (.pur, 14), (.pur, 15), (.pur, 16), (.pur, 17), (.act, 13), (.act, 18), (.act, 19)] (by kernel_rfl) (by kernel_rfl) rfl ?_
          repeat (first | refine EVS.wq ?_ | refine EVS.wp ?_ | refine EVS.wn ?_ | refine EVS.w0 ?_ | refine EVS.wy ?_ | (refine EVS.ws (h := ?_); try (simp only [Nat.reduceAdd, Nat.zero_add, List.set_cons_succ, List.set_cons_zero])) | refine EVS.wa (h := ?_) | (refine EVS.wb ?_; intro bx) | (refine EVS.wz ?_; intro bx) | refine EVS.wm ?_ | refine EVS.done ?_)
          repeat (first | refine G.w0 ?_ | refine G.w1 ?_ | refine G.wn ?_ | refine GR.w ?_ | (refine G.ws (h := ?_); try (simp only [Nat.reduceAdd, Nat.zero_add, List.set_cons_succ, List.set_cons_zero])) | (refine G.wb ?_; intro bx) | (refine G.wz ?_; intro bx) | refine G.wa (h := ?_) | refine G.seq ?_ | refine G.region ?_ | refine G.nil ?_ | refine G.block ?_ | refine G.skip ?_ | refine G.blk ?_ | refine G.wx ?_ | refine G.wt ?_ | refine G.wf ?_)
          refine G.isC b (recCells (woken r (orI .i64 r.bits n)) kv) rfl ?_
          refine G.recIn e b (woken r (orI .i64 r.bits n)) kv rfl rfl ⟨rfl, rfl, rfl, rfl⟩ hp hal ?_
          refine G.close (Table T last (rs.set e.toNat (some (woken r (orI .i64 r.bits n))))) rfl ((S, low, ps)) (⟨hlow, hal.setr hp _, by simpa using hl⟩) (by dsimp only) ?_
          first | refine G.retK [Table T last (rs.set e.toNat (some (woken r (orI .i64 r.bits n))))] rfl Try.func48 rfl Res.nil ?_ | refine G.retK [Table T last (rs.set e.toNat (some (woken r (orI .i64 r.bits n))))] rfl Try.func48 rfl (Res.tmp rfl Res.nil) ?_ | refine G.retK [Table T last (rs.set e.toNat (some (woken r (orI .i64 r.bits n))))] rfl Try.func48 rfl (Res.tmp rfl (Res.tmp rfl Res.nil)) ?_ | refine G.retK [Table T last (rs.set e.toNat (some (woken r (orI .i64 r.bits n))))] rfl Try.func48 rfl (Res.tmp rfl (Res.tmp rfl (Res.tmp rfl Res.nil))) ?_ | refine G.retK [Table T last (rs.set e.toNat (some (woken r (orI .i64 r.bits n))))] rfl Try.func48 rfl (Res.cellA rfl rfl rfl Res.nil) ?_ | refine G.retK [Table T last (rs.set e.toNat (some (woken r (orI .i64 r.bits n))))] rfl Try.func48 rfl (Res.cellA rfl rfl rfl (Res.tmp rfl Res.nil)) ?_ | refine G.retK [Table T last (rs.set e.toNat (some (woken r (orI .i64 r.bits n))))] rfl Try.func48 rfl (Res.cell rfl rfl Res.nil) ?_
          simp only [onRec, hr, notifyRec, if_pos h3, if_pos (And.intro h4 h5)]
          exact ⟨rfl, rfl⟩
        · have hb5 : decide (orI .i64 r.bits n ≠ 0) = false := by simpa using h5
          repeat (first | refine G.w0 ?_ | refine G.w1 ?_ | refine G.wn ?_ | refine GR.w ?_ | (refine G.ws (h := ?_); try (simp only [Nat.reduceAdd, Nat.zero_add, List.set_cons_succ, List.set_cons_zero])) | (refine G.wb ?_; intro bx) | (refine G.wz ?_; intro bx) | refine G.wa (h := ?_) | refine G.seq ?_ | refine G.region ?_ | refine G.nil ?_ | refine G.block ?_ | refine G.skip ?_ | refine G.blk ?_ | refine G.wx ?_ | refine G.wt ?_ | refine G.wf ?_)
          (first | refine G.take rfl ?_ | refine G.take_yes rfl rfl rfl (by first | rfl | assumption) ?_); (first | refine R.callD Try.func44 rfl (by decide) rfl rfl (at_ok S low e ps _ hp) ?_ | refine R.callD0 Try.func44 rfl (by decide) rfl (at_ok S low e ps _ hp) ?_); simp only [List.cons_append, List.nil_append]
          repeat (first | refine G.w0 ?_ | refine G.w1 ?_ | refine G.wn ?_ | refine GR.w ?_ | (refine G.ws (h := ?_); try (simp only [Nat.reduceAdd, Nat.zero_add, List.set_cons_succ, List.set_cons_zero])) | (refine G.wb ?_; intro bx) | (refine G.wz ?_; intro bx) | refine G.wa (h := ?_) | refine G.seq ?_ | refine G.region ?_ | refine G.nil ?_ | refine G.block ?_ | refine G.skip ?_ | refine G.blk ?_ | refine G.wx ?_ | refine G.wt ?_ | refine G.wf ?_)
          (first | refine G.take rfl ?_ | refine G.take_yes rfl rfl rfl (by first | rfl | assumption) ?_); (first | refine R.callD Try.func45 rfl (by decide) rfl rfl (isWord_ok n) ?_ | refine R.callD0 Try.func45 rfl (by decide) rfl (isWord_ok n) ?_); simp only [List.cons_append, List.nil_append]
          repeat (first | refine G.w0 ?_ | refine G.w1 ?_ | refine G.wn ?_ | refine GR.w ?_ | (refine G.ws (h := ?_); try (simp only [Nat.reduceAdd, Nat.zero_add, List.set_cons_succ, List.set_cons_zero])) | (refine G.wb ?_; intro bx) | (refine G.wz ?_; intro bx) | refine G.wa (h := ?_) | refine G.seq ?_ | refine G.region ?_ | refine G.nil ?_ | refine G.block ?_ | refine G.skip ?_ | refine G.blk ?_ | refine G.wx ?_ | refine G.wt ?_ | refine G.wf ?_)
          refine G.recOut hp hr fun kv => ?_
          repeat (first | refine G.w0 ?_ | refine G.w1 ?_ | refine G.wn ?_ | refine GR.w ?_ | (refine G.ws (h := ?_); try (simp only [Nat.reduceAdd, Nat.zero_add, List.set_cons_succ, List.set_cons_zero])) | (refine G.wb ?_; intro bx) | (refine G.wz ?_; intro bx) | refine G.wa (h := ?_) | refine G.seq ?_ | refine G.region ?_ | refine G.nil ?_ | refine G.block ?_ | refine G.skip ?_ | refine G.blk ?_ | refine G.wx ?_ | refine G.wt ?_ | refine G.wf ?_)
          refine G.recIn e b { r with bits := orI .i64 r.bits n } kv rfl rfl ⟨rfl, rfl, rfl, rfl⟩ hp hal ?_
          refine G.close (Table T last (rs.set e.toNat (some { r with bits := orI .i64 r.bits n }))) rfl ((S, low, ps)) (⟨hlow, hal.setr hp _, by simpa using hl⟩) (by dsimp only) ?_
          first | refine G.retK [Table T last (rs.set e.toNat (some { r with bits := orI .i64 r.bits n }))] rfl Try.func48 rfl Res.nil ?_ | refine G.retK [Table T last (rs.set e.toNat (some { r with bits := orI .i64 r.bits n }))] rfl Try.func48 rfl (Res.tmp rfl Res.nil) ?_ | refine G.retK [Table T last (rs.set e.toNat (some { r with bits := orI .i64 r.bits n }))] rfl Try.func48 rfl (Res.tmp rfl (Res.tmp rfl Res.nil)) ?_ | refine G.retK [Table T last (rs.set e.toNat (some { r with bits := orI .i64 r.bits n }))] rfl Try.func48 rfl (Res.tmp rfl (Res.tmp rfl (Res.tmp rfl Res.nil))) ?_ | refine G.retK [Table T last (rs.set e.toNat (some { r with bits := orI .i64 r.bits n }))] rfl Try.func48 rfl (Res.cellA rfl rfl rfl Res.nil) ?_ | refine G.retK [Table T last (rs.set e.toNat (some { r with bits := orI .i64 r.bits n }))] rfl Try.func48 rfl (Res.cellA rfl rfl rfl (Res.tmp rfl Res.nil)) ?_ | refine G.retK [Table T last (rs.set e.toNat (some { r with bits := orI .i64 r.bits n }))] rfl Try.func48 rfl (Res.cell rfl rfl Res.nil) ?_
          have h6 : ¬ (r.state = 2 ∧ orI .i64 r.bits n ≠ 0) := fun h => h5 h.2
          simp only [onRec, hr, notifyRec, if_pos h3, if_neg h6]
          exact ⟨rfl, rfl⟩
      · have hb4 : decide (r.state = 2) = false := by simpa using h4
        repeat (first | refine G.w0 ?_ | refine G.w1 ?_ | refine G.wn ?_ | refine GR.w ?_ | (refine G.ws (h := ?_); try (simp only [Nat.reduceAdd, Nat.zero_add, List.set_cons_succ, List.set_cons_zero])) | (refine G.wb ?_; intro bx) | (refine G.wz ?_; intro bx) | refine G.wa (h := ?_) | refine G.seq ?_ | refine G.region ?_ | refine G.nil ?_ | refine G.block ?_ | refine G.skip ?_ | refine G.blk ?_ | refine G.wx ?_ | refine G.wt ?_ | refine G.wf ?_)
        (first | refine G.take rfl ?_ | refine G.take_yes rfl rfl rfl (by first | rfl | assumption) ?_); (first | refine R.callD Try.func44 rfl (by decide) rfl rfl (at_ok S low e ps _ hp) ?_ | refine R.callD0 Try.func44 rfl (by decide) rfl (at_ok S low e ps _ hp) ?_); simp only [List.cons_append, List.nil_append]
        repeat (first | refine G.w0 ?_ | refine G.w1 ?_ | refine G.wn ?_ | refine GR.w ?_ | (refine G.ws (h := ?_); try (simp only [Nat.reduceAdd, Nat.zero_add, List.set_cons_succ, List.set_cons_zero])) | (refine G.wb ?_; intro bx) | (refine G.wz ?_; intro bx) | refine G.wa (h := ?_) | refine G.seq ?_ | refine G.region ?_ | refine G.nil ?_ | refine G.block ?_ | refine G.skip ?_ | refine G.blk ?_ | refine G.wx ?_ | refine G.wt ?_ | refine G.wf ?_)
        (first | refine G.take rfl ?_ | refine G.take_yes rfl rfl rfl (by first | rfl | assumption) ?_); (first | refine R.callD Try.func45 rfl (by decide) rfl rfl (isWord_ok n) ?_ | refine R.callD0 Try.func45 rfl (by decide) rfl (isWord_ok n) ?_); simp only [List.cons_append, List.nil_append]
        repeat (first | refine G.w0 ?_ | refine G.w1 ?_ | refine G.wn ?_ | refine GR.w ?_ | (refine G.ws (h := ?_); try (simp only [Nat.reduceAdd, Nat.zero_add, List.set_cons_succ, List.set_cons_zero])) | (refine G.wb ?_; intro bx) | (refine G.wz ?_; intro bx) | refine G.wa (h := ?_) | refine G.seq ?_ | refine G.region ?_ | refine G.nil ?_ | refine G.block ?_ | refine G.skip ?_ | refine G.blk ?_ | refine G.wx ?_ | refine G.wt ?_ | refine G.wf ?_)
        refine G.recOut hp hr fun kv => ?_
        repeat (first | refine G.w0 ?_ | refine G.w1 ?_ | refine G.wn ?_ | refine GR.w ?_ | (refine G.ws (h := ?_); try (simp only [Nat.reduceAdd, Nat.zero_add, List.set_cons_succ, List.set_cons_zero])) | (refine G.wb ?_; intro bx) | (refine G.wz ?_; intro bx) | refine G.wa (h := ?_) | refine G.seq ?_ | refine G.region ?_ | refine G.nil ?_ | refine G.block ?_ | refine G.skip ?_ | refine G.blk ?_ | refine G.wx ?_ | refine G.wt ?_ | refine G.wf ?_)
        refine G.recIn e b { r with bits := orI .i64 r.bits n } kv rfl rfl ⟨rfl, rfl, rfl, rfl⟩ hp hal ?_
        refine G.close (Table T last (rs.set e.toNat (some { r with bits := orI .i64 r.bits n }))) rfl ((S, low, ps)) (⟨hlow, hal.setr hp _, by simpa using hl⟩) (by dsimp only) ?_
        first | refine G.retK [Table T last (rs.set e.toNat (some { r with bits := orI .i64 r.bits n }))] rfl Try.func48 rfl Res.nil ?_ | refine G.retK [Table T last (rs.set e.toNat (some { r with bits := orI .i64 r.bits n }))] rfl Try.func48 rfl (Res.tmp rfl Res.nil) ?_ | refine G.retK [Table T last (rs.set e.toNat (some { r with bits := orI .i64 r.bits n }))] rfl Try.func48 rfl (Res.tmp rfl (Res.tmp rfl Res.nil)) ?_ | refine G.retK [Table T last (rs.set e.toNat (some { r with bits := orI .i64 r.bits n }))] rfl Try.func48 rfl (Res.tmp rfl (Res.tmp rfl (Res.tmp rfl Res.nil))) ?_ | refine G.retK [Table T last (rs.set e.toNat (some { r with bits := orI .i64 r.bits n }))] rfl Try.func48 rfl (Res.cellA rfl rfl rfl Res.nil) ?_ | refine G.retK [Table T last (rs.set e.toNat (some { r with bits := orI .i64 r.bits n }))] rfl Try.func48 rfl (Res.cellA rfl rfl rfl (Res.tmp rfl Res.nil)) ?_ | refine G.retK [Table T last (rs.set e.toNat (some { r with bits := orI .i64 r.bits n }))] rfl Try.func48 rfl (Res.cell rfl rfl Res.nil) ?_
        have h6 : ¬ (r.state = 2 ∧ orI .i64 r.bits n ≠ 0) := fun h => h4 h.1
        simp only [onRec, hr, notifyRec, if_pos h3, if_neg h6]
        exact ⟨rfl, rfl⟩
    · have hb3 : (!decide (0 ≤ n ∧ n ≤ 4294967295)) = true := by unfold isWord at h3; simp; omega
      repeat (first | refine G.w0 ?_ | refine G.w1 ?_ | refine G.wn ?_ | refine GR.w ?_ | (refine G.ws (h := ?_); try (simp only [Nat.reduceAdd, Nat.zero_add, List.set_cons_succ, List.set_cons_zero])) | (refine G.wb ?_; intro bx) | (refine G.wz ?_; intro bx) | refine G.wa (h := ?_) | refine G.seq ?_ | refine G.region ?_ | refine G.nil ?_ | refine G.block ?_ | refine G.skip ?_ | refine G.blk ?_ | refine G.wx ?_ | refine G.wt ?_ | refine G.wf ?_)
      (first | refine G.take rfl ?_ | refine G.take_yes rfl rfl rfl (by first | rfl | assumption) ?_); (first | refine R.callD Try.func44 rfl (by decide) rfl rfl (at_ok S low e ps _ hp) ?_ | refine R.callD0 Try.func44 rfl (by decide) rfl (at_ok S low e ps _ hp) ?_); simp only [List.cons_append, List.nil_append]
      repeat (first | refine G.w0 ?_ | refine G.w1 ?_ | refine G.wn ?_ | refine GR.w ?_ | (refine G.ws (h := ?_); try (simp only [Nat.reduceAdd, Nat.zero_add, List.set_cons_succ, List.set_cons_zero])) | (refine G.wb ?_; intro bx) | (refine G.wz ?_; intro bx) | refine G.wa (h := ?_) | refine G.seq ?_ | refine G.region ?_ | refine G.nil ?_ | refine G.block ?_ | refine G.skip ?_ | refine G.blk ?_ | refine G.wx ?_ | refine G.wt ?_ | refine G.wf ?_)
      (first | refine G.take rfl ?_ | refine G.take_yes rfl rfl rfl (by first | rfl | assumption) ?_); (first | refine R.callD Try.func45 rfl (by decide) rfl rfl (isWord_ok n) ?_ | refine R.callD0 Try.func45 rfl (by decide) rfl (isWord_ok n) ?_); simp only [List.cons_append, List.nil_append]
      repeat (first | refine G.w0 ?_ | refine G.w1 ?_ | refine G.wn ?_ | refine GR.w ?_ | (refine G.ws (h := ?_); try (simp only [Nat.reduceAdd, Nat.zero_add, List.set_cons_succ, List.set_cons_zero])) | (refine G.wb ?_; intro bx) | (refine G.wz ?_; intro bx) | refine G.wa (h := ?_) | refine G.seq ?_ | refine G.region ?_ | refine G.nil ?_ | refine G.block ?_ | refine G.skip ?_ | refine G.blk ?_ | refine G.wx ?_ | refine G.wt ?_ | refine G.wf ?_)
      refine G.close (Table T last rs) rfl ((S, low, ps)) (⟨hlow, hal, hl⟩) (by dsimp only) ?_
      first | refine G.retK [Table T last rs] rfl Try.func48 rfl Res.nil ?_ | refine G.retK [Table T last rs] rfl Try.func48 rfl (Res.tmp rfl Res.nil) ?_ | refine G.retK [Table T last rs] rfl Try.func48 rfl (Res.tmp rfl (Res.tmp rfl Res.nil)) ?_ | refine G.retK [Table T last rs] rfl Try.func48 rfl (Res.tmp rfl (Res.tmp rfl (Res.tmp rfl Res.nil))) ?_ | refine G.retK [Table T last rs] rfl Try.func48 rfl (Res.cellA rfl rfl rfl Res.nil) ?_ | refine G.retK [Table T last rs] rfl Try.func48 rfl (Res.cellA rfl rfl rfl (Res.tmp rfl Res.nil)) ?_ | refine G.retK [Table T last rs] rfl Try.func48 rfl (Res.cell rfl rfl Res.nil) ?_
      simp only [onRec, hr, notifyRec, if_neg h3, set_same hr]
      exact ⟨rfl, rfl⟩
end Go.Proofs.Ytffcilmllebdmaa

namespace Go.Proofs.Ytffcilmllebdmaa
open Go.Am
set_option maxHeartbeats 4000000
set_option linter.unusedVariables false
set_option linter.unusedSimpArgs false
attribute [local irreducible] Ok GR G Fun OpRun EVS

def within (n : Int) : Int := min (max n 0) 4611686018427387903
theorem within_ok (n : Int) : Fun Try.prog 82 [i64 n] [] (Ret (i64 (within n)) []) := by
  refine Fun.enter Try.func82 rfl rfl rfl ?_
  repeat (first | refine G.w0 ?_ | refine G.w1 ?_ | refine G.wn ?_ | refine GR.w ?_ | (refine G.ws (h := ?_); try (simp only [Nat.reduceAdd, Nat.zero_add, List.set_cons_succ, List.set_cons_zero])) | (refine G.wb ?_; intro bx) | (refine G.wz ?_; intro bx) | refine G.wa (h := ?_) | refine G.seq ?_ | refine G.region ?_ | refine G.nil ?_ | refine G.block ?_ | refine G.skip ?_ | refine G.blk ?_ | refine G.wx ?_ | refine G.wt ?_ | refine G.wf ?_)
  first | refine G.retK [] rfl Try.func82 rfl Res.nil ?_ | refine G.retK [] rfl Try.func82 rfl (Res.tmp rfl Res.nil) ?_ | refine G.retK [] rfl Try.func82 rfl (Res.tmp rfl (Res.tmp rfl Res.nil)) ?_ | refine G.retK [] rfl Try.func82 rfl (Res.tmp rfl (Res.tmp rfl (Res.tmp rfl Res.nil))) ?_ | refine G.retK [] rfl Try.func82 rfl (Res.cellA rfl rfl rfl Res.nil) ?_ | refine G.retK [] rfl Try.func82 rfl (Res.cellA rfl rfl rfl (Res.tmp rfl Res.nil)) ?_ | refine G.retK [] rfl Try.func82 rfl (Res.cell rfl rfl Res.nil) ?_
  exact ⟨rfl, rfl⟩

theorem slotsNew_ok : Fun Try.prog 81 [i64 16] [] (fun v H => ∃ S, v = ptr (some S) ∧ H = [Slots S 0 (List.replicate 16 none)]) := by
  refine Fun.enter Try.func81 rfl rfl rfl ?_
  repeat (first | refine G.w0 ?_ | refine G.w1 ?_ | refine G.wn ?_ | refine GR.w ?_ | (refine G.ws (h := ?_); try (simp only [Nat.reduceAdd, Nat.zero_add, List.set_cons_succ, List.set_cons_zero])) | (refine G.wb ?_; intro bx) | (refine G.wz ?_; intro bx) | refine G.wa (h := ?_) | refine G.seq ?_ | refine G.region ?_ | refine G.nil ?_ | refine G.block ?_ | refine G.skip ?_ | refine G.blk ?_ | refine G.wx ?_ | refine G.wt ?_ | refine G.wf ?_)
  (first | refine G.take rfl ?_ | refine G.take_yes rfl rfl rfl (by first | rfl | assumption) ?_)
  refine R.makeSlice rfl rfl (by decide) (by decide) rfl rfl rfl fun C => ?_
  repeat (first | refine G.w0 ?_ | refine G.w1 ?_ | refine G.wn ?_ | refine GR.w ?_ | (refine G.ws (h := ?_); try (simp only [Nat.reduceAdd, Nat.zero_add, List.set_cons_succ, List.set_cons_zero])) | (refine G.wb ?_; intro bx) | (refine G.wz ?_; intro bx) | refine G.wa (h := ?_) | refine G.seq ?_ | refine G.region ?_ | refine G.nil ?_ | refine G.block ?_ | refine G.skip ?_ | refine G.blk ?_ | refine G.wx ?_ | refine G.wt ?_ | refine G.wf ?_)
  refine G.isC bx [.slice (some ⟨C, 0, none⟩) 16 16, .int .i64 0, .int .i64 0] rfl ?_
  refine G.isC C (slotCells (List.replicate 16 none)) rfl ?_
  refine G.close (Slots bx 0 (List.replicate 16 none)) rfl ((C, 0)) (⟨rfl, rfl⟩) (by dsimp only) ?_
  first | refine G.retK [Slots bx 0 (List.replicate 16 none)] rfl Try.func81 rfl Res.nil ?_ | refine G.retK [Slots bx 0 (List.replicate 16 none)] rfl Try.func81 rfl (Res.tmp rfl Res.nil) ?_ | refine G.retK [Slots bx 0 (List.replicate 16 none)] rfl Try.func81 rfl (Res.tmp rfl (Res.tmp rfl Res.nil)) ?_ | refine G.retK [Slots bx 0 (List.replicate 16 none)] rfl Try.func81 rfl (Res.tmp rfl (Res.tmp rfl (Res.tmp rfl Res.nil))) ?_ | refine G.retK [Slots bx 0 (List.replicate 16 none)] rfl Try.func81 rfl (Res.cellA rfl rfl rfl Res.nil) ?_ | refine G.retK [Slots bx 0 (List.replicate 16 none)] rfl Try.func81 rfl (Res.cellA rfl rfl rfl (Res.tmp rfl Res.nil)) ?_ | refine G.retK [Slots bx 0 (List.replicate 16 none)] rfl Try.func81 rfl (Res.cell rfl rfl Res.nil) ?_
  exact ⟨bx, rfl, rfl⟩

def newRec (serial parent : Int) (q : Qt) : Rec := ⟨serial, parent, 0, 0, 0, false, ⟨0, 0, 0, 0, 0, 0, 0, 0, 0⟩, q, ⟨0, 0, 0⟩, ⟨0, 0, 0⟩, []⟩
def qwithin (q : Qt) : Qt := ⟨within q.f, within q.e, within q.x⟩

section
variable {P : Program} {c : Ctx} {ds : List Nat} {todo : List It} {e : Env} {H : List HProp} {Q : Post}

/-- A record that was made is laid at i. -/
theorem G.recNew {ps : List (Option Nat)} {rs : List (Option Rec)} (i : Int) (b : Nat) (r : Rec) (kv : Value) {L : List Value} {T el : TypeId} {n len : Nat} {cs : List Value} {R1 R2 R3 : List HProp} [h1 : DelC H b L T R1] [h2 : DelS R1 kv el n len cs R2] [h3 : SelH R2 (Recs ps rs) R3]
    (hL : L = recCells r kv) (hT : T = 95) (hs : el = 3 ∧ n = 1 ∧ len = r.kids.length ∧ cs = ints r.kids) (hi : 0 ≤ i ∧ i.toNat < ps.length) (hp : getp ps i = none) (hlen : Alike ps rs)
    (k : G P c ds todo e (Recs (ps.set i.toNat (some b)) (rs.set i.toNat (some r)) :: R3) Q) : G P c ds todo e H Q := by
  obtain ⟨rfl, rfl, rfl, rfl⟩ := hs
  subst hL hT
  have hr : rs[i.toNat]?.join = none := by
    have := hlen.get i.toNat
    rw [getp_in hi.1] at hp
    rw [hp] at this
    cases h : rs[i.toNat]?.join <;> simp_all
  have hperm := recs_in ps rs i.toNat b r hi.2 (by rw [← hlen.length]; exact hi.2) (by rw [getp_in hi.1] at hp; exact hp) hr
  refine k.conv fun g w s => ?_
  have s1 : Sat (cb b (recCells r kv) 95 :: OwnS 3 1 kv r.kids.length (ints r.kids) :: Recs ps rs :: R3) g w :=
    s.perm (h1.del.trans (List.Perm.cons _ (h2.del.trans (List.Perm.cons _ h3.sel))))
  have s2 : Sat (recC b r :: Recs ps rs :: R3) g w := Pk.close (p := _) (l := _) kv trivial s1
  have s3 := Sat.sep.1 (s2.perm (.swap _ _ _))
  have s4 : Sat (recC b r :: recsL ps rs ++ R3) g w := s3.perm (by simp)
  exact Sat.sep.2 (s4.perm (List.Perm.append_right R3 hperm.symm))

theorem G.recs0 (k : G P c ds todo e (Recs (List.replicate 16 none) (List.replicate 16 none) :: H) Q) : G P c ds todo e H Q :=
  k.conv fun _ _ s => (Sat.sep (l := [])).2 s
theorem G.nilS (el : TypeId) (n : Nat) (k : G P c ds todo e (OwnS el n (.slice none 0 0) 0 [] :: H) Q) : G P c ds todo e H Q :=
  k.conv fun _ _ s => OwnS.nil el n s
end

theorem New_ok (serial : Int) (q : Qt) : Fun Try.prog 43 [i64 serial, qtVal q] [] (fun v H => ∃ T, v = ptr (some T) ∧ H = [Table T serial (some (newRec serial (-1) (qwithin q)) :: List.replicate 15 none)]) := by
  refine Fun.enter Try.func43 rfl rfl rfl ?_
  repeat (first | refine G.w0 ?_ | refine G.w1 ?_ | refine G.wn ?_ | refine GR.w ?_ | (refine G.ws (h := ?_); try (simp only [Nat.reduceAdd, Nat.zero_add, List.set_cons_succ, List.set_cons_zero])) | (refine G.wb ?_; intro bx) | (refine G.wz ?_; intro bx) | refine G.wa (h := ?_) | refine G.seq ?_ | refine G.region ?_ | refine G.nil ?_ | refine G.block ?_ | refine G.skip ?_ | refine G.blk ?_ | refine G.wx ?_ | refine G.wt ?_ | refine G.wf ?_)
  (first | refine G.take rfl ?_ | refine G.take_yes rfl rfl rfl (by first | rfl | assumption) ?_); (first | refine R.callQ Try.func81 rfl (by decide) rfl rfl (slotsNew_ok) ?_ | refine R.callQ0 Try.func81 rfl (by decide) rfl (slotsNew_ok) ?_); (rintro _ _ ⟨S, rfl, rfl⟩ <;> simp only [List.cons_append, List.nil_append])
  repeat (first | refine G.w0 ?_ | refine G.w1 ?_ | refine G.wn ?_ | refine GR.w ?_ | (refine G.ws (h := ?_); try (simp only [Nat.reduceAdd, Nat.zero_add, List.set_cons_succ, List.set_cons_zero])) | (refine G.wb ?_; intro bx) | (refine G.wz ?_; intro bx) | refine G.wa (h := ?_) | refine G.seq ?_ | refine G.region ?_ | refine G.nil ?_ | refine G.block ?_ | refine G.skip ?_ | refine G.blk ?_ | refine G.wx ?_ | refine G.wt ?_ | refine G.wf ?_)
  (repeat refine G.seq ?_); refine G.draw [0, 1, 2, 3, 4, 5, 6, 7, 8, 9] [] [10] (by kernel_rfl) (by kernel_rfl) rfl rfl rfl ?_
  repeat (first | refine EV.w0 ?_ | refine EV.wy ?_ | refine EV.wn ?_ | refine EV.wm ?_ | (refine EV.wb ?_; intro bx) | refine EV.done ?_)
  refine EV.ok (Ok.callD Try.func82 rfl (by decide) rfl (within_ok _)) ?_
  repeat (first | refine EV.w0 ?_ | refine EV.wy ?_ | refine EV.wn ?_ | refine EV.wm ?_ | (refine EV.wb ?_; intro bx) | refine EV.done ?_)
  refine EV.ok (Ok.callD Try.func82 rfl (by decide) rfl (within_ok _)) ?_
  repeat (first | refine EV.w0 ?_ | refine EV.wy ?_ | refine EV.wn ?_ | refine EV.wm ?_ | (refine EV.wb ?_; intro bx) | refine EV.done ?_)
  refine EV.ok (Ok.callD Try.func82 rfl (by decide) rfl (within_ok _)) ?_
  repeat (first | refine EV.w0 ?_ | refine EV.wy ?_ | refine EV.wn ?_ | refine EV.wm ?_ | (refine EV.wb ?_; intro bx) | refine EV.done ?_)
  repeat (first | refine G.w0 ?_ | refine G.w1 ?_ | refine G.wn ?_ | refine GR.w ?_ | (refine G.ws (h := ?_); try (simp only [Nat.reduceAdd, Nat.zero_add, List.set_cons_succ, List.set_cons_zero])) | (refine G.wb ?_; intro bx) | (refine G.wz ?_; intro bx) | refine G.wa (h := ?_) | refine G.seq ?_ | refine G.region ?_ | refine G.nil ?_ | refine G.block ?_ | refine G.skip ?_ | refine G.blk ?_ | refine G.wx ?_ | refine G.wt ?_ | refine G.wf ?_)
  (repeat refine G.seq ?_); refine G.draw [0, 1, 2, 3, 4, 5, 6, 7, 8, 9] [10] [11] (by kernel_rfl) (by kernel_rfl) rfl rfl rfl ?_
  repeat (first | refine EV.w0 ?_ | refine EV.wy ?_ | refine EV.wn ?_ | refine EV.wm ?_ | (refine EV.wb ?_; intro bx) | refine EV.done ?_)
  (first | refine G.take rfl ?_ | refine G.take_yes rfl rfl rfl (by first | rfl | assumption) ?_); (first | refine R.callQ Try.func54 rfl (by decide) rfl rfl (Put_ok S bx 0 (List.replicate 16 none) ⟨by omega, by omega, fun j a b => by omega⟩) ?_ | refine R.callQ0 Try.func54 rfl (by decide) rfl (Put_ok S bx 0 (List.replicate 16 none) ⟨by omega, by omega, fun j a b => by omega⟩) ?_); (rintro _ _ (⟨r, hr, rfl, rfl⟩ | ⟨hr, rfl, low', _, rfl⟩) <;> simp only [List.cons_append, List.nil_append])
  · have hr0 : r = 0 := by
      obtain ⟨h1, h2, h3, h4⟩ := hr
      by_cases h : r = 0
      · exact h
      · have := h4 0 (by omega) (by omega)
        simp [getp] at this
    subst hr0
    repeat (first | refine G.w0 ?_ | refine G.w1 ?_ | refine G.wn ?_ | refine GR.w ?_ | (refine G.ws (h := ?_); try (simp only [Nat.reduceAdd, Nat.zero_add, List.set_cons_succ, List.set_cons_zero])) | (refine G.wb ?_; intro bx) | (refine G.wz ?_; intro bx) | refine G.wa (h := ?_) | refine G.seq ?_ | refine G.region ?_ | refine G.nil ?_ | refine G.block ?_ | refine G.skip ?_ | refine G.blk ?_ | refine G.wx ?_ | refine G.wt ?_ | refine G.wf ?_)
    rename_i qb tb
    refine G.isC bx (recCells (newRec serial (-1) (qwithin q)) (.slice none 0 0)) rfl ?_
    refine G.isC tb [ptr (some S), i64 serial] rfl ?_
    refine G.recs0 ?_
    refine G.nilS 3 1 ?_
    refine G.recNew (ps := List.replicate 16 none) (rs := List.replicate 16 none) 0 bx (newRec serial (-1) (qwithin q)) (.slice none 0 0) rfl rfl ⟨rfl, rfl, rfl, rfl⟩ ⟨by omega, by decide⟩ rfl rfl ?_
    simp only [Int.toNat_zero]
    change G _ _ _ _ _ (Recs ((List.replicate 16 none).set 0 (some bx)) (some (newRec serial (-1) (qwithin q)) :: List.replicate 15 none) :: _) _
    refine G.close (Table tb serial (some (newRec serial (-1) (qwithin q)) :: List.replicate 15 none)) rfl ((S, 0, List.set (List.replicate 16 none) 0 (some bx))) (⟨⟨by dsimp only; omega, by dsimp only; omega, fun j a b => by dsimp only at b; omega⟩, rfl, rfl⟩) (by dsimp only) ?_
    first | refine G.retK [Table tb serial (some (newRec serial (-1) (qwithin q)) :: List.replicate 15 none)] rfl Try.func43 rfl Res.nil ?_ | refine G.retK [Table tb serial (some (newRec serial (-1) (qwithin q)) :: List.replicate 15 none)] rfl Try.func43 rfl (Res.tmp rfl Res.nil) ?_ | refine G.retK [Table tb serial (some (newRec serial (-1) (qwithin q)) :: List.replicate 15 none)] rfl Try.func43 rfl (Res.tmp rfl (Res.tmp rfl Res.nil)) ?_ | refine G.retK [Table tb serial (some (newRec serial (-1) (qwithin q)) :: List.replicate 15 none)] rfl Try.func43 rfl (Res.tmp rfl (Res.tmp rfl (Res.tmp rfl Res.nil))) ?_ | refine G.retK [Table tb serial (some (newRec serial (-1) (qwithin q)) :: List.replicate 15 none)] rfl Try.func43 rfl (Res.cellA rfl rfl rfl Res.nil) ?_ | refine G.retK [Table tb serial (some (newRec serial (-1) (qwithin q)) :: List.replicate 15 none)] rfl Try.func43 rfl (Res.cellA rfl rfl rfl (Res.tmp rfl Res.nil)) ?_ | refine G.retK [Table tb serial (some (newRec serial (-1) (qwithin q)) :: List.replicate 15 none)] rfl Try.func43 rfl (Res.cell rfl rfl Res.nil) ?_
    exact ⟨tb, rfl, rfl⟩
  · have := hr 0 (by omega) (by omega)
    simp [getp] at this
end Go.Proofs.Ytffcilmllebdmaa
