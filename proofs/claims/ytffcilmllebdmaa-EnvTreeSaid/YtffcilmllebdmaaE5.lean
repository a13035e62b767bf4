/- Quotas. -/
import Derived.Test.YtffcilmllebdmaaE4
namespace Go.Proofs.Ytffcilmllebdmaa
open Go.Am
set_option maxHeartbeats 4000000
set_option linter.unusedVariables false
set_option linter.unusedSimpArgs false
attribute [local irreducible] Ok GR G Fun OpRun EVS

def qadd (a b : Qt) : Qt := ⟨a.f + b.f, a.e + b.e, a.x + b.x⟩
def qsub (a b : Qt) : Qt := ⟨a.f - b.f, a.e - b.e, a.x - b.x⟩
def qone (a : Qt) : Qt := ⟨a.f, a.e + 1, a.x⟩
def qle (a b : Qt) : Prop := a.f ≤ b.f ∧ a.e ≤ b.e ∧ a.x ≤ b.x
instance (a b : Qt) : Decidable (qle a b) := by unfold qle; infer_instance
def qgood (a : Qt) : Prop := 0 ≤ a.f ∧ 0 ≤ a.e ∧ 0 ≤ a.x ∧ a.f ≤ 4611686018427387903 ∧ a.e ≤ 4611686018427387903 ∧ a.x ≤ 4611686018427387903
instance (a : Qt) : Decidable (qgood a) := by unfold qgood; infer_instance

theorem wrap_small {n : Int} (h : -9223372036854775808 ≤ n ∧ n ≤ 9223372036854775807) : IntKind.i64.wrap n = n := by
  exact wrap_id (by omega) (by omega)

def in64 (n : Int) : Prop := -9223372036854775808 ≤ n ∧ n ≤ 9223372036854775807
def Qt.in64 (q : Qt) : Prop := Proofs.Ytffcilmllebdmaa.in64 q.f ∧ Proofs.Ytffcilmllebdmaa.in64 q.e ∧ Proofs.Ytffcilmllebdmaa.in64 q.x

theorem plus_ok (a b : Qt) (h : (qadd a b).in64) : Fun Try.prog 86 [qtVal a, qtVal b] [] (Ret (qtVal (qadd a b)) []) := by
  have w1 : IntKind.i64.wrap (a.f + b.f) = a.f + b.f := wrap_small h.1
  have w2 : IntKind.i64.wrap (a.e + b.e) = a.e + b.e := wrap_small h.2.1
  have w3 : IntKind.i64.wrap (a.x + b.x) = a.x + b.x := wrap_small h.2.2
  refine Fun.enter Try.func86 rfl rfl rfl ?_
  repeat (first | refine G.w0 ?_ | refine G.w1 ?_ | refine G.wn ?_ | refine GR.w ?_ | (refine G.ws (h := ?_); try (simp only [Nat.reduceAdd, Nat.zero_add, List.set_cons_succ, List.set_cons_zero])) | (refine G.wb ?_; intro bx) | (refine G.wz ?_; intro bx) | refine G.wa (h := ?_) | refine G.seq ?_ | refine G.region ?_ | refine G.nil ?_ | refine G.block ?_ | refine G.skip ?_ | refine G.blk ?_ | refine G.wx ?_ | refine G.wt ?_ | refine G.wf ?_)
  first | refine G.retK [] rfl Try.func86 rfl Res.nil ?_ | refine G.retK [] rfl Try.func86 rfl (Res.tmp rfl Res.nil) ?_ | refine G.retK [] rfl Try.func86 rfl (Res.tmp rfl (Res.tmp rfl Res.nil)) ?_ | refine G.retK [] rfl Try.func86 rfl (Res.tmp rfl (Res.tmp rfl (Res.tmp rfl Res.nil))) ?_ | refine G.retK [] rfl Try.func86 rfl (Res.cellA rfl rfl rfl Res.nil) ?_ | refine G.retK [] rfl Try.func86 rfl (Res.cellA rfl rfl rfl (Res.tmp rfl Res.nil)) ?_ | refine G.retK [] rfl Try.func86 rfl (Res.cell rfl rfl Res.nil) ?_
  exact ⟨rfl, rfl⟩

theorem minus_ok (a b : Qt) (h : (qsub a b).in64) : Fun Try.prog 84 [qtVal a, qtVal b] [] (Ret (qtVal (qsub a b)) []) := by
  have w1 : IntKind.i64.wrap (a.f - b.f) = a.f - b.f := wrap_small h.1
  have w2 : IntKind.i64.wrap (a.e - b.e) = a.e - b.e := wrap_small h.2.1
  have w3 : IntKind.i64.wrap (a.x - b.x) = a.x - b.x := wrap_small h.2.2
  refine Fun.enter Try.func84 rfl rfl rfl ?_
  repeat (first | refine G.w0 ?_ | refine G.w1 ?_ | refine G.wn ?_ | refine GR.w ?_ | (refine G.ws (h := ?_); try (simp only [Nat.reduceAdd, Nat.zero_add, List.set_cons_succ, List.set_cons_zero])) | (refine G.wb ?_; intro bx) | (refine G.wz ?_; intro bx) | refine G.wa (h := ?_) | refine G.seq ?_ | refine G.region ?_ | refine G.nil ?_ | refine G.block ?_ | refine G.skip ?_ | refine G.blk ?_ | refine G.wx ?_ | refine G.wt ?_ | refine G.wf ?_)
  first | refine G.retK [] rfl Try.func84 rfl Res.nil ?_ | refine G.retK [] rfl Try.func84 rfl (Res.tmp rfl Res.nil) ?_ | refine G.retK [] rfl Try.func84 rfl (Res.tmp rfl (Res.tmp rfl Res.nil)) ?_ | refine G.retK [] rfl Try.func84 rfl (Res.tmp rfl (Res.tmp rfl (Res.tmp rfl Res.nil))) ?_ | refine G.retK [] rfl Try.func84 rfl (Res.cellA rfl rfl rfl Res.nil) ?_ | refine G.retK [] rfl Try.func84 rfl (Res.cellA rfl rfl rfl (Res.tmp rfl Res.nil)) ?_ | refine G.retK [] rfl Try.func84 rfl (Res.cell rfl rfl Res.nil) ?_
  exact ⟨rfl, rfl⟩

theorem forChild_ok (a : Qt) (h : (qone a).in64) : Fun Try.prog 53 [qtVal a] [] (Ret (qtVal (qone a)) []) := by
  have w2 : IntKind.i64.wrap (a.e + 1) = a.e + 1 := wrap_small h.2.1
  refine Fun.enter Try.func53 rfl rfl rfl ?_
  repeat (first | refine G.w0 ?_ | refine G.w1 ?_ | refine G.wn ?_ | refine GR.w ?_ | (refine G.ws (h := ?_); try (simp only [Nat.reduceAdd, Nat.zero_add, List.set_cons_succ, List.set_cons_zero])) | (refine G.wb ?_; intro bx) | (refine G.wz ?_; intro bx) | refine G.wa (h := ?_) | refine G.seq ?_ | refine G.region ?_ | refine G.nil ?_ | refine G.block ?_ | refine G.skip ?_ | refine G.blk ?_ | refine G.wx ?_ | refine G.wt ?_ | refine G.wf ?_)
  first | refine G.retK [] rfl Try.func53 rfl Res.nil ?_ | refine G.retK [] rfl Try.func53 rfl (Res.tmp rfl Res.nil) ?_ | refine G.retK [] rfl Try.func53 rfl (Res.tmp rfl (Res.tmp rfl Res.nil)) ?_ | refine G.retK [] rfl Try.func53 rfl (Res.tmp rfl (Res.tmp rfl (Res.tmp rfl Res.nil))) ?_ | refine G.retK [] rfl Try.func53 rfl (Res.cellA rfl rfl rfl Res.nil) ?_ | refine G.retK [] rfl Try.func53 rfl (Res.cellA rfl rfl rfl (Res.tmp rfl Res.nil)) ?_ | refine G.retK [] rfl Try.func53 rfl (Res.cell rfl rfl Res.nil) ?_
  exact ⟨rfl, rfl⟩

theorem fits_ok (a b : Qt) : Fun Try.prog 52 [qtVal a, qtVal b] [] (Ret (.bool (decide (qle a b))) []) := by
  refine Fun.enter Try.func52 rfl rfl rfl ?_
  repeat' (first | refine G.w0 ?_ | refine G.w1 ?_ | refine G.wn ?_ | refine GR.w ?_ | (refine G.ws (h := ?_); try (simp only [Nat.reduceAdd, Nat.zero_add, List.set_cons_succ, List.set_cons_zero])) | (refine G.wb ?_; intro bx) | (refine G.wz ?_; intro bx) | refine G.wa (h := ?_) | refine G.seq ?_ | refine G.region ?_ | refine G.nil ?_ | refine G.block ?_ | refine G.skip ?_ | refine G.blk ?_ | refine G.wx ?_ | refine G.wt ?_ | refine G.wf ?_ | ((fail_if_success (first | refine G.take_yes rfl rfl rfl (by first | rfl | assumption) ?_ | refine G.take_n rfl rfl (by first | exact .inl rfl | exact .inr ⟨_, rfl, by first | rfl | assumption⟩) rfl ?_)); refine G.take_split rfl rfl rfl (fun hb => ?_) (fun hb => ?_)) | refine G.cond rfl (fun hb => ?_) (fun hb => ?_))
  all_goals first | refine G.retK [] rfl Try.func52 rfl Res.nil ?_ | refine G.retK [] rfl Try.func52 rfl (Res.tmp rfl Res.nil) ?_ | refine G.retK [] rfl Try.func52 rfl (Res.tmp rfl (Res.tmp rfl Res.nil)) ?_ | refine G.retK [] rfl Try.func52 rfl (Res.tmp rfl (Res.tmp rfl (Res.tmp rfl Res.nil))) ?_ | refine G.retK [] rfl Try.func52 rfl (Res.cellA rfl rfl rfl Res.nil) ?_ | refine G.retK [] rfl Try.func52 rfl (Res.cellA rfl rfl rfl (Res.tmp rfl Res.nil)) ?_ | refine G.retK [] rfl Try.func52 rfl (Res.cell rfl rfl Res.nil) ?_
  all_goals refine ⟨?_, rfl⟩
  all_goals simp_all [packRes, qle]
  all_goals first | (intros; omega) | exact decide_eq_false (by omega)
theorem good_ok (a : Qt) : Fun Try.prog 51 [qtVal a] [] (Ret (.bool (decide (qgood a))) []) := by
  refine Fun.enter Try.func51 rfl rfl rfl ?_
  repeat' (first | refine G.w0 ?_ | refine G.w1 ?_ | refine G.wn ?_ | refine GR.w ?_ | (refine G.ws (h := ?_); try (simp only [Nat.reduceAdd, Nat.zero_add, List.set_cons_succ, List.set_cons_zero])) | (refine G.wb ?_; intro bx) | (refine G.wz ?_; intro bx) | refine G.wa (h := ?_) | refine G.seq ?_ | refine G.region ?_ | refine G.nil ?_ | refine G.block ?_ | refine G.skip ?_ | refine G.blk ?_ | refine G.wx ?_ | refine G.wt ?_ | refine G.wf ?_ | ((fail_if_success (first | refine G.take_yes rfl rfl rfl (by first | rfl | assumption) ?_ | refine G.take_n rfl rfl (by first | exact .inl rfl | exact .inr ⟨_, rfl, by first | rfl | assumption⟩) rfl ?_)); refine G.take_split rfl rfl rfl (fun hb => ?_) (fun hb => ?_)) | refine G.cond rfl (fun hb => ?_) (fun hb => ?_))
  all_goals first | refine G.retK [] rfl Try.func51 rfl Res.nil ?_ | refine G.retK [] rfl Try.func51 rfl (Res.tmp rfl Res.nil) ?_ | refine G.retK [] rfl Try.func51 rfl (Res.tmp rfl (Res.tmp rfl Res.nil)) ?_ | refine G.retK [] rfl Try.func51 rfl (Res.tmp rfl (Res.tmp rfl (Res.tmp rfl Res.nil))) ?_ | refine G.retK [] rfl Try.func51 rfl (Res.cellA rfl rfl rfl Res.nil) ?_ | refine G.retK [] rfl Try.func51 rfl (Res.cellA rfl rfl rfl (Res.tmp rfl Res.nil)) ?_ | refine G.retK [] rfl Try.func51 rfl (Res.cell rfl rfl Res.nil) ?_
  all_goals refine ⟨?_, rfl⟩
  all_goals simp_all [packRes, qgood]
  all_goals first | exact decide_eq_false (by omega) | exact decide_eq_decide.2 (by omega)

/-- A book at b + 21 within a record: whole, paid, carved. -/
def qleft (r : Rec) : Qt := qsub (qsub r.whole r.paid) r.carved
def RecOk (r : Rec) : Prop := qgood r.whole ∧ qgood r.paid ∧ qgood r.carved ∧ qle (qadd r.paid r.carved) r.whole

theorem left_ok (b : Nat) (r : Rec) (kv : Value) (h : RecOk r) : Fun Try.prog 50 [.pointer (some ⟨b, 21, none⟩)] [cb b (recCells r kv) 95] (Ret (qtVal (qleft r)) [cb b (recCells r kv) 95]) := by
  have hw1 : (qsub r.whole r.paid).in64 := by
    obtain ⟨h1, h2, h3, h4⟩ := h
    unfold qgood qle qadd at *; refine ⟨?_, ?_, ?_⟩ <;> simp only [qsub, in64] <;> omega
  have hw2 : (qsub (qsub r.whole r.paid) r.carved).in64 := by
    obtain ⟨h1, h2, h3, h4⟩ := h
    unfold qgood qle qadd at *; refine ⟨?_, ?_, ?_⟩ <;> simp only [qsub, in64] <;> omega
  refine Fun.enter Try.func50 rfl rfl rfl ?_
  repeat (first | refine G.w0 ?_ | refine G.w1 ?_ | refine G.wn ?_ | refine GR.w ?_ | (refine G.ws (h := ?_); try (simp only [Nat.reduceAdd, Nat.zero_add, List.set_cons_succ, List.set_cons_zero])) | (refine G.wb ?_; intro bx) | (refine G.wz ?_; intro bx) | refine G.wa (h := ?_) | refine G.seq ?_ | refine G.region ?_ | refine G.nil ?_ | refine G.block ?_ | refine G.skip ?_ | refine G.blk ?_ | refine G.wx ?_ | refine G.wt ?_ | refine G.wf ?_)
  (repeat refine G.seq ?_); refine G.draw [0, 1, 2, 3, 4, 5, 6, 7, 8, 9, 10, 11, 12, 13] [] [14] (by kernel_rfl) (by kernel_rfl) rfl rfl rfl ?_
  repeat (first | refine EV.w0 ?_ | refine EV.wy ?_ | refine EV.wn ?_ | refine EV.wm ?_ | (refine EV.wb ?_; intro bx) | refine EV.done ?_)
  refine EV.ok (Ok.callD Try.func84 rfl (by decide) rfl (minus_ok _ _ hw1)) ?_
  repeat (first | refine EV.w0 ?_ | refine EV.wy ?_ | refine EV.wn ?_ | refine EV.wm ?_ | (refine EV.wb ?_; intro bx) | refine EV.done ?_)
  refine EV.ok (Ok.callD Try.func84 rfl (by decide) rfl (minus_ok _ _ hw2)) ?_
  repeat (first | refine EV.w0 ?_ | refine EV.wy ?_ | refine EV.wn ?_ | refine EV.wm ?_ | (refine EV.wb ?_; intro bx) | refine EV.done ?_)
  repeat (first | refine G.w0 ?_ | refine G.w1 ?_ | refine G.wn ?_ | refine GR.w ?_ | (refine G.ws (h := ?_); try (simp only [Nat.reduceAdd, Nat.zero_add, List.set_cons_succ, List.set_cons_zero])) | (refine G.wb ?_; intro bx) | (refine G.wz ?_; intro bx) | refine G.wa (h := ?_) | refine G.seq ?_ | refine G.region ?_ | refine G.nil ?_ | refine G.block ?_ | refine G.skip ?_ | refine G.blk ?_ | refine G.wx ?_ | refine G.wt ?_ | refine G.wf ?_)
  first | refine G.retK [cb b (recCells r kv) 95] rfl Try.func50 rfl Res.nil ?_ | refine G.retK [cb b (recCells r kv) 95] rfl Try.func50 rfl (Res.tmp rfl Res.nil) ?_ | refine G.retK [cb b (recCells r kv) 95] rfl Try.func50 rfl (Res.tmp rfl (Res.tmp rfl Res.nil)) ?_ | refine G.retK [cb b (recCells r kv) 95] rfl Try.func50 rfl (Res.tmp rfl (Res.tmp rfl (Res.tmp rfl Res.nil))) ?_ | refine G.retK [cb b (recCells r kv) 95] rfl Try.func50 rfl (Res.cellA rfl rfl rfl Res.nil) ?_ | refine G.retK [cb b (recCells r kv) 95] rfl Try.func50 rfl (Res.cellA rfl rfl rfl (Res.tmp rfl Res.nil)) ?_ | refine G.retK [cb b (recCells r kv) 95] rfl Try.func50 rfl (Res.cell rfl rfl Res.nil) ?_
  exact ⟨rfl, rfl⟩
end Go.Proofs.Ytffcilmllebdmaa
