/- Paying; states; notices. -/
import Derived.Test.YtffcilmllebdmaaE5
namespace Go.Proofs.Ytffcilmllebdmaa
open Go.Am
set_option maxHeartbeats 4000000
set_option linter.unusedVariables false
set_option linter.unusedSimpArgs false
attribute [local irreducible] Ok GR G Fun OpRun EVS

theorem carve_ok (b : Nat) (r : Rec) (kv : Value) (q : Qt) (h1 : (qone q).in64) (h2 : (qadd r.carved (qone q)).in64) :
    Fun Try.prog 55 [.pointer (some ⟨b, 21, none⟩), qtVal q] [cb b (recCells r kv) 95] (Ret (.tuple #[]) [cb b (recCells { r with carved := qadd r.carved (qone q) } kv) 95]) := by
  refine Fun.enter Try.func55 rfl rfl rfl ?_
  repeat (first | refine G.w0 ?_ | refine G.w1 ?_ | refine G.wn ?_ | refine GR.w ?_ | (refine G.ws (h := ?_); try (simp only [Nat.reduceAdd, Nat.zero_add, List.set_cons_succ, List.set_cons_zero])) | (refine G.wb ?_; intro bx) | (refine G.wz ?_; intro bx) | refine G.wa (h := ?_) | refine G.seq ?_ | refine G.region ?_ | refine G.nil ?_ | refine G.block ?_ | refine G.skip ?_ | refine G.blk ?_ | refine G.wx ?_ | refine G.wt ?_ | refine G.wf ?_)
  (repeat refine G.seq ?_); refine G.draw [0, 1, 2, 3, 4, 5, 6, 7] [] [8, 9, 10] (by kernel_rfl) (by kernel_rfl) rfl rfl rfl ?_
  repeat (first | refine EV.w0 ?_ | refine EV.wy ?_ | refine EV.wn ?_ | refine EV.wm ?_ | (refine EV.wb ?_; intro bx) | refine EV.done ?_)
  refine EV.ok (Ok.callD Try.func53 rfl (by decide) rfl (forChild_ok q h1)) ?_
  repeat (first | refine EV.w0 ?_ | refine EV.wy ?_ | refine EV.wn ?_ | refine EV.wm ?_ | (refine EV.wb ?_; intro bx) | refine EV.done ?_)
  refine EV.ok (Ok.callD Try.func86 rfl (by decide) rfl (plus_ok _ _ h2)) ?_
  repeat (first | refine EV.w0 ?_ | refine EV.wy ?_ | refine EV.wn ?_ | refine EV.wm ?_ | (refine EV.wb ?_; intro bx) | refine EV.done ?_)
  repeat (first | refine G.w0 ?_ | refine G.w1 ?_ | refine G.wn ?_ | refine GR.w ?_ | (refine G.ws (h := ?_); try (simp only [Nat.reduceAdd, Nat.zero_add, List.set_cons_succ, List.set_cons_zero])) | (refine G.wb ?_; intro bx) | (refine G.wz ?_; intro bx) | refine G.wa (h := ?_) | refine G.seq ?_ | refine G.region ?_ | refine G.nil ?_ | refine G.block ?_ | refine G.skip ?_ | refine G.blk ?_ | refine G.wx ?_ | refine G.wt ?_ | refine G.wf ?_)
  refine G.isC b (recCells { r with carved := qadd r.carved (qone q) } kv) rfl ?_
  first | refine G.endK [cb b (recCells { r with carved := qadd r.carved (qone q) } kv) 95] rfl Try.func55 rfl Res.nil ?_ | refine G.endK [cb b (recCells { r with carved := qadd r.carved (qone q) } kv) 95] rfl Try.func55 rfl (Res.tmp rfl Res.nil) ?_ | refine G.endK [cb b (recCells { r with carved := qadd r.carved (qone q) } kv) 95] rfl Try.func55 rfl (Res.tmp rfl (Res.tmp rfl Res.nil)) ?_ | refine G.endK [cb b (recCells { r with carved := qadd r.carved (qone q) } kv) 95] rfl Try.func55 rfl (Res.tmp rfl (Res.tmp rfl (Res.tmp rfl Res.nil))) ?_ | refine G.endK [cb b (recCells { r with carved := qadd r.carved (qone q) } kv) 95] rfl Try.func55 rfl (Res.cellA rfl rfl rfl Res.nil) ?_ | refine G.endK [cb b (recCells { r with carved := qadd r.carved (qone q) } kv) 95] rfl Try.func55 rfl (Res.cellA rfl rfl rfl (Res.tmp rfl Res.nil)) ?_ | refine G.endK [cb b (recCells { r with carved := qadd r.carved (qone q) } kv) 95] rfl Try.func55 rfl (Res.cell rfl rfl Res.nil) ?_
  exact ⟨rfl, rfl⟩

theorem uncarve_ok (b : Nat) (r : Rec) (kv : Value) (q : Qt) (h1 : (qone q).in64) (h2 : (qsub r.carved (qone q)).in64) :
    Fun Try.prog 60 [.pointer (some ⟨b, 21, none⟩), qtVal q] [cb b (recCells r kv) 95] (Ret (.tuple #[]) [cb b (recCells { r with carved := qsub r.carved (qone q) } kv) 95]) := by
  refine Fun.enter Try.func60 rfl rfl rfl ?_
  repeat (first | refine G.w0 ?_ | refine G.w1 ?_ | refine G.wn ?_ | refine GR.w ?_ | (refine G.ws (h := ?_); try (simp only [Nat.reduceAdd, Nat.zero_add, List.set_cons_succ, List.set_cons_zero])) | (refine G.wb ?_; intro bx) | (refine G.wz ?_; intro bx) | refine G.wa (h := ?_) | refine G.seq ?_ | refine G.region ?_ | refine G.nil ?_ | refine G.block ?_ | refine G.skip ?_ | refine G.blk ?_ | refine G.wx ?_ | refine G.wt ?_ | refine G.wf ?_)
  (repeat refine G.seq ?_); refine G.draw [0, 1, 2, 3, 4, 5, 6, 7] [] [8, 9, 10] (by kernel_rfl) (by kernel_rfl) rfl rfl rfl ?_
  repeat (first | refine EV.w0 ?_ | refine EV.wy ?_ | refine EV.wn ?_ | refine EV.wm ?_ | (refine EV.wb ?_; intro bx) | refine EV.done ?_)
  refine EV.ok (Ok.callD Try.func53 rfl (by decide) rfl (forChild_ok q h1)) ?_
  repeat (first | refine EV.w0 ?_ | refine EV.wy ?_ | refine EV.wn ?_ | refine EV.wm ?_ | (refine EV.wb ?_; intro bx) | refine EV.done ?_)
  refine EV.ok (Ok.callD Try.func84 rfl (by decide) rfl (minus_ok _ _ h2)) ?_
  repeat (first | refine EV.w0 ?_ | refine EV.wy ?_ | refine EV.wn ?_ | refine EV.wm ?_ | (refine EV.wb ?_; intro bx) | refine EV.done ?_)
  repeat (first | refine G.w0 ?_ | refine G.w1 ?_ | refine G.wn ?_ | refine GR.w ?_ | (refine G.ws (h := ?_); try (simp only [Nat.reduceAdd, Nat.zero_add, List.set_cons_succ, List.set_cons_zero])) | (refine G.wb ?_; intro bx) | (refine G.wz ?_; intro bx) | refine G.wa (h := ?_) | refine G.seq ?_ | refine G.region ?_ | refine G.nil ?_ | refine G.block ?_ | refine G.skip ?_ | refine G.blk ?_ | refine G.wx ?_ | refine G.wt ?_ | refine G.wf ?_)
  refine G.isC b (recCells { r with carved := qsub r.carved (qone q) } kv) rfl ?_
  first | refine G.endK [cb b (recCells { r with carved := qsub r.carved (qone q) } kv) 95] rfl Try.func60 rfl Res.nil ?_ | refine G.endK [cb b (recCells { r with carved := qsub r.carved (qone q) } kv) 95] rfl Try.func60 rfl (Res.tmp rfl Res.nil) ?_ | refine G.endK [cb b (recCells { r with carved := qsub r.carved (qone q) } kv) 95] rfl Try.func60 rfl (Res.tmp rfl (Res.tmp rfl Res.nil)) ?_ | refine G.endK [cb b (recCells { r with carved := qsub r.carved (qone q) } kv) 95] rfl Try.func60 rfl (Res.tmp rfl (Res.tmp rfl (Res.tmp rfl Res.nil))) ?_ | refine G.endK [cb b (recCells { r with carved := qsub r.carved (qone q) } kv) 95] rfl Try.func60 rfl (Res.cellA rfl rfl rfl Res.nil) ?_ | refine G.endK [cb b (recCells { r with carved := qsub r.carved (qone q) } kv) 95] rfl Try.func60 rfl (Res.cellA rfl rfl rfl (Res.tmp rfl Res.nil)) ?_ | refine G.endK [cb b (recCells { r with carved := qsub r.carved (qone q) } kv) 95] rfl Try.func60 rfl (Res.cell rfl rfl Res.nil) ?_
  exact ⟨rfl, rfl⟩

def payRec (q : Qt) (r : Rec) : Int × Rec := if qgood q then if qle q (qleft r) then (0, { r with paid := qadd r.paid q }) else (2, r) else (1, r)
def refundRec (q : Qt) (r : Rec) : Int × Rec := if qgood q ∧ qle q r.paid then (0, { r with paid := qsub r.paid q }) else (1, r)

theorem pay_ok (b : Nat) (r : Rec) (kv : Value) (q : Qt) (h : RecOk r) :
    Fun Try.prog 56 [.pointer (some ⟨b, 21, none⟩), qtVal q] [cb b (recCells r kv) 95] (Ret (i64 (payRec q r).1) [cb b (recCells (payRec q r).2 kv) 95]) := by
  refine Fun.enter Try.func56 rfl rfl rfl ?_
  repeat (first | refine G.w0 ?_ | refine G.w1 ?_ | refine G.wn ?_ | refine GR.w ?_ | (refine G.ws (h := ?_); try (simp only [Nat.reduceAdd, Nat.zero_add, List.set_cons_succ, List.set_cons_zero])) | (refine G.wb ?_; intro bx) | (refine G.wz ?_; intro bx) | refine G.wa (h := ?_) | refine G.seq ?_ | refine G.region ?_ | refine G.nil ?_ | refine G.block ?_ | refine G.skip ?_ | refine G.blk ?_ | refine G.wx ?_ | refine G.wt ?_ | refine G.wf ?_)
  (first | refine G.take rfl ?_ | refine G.take_yes rfl rfl rfl (by first | rfl | assumption) ?_); (first | refine R.callD Try.func51 rfl (by decide) rfl rfl (good_ok q) ?_ | refine R.callD0 Try.func51 rfl (by decide) rfl (good_ok q) ?_); simp only [List.cons_append, List.nil_append]
  repeat (first | refine G.w0 ?_ | refine G.w1 ?_ | refine G.wn ?_ | refine GR.w ?_ | (refine G.ws (h := ?_); try (simp only [Nat.reduceAdd, Nat.zero_add, List.set_cons_succ, List.set_cons_zero])) | (refine G.wb ?_; intro bx) | (refine G.wz ?_; intro bx) | refine G.wa (h := ?_) | refine G.seq ?_ | refine G.region ?_ | refine G.nil ?_ | refine G.block ?_ | refine G.skip ?_ | refine G.blk ?_ | refine G.wx ?_ | refine G.wt ?_ | refine G.wf ?_)
  refine G.cond rfl (fun hb => ?_) (fun hb => ?_)
  · repeat (first | refine G.w0 ?_ | refine G.w1 ?_ | refine G.wn ?_ | refine GR.w ?_ | (refine G.ws (h := ?_); try (simp only [Nat.reduceAdd, Nat.zero_add, List.set_cons_succ, List.set_cons_zero])) | (refine G.wb ?_; intro bx) | (refine G.wz ?_; intro bx) | refine G.wa (h := ?_) | refine G.seq ?_ | refine G.region ?_ | refine G.nil ?_ | refine G.block ?_ | refine G.skip ?_ | refine G.blk ?_ | refine G.wx ?_ | refine G.wt ?_ | refine G.wf ?_)
    have hq : ¬ qgood q := by simpa using hb
    simp only [payRec, if_neg hq]
    first | refine G.retK [cb b (recCells r kv) 95] rfl Try.func56 rfl Res.nil ?_ | refine G.retK [cb b (recCells r kv) 95] rfl Try.func56 rfl (Res.tmp rfl Res.nil) ?_ | refine G.retK [cb b (recCells r kv) 95] rfl Try.func56 rfl (Res.tmp rfl (Res.tmp rfl Res.nil)) ?_ | refine G.retK [cb b (recCells r kv) 95] rfl Try.func56 rfl (Res.tmp rfl (Res.tmp rfl (Res.tmp rfl Res.nil))) ?_ | refine G.retK [cb b (recCells r kv) 95] rfl Try.func56 rfl (Res.cellA rfl rfl rfl Res.nil) ?_ | refine G.retK [cb b (recCells r kv) 95] rfl Try.func56 rfl (Res.cellA rfl rfl rfl (Res.tmp rfl Res.nil)) ?_ | refine G.retK [cb b (recCells r kv) 95] rfl Try.func56 rfl (Res.cell rfl rfl Res.nil) ?_
    exact ⟨rfl, rfl⟩
  · repeat (first | refine G.w0 ?_ | refine G.w1 ?_ | refine G.wn ?_ | refine GR.w ?_ | (refine G.ws (h := ?_); try (simp only [Nat.reduceAdd, Nat.zero_add, List.set_cons_succ, List.set_cons_zero])) | (refine G.wb ?_; intro bx) | (refine G.wz ?_; intro bx) | refine G.wa (h := ?_) | refine G.seq ?_ | refine G.region ?_ | refine G.nil ?_ | refine G.block ?_ | refine G.skip ?_ | refine G.blk ?_ | refine G.wx ?_ | refine G.wt ?_ | refine G.wf ?_)
    have hq : qgood q := by simpa using hb
    (repeat refine G.seq ?_); refine G.draw [0, 1, 2, 3, 4] [] [] (by kernel_rfl) (by kernel_rfl) rfl rfl rfl ?_
    repeat (first | refine EV.w0 ?_ | refine EV.wy ?_ | refine EV.wn ?_ | refine EV.wm ?_ | (refine EV.wb ?_; intro bx) | refine EV.done ?_)
    refine EV.ok (Ok.callD Try.func50 rfl (by decide) rfl (left_ok b r kv h)) ?_
    repeat (first | refine EV.w0 ?_ | refine EV.wy ?_ | refine EV.wn ?_ | refine EV.wm ?_ | (refine EV.wb ?_; intro bx) | refine EV.done ?_)
    refine EV.ok (Ok.callD Try.func52 rfl (by decide) rfl (fits_ok q _)) ?_
    repeat (first | refine EV.w0 ?_ | refine EV.wy ?_ | refine EV.wn ?_ | refine EV.wm ?_ | (refine EV.wb ?_; intro bx) | refine EV.done ?_)
    repeat (first | refine G.w0 ?_ | refine G.w1 ?_ | refine G.wn ?_ | refine GR.w ?_ | (refine G.ws (h := ?_); try (simp only [Nat.reduceAdd, Nat.zero_add, List.set_cons_succ, List.set_cons_zero])) | (refine G.wb ?_; intro bx) | (refine G.wz ?_; intro bx) | refine G.wa (h := ?_) | refine G.seq ?_ | refine G.region ?_ | refine G.nil ?_ | refine G.block ?_ | refine G.skip ?_ | refine G.blk ?_ | refine G.wx ?_ | refine G.wt ?_ | refine G.wf ?_)
    refine G.cond rfl (fun hb => ?_) (fun hb => ?_)
    · repeat (first | refine G.w0 ?_ | refine G.w1 ?_ | refine G.wn ?_ | refine GR.w ?_ | (refine G.ws (h := ?_); try (simp only [Nat.reduceAdd, Nat.zero_add, List.set_cons_succ, List.set_cons_zero])) | (refine G.wb ?_; intro bx) | (refine G.wz ?_; intro bx) | refine G.wa (h := ?_) | refine G.seq ?_ | refine G.region ?_ | refine G.nil ?_ | refine G.block ?_ | refine G.skip ?_ | refine G.blk ?_ | refine G.wx ?_ | refine G.wt ?_ | refine G.wf ?_)
      have hl : ¬ qle q (qleft r) := by simpa using hb
      simp only [payRec, if_pos hq, if_neg hl]
      first | refine G.retK [cb b (recCells r kv) 95] rfl Try.func56 rfl Res.nil ?_ | refine G.retK [cb b (recCells r kv) 95] rfl Try.func56 rfl (Res.tmp rfl Res.nil) ?_ | refine G.retK [cb b (recCells r kv) 95] rfl Try.func56 rfl (Res.tmp rfl (Res.tmp rfl Res.nil)) ?_ | refine G.retK [cb b (recCells r kv) 95] rfl Try.func56 rfl (Res.tmp rfl (Res.tmp rfl (Res.tmp rfl Res.nil))) ?_ | refine G.retK [cb b (recCells r kv) 95] rfl Try.func56 rfl (Res.cellA rfl rfl rfl Res.nil) ?_ | refine G.retK [cb b (recCells r kv) 95] rfl Try.func56 rfl (Res.cellA rfl rfl rfl (Res.tmp rfl Res.nil)) ?_ | refine G.retK [cb b (recCells r kv) 95] rfl Try.func56 rfl (Res.cell rfl rfl Res.nil) ?_
      exact ⟨rfl, rfl⟩
    · repeat (first | refine G.w0 ?_ | refine G.w1 ?_ | refine G.wn ?_ | refine GR.w ?_ | (refine G.ws (h := ?_); try (simp only [Nat.reduceAdd, Nat.zero_add, List.set_cons_succ, List.set_cons_zero])) | (refine G.wb ?_; intro bx) | (refine G.wz ?_; intro bx) | refine G.wa (h := ?_) | refine G.seq ?_ | refine G.region ?_ | refine G.nil ?_ | refine G.block ?_ | refine G.skip ?_ | refine G.blk ?_ | refine G.wx ?_ | refine G.wt ?_ | refine G.wf ?_)
      have hl : qle q (qleft r) := by simpa using hb
      have hs : (qadd r.paid q).in64 := by
        obtain ⟨h1, h2, h3, h4⟩ := h
        unfold qgood qle qleft qsub qadd at *; refine ⟨?_, ?_, ?_⟩ <;> simp only [qadd, in64] <;> omega
      simp only [payRec, if_pos hq, if_pos hl]
      (repeat refine G.seq ?_); refine G.draw [0, 1, 2, 3, 4, 5, 6] [] [7, 8, 9] (by kernel_rfl) (by kernel_rfl) rfl rfl rfl ?_
      repeat (first | refine EV.w0 ?_ | refine EV.wy ?_ | refine EV.wn ?_ | refine EV.wm ?_ | (refine EV.wb ?_; intro bx) | refine EV.done ?_)
      refine EV.ok (Ok.callD Try.func86 rfl (by decide) rfl (plus_ok _ _ hs)) ?_
      repeat (first | refine EV.w0 ?_ | refine EV.wy ?_ | refine EV.wn ?_ | refine EV.wm ?_ | (refine EV.wb ?_; intro bx) | refine EV.done ?_)
      repeat (first | refine G.w0 ?_ | refine G.w1 ?_ | refine G.wn ?_ | refine GR.w ?_ | (refine G.ws (h := ?_); try (simp only [Nat.reduceAdd, Nat.zero_add, List.set_cons_succ, List.set_cons_zero])) | (refine G.wb ?_; intro bx) | (refine G.wz ?_; intro bx) | refine G.wa (h := ?_) | refine G.seq ?_ | refine G.region ?_ | refine G.nil ?_ | refine G.block ?_ | refine G.skip ?_ | refine G.blk ?_ | refine G.wx ?_ | refine G.wt ?_ | refine G.wf ?_)
      refine G.isC b (recCells { r with paid := qadd r.paid q } kv) rfl ?_
      first | refine G.retK [cb b (recCells { r with paid := qadd r.paid q } kv) 95] rfl Try.func56 rfl Res.nil ?_ | refine G.retK [cb b (recCells { r with paid := qadd r.paid q } kv) 95] rfl Try.func56 rfl (Res.tmp rfl Res.nil) ?_ | refine G.retK [cb b (recCells { r with paid := qadd r.paid q } kv) 95] rfl Try.func56 rfl (Res.tmp rfl (Res.tmp rfl Res.nil)) ?_ | refine G.retK [cb b (recCells { r with paid := qadd r.paid q } kv) 95] rfl Try.func56 rfl (Res.tmp rfl (Res.tmp rfl (Res.tmp rfl Res.nil))) ?_ | refine G.retK [cb b (recCells { r with paid := qadd r.paid q } kv) 95] rfl Try.func56 rfl (Res.cellA rfl rfl rfl Res.nil) ?_ | refine G.retK [cb b (recCells { r with paid := qadd r.paid q } kv) 95] rfl Try.func56 rfl (Res.cellA rfl rfl rfl (Res.tmp rfl Res.nil)) ?_ | refine G.retK [cb b (recCells { r with paid := qadd r.paid q } kv) 95] rfl Try.func56 rfl (Res.cell rfl rfl Res.nil) ?_
      exact ⟨rfl, rfl⟩

theorem refund_ok (b : Nat) (r : Rec) (kv : Value) (q : Qt) (h : RecOk r) :
    Fun Try.prog 57 [.pointer (some ⟨b, 21, none⟩), qtVal q] [cb b (recCells r kv) 95] (Ret (i64 (refundRec q r).1) [cb b (recCells (refundRec q r).2 kv) 95]) := by
  refine Fun.enter Try.func57 rfl rfl rfl ?_
  repeat (first | refine G.w0 ?_ | refine G.w1 ?_ | refine G.wn ?_ | refine GR.w ?_ | (refine G.ws (h := ?_); try (simp only [Nat.reduceAdd, Nat.zero_add, List.set_cons_succ, List.set_cons_zero])) | (refine G.wb ?_; intro bx) | (refine G.wz ?_; intro bx) | refine G.wa (h := ?_) | refine G.seq ?_ | refine G.region ?_ | refine G.nil ?_ | refine G.block ?_ | refine G.skip ?_ | refine G.blk ?_ | refine G.wx ?_ | refine G.wt ?_ | refine G.wf ?_)
  (repeat refine G.seq ?_); refine G.draw [0, 1, 2, 3, 4, 5, 6, 7, 8, 9, 10, 11] [] [] (by kernel_rfl) (by kernel_rfl) rfl rfl rfl ?_
  repeat (first | refine EV.w0 ?_ | refine EV.wy ?_ | refine EV.wn ?_ | refine EV.wm ?_ | (refine EV.wb ?_; intro bx) | refine EV.done ?_)
  refine EV.ok (Ok.callD Try.func51 rfl (by decide) rfl (good_ok q)) ?_
  repeat (first | refine EV.w0 ?_ | refine EV.wy ?_ | refine EV.wn ?_ | refine EV.wm ?_ | (refine EV.wb ?_; intro bx) | refine EV.done ?_)
  ((fail_if_success (first | refine EV.yes (v := .bool true) rfl rfl (by first | rfl | assumption) ?_ ?_ | refine EV.no rfl rfl (by first | exact .inl rfl | exact .inr ⟨_, rfl, by first | rfl | assumption⟩) ?_)); refine EV.split rfl rfl rfl (fun hb => ?_) (fun hb => ?_))
  · repeat (first | refine EV.w0 ?_ | refine EV.wy ?_ | refine EV.wn ?_ | refine EV.wm ?_ | (refine EV.wb ?_; intro bx) | refine EV.done ?_)
    refine EV.yes rfl rfl hb (Ok.callD Try.func52 rfl (by decide) rfl (fits_ok q r.paid)) ?_
    repeat (first | refine EV.w0 ?_ | refine EV.wy ?_ | refine EV.wn ?_ | refine EV.wm ?_ | (refine EV.wb ?_; intro bx) | refine EV.done ?_)
    repeat (first | refine G.w0 ?_ | refine G.w1 ?_ | refine G.wn ?_ | refine GR.w ?_ | (refine G.ws (h := ?_); try (simp only [Nat.reduceAdd, Nat.zero_add, List.set_cons_succ, List.set_cons_zero])) | (refine G.wb ?_; intro bx) | (refine G.wz ?_; intro bx) | refine G.wa (h := ?_) | refine G.seq ?_ | refine G.region ?_ | refine G.nil ?_ | refine G.block ?_ | refine G.skip ?_ | refine G.blk ?_ | refine G.wx ?_ | refine G.wt ?_ | refine G.wf ?_)
    refine G.cond rfl (fun hb => ?_) (fun hb => ?_)
    · repeat (first | refine G.w0 ?_ | refine G.w1 ?_ | refine G.wn ?_ | refine GR.w ?_ | (refine G.ws (h := ?_); try (simp only [Nat.reduceAdd, Nat.zero_add, List.set_cons_succ, List.set_cons_zero])) | (refine G.wb ?_; intro bx) | (refine G.wz ?_; intro bx) | refine G.wa (h := ?_) | refine G.seq ?_ | refine G.region ?_ | refine G.nil ?_ | refine G.block ?_ | refine G.skip ?_ | refine G.blk ?_ | refine G.wx ?_ | refine G.wt ?_ | refine G.wf ?_)
      have hl : ¬ (qgood q ∧ qle q r.paid) := by simp at hb; exact fun h => hb h.2
      simp only [refundRec, if_neg hl]
      first | refine G.retK [cb b (recCells r kv) 95] rfl Try.func57 rfl Res.nil ?_ | refine G.retK [cb b (recCells r kv) 95] rfl Try.func57 rfl (Res.tmp rfl Res.nil) ?_ | refine G.retK [cb b (recCells r kv) 95] rfl Try.func57 rfl (Res.tmp rfl (Res.tmp rfl Res.nil)) ?_ | refine G.retK [cb b (recCells r kv) 95] rfl Try.func57 rfl (Res.tmp rfl (Res.tmp rfl (Res.tmp rfl Res.nil))) ?_ | refine G.retK [cb b (recCells r kv) 95] rfl Try.func57 rfl (Res.cellA rfl rfl rfl Res.nil) ?_ | refine G.retK [cb b (recCells r kv) 95] rfl Try.func57 rfl (Res.cellA rfl rfl rfl (Res.tmp rfl Res.nil)) ?_ | refine G.retK [cb b (recCells r kv) 95] rfl Try.func57 rfl (Res.cell rfl rfl Res.nil) ?_
      exact ⟨rfl, rfl⟩
    · repeat (first | refine G.w0 ?_ | refine G.w1 ?_ | refine G.wn ?_ | refine GR.w ?_ | (refine G.ws (h := ?_); try (simp only [Nat.reduceAdd, Nat.zero_add, List.set_cons_succ, List.set_cons_zero])) | (refine G.wb ?_; intro bx) | (refine G.wz ?_; intro bx) | refine G.wa (h := ?_) | refine G.seq ?_ | refine G.region ?_ | refine G.nil ?_ | refine G.block ?_ | refine G.skip ?_ | refine G.blk ?_ | refine G.wx ?_ | refine G.wt ?_ | refine G.wf ?_)
      have hl : qgood q ∧ qle q r.paid := by simp_all
      have hs : (qsub r.paid q).in64 := by
        obtain ⟨h1, h2, h3, h4⟩ := h
        obtain ⟨g1, g2⟩ := hl
        unfold qgood qle qadd at *; refine ⟨?_, ?_, ?_⟩ <;> simp only [qsub, in64] <;> omega
      simp only [refundRec, if_pos hl]
      (repeat refine G.seq ?_); refine G.draw [0, 1, 2, 3, 4, 5, 6] [] [7, 8, 9] (by kernel_rfl) (by kernel_rfl) rfl rfl rfl ?_
      repeat (first | refine EV.w0 ?_ | refine EV.wy ?_ | refine EV.wn ?_ | refine EV.wm ?_ | (refine EV.wb ?_; intro bx) | refine EV.done ?_)
      refine EV.ok (Ok.callD Try.func84 rfl (by decide) rfl (minus_ok _ _ hs)) ?_
      repeat (first | refine EV.w0 ?_ | refine EV.wy ?_ | refine EV.wn ?_ | refine EV.wm ?_ | (refine EV.wb ?_; intro bx) | refine EV.done ?_)
      repeat (first | refine G.w0 ?_ | refine G.w1 ?_ | refine G.wn ?_ | refine GR.w ?_ | (refine G.ws (h := ?_); try (simp only [Nat.reduceAdd, Nat.zero_add, List.set_cons_succ, List.set_cons_zero])) | (refine G.wb ?_; intro bx) | (refine G.wz ?_; intro bx) | refine G.wa (h := ?_) | refine G.seq ?_ | refine G.region ?_ | refine G.nil ?_ | refine G.block ?_ | refine G.skip ?_ | refine G.blk ?_ | refine G.wx ?_ | refine G.wt ?_ | refine G.wf ?_)
      refine G.isC b (recCells { r with paid := qsub r.paid q } kv) rfl ?_
      first | refine G.retK [cb b (recCells { r with paid := qsub r.paid q } kv) 95] rfl Try.func57 rfl Res.nil ?_ | refine G.retK [cb b (recCells { r with paid := qsub r.paid q } kv) 95] rfl Try.func57 rfl (Res.tmp rfl Res.nil) ?_ | refine G.retK [cb b (recCells { r with paid := qsub r.paid q } kv) 95] rfl Try.func57 rfl (Res.tmp rfl (Res.tmp rfl Res.nil)) ?_ | refine G.retK [cb b (recCells { r with paid := qsub r.paid q } kv) 95] rfl Try.func57 rfl (Res.tmp rfl (Res.tmp rfl (Res.tmp rfl Res.nil))) ?_ | refine G.retK [cb b (recCells { r with paid := qsub r.paid q } kv) 95] rfl Try.func57 rfl (Res.cellA rfl rfl rfl Res.nil) ?_ | refine G.retK [cb b (recCells { r with paid := qsub r.paid q } kv) 95] rfl Try.func57 rfl (Res.cellA rfl rfl rfl (Res.tmp rfl Res.nil)) ?_ | refine G.retK [cb b (recCells { r with paid := qsub r.paid q } kv) 95] rfl Try.func57 rfl (Res.cell rfl rfl Res.nil) ?_
      exact ⟨rfl, rfl⟩
  · repeat (first | refine EV.w0 ?_ | refine EV.wy ?_ | refine EV.wn ?_ | refine EV.wm ?_ | (refine EV.wb ?_; intro bx) | refine EV.done ?_)
    repeat (first | refine G.w0 ?_ | refine G.w1 ?_ | refine G.wn ?_ | refine GR.w ?_ | (refine G.ws (h := ?_); try (simp only [Nat.reduceAdd, Nat.zero_add, List.set_cons_succ, List.set_cons_zero])) | (refine G.wb ?_; intro bx) | (refine G.wz ?_; intro bx) | refine G.wa (h := ?_) | refine G.seq ?_ | refine G.region ?_ | refine G.nil ?_ | refine G.block ?_ | refine G.skip ?_ | refine G.blk ?_ | refine G.wx ?_ | refine G.wt ?_ | refine G.wf ?_)
    have hl : ¬ (qgood q ∧ qle q r.paid) := by simp_all
    simp only [refundRec, if_neg hl]
    first | refine G.retK [cb b (recCells r kv) 95] rfl Try.func57 rfl Res.nil ?_ | refine G.retK [cb b (recCells r kv) 95] rfl Try.func57 rfl (Res.tmp rfl Res.nil) ?_ | refine G.retK [cb b (recCells r kv) 95] rfl Try.func57 rfl (Res.tmp rfl (Res.tmp rfl Res.nil)) ?_ | refine G.retK [cb b (recCells r kv) 95] rfl Try.func57 rfl (Res.tmp rfl (Res.tmp rfl (Res.tmp rfl Res.nil))) ?_ | refine G.retK [cb b (recCells r kv) 95] rfl Try.func57 rfl (Res.cellA rfl rfl rfl Res.nil) ?_ | refine G.retK [cb b (recCells r kv) 95] rfl Try.func57 rfl (Res.cellA rfl rfl rfl (Res.tmp rfl Res.nil)) ?_ | refine G.retK [cb b (recCells r kv) 95] rfl Try.func57 rfl (Res.cell rfl rfl Res.nil) ?_
    exact ⟨rfl, rfl⟩

theorem RecOk.pay {r : Rec} (h : RecOk r) (q : Qt) : RecOk (payRec q r).2 := by
  unfold payRec
  split
  · split
    · rename_i hg hl
      obtain ⟨h1, h2, h3, h4⟩ := h
      unfold RecOk
      unfold qgood qle qleft qsub qadd at *; dsimp only at *; omega
    · exact h
  · exact h
theorem RecOk.refund {r : Rec} (h : RecOk r) (q : Qt) : RecOk (refundRec q r).2 := by
  unfold refundRec
  split
  · rename_i hg
    obtain ⟨h1, h2, h3, h4⟩ := h
    unfold RecOk
    unfold qgood qle qsub qadd at *; dsimp only at *; omega
  · exact h

theorem payRec_kids (q : Qt) (r : Rec) : (payRec q r).2.kids = r.kids := by unfold payRec; split <;> first | rfl | (split <;> rfl)
theorem refundRec_kids (q : Qt) (r : Rec) : (refundRec q r).2.kids = r.kids := by unfold refundRec; split <;> rfl

theorem Pay_ok (T : Nat) (last : Int) (rs : List (Option Rec)) (e : Int) (q : Qt) (hok : ∀ r, getr rs e = some r → RecOk r) : Fun Try.prog 19 [ptr (some T), i64 e, qtVal q] [Table T last rs]
    (Ret (i64 (onRec rs e (payRec q)).1) [Table T last (onRec rs e (payRec q)).2]) := by
  refine Fun.enter Try.func19 rfl rfl rfl ?_
  refine G.open (Table T last rs) rfl ?_
  rintro ⟨S, low, ps⟩ ⟨hlow, hal, hl⟩
  simp only [List.cons_append, List.nil_append]
  rcases hp : getp ps e with _ | b
  · repeat (first | refine G.w0 ?_ | refine G.w1 ?_ | refine G.wn ?_ | refine GR.w ?_ | (refine G.ws (h := ?_); try (simp only [Nat.reduceAdd, Nat.zero_add, List.set_cons_succ, List.set_cons_zero])) | (refine G.wb ?_; intro bx) | (refine G.wz ?_; intro bx) | refine G.wa (h := ?_) | refine G.seq ?_ | refine G.region ?_ | refine G.nil ?_ | refine G.block ?_ | refine G.skip ?_ | refine G.blk ?_ | refine G.wx ?_ | refine G.wt ?_ | refine G.wf ?_)
    (first | refine G.take rfl ?_ | refine G.take_yes rfl rfl rfl (by first | rfl | assumption) ?_); (first | refine R.callD Try.func44 rfl (by decide) rfl rfl (at_ok S low e ps _ hp) ?_ | refine R.callD0 Try.func44 rfl (by decide) rfl (at_ok S low e ps _ hp) ?_); simp only [List.cons_append, List.nil_append]
    repeat (first | refine G.w0 ?_ | refine G.w1 ?_ | refine G.wn ?_ | refine GR.w ?_ | (refine G.ws (h := ?_); try (simp only [Nat.reduceAdd, Nat.zero_add, List.set_cons_succ, List.set_cons_zero])) | (refine G.wb ?_; intro bx) | (refine G.wz ?_; intro bx) | refine G.wa (h := ?_) | refine G.seq ?_ | refine G.region ?_ | refine G.nil ?_ | refine G.block ?_ | refine G.skip ?_ | refine G.blk ?_ | refine G.wx ?_ | refine G.wt ?_ | refine G.wf ?_)
    refine G.close (Table T last rs) rfl ((S, low, ps)) (⟨hlow, hal, hl⟩) (by dsimp only) ?_
    first | refine G.retK [Table T last rs] rfl Try.func19 rfl Res.nil ?_ | refine G.retK [Table T last rs] rfl Try.func19 rfl (Res.tmp rfl Res.nil) ?_ | refine G.retK [Table T last rs] rfl Try.func19 rfl (Res.tmp rfl (Res.tmp rfl Res.nil)) ?_ | refine G.retK [Table T last rs] rfl Try.func19 rfl (Res.tmp rfl (Res.tmp rfl (Res.tmp rfl Res.nil))) ?_ | refine G.retK [Table T last rs] rfl Try.func19 rfl (Res.cellA rfl rfl rfl Res.nil) ?_ | refine G.retK [Table T last rs] rfl Try.func19 rfl (Res.cellA rfl rfl rfl (Res.tmp rfl Res.nil)) ?_ | refine G.retK [Table T last rs] rfl Try.func19 rfl (Res.cell rfl rfl Res.nil) ?_
    simp only [onRec, getr_none hal hp]
    exact ⟨rfl, rfl⟩
  · obtain ⟨r, hr⟩ := getr_some hal hp
    repeat (first | refine G.w0 ?_ | refine G.w1 ?_ | refine G.wn ?_ | refine GR.w ?_ | (refine G.ws (h := ?_); try (simp only [Nat.reduceAdd, Nat.zero_add, List.set_cons_succ, List.set_cons_zero])) | (refine G.wb ?_; intro bx) | (refine G.wz ?_; intro bx) | refine G.wa (h := ?_) | refine G.seq ?_ | refine G.region ?_ | refine G.nil ?_ | refine G.block ?_ | refine G.skip ?_ | refine G.blk ?_ | refine G.wx ?_ | refine G.wt ?_ | refine G.wf ?_)
    (first | refine G.take rfl ?_ | refine G.take_yes rfl rfl rfl (by first | rfl | assumption) ?_); (first | refine R.callD Try.func44 rfl (by decide) rfl rfl (at_ok S low e ps _ hp) ?_ | refine R.callD0 Try.func44 rfl (by decide) rfl (at_ok S low e ps _ hp) ?_); simp only [List.cons_append, List.nil_append]
    repeat (first | refine G.w0 ?_ | refine G.w1 ?_ | refine G.wn ?_ | refine GR.w ?_ | (refine G.ws (h := ?_); try (simp only [Nat.reduceAdd, Nat.zero_add, List.set_cons_succ, List.set_cons_zero])) | (refine G.wb ?_; intro bx) | (refine G.wz ?_; intro bx) | refine G.wa (h := ?_) | refine G.seq ?_ | refine G.region ?_ | refine G.nil ?_ | refine G.block ?_ | refine G.skip ?_ | refine G.blk ?_ | refine G.wx ?_ | refine G.wt ?_ | refine G.wf ?_)
    refine G.recOut hp hr fun kv => ?_
    (repeat refine G.seq ?_); refine G.draw [0, 1, 2, 3] [] [4, 5] (by kernel_rfl) (by kernel_rfl) rfl rfl rfl ?_
    repeat (first | refine EV.w0 ?_ | refine EV.wy ?_ | refine EV.wn ?_ | refine EV.wm ?_ | (refine EV.wb ?_; intro bx) | refine EV.done ?_)
    (first | refine G.take rfl ?_ | refine G.take_yes rfl rfl rfl (by first | rfl | assumption) ?_); (first | refine R.callD Try.func56 rfl (by decide) rfl rfl (pay_ok b r kv q (hok r hr)) ?_ | refine R.callD0 Try.func56 rfl (by decide) rfl (pay_ok b r kv q (hok r hr)) ?_); simp only [List.cons_append, List.nil_append]
    repeat (first | refine G.w0 ?_ | refine G.w1 ?_ | refine G.wn ?_ | refine GR.w ?_ | (refine G.ws (h := ?_); try (simp only [Nat.reduceAdd, Nat.zero_add, List.set_cons_succ, List.set_cons_zero])) | (refine G.wb ?_; intro bx) | (refine G.wz ?_; intro bx) | refine G.wa (h := ?_) | refine G.seq ?_ | refine G.region ?_ | refine G.nil ?_ | refine G.block ?_ | refine G.skip ?_ | refine G.blk ?_ | refine G.wx ?_ | refine G.wt ?_ | refine G.wf ?_)
    refine G.recIn e b (payRec q r).2 kv rfl rfl ⟨rfl, rfl, by rw [payRec_kids], by rw [payRec_kids]⟩ hp hal ?_
    refine G.close (Table T last (rs.set e.toNat (some (payRec q r).2))) rfl ((S, low, ps)) (⟨hlow, hal.setr hp _, by simpa using hl⟩) (by dsimp only) ?_
    first | refine G.retK [Table T last (rs.set e.toNat (some (payRec q r).2))] rfl Try.func19 rfl Res.nil ?_ | refine G.retK [Table T last (rs.set e.toNat (some (payRec q r).2))] rfl Try.func19 rfl (Res.tmp rfl Res.nil) ?_ | refine G.retK [Table T last (rs.set e.toNat (some (payRec q r).2))] rfl Try.func19 rfl (Res.tmp rfl (Res.tmp rfl Res.nil)) ?_ | refine G.retK [Table T last (rs.set e.toNat (some (payRec q r).2))] rfl Try.func19 rfl (Res.tmp rfl (Res.tmp rfl (Res.tmp rfl Res.nil))) ?_ | refine G.retK [Table T last (rs.set e.toNat (some (payRec q r).2))] rfl Try.func19 rfl (Res.cellA rfl rfl rfl Res.nil) ?_ | refine G.retK [Table T last (rs.set e.toNat (some (payRec q r).2))] rfl Try.func19 rfl (Res.cellA rfl rfl rfl (Res.tmp rfl Res.nil)) ?_ | refine G.retK [Table T last (rs.set e.toNat (some (payRec q r).2))] rfl Try.func19 rfl (Res.cell rfl rfl Res.nil) ?_
    simp only [onRec, hr]
    exact ⟨rfl, rfl⟩

theorem Refund_ok (T : Nat) (last : Int) (rs : List (Option Rec)) (e : Int) (q : Qt) (hok : ∀ r, getr rs e = some r → RecOk r) : Fun Try.prog 20 [ptr (some T), i64 e, qtVal q] [Table T last rs]
    (Ret (i64 (onRec rs e (refundRec q)).1) [Table T last (onRec rs e (refundRec q)).2]) := by
  refine Fun.enter Try.func20 rfl rfl rfl ?_
  refine G.open (Table T last rs) rfl ?_
  rintro ⟨S, low, ps⟩ ⟨hlow, hal, hl⟩
  simp only [List.cons_append, List.nil_append]
  rcases hp : getp ps e with _ | b
  · repeat (first | refine G.w0 ?_ | refine G.w1 ?_ | refine G.wn ?_ | refine GR.w ?_ | (refine G.ws (h := ?_); try (simp only [Nat.reduceAdd, Nat.zero_add, List.set_cons_succ, List.set_cons_zero])) | (refine G.wb ?_; intro bx) | (refine G.wz ?_; intro bx) | refine G.wa (h := ?_) | refine G.seq ?_ | refine G.region ?_ | refine G.nil ?_ | refine G.block ?_ | refine G.skip ?_ | refine G.blk ?_ | refine G.wx ?_ | refine G.wt ?_ | refine G.wf ?_)
    (first | refine G.take rfl ?_ | refine G.take_yes rfl rfl rfl (by first | rfl | assumption) ?_); (first | refine R.callD Try.func44 rfl (by decide) rfl rfl (at_ok S low e ps _ hp) ?_ | refine R.callD0 Try.func44 rfl (by decide) rfl (at_ok S low e ps _ hp) ?_); simp only [List.cons_append, List.nil_append]
    repeat (first | refine G.w0 ?_ | refine G.w1 ?_ | refine G.wn ?_ | refine GR.w ?_ | (refine G.ws (h := ?_); try (simp only [Nat.reduceAdd, Nat.zero_add, List.set_cons_succ, List.set_cons_zero])) | (refine G.wb ?_; intro bx) | (refine G.wz ?_; intro bx) | refine G.wa (h := ?_) | refine G.seq ?_ | refine G.region ?_ | refine G.nil ?_ | refine G.block ?_ | refine G.skip ?_ | refine G.blk ?_ | refine G.wx ?_ | refine G.wt ?_ | refine G.wf ?_)
    refine G.close (Table T last rs) rfl ((S, low, ps)) (⟨hlow, hal, hl⟩) (by dsimp only) ?_
    first | refine G.retK [Table T last rs] rfl Try.func20 rfl Res.nil ?_ | refine G.retK [Table T last rs] rfl Try.func20 rfl (Res.tmp rfl Res.nil) ?_ | refine G.retK [Table T last rs] rfl Try.func20 rfl (Res.tmp rfl (Res.tmp rfl Res.nil)) ?_ | refine G.retK [Table T last rs] rfl Try.func20 rfl (Res.tmp rfl (Res.tmp rfl (Res.tmp rfl Res.nil))) ?_ | refine G.retK [Table T last rs] rfl Try.func20 rfl (Res.cellA rfl rfl rfl Res.nil) ?_ | refine G.retK [Table T last rs] rfl Try.func20 rfl (Res.cellA rfl rfl rfl (Res.tmp rfl Res.nil)) ?_ | refine G.retK [Table T last rs] rfl Try.func20 rfl (Res.cell rfl rfl Res.nil) ?_
    simp only [onRec, getr_none hal hp]
    exact ⟨rfl, rfl⟩
  · obtain ⟨r, hr⟩ := getr_some hal hp
    repeat (first | refine G.w0 ?_ | refine G.w1 ?_ | refine G.wn ?_ | refine GR.w ?_ | (refine G.ws (h := ?_); try (simp only [Nat.reduceAdd, Nat.zero_add, List.set_cons_succ, List.set_cons_zero])) | (refine G.wb ?_; intro bx) | (refine G.wz ?_; intro bx) | refine G.wa (h := ?_) | refine G.seq ?_ | refine G.region ?_ | refine G.nil ?_ | refine G.block ?_ | refine G.skip ?_ | refine G.blk ?_ | refine G.wx ?_ | refine G.wt ?_ | refine G.wf ?_)
    (first | refine G.take rfl ?_ | refine G.take_yes rfl rfl rfl (by first | rfl | assumption) ?_); (first | refine R.callD Try.func44 rfl (by decide) rfl rfl (at_ok S low e ps _ hp) ?_ | refine R.callD0 Try.func44 rfl (by decide) rfl (at_ok S low e ps _ hp) ?_); simp only [List.cons_append, List.nil_append]
    repeat (first | refine G.w0 ?_ | refine G.w1 ?_ | refine G.wn ?_ | refine GR.w ?_ | (refine G.ws (h := ?_); try (simp only [Nat.reduceAdd, Nat.zero_add, List.set_cons_succ, List.set_cons_zero])) | (refine G.wb ?_; intro bx) | (refine G.wz ?_; intro bx) | refine G.wa (h := ?_) | refine G.seq ?_ | refine G.region ?_ | refine G.nil ?_ | refine G.block ?_ | refine G.skip ?_ | refine G.blk ?_ | refine G.wx ?_ | refine G.wt ?_ | refine G.wf ?_)
    refine G.recOut hp hr fun kv => ?_
    (repeat refine G.seq ?_); refine G.draw [0, 1, 2, 3] [] [4, 5] (by kernel_rfl) (by kernel_rfl) rfl rfl rfl ?_
    repeat (first | refine EV.w0 ?_ | refine EV.wy ?_ | refine EV.wn ?_ | refine EV.wm ?_ | (refine EV.wb ?_; intro bx) | refine EV.done ?_)
    (first | refine G.take rfl ?_ | refine G.take_yes rfl rfl rfl (by first | rfl | assumption) ?_); (first | refine R.callD Try.func57 rfl (by decide) rfl rfl (refund_ok b r kv q (hok r hr)) ?_ | refine R.callD0 Try.func57 rfl (by decide) rfl (refund_ok b r kv q (hok r hr)) ?_); simp only [List.cons_append, List.nil_append]
    repeat (first | refine G.w0 ?_ | refine G.w1 ?_ | refine G.wn ?_ | refine GR.w ?_ | (refine G.ws (h := ?_); try (simp only [Nat.reduceAdd, Nat.zero_add, List.set_cons_succ, List.set_cons_zero])) | (refine G.wb ?_; intro bx) | (refine G.wz ?_; intro bx) | refine G.wa (h := ?_) | refine G.seq ?_ | refine G.region ?_ | refine G.nil ?_ | refine G.block ?_ | refine G.skip ?_ | refine G.blk ?_ | refine G.wx ?_ | refine G.wt ?_ | refine G.wf ?_)
    refine G.recIn e b (refundRec q r).2 kv rfl rfl ⟨rfl, rfl, by rw [refundRec_kids], by rw [refundRec_kids]⟩ hp hal ?_
    refine G.close (Table T last (rs.set e.toNat (some (refundRec q r).2))) rfl ((S, low, ps)) (⟨hlow, hal.setr hp _, by simpa using hl⟩) (by dsimp only) ?_
    first | refine G.retK [Table T last (rs.set e.toNat (some (refundRec q r).2))] rfl Try.func20 rfl Res.nil ?_ | refine G.retK [Table T last (rs.set e.toNat (some (refundRec q r).2))] rfl Try.func20 rfl (Res.tmp rfl Res.nil) ?_ | refine G.retK [Table T last (rs.set e.toNat (some (refundRec q r).2))] rfl Try.func20 rfl (Res.tmp rfl (Res.tmp rfl Res.nil)) ?_ | refine G.retK [Table T last (rs.set e.toNat (some (refundRec q r).2))] rfl Try.func20 rfl (Res.tmp rfl (Res.tmp rfl (Res.tmp rfl Res.nil))) ?_ | refine G.retK [Table T last (rs.set e.toNat (some (refundRec q r).2))] rfl Try.func20 rfl (Res.cellA rfl rfl rfl Res.nil) ?_ | refine G.retK [Table T last (rs.set e.toNat (some (refundRec q r).2))] rfl Try.func20 rfl (Res.cellA rfl rfl rfl (Res.tmp rfl Res.nil)) ?_ | refine G.retK [Table T last (rs.set e.toNat (some (refundRec q r).2))] rfl Try.func20 rfl (Res.cell rfl rfl Res.nil) ?_
    simp only [onRec, hr]
    exact ⟨rfl, rfl⟩
end Go.Proofs.Ytffcilmllebdmaa
