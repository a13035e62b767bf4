/- Info; Create. -/
import Derived.Test.YtffcilmllebdmaaE8
namespace Go.Proofs.Ytffcilmllebdmaa
open Go.Am
set_option maxHeartbeats 4000000
set_option linter.unusedVariables false
set_option linter.unusedSimpArgs false
attribute [local irreducible] Ok GR G Fun OpRun EVS

/-- What is told of an environment. -/
def infoCells (r : Rec) : List Value :=
  [i64 r.serial, i64 r.parent, i64 r.state, i64 r.code, i64 r.bits, .bool r.frozen,
   u32 r.regs.r0, u32 r.regs.r1, u32 r.regs.r2, u32 r.regs.r3, u32 r.regs.r4, u32 r.regs.r5, u32 r.regs.r6, u32 r.regs.r7, u32 r.regs.pc,
   i64 r.whole.f, i64 r.whole.e, i64 r.whole.x, i64 (qleft r).f, i64 (qleft r).e, i64 (qleft r).x]
def infoZero : List Value := [i64 0, i64 0, i64 0, i64 0, i64 0, .bool false, u32 0, u32 0, u32 0, u32 0, u32 0, u32 0, u32 0, u32 0, u32 0, i64 0, i64 0, i64 0, i64 0, i64 0, i64 0]
def infoOf (rs : List (Option Rec)) (e : Int) : List Value := match getr rs e with | some r => infoCells r | none => infoZero
def errOf (rs : List (Option Rec)) (e : Int) : Int := match getr rs e with | some _ => 0 | none => 90

theorem Info_ok (T : Nat) (last : Int) (rs : List (Option Rec)) (e : Int) (hok : ∀ r, getr rs e = some r → RecOk r) : Fun Try.prog 12 [ptr (some T), i64 e] [Table T last rs]
    (Ret (.tuple #[.agg (infoOf rs e).toArray, i64 (errOf rs e)]) [Table T last rs]) := by
  refine Fun.enter Try.func12 rfl rfl rfl ?_
  refine G.open (Table T last rs) rfl ?_
  rintro ⟨S, low, ps⟩ ⟨hlow, hal, hl⟩
  simp only [List.cons_append, List.nil_append]
  rcases hp : getp ps e with _ | b
  · repeat (first | refine G.w0 ?_ | refine G.w1 ?_ | refine G.wn ?_ | refine GR.w ?_ | (refine G.ws (h := ?_); try (simp only [Nat.reduceAdd, Nat.zero_add, List.set_cons_succ, List.set_cons_zero])) | (refine G.wb ?_; intro bx) | (refine G.wz ?_; intro bx) | refine G.wa (h := ?_) | refine G.seq ?_ | refine G.region ?_ | refine G.nil ?_ | refine G.block ?_ | refine G.skip ?_ | refine G.blk ?_ | refine G.wx ?_ | refine G.wt ?_ | refine G.wf ?_)
    (first | refine G.take rfl ?_ | refine G.take_yes rfl rfl rfl (by first | rfl | assumption) ?_); (first | refine R.callD Try.func44 rfl (by decide) rfl rfl (at_ok S low e ps _ hp) ?_ | refine R.callD0 Try.func44 rfl (by decide) rfl (at_ok S low e ps _ hp) ?_); simp only [List.cons_append, List.nil_append]
    repeat (first | refine G.w0 ?_ | refine G.w1 ?_ | refine G.wn ?_ | refine GR.w ?_ | (refine G.ws (h := ?_); try (simp only [Nat.reduceAdd, Nat.zero_add, List.set_cons_succ, List.set_cons_zero])) | (refine G.wb ?_; intro bx) | (refine G.wz ?_; intro bx) | refine G.wa (h := ?_) | refine G.seq ?_ | refine G.region ?_ | refine G.nil ?_ | refine G.block ?_ | refine G.skip ?_ | refine G.blk ?_ | refine G.wx ?_ | refine G.wt ?_ | refine G.wf ?_)
    refine G.close (Table T last rs) rfl ((S, low, ps)) (⟨hlow, hal, hl⟩) (by dsimp only) ?_
    first | refine G.retK [Table T last rs] rfl Try.func12 rfl Res.nil ?_ | refine G.retK [Table T last rs] rfl Try.func12 rfl (Res.tmp rfl Res.nil) ?_ | refine G.retK [Table T last rs] rfl Try.func12 rfl (Res.tmp rfl (Res.tmp rfl Res.nil)) ?_ | refine G.retK [Table T last rs] rfl Try.func12 rfl (Res.tmp rfl (Res.tmp rfl (Res.tmp rfl Res.nil))) ?_ | refine G.retK [Table T last rs] rfl Try.func12 rfl (Res.cellA rfl rfl rfl Res.nil) ?_ | refine G.retK [Table T last rs] rfl Try.func12 rfl (Res.cellA rfl rfl rfl (Res.tmp rfl Res.nil)) ?_ | refine G.retK [Table T last rs] rfl Try.func12 rfl (Res.cell rfl rfl Res.nil) ?_
    simp only [infoOf, errOf, getr_none hal hp]
    exact ⟨rfl, rfl⟩
  · obtain ⟨r, hr⟩ := getr_some hal hp
    repeat (first | refine G.w0 ?_ | refine G.w1 ?_ | refine G.wn ?_ | refine GR.w ?_ | (refine G.ws (h := ?_); try (simp only [Nat.reduceAdd, Nat.zero_add, List.set_cons_succ, List.set_cons_zero])) | (refine G.wb ?_; intro bx) | (refine G.wz ?_; intro bx) | refine G.wa (h := ?_) | refine G.seq ?_ | refine G.region ?_ | refine G.nil ?_ | refine G.block ?_ | refine G.skip ?_ | refine G.blk ?_ | refine G.wx ?_ | refine G.wt ?_ | refine G.wf ?_)
    (first | refine G.take rfl ?_ | refine G.take_yes rfl rfl rfl (by first | rfl | assumption) ?_); (first | refine R.callD Try.func44 rfl (by decide) rfl rfl (at_ok S low e ps _ hp) ?_ | refine R.callD0 Try.func44 rfl (by decide) rfl (at_ok S low e ps _ hp) ?_); simp only [List.cons_append, List.nil_append]
    repeat (first | refine G.w0 ?_ | refine G.w1 ?_ | refine G.wn ?_ | refine GR.w ?_ | (refine G.ws (h := ?_); try (simp only [Nat.reduceAdd, Nat.zero_add, List.set_cons_succ, List.set_cons_zero])) | (refine G.wb ?_; intro bx) | (refine G.wz ?_; intro bx) | refine G.wa (h := ?_) | refine G.seq ?_ | refine G.region ?_ | refine G.nil ?_ | refine G.block ?_ | refine G.skip ?_ | refine G.blk ?_ | refine G.wx ?_ | refine G.wt ?_ | refine G.wf ?_)
    refine G.recOut hp hr fun kv => ?_
    repeat (first | refine G.w0 ?_ | refine G.w1 ?_ | refine G.wn ?_ | refine GR.w ?_ | (refine G.ws (h := ?_); try (simp only [Nat.reduceAdd, Nat.zero_add, List.set_cons_succ, List.set_cons_zero])) | (refine G.wb ?_; intro bx) | (refine G.wz ?_; intro bx) | refine G.wa (h := ?_) | refine G.seq ?_ | refine G.region ?_ | refine G.nil ?_ | refine G.block ?_ | refine G.skip ?_ | refine G.blk ?_ | refine G.wx ?_ | refine G.wt ?_ | refine G.wf ?_)
    (repeat refine G.seq ?_); refine G.draw [0, 1, 2, 3, 4, 5, 6, 7, 8, 9] [] [10, 11, 12] (by kernel_rfl) (by kernel_rfl) rfl rfl rfl ?_
    repeat (first | refine EV.w0 ?_ | refine EV.wy ?_ | refine EV.wn ?_ | refine EV.wm ?_ | (refine EV.wb ?_; intro bx) | refine EV.done ?_)
    refine EV.ok (Ok.callD Try.func50 rfl (by decide) rfl (left_ok b r kv (hok r hr))) ?_
    repeat (first | refine EV.w0 ?_ | refine EV.wy ?_ | refine EV.wn ?_ | refine EV.wm ?_ | (refine EV.wb ?_; intro bx) | refine EV.done ?_)
    repeat (first | refine G.w0 ?_ | refine G.w1 ?_ | refine G.wn ?_ | refine GR.w ?_ | (refine G.ws (h := ?_); try (simp only [Nat.reduceAdd, Nat.zero_add, List.set_cons_succ, List.set_cons_zero])) | (refine G.wb ?_; intro bx) | (refine G.wz ?_; intro bx) | refine G.wa (h := ?_) | refine G.seq ?_ | refine G.region ?_ | refine G.nil ?_ | refine G.block ?_ | refine G.skip ?_ | refine G.blk ?_ | refine G.wx ?_ | refine G.wt ?_ | refine G.wf ?_)
    refine G.recIn e b r kv rfl rfl ⟨rfl, rfl, rfl, rfl⟩ hp hal ?_
    rw [set_same hr]
    refine G.close (Table T last rs) rfl ((S, low, ps)) (⟨hlow, hal, hl⟩) (by dsimp only) ?_
    first | refine G.retK [Table T last rs] rfl Try.func12 rfl Res.nil ?_ | refine G.retK [Table T last rs] rfl Try.func12 rfl (Res.tmp rfl Res.nil) ?_ | refine G.retK [Table T last rs] rfl Try.func12 rfl (Res.tmp rfl (Res.tmp rfl Res.nil)) ?_ | refine G.retK [Table T last rs] rfl Try.func12 rfl (Res.tmp rfl (Res.tmp rfl (Res.tmp rfl Res.nil))) ?_ | refine G.retK [Table T last rs] rfl Try.func12 rfl (Res.cellA rfl rfl rfl Res.nil) ?_ | refine G.retK [Table T last rs] rfl Try.func12 rfl (Res.cellA rfl rfl rfl (Res.tmp rfl Res.nil)) ?_ | refine G.retK [Table T last rs] rfl Try.func12 rfl (Res.cell rfl rfl Res.nil) ?_
    simp only [infoOf, errOf, hr]
    exact ⟨rfl, rfl⟩
end Go.Proofs.Ytffcilmllebdmaa
