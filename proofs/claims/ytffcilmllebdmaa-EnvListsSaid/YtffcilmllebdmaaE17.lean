/- One step of a script: the settings. -/
import Derived.Test.YtffcilmllebdmaaE16
import Derived.Test.YtffcilmllebdmaaM6
import Derived.Test.YtffcilmllebdmaaAmSeg
namespace Go.Proofs.Ytffcilmllebdmaa
open Go.Am
set_option maxHeartbeats 4000000
set_option linter.unusedVariables false
set_option linter.unusedSimpArgs false
attribute [local irreducible] Ok GR G Fun OpRun EVS

/-- A step of a script. -/
structure Op where
  kind : Int
  t : Int
  e : Int
  n : Int
  m : Int
  q : Qt
  r : Rg
  on : Bool

def opCells (o : Op) : List Value := [i64 o.kind, i64 o.t, i64 o.e, i64 o.n, i64 o.m, i64 o.q.f, i64 o.q.e, i64 o.q.x,
  u32 o.r.r0, u32 o.r.r1, u32 o.r.r2, u32 o.r.r3, u32 o.r.r4, u32 o.r.r5, u32 o.r.r6, u32 o.r.r7, u32 o.r.pc, .bool o.on]
def opVal (o : Op) : Value := .agg (opCells o).toArray

def stepF (rs : List (Option Rec)) (last : Int) (o : Op) : List (Option Rec) × Int :=
  if o.kind = 2 then ((createF rs last o.e o.n o.q).2.2, (createF rs last o.e o.n o.q).2.1)
  else if o.kind = 3 then ((destroyF rs o.e).2, last)
  else if o.kind = 11 then ((onRec rs o.e (payRec o.q)).2, last)
  else if o.kind = 12 then ((onRec rs o.e (refundRec o.q)).2, last)
  else if o.kind = 5 then ((onRec rs o.e fun r => (0, { r with regs := o.r })).2, last)
  else if o.kind = 6 then ((onRec rs o.e (stateRec o.n o.m)).2, last)
  else if o.kind = 7 then ((onRec rs o.e fun r => if 0 ≤ o.n ∧ o.n ≤ 4294967295 then (0, { r with bits := o.n }) else (1, r)).2, last)
  else if o.kind = 8 then ((onRec rs o.e (notifyRec o.n)).2, last)
  else if o.kind = 9 then ((onRec rs o.e fun r => (0, waitRec r)).2, last)
  else if o.kind = 10 then ((onRec rs o.e fun r => (0, { r with frozen := o.on })).2, last)
  else (rs, last)

def livesOf (rs : List (Option Rec)) : List Bool := rs.map Option.isSome

theorem livesOf_onRec (rs : List (Option Rec)) (e : Int) (f : Rec → Int × Rec) : livesOf (onRec rs e f).2 = livesOf rs := by
  unfold onRec
  cases hr : getr rs e with
  | none => rfl
  | some r =>
    unfold livesOf
    rw [List.map_set]
    apply List.ext_getElem?
    intro j
    rw [List.getElem?_set]
    split
    · rename_i hj; subst hj
      have h0 := getr_lt hr
      unfold getr at hr
      rw [if_pos h0.1] at hr
      rw [List.getElem?_map]
      cases h1 : rs[e.toNat]? with
      | none => rw [h1] at hr; cases hr
      | some x =>
        rw [h1] at hr; simp at hr; subst hr
        simp; omega
    · rfl

section
variable (T B : Nat) (last : Int) (rs : List (Option Rec)) (k t e n m : Int) (q : Qt) (r : Rg) (on : Bool)

theorem noted5 : Fun Try.prog 11 [ptr (some B), ptr (some T), opVal ⟨5, t, e, n, m, q, r, on⟩] [Table T last rs, Book B (livesOf rs) last]
    (Ret (.bool true) [Table T (stepF rs last ⟨5, t, e, n, m, q, r, on⟩).2 (stepF rs last ⟨5, t, e, n, m, q, r, on⟩).1, Book B (livesOf (stepF rs last ⟨5, t, e, n, m, q, r, on⟩).1) (stepF rs last ⟨5, t, e, n, m, q, r, on⟩).2]) := by
  have hs : stepF rs last ⟨5, t, e, n, m, q, r, on⟩ = ((onRec rs e fun x => (0, { x with regs := r })).2, last) := rfl
  rw [hs]; dsimp only; rw [livesOf_onRec]
  refine Fun.enter Try.func11 rfl rfl rfl ?_
  repeat (first | refine G.w0 ?_ | refine G.w1 ?_ | refine G.wn ?_ | refine GR.w ?_ | (refine G.ws (h := ?_); try (simp only [Nat.reduceAdd, Nat.zero_add, List.set_cons_succ, List.set_cons_zero])) | (refine G.wb ?_; intro bx) | (refine G.wz ?_; intro bx) | refine G.wa (h := ?_) | refine G.seq ?_ | refine G.region ?_ | refine G.nil ?_ | refine G.block ?_ | refine G.skip ?_ | refine G.blk ?_ | refine G.wx ?_ | refine G.wt ?_ | refine G.wf ?_)
  (first | refine G.take rfl ?_ | refine G.take_yes rfl rfl rfl (by first | rfl | assumption) ?_); (first | refine R.callD Try.func46 rfl (by decide) rfl rfl (SetRegs_ok T last rs e r) ?_ | refine R.callD0 Try.func46 rfl (by decide) rfl (SetRegs_ok T last rs e r) ?_); simp only [List.cons_append, List.nil_append]
  repeat (first | refine G.w0 ?_ | refine G.w1 ?_ | refine G.wn ?_ | refine GR.w ?_ | (refine G.ws (h := ?_); try (simp only [Nat.reduceAdd, Nat.zero_add, List.set_cons_succ, List.set_cons_zero])) | (refine G.wb ?_; intro bx) | (refine G.wz ?_; intro bx) | refine G.wa (h := ?_) | refine G.seq ?_ | refine G.region ?_ | refine G.nil ?_ | refine G.block ?_ | refine G.skip ?_ | refine G.blk ?_ | refine G.wx ?_ | refine G.wt ?_ | refine G.wf ?_)
  first | refine G.retK [Table T last (onRec rs e fun x => (0, { x with regs := r })).2, Book B (livesOf rs) last] rfl Try.func11 rfl Res.nil ?_ | refine G.retK [Table T last (onRec rs e fun x => (0, { x with regs := r })).2, Book B (livesOf rs) last] rfl Try.func11 rfl (Res.tmp rfl Res.nil) ?_ | refine G.retK [Table T last (onRec rs e fun x => (0, { x with regs := r })).2, Book B (livesOf rs) last] rfl Try.func11 rfl (Res.tmp rfl (Res.tmp rfl Res.nil)) ?_ | refine G.retK [Table T last (onRec rs e fun x => (0, { x with regs := r })).2, Book B (livesOf rs) last] rfl Try.func11 rfl (Res.tmp rfl (Res.tmp rfl (Res.tmp rfl Res.nil))) ?_ | refine G.retK [Table T last (onRec rs e fun x => (0, { x with regs := r })).2, Book B (livesOf rs) last] rfl Try.func11 rfl (Res.cellA rfl rfl rfl Res.nil) ?_ | refine G.retK [Table T last (onRec rs e fun x => (0, { x with regs := r })).2, Book B (livesOf rs) last] rfl Try.func11 rfl (Res.cellA rfl rfl rfl (Res.tmp rfl Res.nil)) ?_ | refine G.retK [Table T last (onRec rs e fun x => (0, { x with regs := r })).2, Book B (livesOf rs) last] rfl Try.func11 rfl (Res.cell rfl rfl Res.nil) ?_
  exact ⟨rfl, rfl⟩

theorem noted6 : Fun Try.prog 11 [ptr (some B), ptr (some T), opVal ⟨6, t, e, n, m, q, r, on⟩] [Table T last rs, Book B (livesOf rs) last]
    (Ret (.bool true) [Table T (stepF rs last ⟨6, t, e, n, m, q, r, on⟩).2 (stepF rs last ⟨6, t, e, n, m, q, r, on⟩).1, Book B (livesOf (stepF rs last ⟨6, t, e, n, m, q, r, on⟩).1) (stepF rs last ⟨6, t, e, n, m, q, r, on⟩).2]) := by
  have hs : stepF rs last ⟨6, t, e, n, m, q, r, on⟩ = ((onRec rs e (stateRec n m)).2, last) := rfl
  rw [hs]; dsimp only; rw [livesOf_onRec]
  refine Fun.enter Try.func11 rfl rfl rfl ?_
  repeat (first | refine G.w0 ?_ | refine G.w1 ?_ | refine G.wn ?_ | refine GR.w ?_ | (refine G.ws (h := ?_); try (simp only [Nat.reduceAdd, Nat.zero_add, List.set_cons_succ, List.set_cons_zero])) | (refine G.wb ?_; intro bx) | (refine G.wz ?_; intro bx) | refine G.wa (h := ?_) | refine G.seq ?_ | refine G.region ?_ | refine G.nil ?_ | refine G.block ?_ | refine G.skip ?_ | refine G.blk ?_ | refine G.wx ?_ | refine G.wt ?_ | refine G.wf ?_)
  (first | refine G.take rfl ?_ | refine G.take_yes rfl rfl rfl (by first | rfl | assumption) ?_); (first | refine R.callD Try.func9 rfl (by decide) rfl rfl (SetState_ok T last rs e n m) ?_ | refine R.callD0 Try.func9 rfl (by decide) rfl (SetState_ok T last rs e n m) ?_); simp only [List.cons_append, List.nil_append]
  repeat (first | refine G.w0 ?_ | refine G.w1 ?_ | refine G.wn ?_ | refine GR.w ?_ | (refine G.ws (h := ?_); try (simp only [Nat.reduceAdd, Nat.zero_add, List.set_cons_succ, List.set_cons_zero])) | (refine G.wb ?_; intro bx) | (refine G.wz ?_; intro bx) | refine G.wa (h := ?_) | refine G.seq ?_ | refine G.region ?_ | refine G.nil ?_ | refine G.block ?_ | refine G.skip ?_ | refine G.blk ?_ | refine G.wx ?_ | refine G.wt ?_ | refine G.wf ?_)
  first | refine G.retK [Table T last (onRec rs e (stateRec n m)).2, Book B (livesOf rs) last] rfl Try.func11 rfl Res.nil ?_ | refine G.retK [Table T last (onRec rs e (stateRec n m)).2, Book B (livesOf rs) last] rfl Try.func11 rfl (Res.tmp rfl Res.nil) ?_ | refine G.retK [Table T last (onRec rs e (stateRec n m)).2, Book B (livesOf rs) last] rfl Try.func11 rfl (Res.tmp rfl (Res.tmp rfl Res.nil)) ?_ | refine G.retK [Table T last (onRec rs e (stateRec n m)).2, Book B (livesOf rs) last] rfl Try.func11 rfl (Res.tmp rfl (Res.tmp rfl (Res.tmp rfl Res.nil))) ?_ | refine G.retK [Table T last (onRec rs e (stateRec n m)).2, Book B (livesOf rs) last] rfl Try.func11 rfl (Res.cellA rfl rfl rfl Res.nil) ?_ | refine G.retK [Table T last (onRec rs e (stateRec n m)).2, Book B (livesOf rs) last] rfl Try.func11 rfl (Res.cellA rfl rfl rfl (Res.tmp rfl Res.nil)) ?_ | refine G.retK [Table T last (onRec rs e (stateRec n m)).2, Book B (livesOf rs) last] rfl Try.func11 rfl (Res.cell rfl rfl Res.nil) ?_
  exact ⟨rfl, rfl⟩

theorem noted7 : Fun Try.prog 11 [ptr (some B), ptr (some T), opVal ⟨7, t, e, n, m, q, r, on⟩] [Table T last rs, Book B (livesOf rs) last]
    (Ret (.bool true) [Table T (stepF rs last ⟨7, t, e, n, m, q, r, on⟩).2 (stepF rs last ⟨7, t, e, n, m, q, r, on⟩).1, Book B (livesOf (stepF rs last ⟨7, t, e, n, m, q, r, on⟩).1) (stepF rs last ⟨7, t, e, n, m, q, r, on⟩).2]) := by
  have hs : stepF rs last ⟨7, t, e, n, m, q, r, on⟩ = ((onRec rs e fun x => if 0 ≤ n ∧ n ≤ 4294967295 then (0, { x with bits := n }) else (1, x)).2, last) := rfl
  rw [hs]; dsimp only; rw [livesOf_onRec]
  refine Fun.enter Try.func11 rfl rfl rfl ?_
  repeat (first | refine G.w0 ?_ | refine G.w1 ?_ | refine G.wn ?_ | refine GR.w ?_ | (refine G.ws (h := ?_); try (simp only [Nat.reduceAdd, Nat.zero_add, List.set_cons_succ, List.set_cons_zero])) | (refine G.wb ?_; intro bx) | (refine G.wz ?_; intro bx) | refine G.wa (h := ?_) | refine G.seq ?_ | refine G.region ?_ | refine G.nil ?_ | refine G.block ?_ | refine G.skip ?_ | refine G.blk ?_ | refine G.wx ?_ | refine G.wt ?_ | refine G.wf ?_)
  (first | refine G.take rfl ?_ | refine G.take_yes rfl rfl rfl (by first | rfl | assumption) ?_); (first | refine R.callD Try.func47 rfl (by decide) rfl rfl (SetBits_ok T last rs e n) ?_ | refine R.callD0 Try.func47 rfl (by decide) rfl (SetBits_ok T last rs e n) ?_); simp only [List.cons_append, List.nil_append]
  repeat (first | refine G.w0 ?_ | refine G.w1 ?_ | refine G.wn ?_ | refine GR.w ?_ | (refine G.ws (h := ?_); try (simp only [Nat.reduceAdd, Nat.zero_add, List.set_cons_succ, List.set_cons_zero])) | (refine G.wb ?_; intro bx) | (refine G.wz ?_; intro bx) | refine G.wa (h := ?_) | refine G.seq ?_ | refine G.region ?_ | refine G.nil ?_ | refine G.block ?_ | refine G.skip ?_ | refine G.blk ?_ | refine G.wx ?_ | refine G.wt ?_ | refine G.wf ?_)
  first | refine G.retK [Table T last (onRec rs e fun x => if 0 ≤ n ∧ n ≤ 4294967295 then (0, { x with bits := n }) else (1, x)).2, Book B (livesOf rs) last] rfl Try.func11 rfl Res.nil ?_ | refine G.retK [Table T last (onRec rs e fun x => if 0 ≤ n ∧ n ≤ 4294967295 then (0, { x with bits := n }) else (1, x)).2, Book B (livesOf rs) last] rfl Try.func11 rfl (Res.tmp rfl Res.nil) ?_ | refine G.retK [Table T last (onRec rs e fun x => if 0 ≤ n ∧ n ≤ 4294967295 then (0, { x with bits := n }) else (1, x)).2, Book B (livesOf rs) last] rfl Try.func11 rfl (Res.tmp rfl (Res.tmp rfl Res.nil)) ?_ | refine G.retK [Table T last (onRec rs e fun x => if 0 ≤ n ∧ n ≤ 4294967295 then (0, { x with bits := n }) else (1, x)).2, Book B (livesOf rs) last] rfl Try.func11 rfl (Res.tmp rfl (Res.tmp rfl (Res.tmp rfl Res.nil))) ?_ | refine G.retK [Table T last (onRec rs e fun x => if 0 ≤ n ∧ n ≤ 4294967295 then (0, { x with bits := n }) else (1, x)).2, Book B (livesOf rs) last] rfl Try.func11 rfl (Res.cellA rfl rfl rfl Res.nil) ?_ | refine G.retK [Table T last (onRec rs e fun x => if 0 ≤ n ∧ n ≤ 4294967295 then (0, { x with bits := n }) else (1, x)).2, Book B (livesOf rs) last] rfl Try.func11 rfl (Res.cellA rfl rfl rfl (Res.tmp rfl Res.nil)) ?_ | refine G.retK [Table T last (onRec rs e fun x => if 0 ≤ n ∧ n ≤ 4294967295 then (0, { x with bits := n }) else (1, x)).2, Book B (livesOf rs) last] rfl Try.func11 rfl (Res.cell rfl rfl Res.nil) ?_
  exact ⟨rfl, rfl⟩

theorem noted8 : Fun Try.prog 11 [ptr (some B), ptr (some T), opVal ⟨8, t, e, n, m, q, r, on⟩] [Table T last rs, Book B (livesOf rs) last]
    (Ret (.bool true) [Table T (stepF rs last ⟨8, t, e, n, m, q, r, on⟩).2 (stepF rs last ⟨8, t, e, n, m, q, r, on⟩).1, Book B (livesOf (stepF rs last ⟨8, t, e, n, m, q, r, on⟩).1) (stepF rs last ⟨8, t, e, n, m, q, r, on⟩).2]) := by
  have hs : stepF rs last ⟨8, t, e, n, m, q, r, on⟩ = ((onRec rs e (notifyRec n)).2, last) := rfl
  rw [hs]; dsimp only; rw [livesOf_onRec]
  refine Fun.enter Try.func11 rfl rfl rfl ?_
  repeat (first | refine G.w0 ?_ | refine G.w1 ?_ | refine G.wn ?_ | refine GR.w ?_ | (refine G.ws (h := ?_); try (simp only [Nat.reduceAdd, Nat.zero_add, List.set_cons_succ, List.set_cons_zero])) | (refine G.wb ?_; intro bx) | (refine G.wz ?_; intro bx) | refine G.wa (h := ?_) | refine G.seq ?_ | refine G.region ?_ | refine G.nil ?_ | refine G.block ?_ | refine G.skip ?_ | refine G.blk ?_ | refine G.wx ?_ | refine G.wt ?_ | refine G.wf ?_)
  (first | refine G.take rfl ?_ | refine G.take_yes rfl rfl rfl (by first | rfl | assumption) ?_); (first | refine R.callD Try.func48 rfl (by decide) rfl rfl (Notify_ok T last rs e n) ?_ | refine R.callD0 Try.func48 rfl (by decide) rfl (Notify_ok T last rs e n) ?_); simp only [List.cons_append, List.nil_append]
  repeat (first | refine G.w0 ?_ | refine G.w1 ?_ | refine G.wn ?_ | refine GR.w ?_ | (refine G.ws (h := ?_); try (simp only [Nat.reduceAdd, Nat.zero_add, List.set_cons_succ, List.set_cons_zero])) | (refine G.wb ?_; intro bx) | (refine G.wz ?_; intro bx) | refine G.wa (h := ?_) | refine G.seq ?_ | refine G.region ?_ | refine G.nil ?_ | refine G.block ?_ | refine G.skip ?_ | refine G.blk ?_ | refine G.wx ?_ | refine G.wt ?_ | refine G.wf ?_)
  first | refine G.retK [Table T last (onRec rs e (notifyRec n)).2, Book B (livesOf rs) last] rfl Try.func11 rfl Res.nil ?_ | refine G.retK [Table T last (onRec rs e (notifyRec n)).2, Book B (livesOf rs) last] rfl Try.func11 rfl (Res.tmp rfl Res.nil) ?_ | refine G.retK [Table T last (onRec rs e (notifyRec n)).2, Book B (livesOf rs) last] rfl Try.func11 rfl (Res.tmp rfl (Res.tmp rfl Res.nil)) ?_ | refine G.retK [Table T last (onRec rs e (notifyRec n)).2, Book B (livesOf rs) last] rfl Try.func11 rfl (Res.tmp rfl (Res.tmp rfl (Res.tmp rfl Res.nil))) ?_ | refine G.retK [Table T last (onRec rs e (notifyRec n)).2, Book B (livesOf rs) last] rfl Try.func11 rfl (Res.cellA rfl rfl rfl Res.nil) ?_ | refine G.retK [Table T last (onRec rs e (notifyRec n)).2, Book B (livesOf rs) last] rfl Try.func11 rfl (Res.cellA rfl rfl rfl (Res.tmp rfl Res.nil)) ?_ | refine G.retK [Table T last (onRec rs e (notifyRec n)).2, Book B (livesOf rs) last] rfl Try.func11 rfl (Res.cell rfl rfl Res.nil) ?_
  exact ⟨rfl, rfl⟩

theorem noted9 : Fun Try.prog 11 [ptr (some B), ptr (some T), opVal ⟨9, t, e, n, m, q, r, on⟩] [Table T last rs, Book B (livesOf rs) last]
    (Ret (.bool true) [Table T (stepF rs last ⟨9, t, e, n, m, q, r, on⟩).2 (stepF rs last ⟨9, t, e, n, m, q, r, on⟩).1, Book B (livesOf (stepF rs last ⟨9, t, e, n, m, q, r, on⟩).1) (stepF rs last ⟨9, t, e, n, m, q, r, on⟩).2]) := by
  have hs : stepF rs last ⟨9, t, e, n, m, q, r, on⟩ = ((onRec rs e fun x => (0, waitRec x)).2, last) := rfl
  rw [hs]; dsimp only; rw [livesOf_onRec]
  refine Fun.enter Try.func11 rfl rfl rfl ?_
  repeat (first | refine G.w0 ?_ | refine G.w1 ?_ | refine G.wn ?_ | refine GR.w ?_ | (refine G.ws (h := ?_); try (simp only [Nat.reduceAdd, Nat.zero_add, List.set_cons_succ, List.set_cons_zero])) | (refine G.wb ?_; intro bx) | (refine G.wz ?_; intro bx) | refine G.wa (h := ?_) | refine G.seq ?_ | refine G.region ?_ | refine G.nil ?_ | refine G.block ?_ | refine G.skip ?_ | refine G.blk ?_ | refine G.wx ?_ | refine G.wt ?_ | refine G.wf ?_)
  (first | refine G.take rfl ?_ | refine G.take_yes rfl rfl rfl (by first | rfl | assumption) ?_); (first | refine R.callD Try.func49 rfl (by decide) rfl rfl (Wait_ok T last rs e) ?_ | refine R.callD0 Try.func49 rfl (by decide) rfl (Wait_ok T last rs e) ?_); simp only [List.cons_append, List.nil_append]
  repeat (first | refine G.w0 ?_ | refine G.w1 ?_ | refine G.wn ?_ | refine GR.w ?_ | (refine G.ws (h := ?_); try (simp only [Nat.reduceAdd, Nat.zero_add, List.set_cons_succ, List.set_cons_zero])) | (refine G.wb ?_; intro bx) | (refine G.wz ?_; intro bx) | refine G.wa (h := ?_) | refine G.seq ?_ | refine G.region ?_ | refine G.nil ?_ | refine G.block ?_ | refine G.skip ?_ | refine G.blk ?_ | refine G.wx ?_ | refine G.wt ?_ | refine G.wf ?_)
  first | refine G.retK [Table T last (onRec rs e fun x => (0, waitRec x)).2, Book B (livesOf rs) last] rfl Try.func11 rfl Res.nil ?_ | refine G.retK [Table T last (onRec rs e fun x => (0, waitRec x)).2, Book B (livesOf rs) last] rfl Try.func11 rfl (Res.tmp rfl Res.nil) ?_ | refine G.retK [Table T last (onRec rs e fun x => (0, waitRec x)).2, Book B (livesOf rs) last] rfl Try.func11 rfl (Res.tmp rfl (Res.tmp rfl Res.nil)) ?_ | refine G.retK [Table T last (onRec rs e fun x => (0, waitRec x)).2, Book B (livesOf rs) last] rfl Try.func11 rfl (Res.tmp rfl (Res.tmp rfl (Res.tmp rfl Res.nil))) ?_ | refine G.retK [Table T last (onRec rs e fun x => (0, waitRec x)).2, Book B (livesOf rs) last] rfl Try.func11 rfl (Res.cellA rfl rfl rfl Res.nil) ?_ | refine G.retK [Table T last (onRec rs e fun x => (0, waitRec x)).2, Book B (livesOf rs) last] rfl Try.func11 rfl (Res.cellA rfl rfl rfl (Res.tmp rfl Res.nil)) ?_ | refine G.retK [Table T last (onRec rs e fun x => (0, waitRec x)).2, Book B (livesOf rs) last] rfl Try.func11 rfl (Res.cell rfl rfl Res.nil) ?_
  exact ⟨rfl, rfl⟩

theorem noted10 : Fun Try.prog 11 [ptr (some B), ptr (some T), opVal ⟨10, t, e, n, m, q, r, on⟩] [Table T last rs, Book B (livesOf rs) last]
    (Ret (.bool true) [Table T (stepF rs last ⟨10, t, e, n, m, q, r, on⟩).2 (stepF rs last ⟨10, t, e, n, m, q, r, on⟩).1, Book B (livesOf (stepF rs last ⟨10, t, e, n, m, q, r, on⟩).1) (stepF rs last ⟨10, t, e, n, m, q, r, on⟩).2]) := by
  have hs : stepF rs last ⟨10, t, e, n, m, q, r, on⟩ = ((onRec rs e fun x => (0, { x with frozen := on })).2, last) := rfl
  rw [hs]; dsimp only; rw [livesOf_onRec]
  refine Fun.enter Try.func11 rfl rfl rfl ?_
  repeat (first | refine G.w0 ?_ | refine G.w1 ?_ | refine G.wn ?_ | refine GR.w ?_ | (refine G.ws (h := ?_); try (simp only [Nat.reduceAdd, Nat.zero_add, List.set_cons_succ, List.set_cons_zero])) | (refine G.wb ?_; intro bx) | (refine G.wz ?_; intro bx) | refine G.wa (h := ?_) | refine G.seq ?_ | refine G.region ?_ | refine G.nil ?_ | refine G.block ?_ | refine G.skip ?_ | refine G.blk ?_ | refine G.wx ?_ | refine G.wt ?_ | refine G.wf ?_)
  (first | refine G.take rfl ?_ | refine G.take_yes rfl rfl rfl (by first | rfl | assumption) ?_); (first | refine R.callD Try.func14 rfl (by decide) rfl rfl (Freeze_ok T last rs e on) ?_ | refine R.callD0 Try.func14 rfl (by decide) rfl (Freeze_ok T last rs e on) ?_); simp only [List.cons_append, List.nil_append]
  repeat (first | refine G.w0 ?_ | refine G.w1 ?_ | refine G.wn ?_ | refine GR.w ?_ | (refine G.ws (h := ?_); try (simp only [Nat.reduceAdd, Nat.zero_add, List.set_cons_succ, List.set_cons_zero])) | (refine G.wb ?_; intro bx) | (refine G.wz ?_; intro bx) | refine G.wa (h := ?_) | refine G.seq ?_ | refine G.region ?_ | refine G.nil ?_ | refine G.block ?_ | refine G.skip ?_ | refine G.blk ?_ | refine G.wx ?_ | refine G.wt ?_ | refine G.wf ?_)
  first | refine G.retK [Table T last (onRec rs e fun x => (0, { x with frozen := on })).2, Book B (livesOf rs) last] rfl Try.func11 rfl Res.nil ?_ | refine G.retK [Table T last (onRec rs e fun x => (0, { x with frozen := on })).2, Book B (livesOf rs) last] rfl Try.func11 rfl (Res.tmp rfl Res.nil) ?_ | refine G.retK [Table T last (onRec rs e fun x => (0, { x with frozen := on })).2, Book B (livesOf rs) last] rfl Try.func11 rfl (Res.tmp rfl (Res.tmp rfl Res.nil)) ?_ | refine G.retK [Table T last (onRec rs e fun x => (0, { x with frozen := on })).2, Book B (livesOf rs) last] rfl Try.func11 rfl (Res.tmp rfl (Res.tmp rfl (Res.tmp rfl Res.nil))) ?_ | refine G.retK [Table T last (onRec rs e fun x => (0, { x with frozen := on })).2, Book B (livesOf rs) last] rfl Try.func11 rfl (Res.cellA rfl rfl rfl Res.nil) ?_ | refine G.retK [Table T last (onRec rs e fun x => (0, { x with frozen := on })).2, Book B (livesOf rs) last] rfl Try.func11 rfl (Res.cellA rfl rfl rfl (Res.tmp rfl Res.nil)) ?_ | refine G.retK [Table T last (onRec rs e fun x => (0, { x with frozen := on })).2, Book B (livesOf rs) last] rfl Try.func11 rfl (Res.cell rfl rfl Res.nil) ?_
  exact ⟨rfl, rfl⟩

theorem noted0 (h2 : k ≠ 2) (h3 : k ≠ 3) (h11 : k ≠ 11) (h12 : k ≠ 12) (h5 : k ≠ 5) (h6 : k ≠ 6) (h7 : k ≠ 7) (h8 : k ≠ 8) (h9 : k ≠ 9) (h10 : k ≠ 10) : Fun Try.prog 11 [ptr (some B), ptr (some T), opVal ⟨k, t, e, n, m, q, r, on⟩] [Table T last rs, Book B (livesOf rs) last]
    (Ret (.bool true) [Table T (stepF rs last ⟨k, t, e, n, m, q, r, on⟩).2 (stepF rs last ⟨k, t, e, n, m, q, r, on⟩).1, Book B (livesOf (stepF rs last ⟨k, t, e, n, m, q, r, on⟩).1) (stepF rs last ⟨k, t, e, n, m, q, r, on⟩).2]) := by
  have hs : stepF rs last ⟨k, t, e, n, m, q, r, on⟩ = (rs, last) := by
    unfold stepF; dsimp only
    rw [if_neg h2, if_neg h3, if_neg h11, if_neg h12, if_neg h5, if_neg h6, if_neg h7, if_neg h8, if_neg h9, if_neg h10]
  rw [hs]; dsimp only
  have g2 : decide (k = 2) = false := decide_eq_false h2
  have g3 : decide (k = 3) = false := decide_eq_false h3
  have g11 : decide (k = 11) = false := decide_eq_false h11
  have g12 : decide (k = 12) = false := decide_eq_false h12
  have g5 : decide (k = 5) = false := decide_eq_false h5
  have g6 : decide (k = 6) = false := decide_eq_false h6
  have g7 : decide (k = 7) = false := decide_eq_false h7
  have g8 : decide (k = 8) = false := decide_eq_false h8
  have g9 : decide (k = 9) = false := decide_eq_false h9
  have g10 : decide (k = 10) = false := decide_eq_false h10
  refine Fun.enter Try.func11 rfl rfl rfl ?_
  repeat (first | refine G.w0 ?_ | refine G.w1 ?_ | refine G.wn ?_ | refine GR.w ?_ | (refine G.ws (h := ?_); try (simp only [Nat.reduceAdd, Nat.zero_add, List.set_cons_succ, List.set_cons_zero])) | (refine G.wb ?_; intro bx) | (refine G.wz ?_; intro bx) | refine G.wa (h := ?_) | refine G.seq ?_ | refine G.region ?_ | refine G.nil ?_ | refine G.block ?_ | refine G.skip ?_ | refine G.blk ?_ | refine G.wx ?_ | refine G.wt ?_ | refine G.wf ?_)
  first | refine G.retK [Table T last rs, Book B (livesOf rs) last] rfl Try.func11 rfl Res.nil ?_ | refine G.retK [Table T last rs, Book B (livesOf rs) last] rfl Try.func11 rfl (Res.tmp rfl Res.nil) ?_ | refine G.retK [Table T last rs, Book B (livesOf rs) last] rfl Try.func11 rfl (Res.tmp rfl (Res.tmp rfl Res.nil)) ?_ | refine G.retK [Table T last rs, Book B (livesOf rs) last] rfl Try.func11 rfl (Res.tmp rfl (Res.tmp rfl (Res.tmp rfl Res.nil))) ?_ | refine G.retK [Table T last rs, Book B (livesOf rs) last] rfl Try.func11 rfl (Res.cellA rfl rfl rfl Res.nil) ?_ | refine G.retK [Table T last rs, Book B (livesOf rs) last] rfl Try.func11 rfl (Res.cellA rfl rfl rfl (Res.tmp rfl Res.nil)) ?_ | refine G.retK [Table T last rs, Book B (livesOf rs) last] rfl Try.func11 rfl (Res.cell rfl rfl Res.nil) ?_
  exact ⟨rfl, rfl⟩
end
end Go.Proofs.Ytffcilmllebdmaa
