/- flagged; running. -/
import Derived.Test.YtffcilmllebdmaaE14
namespace Go.Proofs.Ytffcilmllebdmaa
open Go.Am
set_option maxHeartbeats 4000000
set_option linter.unusedVariables false
set_option linter.unusedSimpArgs false
attribute [local irreducible] Ok GR G Fun OpRun EVS

def flagF : Nat → List (Option Rec) → Int → Bool
  | 0, _, _ => false
  | n + 1, rs, e => if 0 ≤ e then (match getr rs e with | none => true | some r => r.frozen || flagF n rs r.parent) else false

theorem flagF_neg {n : Nat} {rs : List (Option Rec)} {e : Int} (h : ¬ 0 ≤ e) : flagF (n + 1) rs e = false := by simp only [flagF, if_neg h]
theorem flagF_none {n : Nat} {rs : List (Option Rec)} {e : Int} (h : 0 ≤ e) (hr : getr rs e = none) : flagF (n + 1) rs e = true := by simp only [flagF, if_pos h, hr]
theorem flagF_some {n : Nat} {rs : List (Option Rec)} {e : Int} {r : Rec} (h : 0 ≤ e) (hr : getr rs e = some r) : flagF (n + 1) rs e = (r.frozen || flagF n rs r.parent) := by simp only [flagF, if_pos h, hr]

theorem flagged_ok (T : Nat) (last : Int) (rs : List (Option Rec)) (e : Int) (hok : ∀ e r, getr rs e = some r → RecOk r) : Fun Try.prog 13 [ptr (some T), i64 e] [Table T last rs] (Ret (.bool (flagF 17 rs e)) [Table T last rs]) := by
  refine Fun.enter Try.func13 rfl rfl rfl ?_
  repeat (first | refine G.w0 ?_ | refine G.w1 ?_ | refine G.wn ?_ | refine GR.w ?_ | (refine G.ws (h := ?_); try (simp only [Nat.reduceAdd, Nat.zero_add, List.set_cons_succ, List.set_cons_zero])) | (refine G.wb ?_; intro bx) | (refine G.wz ?_; intro bx) | refine G.wa (h := ?_) | refine G.seq ?_ | refine G.region ?_ | refine G.nil ?_ | refine G.block ?_ | refine G.skip ?_ | refine G.blk ?_ | refine G.wx ?_ | refine G.wt ?_ | refine G.wf ?_)
  refine G.loopI (α := Nat × Int) (fun x => [(5, .int .i64 x.1), (1, i64 x.2), (0, ptr (some T))]) (fun _ => [Table T last rs])
      (fun x => x.1 ≤ 17 ∧ flagF 17 rs e = flagF (17 - x.1) rs x.2) (fun x => 17 - x.1) (0, e) ⟨by omega, rfl⟩ (Env.le_cons rfl (Env.le_cons rfl (Env.le_cons rfl (Env.le_nil _)))) rfl ?_
  rintro ⟨n, f⟩ ⟨hn, hfl⟩ hloop
  dsimp only at hn hfl hloop ⊢
  by_cases h16 : n ≤ 16
  rotate_left
  · have hb : decide ((n : Int) ≤ 16) = false := by simp; omega
    repeat (first | refine G.w0 ?_ | refine G.w1 ?_ | refine G.wn ?_ | refine GR.w ?_ | (refine G.ws (h := ?_); try (simp only [Nat.reduceAdd, Nat.zero_add, List.set_cons_succ, List.set_cons_zero])) | (refine G.wb ?_; intro bx) | (refine G.wz ?_; intro bx) | refine G.wa (h := ?_) | refine G.seq ?_ | refine G.region ?_ | refine G.nil ?_ | refine G.block ?_ | refine G.skip ?_ | refine G.blk ?_ | refine G.wx ?_ | refine G.wt ?_ | refine G.wf ?_)
    first | refine G.retK [Table T last rs] rfl Try.func13 rfl Res.nil ?_ | refine G.retK [Table T last rs] rfl Try.func13 rfl (Res.tmp rfl Res.nil) ?_ | refine G.retK [Table T last rs] rfl Try.func13 rfl (Res.tmp rfl (Res.tmp rfl Res.nil)) ?_ | refine G.retK [Table T last rs] rfl Try.func13 rfl (Res.tmp rfl (Res.tmp rfl (Res.tmp rfl Res.nil))) ?_ | refine G.retK [Table T last rs] rfl Try.func13 rfl (Res.cellA rfl rfl rfl Res.nil) ?_ | refine G.retK [Table T last rs] rfl Try.func13 rfl (Res.cellA rfl rfl rfl (Res.tmp rfl Res.nil)) ?_ | refine G.retK [Table T last rs] rfl Try.func13 rfl (Res.cell rfl rfl Res.nil) ?_
    have : 17 - n = 0 := by omega
    rw [hfl, this]
    exact ⟨rfl, rfl⟩
  have hb : decide ((n : Int) ≤ 16) = true := by simp; omega
  obtain ⟨m, hm⟩ : ∃ m, 17 - n = m + 1 := ⟨16 - n, by omega⟩
  rw [hm] at hfl
  by_cases h0 : 0 ≤ f
  rotate_left
  · have hb0 : decide (0 ≤ f) = false := by simpa using h0
    repeat (first | refine G.w0 ?_ | refine G.w1 ?_ | refine G.wn ?_ | refine GR.w ?_ | (refine G.ws (h := ?_); try (simp only [Nat.reduceAdd, Nat.zero_add, List.set_cons_succ, List.set_cons_zero])) | (refine G.wb ?_; intro bx) | (refine G.wz ?_; intro bx) | refine G.wa (h := ?_) | refine G.seq ?_ | refine G.region ?_ | refine G.nil ?_ | refine G.block ?_ | refine G.skip ?_ | refine G.blk ?_ | refine G.wx ?_ | refine G.wt ?_ | refine G.wf ?_)
    first | refine G.retK [Table T last rs] rfl Try.func13 rfl Res.nil ?_ | refine G.retK [Table T last rs] rfl Try.func13 rfl (Res.tmp rfl Res.nil) ?_ | refine G.retK [Table T last rs] rfl Try.func13 rfl (Res.tmp rfl (Res.tmp rfl Res.nil)) ?_ | refine G.retK [Table T last rs] rfl Try.func13 rfl (Res.tmp rfl (Res.tmp rfl (Res.tmp rfl Res.nil))) ?_ | refine G.retK [Table T last rs] rfl Try.func13 rfl (Res.cellA rfl rfl rfl Res.nil) ?_ | refine G.retK [Table T last rs] rfl Try.func13 rfl (Res.cellA rfl rfl rfl (Res.tmp rfl Res.nil)) ?_ | refine G.retK [Table T last rs] rfl Try.func13 rfl (Res.cell rfl rfl Res.nil) ?_
    rw [hfl, flagF_neg h0]
    exact ⟨rfl, rfl⟩
  have hb0 : decide (0 ≤ f) = true := by simpa using h0
  have hinfo := Info_ok T last rs f (hok f)
  cases hr : getr rs f with
  | none =>
    simp only [infoOf, errOf, hr] at hinfo
    have hfl := hfl.trans (flagF_none h0 hr)
    repeat (first | refine G.w0 ?_ | refine G.w1 ?_ | refine G.wn ?_ | refine GR.w ?_ | (refine G.ws (h := ?_); try (simp only [Nat.reduceAdd, Nat.zero_add, List.set_cons_succ, List.set_cons_zero])) | (refine G.wb ?_; intro bx) | (refine G.wz ?_; intro bx) | refine G.wa (h := ?_) | refine G.seq ?_ | refine G.region ?_ | refine G.nil ?_ | refine G.block ?_ | refine G.skip ?_ | refine G.blk ?_ | refine G.wx ?_ | refine G.wt ?_ | refine G.wf ?_)
    (first | refine G.take rfl ?_ | refine G.take_yes rfl rfl rfl (by first | rfl | assumption) ?_); (first | refine R.callD Try.func12 rfl (by decide) rfl rfl (hinfo) ?_ | refine R.callD0 Try.func12 rfl (by decide) rfl (hinfo) ?_); simp only [List.cons_append, List.nil_append]
    repeat (first | refine G.w0 ?_ | refine G.w1 ?_ | refine G.wn ?_ | refine GR.w ?_ | (refine G.ws (h := ?_); try (simp only [Nat.reduceAdd, Nat.zero_add, List.set_cons_succ, List.set_cons_zero])) | (refine G.wb ?_; intro bx) | (refine G.wz ?_; intro bx) | refine G.wa (h := ?_) | refine G.seq ?_ | refine G.region ?_ | refine G.nil ?_ | refine G.block ?_ | refine G.skip ?_ | refine G.blk ?_ | refine G.wx ?_ | refine G.wt ?_ | refine G.wf ?_)
    first | refine G.retK [Table T last rs] rfl Try.func13 rfl Res.nil ?_ | refine G.retK [Table T last rs] rfl Try.func13 rfl (Res.tmp rfl Res.nil) ?_ | refine G.retK [Table T last rs] rfl Try.func13 rfl (Res.tmp rfl (Res.tmp rfl Res.nil)) ?_ | refine G.retK [Table T last rs] rfl Try.func13 rfl (Res.tmp rfl (Res.tmp rfl (Res.tmp rfl Res.nil))) ?_ | refine G.retK [Table T last rs] rfl Try.func13 rfl (Res.cellA rfl rfl rfl Res.nil) ?_ | refine G.retK [Table T last rs] rfl Try.func13 rfl (Res.cellA rfl rfl rfl (Res.tmp rfl Res.nil)) ?_ | refine G.retK [Table T last rs] rfl Try.func13 rfl (Res.cell rfl rfl Res.nil) ?_
    rw [hfl]
    exact ⟨rfl, rfl⟩
  | some r =>
    simp only [infoOf, errOf, hr] at hinfo
    have hfl := hfl.trans (flagF_some h0 hr)
    by_cases hz : r.frozen = true
    · repeat (first | refine G.w0 ?_ | refine G.w1 ?_ | refine G.wn ?_ | refine GR.w ?_ | (refine G.ws (h := ?_); try (simp only [Nat.reduceAdd, Nat.zero_add, List.set_cons_succ, List.set_cons_zero])) | (refine G.wb ?_; intro bx) | (refine G.wz ?_; intro bx) | refine G.wa (h := ?_) | refine G.seq ?_ | refine G.region ?_ | refine G.nil ?_ | refine G.block ?_ | refine G.skip ?_ | refine G.blk ?_ | refine G.wx ?_ | refine G.wt ?_ | refine G.wf ?_)
      (first | refine G.take rfl ?_ | refine G.take_yes rfl rfl rfl (by first | rfl | assumption) ?_); (first | refine R.callD Try.func12 rfl (by decide) rfl rfl (hinfo) ?_ | refine R.callD0 Try.func12 rfl (by decide) rfl (hinfo) ?_); simp only [List.cons_append, List.nil_append]
      repeat (first | refine G.w0 ?_ | refine G.w1 ?_ | refine G.wn ?_ | refine GR.w ?_ | (refine G.ws (h := ?_); try (simp only [Nat.reduceAdd, Nat.zero_add, List.set_cons_succ, List.set_cons_zero])) | (refine G.wb ?_; intro bx) | (refine G.wz ?_; intro bx) | refine G.wa (h := ?_) | refine G.seq ?_ | refine G.region ?_ | refine G.nil ?_ | refine G.block ?_ | refine G.skip ?_ | refine G.blk ?_ | refine G.wx ?_ | refine G.wt ?_ | refine G.wf ?_)
      first | refine G.retK [Table T last rs] rfl Try.func13 rfl Res.nil ?_ | refine G.retK [Table T last rs] rfl Try.func13 rfl (Res.tmp rfl Res.nil) ?_ | refine G.retK [Table T last rs] rfl Try.func13 rfl (Res.tmp rfl (Res.tmp rfl Res.nil)) ?_ | refine G.retK [Table T last rs] rfl Try.func13 rfl (Res.tmp rfl (Res.tmp rfl (Res.tmp rfl Res.nil))) ?_ | refine G.retK [Table T last rs] rfl Try.func13 rfl (Res.cellA rfl rfl rfl Res.nil) ?_ | refine G.retK [Table T last rs] rfl Try.func13 rfl (Res.cellA rfl rfl rfl (Res.tmp rfl Res.nil)) ?_ | refine G.retK [Table T last rs] rfl Try.func13 rfl (Res.cell rfl rfl Res.nil) ?_
      rw [hfl, hz]
      exact ⟨rfl, rfl⟩
    have hz : r.frozen = false := by simpa using hz
    have hw : IntKind.i64.wrap ((n : Int) + 1) = (n : Int) + 1 := wrap_id (by omega) (by omega)
    repeat (first | refine G.w0 ?_ | refine G.w1 ?_ | refine G.wn ?_ | refine GR.w ?_ | (refine G.ws (h := ?_); try (simp only [Nat.reduceAdd, Nat.zero_add, List.set_cons_succ, List.set_cons_zero])) | (refine G.wb ?_; intro bx) | (refine G.wz ?_; intro bx) | refine G.wa (h := ?_) | refine G.seq ?_ | refine G.region ?_ | refine G.nil ?_ | refine G.block ?_ | refine G.skip ?_ | refine G.blk ?_ | refine G.wx ?_ | refine G.wt ?_ | refine G.wf ?_)
    (first | refine G.take rfl ?_ | refine G.take_yes rfl rfl rfl (by first | rfl | assumption) ?_); (first | refine R.callD Try.func12 rfl (by decide) rfl rfl (hinfo) ?_ | refine R.callD0 Try.func12 rfl (by decide) rfl (hinfo) ?_); simp only [List.cons_append, List.nil_append]
    repeat (first | refine G.w0 ?_ | refine G.w1 ?_ | refine G.wn ?_ | refine GR.w ?_ | (refine G.ws (h := ?_); try (simp only [Nat.reduceAdd, Nat.zero_add, List.set_cons_succ, List.set_cons_zero])) | (refine G.wb ?_; intro bx) | (refine G.wz ?_; intro bx) | refine G.wa (h := ?_) | refine G.seq ?_ | refine G.region ?_ | refine G.nil ?_ | refine G.block ?_ | refine G.skip ?_ | refine G.blk ?_ | refine G.wx ?_ | refine G.wt ?_ | refine G.wf ?_)
    refine G.keep [Table T last rs] ?_
    refine (hloop (n + 1, r.parent) ⟨by dsimp only; omega, ?_⟩ (by dsimp only; omega)).forget _ (Env.le_cons rfl (Env.le_cons rfl (Env.le_cons rfl (Env.le_nil _))))
    dsimp only
    have : 17 - (n + 1) = m := by omega
    rw [this, hfl, hz, Bool.false_or]

/-- By number: does it run? (n: the numbers that were asked.) -/
def runsTo (rs : List (Option Rec)) (n : Nat) : List Value := (List.range 16).map fun k => .bool (if k < n then runsF rs (k : Nat) else false)
theorem runsTo_set (rs : List (Option Rec)) (n : Nat) (hn : n < 16) : (runsTo rs n).set n (.bool (runsF rs (n : Nat))) = runsTo rs (n + 1) := by
  unfold runsTo
  apply List.ext_getElem
  · simp
  · intro j h1 h2
    simp only [List.length_map, List.length_range] at h2
    rw [List.getElem_set]
    simp only [List.getElem_map, List.getElem_range]
    by_cases hj : n = j
    · subst hj; simp
    · rw [if_neg hj]
      by_cases h : j < n
      · rw [if_pos h, if_pos (by omega)]
      · rw [if_neg h, if_neg (by omega)]

theorem running_ok (T : Nat) (last : Int) (rs : List (Option Rec)) (hup : ∀ e, Up 16 rs e) : Fun Try.prog 15 [ptr (some T)] [Table T last rs] (Ret (.agg (runsTo rs 16).toArray) [Table T last rs]) := by
  refine Fun.enter Try.func15 rfl rfl rfl ?_
  repeat (first | refine G.w0 ?_ | refine G.w1 ?_ | refine G.wn ?_ | refine GR.w ?_ | (refine G.ws (h := ?_); try (simp only [Nat.reduceAdd, Nat.zero_add, List.set_cons_succ, List.set_cons_zero])) | (refine G.wb ?_; intro bx) | (refine G.wz ?_; intro bx) | refine G.wa (h := ?_) | refine G.seq ?_ | refine G.region ?_ | refine G.nil ?_ | refine G.block ?_ | refine G.skip ?_ | refine G.blk ?_ | refine G.wx ?_ | refine G.wt ?_ | refine G.wf ?_)
  rename_i rb
  refine G.isC bx (runsTo rs 0) rfl ?_
  refine G.loopI (fun n : Nat => [(4, .int .i64 n), (3, ptr (some bx)), (2, ptr (some rb)), (0, ptr (some T))]) (fun n => [cb bx (runsTo rs n) 45, cb rb (runsTo rs 0) 45, Table T last rs])
      (fun n => n ≤ 16) (fun n => 16 - n) 0 (by omega) (Env.le_cons rfl (Env.le_cons rfl (Env.le_cons rfl (Env.le_cons rfl (Env.le_nil _))))) rfl ?_
  rintro n hn hloop
  by_cases h16 : n < 16
  · have hb : decide ((n : Int) < 16) = true := by simp; omega
    have hidx : 0 ≤ (n : Int) ∧ (n : Int) < ((16 : Nat) : Int) := by omega
    have hw : IntKind.i64.wrap ((n : Int) + 1) = (n : Int) + 1 := wrap_id (by omega) (by omega)
    have e1 : 0 + (n : Int).toNat * 1 = n := by simp
    repeat (first | refine G.w0 ?_ | refine G.w1 ?_ | refine G.wn ?_ | refine GR.w ?_ | (refine G.ws (h := ?_); try (simp only [Nat.reduceAdd, Nat.zero_add, List.set_cons_succ, List.set_cons_zero])) | (refine G.wb ?_; intro bx) | (refine G.wz ?_; intro bx) | refine G.wa (h := ?_) | refine G.seq ?_ | refine G.region ?_ | refine G.nil ?_ | refine G.block ?_ | refine G.skip ?_ | refine G.blk ?_ | refine G.wx ?_ | refine G.wt ?_ | refine G.wf ?_)
    (first | refine G.take rfl ?_ | refine G.take_yes rfl rfl rfl (by first | rfl | assumption) ?_); (first | refine R.callD Try.func10 rfl (by decide) rfl rfl (Runs_ok T last rs (n : Int) (hup _)) ?_ | refine R.callD0 Try.func10 rfl (by decide) rfl (Runs_ok T last rs (n : Int) (hup _)) ?_); simp only [List.cons_append, List.nil_append]
    repeat (first | refine G.w0 ?_ | refine G.w1 ?_ | refine G.wn ?_ | refine GR.w ?_ | (refine G.ws (h := ?_); try (simp only [Nat.reduceAdd, Nat.zero_add, List.set_cons_succ, List.set_cons_zero])) | (refine G.wb ?_; intro bx) | (refine G.wz ?_; intro bx) | refine G.wa (h := ?_) | refine G.seq ?_ | refine G.region ?_ | refine G.nil ?_ | refine G.block ?_ | refine G.skip ?_ | refine G.blk ?_ | refine G.wx ?_ | refine G.wt ?_ | refine G.wf ?_)
    (first | refine G.take rfl ?_ | refine G.take_yes rfl rfl rfl (by first | rfl | assumption) ?_)
    refine R.store rfl rfl rfl (by rw [e1]; simp [runsTo]; omega) ?_
    rw [e1, runsTo_set rs n h16]
    repeat (first | refine G.w0 ?_ | refine G.w1 ?_ | refine G.wn ?_ | refine GR.w ?_ | (refine G.ws (h := ?_); try (simp only [Nat.reduceAdd, Nat.zero_add, List.set_cons_succ, List.set_cons_zero])) | (refine G.wb ?_; intro bx) | (refine G.wz ?_; intro bx) | refine G.wa (h := ?_) | refine G.seq ?_ | refine G.region ?_ | refine G.nil ?_ | refine G.block ?_ | refine G.skip ?_ | refine G.blk ?_ | refine G.wx ?_ | refine G.wt ?_ | refine G.wf ?_)
    refine G.keep [cb bx (runsTo rs (n + 1)) 45, cb rb (runsTo rs 0) 45, Table T last rs] ?_
    exact (hloop (n + 1) (by omega) (by omega)).forget _ (Env.le_cons rfl (Env.le_cons rfl (Env.le_cons rfl (Env.le_cons rfl (Env.le_nil _)))))
  · have hb : decide ((n : Int) < 16) = false := by simp; omega
    have : n = 16 := by omega
    subst this
    repeat (first | refine G.w0 ?_ | refine G.w1 ?_ | refine G.wn ?_ | refine GR.w ?_ | (refine G.ws (h := ?_); try (simp only [Nat.reduceAdd, Nat.zero_add, List.set_cons_succ, List.set_cons_zero])) | (refine G.wb ?_; intro bx) | (refine G.wz ?_; intro bx) | refine G.wa (h := ?_) | refine G.seq ?_ | refine G.region ?_ | refine G.nil ?_ | refine G.block ?_ | refine G.skip ?_ | refine G.blk ?_ | refine G.wx ?_ | refine G.wt ?_ | refine G.wf ?_)
    first | refine G.retK [Table T last rs] rfl Try.func15 rfl Res.nil ?_ | refine G.retK [Table T last rs] rfl Try.func15 rfl (Res.tmp rfl Res.nil) ?_ | refine G.retK [Table T last rs] rfl Try.func15 rfl (Res.tmp rfl (Res.tmp rfl Res.nil)) ?_ | refine G.retK [Table T last rs] rfl Try.func15 rfl (Res.tmp rfl (Res.tmp rfl (Res.tmp rfl Res.nil))) ?_ | refine G.retK [Table T last rs] rfl Try.func15 rfl (Res.cellA rfl rfl rfl Res.nil) ?_ | refine G.retK [Table T last rs] rfl Try.func15 rfl (Res.cellA rfl rfl rfl (Res.tmp rfl Res.nil)) ?_ | refine G.retK [Table T last rs] rfl Try.func15 rfl (Res.cell rfl rfl Res.nil) ?_
    exact ⟨rfl, rfl⟩
end Go.Proofs.Ytffcilmllebdmaa
