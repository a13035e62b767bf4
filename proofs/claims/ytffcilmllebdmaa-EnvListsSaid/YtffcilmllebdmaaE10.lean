/- Create. -/
import Derived.Test.YtffcilmllebdmaaE9
namespace Go.Proofs.Ytffcilmllebdmaa
open Go.Am
set_option maxHeartbeats 4000000
set_option linter.unusedVariables false
set_option linter.unusedSimpArgs false
attribute [local irreducible] Ok GR G Fun OpRun EVS

/-- The lowest free number. -/
def freeOf (rs : List (Option Rec)) : Option Nat := rs.findIdx? Option.isNone
def MaxSer : Int := 4611686018427387903

/-- What Create answers and leaves. -/
def createF (rs : List (Option Rec)) (last parent serial : Int) (q : Qt) : (Int × Int) × Int × List (Option Rec) :=
  match getr rs parent with
  | none => ((-1, 90), last, rs)
  | some p =>
    if ¬ qgood q ∨ serial ≤ last ∨ MaxSer < serial then ((-1, 1), last, rs)
    else if ¬ qle (qone q) (qleft p) then ((-1, 2), last, rs)
    else match freeOf rs with
      | none => ((-1, 2), last, rs)
      | some n => (((n : Int), 0), serial, (rs.set n (some (newRec serial parent q))).set parent.toNat (some { p with carved := qadd p.carved (qone q), kids := p.kids ++ [(n : Int)] }))

theorem freeOf_free {ps : List (Option Nat)} {rs : List (Option Rec)} {r : Int} (h : Alike ps rs) (hl : rs.length = 16) (hr : IsFree ps r) : freeOf rs = some r.toNat := by
  obtain ⟨h0, h1, h2, h3⟩ := hr
  unfold freeOf
  rw [List.findIdx?_eq_some_iff_getElem]
  have hg : ∀ j : Nat, (hj : j < 16) → (getp ps j).isSome = (rs[j]'(by omega)).isSome := by
    intro j hj
    rw [h.getp j]
    simp [getr, List.getElem?_eq_getElem (show j < rs.length by omega)]
  refine ⟨by omega, ?_, ?_⟩
  · have := hg r.toNat (by omega)
    rw [Int.toNat_of_nonneg h0, h2] at this
    cases hh : rs[r.toNat]'(by omega) <;> simp_all
  · intro j hj
    have := hg j (by omega)
    rw [h3 j (by omega) (by omega)] at this
    cases hh : rs[j]'(by omega)
    · rw [hh] at this; exact absurd this (by decide)
    · simp

theorem freeOf_full {ps : List (Option Nat)} {rs : List (Option Rec)} (h : Alike ps rs) (hl : rs.length = 16) (hr : ∀ j, 0 ≤ j → j < 16 → (getp ps j).isSome = true) : freeOf rs = none := by
  unfold freeOf
  rw [List.findIdx?_eq_none_iff]
  intro x hx
  obtain ⟨j, hj, rfl⟩ := List.mem_iff_getElem.1 hx
  have := h.getp (j : Int)
  rw [hr (j : Int) (by omega) (by omega)] at this
  unfold getr at this
  rw [if_pos (by omega), Int.toNat_natCast, List.getElem?_eq_getElem hj] at this
  cases hh : rs[j]
  · rw [hh] at this; exact absurd this (by decide)
  · rfl

theorem Create_ok (T : Nat) (last : Int) (rs : List (Option Rec)) (parent serial : Int) (q : Qt) (hok : ∀ r, getr rs parent = some r → RecOk r ∧ r.kids.length ≤ 16) : Fun Try.prog 18 [ptr (some T), i64 parent, i64 serial, qtVal q] [Table T last rs]
    (Ret (.tuple #[i64 (createF rs last parent serial q).1.1, i64 (createF rs last parent serial q).1.2]) [Table T (createF rs last parent serial q).2.1 (createF rs last parent serial q).2.2]) := by
  refine Fun.enter Try.func18 rfl rfl rfl ?_
  refine G.open (Table T last rs) rfl ?_
  rintro ⟨S, low, ps⟩ ⟨hlow, hal, hl⟩
  simp only [List.cons_append, List.nil_append]
  rcases hp : getp ps parent with _ | b
  · repeat (first | refine G.w0 ?_ | refine G.w1 ?_ | refine G.wn ?_ | refine GR.w ?_ | (refine G.ws (h := ?_); try (simp only [Nat.reduceAdd, Nat.zero_add, List.set_cons_succ, List.set_cons_zero])) | (refine G.wb ?_; intro bx) | (refine G.wz ?_; intro bx) | refine G.wa (h := ?_) | refine G.seq ?_ | refine G.region ?_ | refine G.nil ?_ | refine G.block ?_ | refine G.skip ?_ | refine G.blk ?_ | refine G.wx ?_ | refine G.wt ?_ | refine G.wf ?_)
    (first | refine G.take rfl ?_ | refine G.take_yes rfl rfl rfl (by first | rfl | assumption) ?_); (first | refine R.callD Try.func44 rfl (by decide) rfl rfl (at_ok S low parent ps _ hp) ?_ | refine R.callD0 Try.func44 rfl (by decide) rfl (at_ok S low parent ps _ hp) ?_); simp only [List.cons_append, List.nil_append]
    repeat (first | refine G.w0 ?_ | refine G.w1 ?_ | refine G.wn ?_ | refine GR.w ?_ | (refine G.ws (h := ?_); try (simp only [Nat.reduceAdd, Nat.zero_add, List.set_cons_succ, List.set_cons_zero])) | (refine G.wb ?_; intro bx) | (refine G.wz ?_; intro bx) | refine G.wa (h := ?_) | refine G.seq ?_ | refine G.region ?_ | refine G.nil ?_ | refine G.block ?_ | refine G.skip ?_ | refine G.blk ?_ | refine G.wx ?_ | refine G.wt ?_ | refine G.wf ?_)
    refine G.close (Table T last rs) rfl ((S, low, ps)) (⟨hlow, hal, hl⟩) (by dsimp only) ?_
    first | refine G.retK [Table T last rs] rfl Try.func18 rfl Res.nil ?_ | refine G.retK [Table T last rs] rfl Try.func18 rfl (Res.tmp rfl Res.nil) ?_ | refine G.retK [Table T last rs] rfl Try.func18 rfl (Res.tmp rfl (Res.tmp rfl Res.nil)) ?_ | refine G.retK [Table T last rs] rfl Try.func18 rfl (Res.tmp rfl (Res.tmp rfl (Res.tmp rfl Res.nil))) ?_ | refine G.retK [Table T last rs] rfl Try.func18 rfl (Res.cellA rfl rfl rfl Res.nil) ?_ | refine G.retK [Table T last rs] rfl Try.func18 rfl (Res.cellA rfl rfl rfl (Res.tmp rfl Res.nil)) ?_ | refine G.retK [Table T last rs] rfl Try.func18 rfl (Res.cell rfl rfl Res.nil) ?_
    simp only [createF, getr_none hal hp]
    exact ⟨rfl, rfl⟩
  · obtain ⟨r, hr⟩ := getr_some hal hp
    obtain ⟨hrok, hkl⟩ := hok r hr
    have bad : (¬ qgood q ∨ serial ≤ last ∨ MaxSer < serial) → Ret (.tuple #[i64 (createF rs last parent serial q).1.1, i64 (createF rs last parent serial q).1.2]) [Table T (createF rs last parent serial q).2.1 (createF rs last parent serial q).2.2] (.tuple #[i64 (-1), i64 1]) [Table T last rs] := by
      intro h
      simp only [createF, hr, if_pos h]
      exact ⟨rfl, rfl⟩
    by_cases h1 : qgood q
    rotate_left
    · have hb1 : (!decide (qgood q)) = true := by simpa using h1
      repeat (first | refine G.w0 ?_ | refine G.w1 ?_ | refine G.wn ?_ | refine GR.w ?_ | (refine G.ws (h := ?_); try (simp only [Nat.reduceAdd, Nat.zero_add, List.set_cons_succ, List.set_cons_zero])) | (refine G.wb ?_; intro bx) | (refine G.wz ?_; intro bx) | refine G.wa (h := ?_) | refine G.seq ?_ | refine G.region ?_ | refine G.nil ?_ | refine G.block ?_ | refine G.skip ?_ | refine G.blk ?_ | refine G.wx ?_ | refine G.wt ?_ | refine G.wf ?_)
      (first | refine G.take rfl ?_ | refine G.take_yes rfl rfl rfl (by first | rfl | assumption) ?_); (first | refine R.callD Try.func44 rfl (by decide) rfl rfl (at_ok S low parent ps _ hp) ?_ | refine R.callD0 Try.func44 rfl (by decide) rfl (at_ok S low parent ps _ hp) ?_); simp only [List.cons_append, List.nil_append]
      repeat (first | refine G.w0 ?_ | refine G.w1 ?_ | refine G.wn ?_ | refine GR.w ?_ | (refine G.ws (h := ?_); try (simp only [Nat.reduceAdd, Nat.zero_add, List.set_cons_succ, List.set_cons_zero])) | (refine G.wb ?_; intro bx) | (refine G.wz ?_; intro bx) | refine G.wa (h := ?_) | refine G.seq ?_ | refine G.region ?_ | refine G.nil ?_ | refine G.block ?_ | refine G.skip ?_ | refine G.blk ?_ | refine G.wx ?_ | refine G.wt ?_ | refine G.wf ?_)
      (first | refine G.take rfl ?_ | refine G.take_yes rfl rfl rfl (by first | rfl | assumption) ?_); (first | refine R.callD Try.func51 rfl (by decide) rfl rfl (good_ok q) ?_ | refine R.callD0 Try.func51 rfl (by decide) rfl (good_ok q) ?_); simp only [List.cons_append, List.nil_append]
      repeat (first | refine G.w0 ?_ | refine G.w1 ?_ | refine G.wn ?_ | refine GR.w ?_ | (refine G.ws (h := ?_); try (simp only [Nat.reduceAdd, Nat.zero_add, List.set_cons_succ, List.set_cons_zero])) | (refine G.wb ?_; intro bx) | (refine G.wz ?_; intro bx) | refine G.wa (h := ?_) | refine G.seq ?_ | refine G.region ?_ | refine G.nil ?_ | refine G.block ?_ | refine G.skip ?_ | refine G.blk ?_ | refine G.wx ?_ | refine G.wt ?_ | refine G.wf ?_)
      refine G.close (Table T last rs) rfl ((S, low, ps)) (⟨hlow, hal, hl⟩) (by dsimp only) ?_
      first | refine G.retK [Table T last rs] rfl Try.func18 rfl Res.nil ?_ | refine G.retK [Table T last rs] rfl Try.func18 rfl (Res.tmp rfl Res.nil) ?_ | refine G.retK [Table T last rs] rfl Try.func18 rfl (Res.tmp rfl (Res.tmp rfl Res.nil)) ?_ | refine G.retK [Table T last rs] rfl Try.func18 rfl (Res.tmp rfl (Res.tmp rfl (Res.tmp rfl Res.nil))) ?_ | refine G.retK [Table T last rs] rfl Try.func18 rfl (Res.cellA rfl rfl rfl Res.nil) ?_ | refine G.retK [Table T last rs] rfl Try.func18 rfl (Res.cellA rfl rfl rfl (Res.tmp rfl Res.nil)) ?_ | refine G.retK [Table T last rs] rfl Try.func18 rfl (Res.cell rfl rfl Res.nil) ?_
      exact bad (.inl h1)
    have hb1 : (!decide (qgood q)) = false := by simpa using h1
    by_cases h2 : serial ≤ last
    · have hb2 : decide (serial ≤ last) = true := by simpa using h2
      repeat (first | refine G.w0 ?_ | refine G.w1 ?_ | refine G.wn ?_ | refine GR.w ?_ | (refine G.ws (h := ?_); try (simp only [Nat.reduceAdd, Nat.zero_add, List.set_cons_succ, List.set_cons_zero])) | (refine G.wb ?_; intro bx) | (refine G.wz ?_; intro bx) | refine G.wa (h := ?_) | refine G.seq ?_ | refine G.region ?_ | refine G.nil ?_ | refine G.block ?_ | refine G.skip ?_ | refine G.blk ?_ | refine G.wx ?_ | refine G.wt ?_ | refine G.wf ?_)
      (first | refine G.take rfl ?_ | refine G.take_yes rfl rfl rfl (by first | rfl | assumption) ?_); (first | refine R.callD Try.func44 rfl (by decide) rfl rfl (at_ok S low parent ps _ hp) ?_ | refine R.callD0 Try.func44 rfl (by decide) rfl (at_ok S low parent ps _ hp) ?_); simp only [List.cons_append, List.nil_append]
      repeat (first | refine G.w0 ?_ | refine G.w1 ?_ | refine G.wn ?_ | refine GR.w ?_ | (refine G.ws (h := ?_); try (simp only [Nat.reduceAdd, Nat.zero_add, List.set_cons_succ, List.set_cons_zero])) | (refine G.wb ?_; intro bx) | (refine G.wz ?_; intro bx) | refine G.wa (h := ?_) | refine G.seq ?_ | refine G.region ?_ | refine G.nil ?_ | refine G.block ?_ | refine G.skip ?_ | refine G.blk ?_ | refine G.wx ?_ | refine G.wt ?_ | refine G.wf ?_)
      (first | refine G.take rfl ?_ | refine G.take_yes rfl rfl rfl (by first | rfl | assumption) ?_); (first | refine R.callD Try.func51 rfl (by decide) rfl rfl (good_ok q) ?_ | refine R.callD0 Try.func51 rfl (by decide) rfl (good_ok q) ?_); simp only [List.cons_append, List.nil_append]
      repeat (first | refine G.w0 ?_ | refine G.w1 ?_ | refine G.wn ?_ | refine GR.w ?_ | (refine G.ws (h := ?_); try (simp only [Nat.reduceAdd, Nat.zero_add, List.set_cons_succ, List.set_cons_zero])) | (refine G.wb ?_; intro bx) | (refine G.wz ?_; intro bx) | refine G.wa (h := ?_) | refine G.seq ?_ | refine G.region ?_ | refine G.nil ?_ | refine G.block ?_ | refine G.skip ?_ | refine G.blk ?_ | refine G.wx ?_ | refine G.wt ?_ | refine G.wf ?_)
      refine G.close (Table T last rs) rfl ((S, low, ps)) (⟨hlow, hal, hl⟩) (by dsimp only) ?_
      first | refine G.retK [Table T last rs] rfl Try.func18 rfl Res.nil ?_ | refine G.retK [Table T last rs] rfl Try.func18 rfl (Res.tmp rfl Res.nil) ?_ | refine G.retK [Table T last rs] rfl Try.func18 rfl (Res.tmp rfl (Res.tmp rfl Res.nil)) ?_ | refine G.retK [Table T last rs] rfl Try.func18 rfl (Res.tmp rfl (Res.tmp rfl (Res.tmp rfl Res.nil))) ?_ | refine G.retK [Table T last rs] rfl Try.func18 rfl (Res.cellA rfl rfl rfl Res.nil) ?_ | refine G.retK [Table T last rs] rfl Try.func18 rfl (Res.cellA rfl rfl rfl (Res.tmp rfl Res.nil)) ?_ | refine G.retK [Table T last rs] rfl Try.func18 rfl (Res.cell rfl rfl Res.nil) ?_
      exact bad (.inr (.inl h2))
    have hb2 : decide (serial ≤ last) = false := by simpa using h2
    by_cases h3 : MaxSer < serial
    · have hb3 : decide (4611686018427387903 < serial) = true := by simpa [MaxSer] using h3
      repeat (first | refine G.w0 ?_ | refine G.w1 ?_ | refine G.wn ?_ | refine GR.w ?_ | (refine G.ws (h := ?_); try (simp only [Nat.reduceAdd, Nat.zero_add, List.set_cons_succ, List.set_cons_zero])) | (refine G.wb ?_; intro bx) | (refine G.wz ?_; intro bx) | refine G.wa (h := ?_) | refine G.seq ?_ | refine G.region ?_ | refine G.nil ?_ | refine G.block ?_ | refine G.skip ?_ | refine G.blk ?_ | refine G.wx ?_ | refine G.wt ?_ | refine G.wf ?_)
      (first | refine G.take rfl ?_ | refine G.take_yes rfl rfl rfl (by first | rfl | assumption) ?_); (first | refine R.callD Try.func44 rfl (by decide) rfl rfl (at_ok S low parent ps _ hp) ?_ | refine R.callD0 Try.func44 rfl (by decide) rfl (at_ok S low parent ps _ hp) ?_); simp only [List.cons_append, List.nil_append]
      repeat (first | refine G.w0 ?_ | refine G.w1 ?_ | refine G.wn ?_ | refine GR.w ?_ | (refine G.ws (h := ?_); try (simp only [Nat.reduceAdd, Nat.zero_add, List.set_cons_succ, List.set_cons_zero])) | (refine G.wb ?_; intro bx) | (refine G.wz ?_; intro bx) | refine G.wa (h := ?_) | refine G.seq ?_ | refine G.region ?_ | refine G.nil ?_ | refine G.block ?_ | refine G.skip ?_ | refine G.blk ?_ | refine G.wx ?_ | refine G.wt ?_ | refine G.wf ?_)
      (first | refine G.take rfl ?_ | refine G.take_yes rfl rfl rfl (by first | rfl | assumption) ?_); (first | refine R.callD Try.func51 rfl (by decide) rfl rfl (good_ok q) ?_ | refine R.callD0 Try.func51 rfl (by decide) rfl (good_ok q) ?_); simp only [List.cons_append, List.nil_append]
      repeat (first | refine G.w0 ?_ | refine G.w1 ?_ | refine G.wn ?_ | refine GR.w ?_ | (refine G.ws (h := ?_); try (simp only [Nat.reduceAdd, Nat.zero_add, List.set_cons_succ, List.set_cons_zero])) | (refine G.wb ?_; intro bx) | (refine G.wz ?_; intro bx) | refine G.wa (h := ?_) | refine G.seq ?_ | refine G.region ?_ | refine G.nil ?_ | refine G.block ?_ | refine G.skip ?_ | refine G.blk ?_ | refine G.wx ?_ | refine G.wt ?_ | refine G.wf ?_)
      refine G.close (Table T last rs) rfl ((S, low, ps)) (⟨hlow, hal, hl⟩) (by dsimp only) ?_
      first | refine G.retK [Table T last rs] rfl Try.func18 rfl Res.nil ?_ | refine G.retK [Table T last rs] rfl Try.func18 rfl (Res.tmp rfl Res.nil) ?_ | refine G.retK [Table T last rs] rfl Try.func18 rfl (Res.tmp rfl (Res.tmp rfl Res.nil)) ?_ | refine G.retK [Table T last rs] rfl Try.func18 rfl (Res.tmp rfl (Res.tmp rfl (Res.tmp rfl Res.nil))) ?_ | refine G.retK [Table T last rs] rfl Try.func18 rfl (Res.cellA rfl rfl rfl Res.nil) ?_ | refine G.retK [Table T last rs] rfl Try.func18 rfl (Res.cellA rfl rfl rfl (Res.tmp rfl Res.nil)) ?_ | refine G.retK [Table T last rs] rfl Try.func18 rfl (Res.cell rfl rfl Res.nil) ?_
      exact bad (.inr (.inr h3))
    have hb3 : decide (4611686018427387903 < serial) = false := by unfold MaxSer at h3; simpa using h3
    have hnb : ¬ (¬ qgood q ∨ serial ≤ last ∨ MaxSer < serial) := by rintro (h | h | h) <;> contradiction
    have hq1 : (qone q).in64 := by
      unfold qgood at h1; refine ⟨?_, ?_, ?_⟩ <;> simp only [qone, in64] <;> omega
    repeat (first | refine G.w0 ?_ | refine G.w1 ?_ | refine G.wn ?_ | refine GR.w ?_ | (refine G.ws (h := ?_); try (simp only [Nat.reduceAdd, Nat.zero_add, List.set_cons_succ, List.set_cons_zero])) | (refine G.wb ?_; intro bx) | (refine G.wz ?_; intro bx) | refine G.wa (h := ?_) | refine G.seq ?_ | refine G.region ?_ | refine G.nil ?_ | refine G.block ?_ | refine G.skip ?_ | refine G.blk ?_ | refine G.wx ?_ | refine G.wt ?_ | refine G.wf ?_)
    (first | refine G.take rfl ?_ | refine G.take_yes rfl rfl rfl (by first | rfl | assumption) ?_); (first | refine R.callD Try.func44 rfl (by decide) rfl rfl (at_ok S low parent ps _ hp) ?_ | refine R.callD0 Try.func44 rfl (by decide) rfl (at_ok S low parent ps _ hp) ?_); simp only [List.cons_append, List.nil_append]
    repeat (first | refine G.w0 ?_ | refine G.w1 ?_ | refine G.wn ?_ | refine GR.w ?_ | (refine G.ws (h := ?_); try (simp only [Nat.reduceAdd, Nat.zero_add, List.set_cons_succ, List.set_cons_zero])) | (refine G.wb ?_; intro bx) | (refine G.wz ?_; intro bx) | refine G.wa (h := ?_) | refine G.seq ?_ | refine G.region ?_ | refine G.nil ?_ | refine G.block ?_ | refine G.skip ?_ | refine G.blk ?_ | refine G.wx ?_ | refine G.wt ?_ | refine G.wf ?_)
    (first | refine G.take rfl ?_ | refine G.take_yes rfl rfl rfl (by first | rfl | assumption) ?_); (first | refine R.callD Try.func51 rfl (by decide) rfl rfl (good_ok q) ?_ | refine R.callD0 Try.func51 rfl (by decide) rfl (good_ok q) ?_); simp only [List.cons_append, List.nil_append]
    repeat (first | refine G.w0 ?_ | refine G.w1 ?_ | refine G.wn ?_ | refine GR.w ?_ | (refine G.ws (h := ?_); try (simp only [Nat.reduceAdd, Nat.zero_add, List.set_cons_succ, List.set_cons_zero])) | (refine G.wb ?_; intro bx) | (refine G.wz ?_; intro bx) | refine G.wa (h := ?_) | refine G.seq ?_ | refine G.region ?_ | refine G.nil ?_ | refine G.block ?_ | refine G.skip ?_ | refine G.blk ?_ | refine G.wx ?_ | refine G.wt ?_ | refine G.wf ?_)
    refine G.recOut hp hr fun kv => ?_
    repeat (first | refine G.w0 ?_ | refine G.w1 ?_ | refine G.wn ?_ | refine GR.w ?_ | (refine G.ws (h := ?_); try (simp only [Nat.reduceAdd, Nat.zero_add, List.set_cons_succ, List.set_cons_zero])) | (refine G.wb ?_; intro bx) | (refine G.wz ?_; intro bx) | refine G.wa (h := ?_) | refine G.seq ?_ | refine G.region ?_ | refine G.nil ?_ | refine G.block ?_ | refine G.skip ?_ | refine G.blk ?_ | refine G.wx ?_ | refine G.wt ?_ | refine G.wf ?_)
    (repeat refine G.seq ?_); refine G.draw [0, 1, 2, 3, 4, 5, 6, 7, 8] [] [] (by kernel_rfl) (by kernel_rfl) rfl rfl rfl ?_
    repeat (first | refine EV.w0 ?_ | refine EV.wy ?_ | refine EV.wn ?_ | refine EV.wm ?_ | (refine EV.wb ?_; intro bx) | refine EV.done ?_)
    refine EV.ok (Ok.callD Try.func53 rfl (by decide) rfl (forChild_ok q hq1)) ?_
    repeat (first | refine EV.w0 ?_ | refine EV.wy ?_ | refine EV.wn ?_ | refine EV.wm ?_ | (refine EV.wb ?_; intro bx) | refine EV.done ?_)
    refine EV.ok (Ok.callD Try.func50 rfl (by decide) rfl (left_ok b r kv hrok)) ?_
    repeat (first | refine EV.w0 ?_ | refine EV.wy ?_ | refine EV.wn ?_ | refine EV.wm ?_ | (refine EV.wb ?_; intro bx) | refine EV.done ?_)
    refine EV.ok (Ok.callD Try.func52 rfl (by decide) rfl (fits_ok (qone q) (qleft r))) ?_
    repeat (first | refine EV.w0 ?_ | refine EV.wy ?_ | refine EV.wn ?_ | refine EV.wm ?_ | (refine EV.wb ?_; intro bx) | refine EV.done ?_)
    by_cases h4 : qle (qone q) (qleft r)
    rotate_left
    · have hb4 : (!decide (qle (qone q) (qleft r))) = true := by simpa using h4
      repeat (first | refine G.w0 ?_ | refine G.w1 ?_ | refine G.wn ?_ | refine GR.w ?_ | (refine G.ws (h := ?_); try (simp only [Nat.reduceAdd, Nat.zero_add, List.set_cons_succ, List.set_cons_zero])) | (refine G.wb ?_; intro bx) | (refine G.wz ?_; intro bx) | refine G.wa (h := ?_) | refine G.seq ?_ | refine G.region ?_ | refine G.nil ?_ | refine G.block ?_ | refine G.skip ?_ | refine G.blk ?_ | refine G.wx ?_ | refine G.wt ?_ | refine G.wf ?_)
      refine G.recIn parent b r kv rfl rfl ⟨rfl, rfl, rfl, rfl⟩ hp hal ?_
      rw [set_same hr]
      refine G.close (Table T last rs) rfl ((S, low, ps)) (⟨hlow, hal, hl⟩) (by dsimp only) ?_
      first | refine G.retK [Table T last rs] rfl Try.func18 rfl Res.nil ?_ | refine G.retK [Table T last rs] rfl Try.func18 rfl (Res.tmp rfl Res.nil) ?_ | refine G.retK [Table T last rs] rfl Try.func18 rfl (Res.tmp rfl (Res.tmp rfl Res.nil)) ?_ | refine G.retK [Table T last rs] rfl Try.func18 rfl (Res.tmp rfl (Res.tmp rfl (Res.tmp rfl Res.nil))) ?_ | refine G.retK [Table T last rs] rfl Try.func18 rfl (Res.cellA rfl rfl rfl Res.nil) ?_ | refine G.retK [Table T last rs] rfl Try.func18 rfl (Res.cellA rfl rfl rfl (Res.tmp rfl Res.nil)) ?_ | refine G.retK [Table T last rs] rfl Try.func18 rfl (Res.cell rfl rfl Res.nil) ?_
      simp only [createF, hr, if_neg hnb, if_pos h4]
      exact ⟨rfl, rfl⟩
    have hb4 : (!decide (qle (qone q) (qleft r))) = false := by simpa using h4
    have hq2 : (qadd r.carved (qone q)).in64 := by
      obtain ⟨g1, g2, g3, g4⟩ := hrok
      unfold qgood qle qone qleft qsub qadd at *; refine ⟨?_, ?_, ?_⟩ <;> simp only [qadd, in64] <;> omega
    repeat (first | refine G.w0 ?_ | refine G.w1 ?_ | refine G.wn ?_ | refine GR.w ?_ | (refine G.ws (h := ?_); try (simp only [Nat.reduceAdd, Nat.zero_add, List.set_cons_succ, List.set_cons_zero])) | (refine G.wb ?_; intro bx) | (refine G.wz ?_; intro bx) | refine G.wa (h := ?_) | refine G.seq ?_ | refine G.region ?_ | refine G.nil ?_ | refine G.block ?_ | refine G.skip ?_ | refine G.blk ?_ | refine G.wx ?_ | refine G.wt ?_ | refine G.wf ?_)
    refine G.recIn parent b r kv rfl rfl ⟨rfl, rfl, rfl, rfl⟩ hp hal ?_
    rw [set_same hr]
    (repeat refine G.seq ?_); refine G.drawS [(.look, 0), (.look, 1), (.look, 2), (.look, 3), (.look, 4), (.look, 5), (.look, 6), (.look, 7), (.look, 8), (.look, 9), (.look, 10), (.new, 11), (.act, 12), (.pur, 13), (.pur, 14), (.pur, 15), (.pur, 16), (.pur, 17)] (by kernel_rfl) (by kernel_rfl) rfl ?_
    repeat (first | refine EVS.wq ?_ | refine EVS.wp ?_ | refine EVS.wn ?_ | refine EVS.w0 ?_ | refine EVS.wy ?_ | (refine EVS.ws (h := ?_); try (simp only [Nat.reduceAdd, Nat.zero_add, List.set_cons_succ, List.set_cons_zero])) | refine EVS.wa (h := ?_) | (refine EVS.wb ?_; intro bx) | (refine EVS.wz ?_; intro bx) | refine EVS.wm ?_ | refine EVS.done ?_)
    refine EVS.callQ Try.func54 rfl (by decide) rfl (Put_ok S bx low ps hlow) ?_; (rintro _ _ (⟨n, hn, rfl, rfl⟩ | ⟨hn, rfl, low', hlow', rfl⟩) <;> simp only [List.cons_append, List.nil_append])
    rotate_left
    · repeat (first | refine EVS.wq ?_ | refine EVS.wp ?_ | refine EVS.wn ?_ | refine EVS.w0 ?_ | refine EVS.wy ?_ | (refine EVS.ws (h := ?_); try (simp only [Nat.reduceAdd, Nat.zero_add, List.set_cons_succ, List.set_cons_zero])) | refine EVS.wa (h := ?_) | (refine EVS.wb ?_; intro bx) | (refine EVS.wz ?_; intro bx) | refine EVS.wm ?_ | refine EVS.done ?_)
      repeat (first | refine G.w0 ?_ | refine G.w1 ?_ | refine G.wn ?_ | refine GR.w ?_ | (refine G.ws (h := ?_); try (simp only [Nat.reduceAdd, Nat.zero_add, List.set_cons_succ, List.set_cons_zero])) | (refine G.wb ?_; intro bx) | (refine G.wz ?_; intro bx) | refine G.wa (h := ?_) | refine G.seq ?_ | refine G.region ?_ | refine G.nil ?_ | refine G.block ?_ | refine G.skip ?_ | refine G.blk ?_ | refine G.wx ?_ | refine G.wt ?_ | refine G.wf ?_)
      refine G.close (Table T last rs) rfl ((S, low', ps)) (⟨hlow', hal, hl⟩) (by dsimp only) ?_
      first | refine G.retK [Table T last rs] rfl Try.func18 rfl Res.nil ?_ | refine G.retK [Table T last rs] rfl Try.func18 rfl (Res.tmp rfl Res.nil) ?_ | refine G.retK [Table T last rs] rfl Try.func18 rfl (Res.tmp rfl (Res.tmp rfl Res.nil)) ?_ | refine G.retK [Table T last rs] rfl Try.func18 rfl (Res.tmp rfl (Res.tmp rfl (Res.tmp rfl Res.nil))) ?_ | refine G.retK [Table T last rs] rfl Try.func18 rfl (Res.cellA rfl rfl rfl Res.nil) ?_ | refine G.retK [Table T last rs] rfl Try.func18 rfl (Res.cellA rfl rfl rfl (Res.tmp rfl Res.nil)) ?_ | refine G.retK [Table T last rs] rfl Try.func18 rfl (Res.cell rfl rfl Res.nil) ?_
      simp only [createF, hr, if_neg hnb, if_neg (not_not_intro h4), freeOf_full hal hl hn]
      exact ⟨rfl, rfl⟩
    have hnl : ps.length = 16 := by rw [hal.length]; exact hl
    have hfree := freeOf_free hal hl hn
    obtain ⟨n0, n1, n2, n3⟩ := hn
    have hne : parent ≠ n := by rintro rfl; rw [n2] at hp; cases hp
    repeat (first | refine EVS.wq ?_ | refine EVS.wp ?_ | refine EVS.wn ?_ | refine EVS.w0 ?_ | refine EVS.wy ?_ | (refine EVS.ws (h := ?_); try (simp only [Nat.reduceAdd, Nat.zero_add, List.set_cons_succ, List.set_cons_zero])) | refine EVS.wa (h := ?_) | (refine EVS.wb ?_; intro bx) | (refine EVS.wz ?_; intro bx) | refine EVS.wm ?_ | refine EVS.done ?_)
    repeat (first | refine G.w0 ?_ | refine G.w1 ?_ | refine G.wn ?_ | refine GR.w ?_ | (refine G.ws (h := ?_); try (simp only [Nat.reduceAdd, Nat.zero_add, List.set_cons_succ, List.set_cons_zero])) | (refine G.wb ?_; intro bx) | (refine G.wz ?_; intro bx) | refine G.wa (h := ?_) | refine G.seq ?_ | refine G.region ?_ | refine G.nil ?_ | refine G.block ?_ | refine G.skip ?_ | refine G.blk ?_ | refine G.wx ?_ | refine G.wt ?_ | refine G.wf ?_)
    refine G.isC bx (recCells (newRec serial parent q) (.slice none 0 0)) rfl ?_
    refine G.nilS 3 1 ?_
    refine G.recNew (ps := ps) (rs := rs) n bx (newRec serial parent q) (.slice none 0 0) rfl rfl ⟨rfl, rfl, rfl, rfl⟩ ⟨by omega, by omega⟩ n2 hal ?_
    have hp' : getp (ps.set n.toNat (some bx)) parent = some b := by
      have h0 := getp_some (ps := ps) (i := parent) (by rw [hp]; rfl)
      rw [getp_in h0.1] at hp ⊢
      rw [List.getElem?_set, if_neg (by omega)]; exact hp
    have hr' : getr (rs.set n.toNat (some (newRec serial parent q))) parent = some r := by
      have h0 := getp_some (ps := ps) (i := parent) (by rw [hp]; rfl)
      unfold getr at hr ⊢
      rw [if_pos h0.1] at hr ⊢
      rw [List.getElem?_set, if_neg (by omega)]; exact hr
    refine G.recOut hp' hr' fun kv2 => ?_
    (repeat refine G.seq ?_); refine G.draw [0, 1, 2, 3] [] [4] (by kernel_rfl) (by kernel_rfl) rfl rfl rfl ?_
    repeat (first | refine EV.w0 ?_ | refine EV.wy ?_ | refine EV.wn ?_ | refine EV.wm ?_ | (refine EV.wb ?_; intro bx) | refine EV.done ?_)
    (first | refine G.take rfl ?_ | refine G.take_yes rfl rfl rfl (by first | rfl | assumption) ?_); (first | refine R.callD Try.func55 rfl (by decide) rfl rfl (carve_ok b r kv2 q hq1 hq2) ?_ | refine R.callD0 Try.func55 rfl (by decide) rfl (carve_ok b r kv2 q hq1 hq2) ?_); simp only [List.cons_append, List.nil_append]
    refine G.form kv2 ?_
    rintro a cap rfl
    repeat (first | refine G.w0 ?_ | refine G.w1 ?_ | refine G.wn ?_ | refine GR.w ?_ | (refine G.ws (h := ?_); try (simp only [Nat.reduceAdd, Nat.zero_add, List.set_cons_succ, List.set_cons_zero])) | (refine G.wb ?_; intro bx) | (refine G.wz ?_; intro bx) | refine G.wa (h := ?_) | refine G.seq ?_ | refine G.region ?_ | refine G.nil ?_ | refine G.block ?_ | refine G.skip ?_ | refine G.blk ?_ | refine G.wx ?_ | refine G.wt ?_ | refine G.wf ?_)
    (first | refine G.take rfl ?_ | refine G.take_yes rfl rfl rfl (by first | rfl | assumption) ?_)
    refine R.bs1 rfl rfl rfl rfl fun nb => ?_
    (first | refine G.take rfl ?_ | refine G.take_yes rfl rfl rfl (by first | rfl | assumption) ?_)
    refine R.append (n := 1) (bytes := 8) (z := .int .i64 0) (cs := ints r.kids) (news := [i64 n]) rfl rfl (by rfl) (by exact Nat.le_refl _) rfl rfl (by omega) (by omega) (by decide) rfl fun a' cap' => ?_
    repeat (first | refine G.w0 ?_ | refine G.w1 ?_ | refine G.wn ?_ | refine GR.w ?_ | (refine G.ws (h := ?_); try (simp only [Nat.reduceAdd, Nat.zero_add, List.set_cons_succ, List.set_cons_zero])) | (refine G.wb ?_; intro bx) | (refine G.wz ?_; intro bx) | refine G.wa (h := ?_) | refine G.seq ?_ | refine G.region ?_ | refine G.nil ?_ | refine G.block ?_ | refine G.skip ?_ | refine G.blk ?_ | refine G.wx ?_ | refine G.wt ?_ | refine G.wf ?_)
    refine G.isC b (recCells { r with carved := qadd r.carved (qone q), kids := r.kids ++ [n] } (.slice a' (r.kids.length + 1) cap')) rfl ?_
    refine G.recIn (ps := ps.set n.toNat (some bx)) (rs := rs.set n.toNat (some (newRec serial parent q))) parent b { r with carved := qadd r.carved (qone q), kids := r.kids ++ [n] } (.slice a' (r.kids.length + 1) cap') rfl rfl ⟨rfl, rfl, by simp, by simp [ints]⟩ hp' (hal.set _ _ _ rfl) ?_
    refine G.isC T [ptr (some S), i64 serial] rfl ?_
    refine G.close (Table T serial ((rs.set n.toNat (some (newRec serial parent q))).set parent.toNat (some { r with carved := qadd r.carved (qone q), kids := r.kids ++ [n] }))) rfl ((S, n, ps.set n.toNat (some bx))) (⟨⟨n0, by dsimp only; omega, ?_⟩, (hal.set n.toNat (some bx) (some (newRec serial parent q)) rfl).setr hp' _, by simpa using hl⟩) (by dsimp only) ?_
    · intro j j0 j1
      dsimp only at j1 ⊢
      have := n3 j j0 j1
      rw [getp_in j0] at this ⊢
      rw [List.getElem?_set, if_neg (by omega)]; exact this
    first | refine G.retK [Table T serial ((rs.set n.toNat (some (newRec serial parent q))).set parent.toNat (some { r with carved := qadd r.carved (qone q), kids := r.kids ++ [n] }))] rfl Try.func18 rfl Res.nil ?_ | refine G.retK [Table T serial ((rs.set n.toNat (some (newRec serial parent q))).set parent.toNat (some { r with carved := qadd r.carved (qone q), kids := r.kids ++ [n] }))] rfl Try.func18 rfl (Res.tmp rfl Res.nil) ?_ | refine G.retK [Table T serial ((rs.set n.toNat (some (newRec serial parent q))).set parent.toNat (some { r with carved := qadd r.carved (qone q), kids := r.kids ++ [n] }))] rfl Try.func18 rfl (Res.tmp rfl (Res.tmp rfl Res.nil)) ?_ | refine G.retK [Table T serial ((rs.set n.toNat (some (newRec serial parent q))).set parent.toNat (some { r with carved := qadd r.carved (qone q), kids := r.kids ++ [n] }))] rfl Try.func18 rfl (Res.tmp rfl (Res.tmp rfl (Res.tmp rfl Res.nil))) ?_ | refine G.retK [Table T serial ((rs.set n.toNat (some (newRec serial parent q))).set parent.toNat (some { r with carved := qadd r.carved (qone q), kids := r.kids ++ [n] }))] rfl Try.func18 rfl (Res.cellA rfl rfl rfl Res.nil) ?_ | refine G.retK [Table T serial ((rs.set n.toNat (some (newRec serial parent q))).set parent.toNat (some { r with carved := qadd r.carved (qone q), kids := r.kids ++ [n] }))] rfl Try.func18 rfl (Res.cellA rfl rfl rfl (Res.tmp rfl Res.nil)) ?_ | refine G.retK [Table T serial ((rs.set n.toNat (some (newRec serial parent q))).set parent.toNat (some { r with carved := qadd r.carved (qone q), kids := r.kids ++ [n] }))] rfl Try.func18 rfl (Res.cell rfl rfl Res.nil) ?_
    simp only [createF, hr, if_neg hnb, if_neg (not_not_intro h4), hfree, Int.toNat_of_nonneg n0]
    exact ⟨rfl, rfl⟩
end Go.Proofs.Ytffcilmllebdmaa
