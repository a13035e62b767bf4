/- The slot tables, more: Put, Drop, New. -/
import Derived.Test.YtffcilmllebdmaaE1
namespace Go.Proofs.Ytffcilmllebdmaa
open Go.Am
set_option maxHeartbeats 4000000
set_option linter.unusedVariables false
set_option linter.unusedSimpArgs false
attribute [local irreducible] Ok GR G Fun OpRun EVS

/-- No place below low is free. -/
def LowOk (low : Int) (ps : List (Option Nat)) : Prop := 0 ≤ low ∧ low ≤ 16 ∧ ∀ j, 0 ≤ j → j < low → (getp ps j).isSome = true

/-- r is the lowest free place. -/
def IsFree (ps : List (Option Nat)) (r : Int) : Prop := 0 ≤ r ∧ r < 16 ∧ getp ps r = none ∧ ∀ j, 0 ≤ j → j < r → (getp ps j).isSome = true

theorem Put_ok (S q : Nat) (low : Int) (ps : List (Option Nat)) (hlow : LowOk low ps) : Fun Try.prog 54 [ptr (some S), ptr (some q)] [Slots S low ps]
    (fun v H => (∃ r, IsFree ps r ∧ v = .tuple #[.int .i64 r, .int .i64 0] ∧ H = [Slots S r (ps.set r.toNat (some q))]) ∨
      ((∀ j, 0 ≤ j → j < 16 → (getp ps j).isSome = true) ∧ v = .tuple #[.int .i64 (-1), .int .i64 2] ∧ ∃ low', LowOk low' ps ∧ H = [Slots S low' ps])) := by
  refine Fun.enter Try.func54 rfl rfl rfl ?_
  refine G.open (Slots S low ps) rfl ?_
  rintro ⟨C, cnt⟩ ⟨hl, hc⟩
  simp only [List.cons_append, List.nil_append]
  repeat (first | refine G.w0 ?_ | refine G.w1 ?_ | refine G.wn ?_ | refine GR.w ?_ | (refine G.ws (h := ?_); try (simp only [Nat.reduceAdd, Nat.zero_add, List.set_cons_succ, List.set_cons_zero])) | (refine G.wb ?_; intro bx) | (refine G.wz ?_; intro bx) | refine G.wa (h := ?_) | refine G.seq ?_ | refine G.region ?_ | refine G.nil ?_ | refine G.block ?_ | refine G.skip ?_ | refine G.blk ?_ | refine G.wx ?_ | refine G.wt ?_ | refine G.wf ?_)
  refine G.loopI (fun _ : Int => [(1, ptr (some q)), (0, ptr (some S))]) (fun k => [cb S [.slice (some ⟨C, 0, none⟩) 16 16, .int .i64 cnt, .int .i64 k] 117, cb C (slotCells ps) 119]) (fun k => LowOk k ps) (fun k => (16 - k).toNat) low hlow (Env.le_cons rfl (Env.le_cons rfl (Env.le_nil _))) rfl ?_
  rintro k ⟨h0, h1, hall⟩ ih
  refine G.seq ?_

  (repeat refine G.seq ?_); refine G.draw [0, 1, 2, 3, 4, 5, 6, 7, 8, 9, 10, 11, 12, 13, 14, 15, 16, 17, 18, 19, 20, 21, 22] [] [] (by kernel_rfl) (by kernel_rfl) rfl rfl rfl ?_
  repeat' (first | refine EV.w0 ?_ | refine EV.wy ?_ | refine EV.wn ?_ | refine EV.wm ?_ | (refine EV.wb ?_; intro bx) | refine EV.done ?_ | ((fail_if_success (first | refine EV.yes (v := .bool true) rfl rfl (by first | rfl | assumption) ?_ ?_ | refine EV.no rfl rfl (by first | exact .inl rfl | exact .inr ⟨_, rfl, by first | rfl | assumption⟩) ?_)); refine EV.split rfl rfl rfl (fun hb => ?_) (fun hb => ?_)))
  · have hk : k < 16 := by simpa using hb
    refine EV.yes rfl rfl (by assumption) (Ok.load rfl (slot_taken ps k.toNat _ (by omega) (by omega))) ?_
    repeat (first | refine EV.w0 ?_ | refine EV.wy ?_ | refine EV.wn ?_ | refine EV.wm ?_ | (refine EV.wb ?_; intro bx) | refine EV.done ?_)
    repeat (first | refine G.w0 ?_ | refine G.w1 ?_ | refine G.wn ?_ | refine GR.w ?_ | (refine G.ws (h := ?_); try (simp only [Nat.reduceAdd, Nat.zero_add, List.set_cons_succ, List.set_cons_zero])) | (refine G.wb ?_; intro bx) | (refine G.wz ?_; intro bx) | refine G.wa (h := ?_) | refine G.seq ?_ | refine G.region ?_ | refine G.nil ?_ | refine G.block ?_ | refine G.skip ?_ | refine G.blk ?_ | refine G.wx ?_ | refine G.wt ?_ | refine G.wf ?_)
    refine G.cond rfl (fun hb => ?_) (fun hb => ?_)
    · have hw : IntKind.i64.wrap (k + 1) = k + 1 := wrap_id (by omega) (by omega)
      repeat (first | refine G.w0 ?_ | refine G.w1 ?_ | refine G.wn ?_ | refine GR.w ?_ | (refine G.ws (h := ?_); try (simp only [Nat.reduceAdd, Nat.zero_add, List.set_cons_succ, List.set_cons_zero])) | (refine G.wb ?_; intro bx) | (refine G.wz ?_; intro bx) | refine G.wa (h := ?_) | refine G.seq ?_ | refine G.region ?_ | refine G.nil ?_ | refine G.block ?_ | refine G.skip ?_ | refine G.blk ?_ | refine G.wx ?_ | refine G.wt ?_ | refine G.wf ?_)
      refine (ih (k + 1) ⟨by omega, by omega, fun j a b => ?_⟩ (by omega)).forget _ (Env.le_cons rfl (Env.le_cons rfl (Env.le_nil _)))
      by_cases e : j = k
      · rw [e, getp_in h0]; exact hb
      · exact hall j a (by omega)
    · repeat (first | refine G.w0 ?_ | refine G.w1 ?_ | refine G.wn ?_ | refine GR.w ?_ | (refine G.ws (h := ?_); try (simp only [Nat.reduceAdd, Nat.zero_add, List.set_cons_succ, List.set_cons_zero])) | (refine G.wb ?_; intro bx) | (refine G.wz ?_; intro bx) | refine G.wa (h := ?_) | refine G.seq ?_ | refine G.region ?_ | refine G.nil ?_ | refine G.block ?_ | refine G.skip ?_ | refine G.blk ?_ | refine G.wx ?_ | refine G.wt ?_ | refine G.wf ?_)
      (repeat refine G.seq ?_); refine G.draw [0, 1, 2, 3, 4, 5, 6, 7, 8, 9] [] [] (by kernel_rfl) (by kernel_rfl) rfl rfl rfl ?_
      repeat (first | refine EV.w0 ?_ | refine EV.wy ?_ | refine EV.wn ?_ | refine EV.wm ?_ | (refine EV.wb ?_; intro bx) | refine EV.done ?_)
      repeat (first | refine G.w0 ?_ | refine G.w1 ?_ | refine G.wn ?_ | refine GR.w ?_ | (refine G.ws (h := ?_); try (simp only [Nat.reduceAdd, Nat.zero_add, List.set_cons_succ, List.set_cons_zero])) | (refine G.wb ?_; intro bx) | (refine G.wz ?_; intro bx) | refine G.wa (h := ?_) | refine G.seq ?_ | refine G.region ?_ | refine G.nil ?_ | refine G.block ?_ | refine G.skip ?_ | refine G.blk ?_ | refine G.wx ?_ | refine G.wt ?_ | refine G.wf ?_)
      refine G.cond_f rfl (by simp; omega) ?_
      repeat (first | refine G.w0 ?_ | refine G.w1 ?_ | refine G.wn ?_ | refine GR.w ?_ | (refine G.ws (h := ?_); try (simp only [Nat.reduceAdd, Nat.zero_add, List.set_cons_succ, List.set_cons_zero])) | (refine G.wb ?_; intro bx) | (refine G.wz ?_; intro bx) | refine G.wa (h := ?_) | refine G.seq ?_ | refine G.region ?_ | refine G.nil ?_ | refine G.block ?_ | refine G.skip ?_ | refine G.blk ?_ | refine G.wx ?_ | refine G.wt ?_ | refine G.wf ?_)
      refine G.close (Slots S k ps) rfl ((C, cnt)) (⟨hl, hc⟩) (by dsimp only) ?_
      have hg : getp ps k = none := by rw [getp_in h0]; simpa using hb
      (first | refine G.take rfl ?_ | refine G.take_yes rfl rfl rfl (by first | rfl | assumption) ?_); (first | refine R.callD Try.func85 rfl (by decide) rfl rfl (lay_ok S k k ps q ⟨h0, hk⟩ hg) ?_ | refine R.callD0 Try.func85 rfl (by decide) rfl (lay_ok S k k ps q ⟨h0, hk⟩ hg) ?_); simp only [List.cons_append, List.nil_append]
      repeat (first | refine G.w0 ?_ | refine G.w1 ?_ | refine G.wn ?_ | refine GR.w ?_ | (refine G.ws (h := ?_); try (simp only [Nat.reduceAdd, Nat.zero_add, List.set_cons_succ, List.set_cons_zero])) | (refine G.wb ?_; intro bx) | (refine G.wz ?_; intro bx) | refine G.wa (h := ?_) | refine G.seq ?_ | refine G.region ?_ | refine G.nil ?_ | refine G.block ?_ | refine G.skip ?_ | refine G.blk ?_ | refine G.wx ?_ | refine G.wt ?_ | refine G.wf ?_)
      refine G.ret rfl Try.func54 rfl rfl rfl ?_
      exact .inl ⟨k, ⟨h0, hk, hg, fun j a b => hall j a b⟩, rfl, rfl⟩
  · repeat (first | refine G.w0 ?_ | refine G.w1 ?_ | refine G.wn ?_ | refine GR.w ?_ | (refine G.ws (h := ?_); try (simp only [Nat.reduceAdd, Nat.zero_add, List.set_cons_succ, List.set_cons_zero])) | (refine G.wb ?_; intro bx) | (refine G.wz ?_; intro bx) | refine G.wa (h := ?_) | refine G.seq ?_ | refine G.region ?_ | refine G.nil ?_ | refine G.block ?_ | refine G.skip ?_ | refine G.blk ?_ | refine G.wx ?_ | refine G.wt ?_ | refine G.wf ?_)
    (repeat refine G.seq ?_); refine G.draw [0, 1, 2, 3, 4, 5, 6, 7, 8, 9] [] [] (by kernel_rfl) (by kernel_rfl) rfl rfl rfl ?_
    repeat (first | refine EV.w0 ?_ | refine EV.wy ?_ | refine EV.wn ?_ | refine EV.wm ?_ | (refine EV.wb ?_; intro bx) | refine EV.done ?_)
    repeat (first | refine G.w0 ?_ | refine G.w1 ?_ | refine G.wn ?_ | refine GR.w ?_ | (refine G.ws (h := ?_); try (simp only [Nat.reduceAdd, Nat.zero_add, List.set_cons_succ, List.set_cons_zero])) | (refine G.wb ?_; intro bx) | (refine G.wz ?_; intro bx) | refine G.wa (h := ?_) | refine G.seq ?_ | refine G.region ?_ | refine G.nil ?_ | refine G.block ?_ | refine G.skip ?_ | refine G.blk ?_ | refine G.wx ?_ | refine G.wt ?_ | refine G.wf ?_)
    have hk : ¬ k < 16 := by simpa using hb
    refine G.cond_t rfl (by simp; omega) ?_
    repeat (first | refine G.w0 ?_ | refine G.w1 ?_ | refine G.wn ?_ | refine GR.w ?_ | (refine G.ws (h := ?_); try (simp only [Nat.reduceAdd, Nat.zero_add, List.set_cons_succ, List.set_cons_zero])) | (refine G.wb ?_; intro bx) | (refine G.wz ?_; intro bx) | refine G.wa (h := ?_) | refine G.seq ?_ | refine G.region ?_ | refine G.nil ?_ | refine G.block ?_ | refine G.skip ?_ | refine G.blk ?_ | refine G.wx ?_ | refine G.wt ?_ | refine G.wf ?_)
    refine G.close (Slots S k ps) rfl ((C, cnt)) (⟨hl, hc⟩) (by dsimp only) ?_
    refine G.ret rfl Try.func54 rfl rfl rfl ?_
    exact .inr ⟨fun j a b => hall j a (by omega), rfl, k, ⟨h0, h1, hall⟩, rfl⟩

theorem Drop_ok (S : Nat) (low i : Int) (ps : List (Option Nat)) (hi : (getp ps i).isSome = true) (hlow : LowOk low ps) : Fun Try.prog 61 [ptr (some S), .int .i64 i] [Slots S low ps]
    (Ret (.tuple #[ptr (getp ps i), .bool true]) [Slots S (min low i) (ps.set i.toNat none)]) := by
  refine Fun.enter Try.func61 rfl rfl rfl ?_
  repeat (first | refine G.w0 ?_ | refine G.w1 ?_ | refine G.wn ?_ | refine GR.w ?_ | (refine G.ws (h := ?_); try (simp only [Nat.reduceAdd, Nat.zero_add, List.set_cons_succ, List.set_cons_zero])) | (refine G.wb ?_; intro bx) | (refine G.wz ?_; intro bx) | refine G.wa (h := ?_) | refine G.seq ?_ | refine G.region ?_ | refine G.nil ?_ | refine G.block ?_ | refine G.skip ?_ | refine G.blk ?_ | refine G.wx ?_ | refine G.wt ?_ | refine G.wf ?_)
  (first | refine G.take rfl ?_ | refine G.take_yes rfl rfl rfl (by first | rfl | assumption) ?_); (first | refine R.callD Try.func89 rfl (by decide) rfl rfl (has_ok S low i ps) ?_ | refine R.callD0 Try.func89 rfl (by decide) rfl (has_ok S low i ps) ?_); simp only [List.cons_append, List.nil_append]
  repeat (first | refine G.w0 ?_ | refine G.w1 ?_ | refine G.wn ?_ | refine GR.w ?_ | (refine G.ws (h := ?_); try (simp only [Nat.reduceAdd, Nat.zero_add, List.set_cons_succ, List.set_cons_zero])) | (refine G.wb ?_; intro bx) | (refine G.wz ?_; intro bx) | refine G.wa (h := ?_) | refine G.seq ?_ | refine G.region ?_ | refine G.nil ?_ | refine G.block ?_ | refine G.skip ?_ | refine G.blk ?_ | refine G.wx ?_ | refine G.wt ?_ | refine G.wf ?_)
  refine G.cond_f rfl (by simp [hi]) ?_
  have h2 := getp_some hi
  have h3 : (ps[i.toNat]?.join).isSome = true := by rw [← getp_in h2.1]; exact hi
  refine G.open (Slots S low ps) rfl ?_
  rintro ⟨C, cnt⟩ ⟨hl, hc⟩
  dsimp only at hc
  have hfl := filter_le ps
  have hs := filter_set ps i.toNat none (by omega)
  have hw : IntKind.i64.wrap (cnt - 1) = cnt - 1 := wrap_id (by omega) (by omega)
  simp only [List.cons_append, List.nil_append]
  repeat (first | refine G.w0 ?_ | refine G.w1 ?_ | refine G.wn ?_ | refine GR.w ?_ | (refine G.ws (h := ?_); try (simp only [Nat.reduceAdd, Nat.zero_add, List.set_cons_succ, List.set_cons_zero])) | (refine G.wb ?_; intro bx) | (refine G.wz ?_; intro bx) | refine G.wa (h := ?_) | refine G.seq ?_ | refine G.region ?_ | refine G.nil ?_ | refine G.block ?_ | refine G.skip ?_ | refine G.blk ?_ | refine G.wx ?_ | refine G.wt ?_ | refine G.wf ?_)
  (first | refine G.take rfl ?_ | refine G.take_yes rfl rfl rfl (by first | rfl | assumption) ?_)
  refine GR.ok (Ok.load rfl (slot_ptr ps i.toNat _ (by omega) (by omega))) rfl rfl ?_
  repeat (first | refine G.w0 ?_ | refine G.w1 ?_ | refine G.wn ?_ | refine GR.w ?_ | (refine G.ws (h := ?_); try (simp only [Nat.reduceAdd, Nat.zero_add, List.set_cons_succ, List.set_cons_zero])) | (refine G.wb ?_; intro bx) | (refine G.wz ?_; intro bx) | refine G.wa (h := ?_) | refine G.seq ?_ | refine G.region ?_ | refine G.nil ?_ | refine G.block ?_ | refine G.skip ?_ | refine G.blk ?_ | refine G.wx ?_ | refine G.wt ?_ | refine G.wf ?_)
  (first | refine G.take rfl ?_ | refine G.take_yes rfl rfl rfl (by first | rfl | assumption) ?_)
  refine R.storeA (vs := [.bool false, .pointer none]) rfl rfl rfl rfl (by simp [slotCells_length]; omega) ?_
  rw [slot_seg ps i.toNat (0 + i.toNat * 2) none false (.pointer none) (by omega) (by omega) rfl rfl]
  repeat (first | refine G.w0 ?_ | refine G.w1 ?_ | refine G.wn ?_ | refine GR.w ?_ | (refine G.ws (h := ?_); try (simp only [Nat.reduceAdd, Nat.zero_add, List.set_cons_succ, List.set_cons_zero])) | (refine G.wb ?_; intro bx) | (refine G.wz ?_; intro bx) | refine G.wa (h := ?_) | refine G.seq ?_ | refine G.region ?_ | refine G.nil ?_ | refine G.block ?_ | refine G.skip ?_ | refine G.blk ?_ | refine G.wx ?_ | refine G.wt ?_ | refine G.wf ?_)
  refine G.close (Slots S (min low i) (ps.set i.toNat none)) rfl ((C, cnt - 1)) (⟨by simp [hl], by rw [h3] at hs; simp at hs; dsimp only; omega⟩) (by dsimp only) ?_
  refine G.ret rfl Try.func61 rfl rfl rfl ?_
  exact ⟨by rw [getp_in h2.1]; rfl, rfl⟩
end Go.Proofs.Ytffcilmllebdmaa
