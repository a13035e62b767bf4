/- One step of a script: Pay, Refund. -/
import Derived.Test.YtffcilmllebdmaaE17
namespace Go.Proofs.Ytffcilmllebdmaa
open Go.Am
set_option maxHeartbeats 4000000
set_option linter.unusedVariables false
set_option linter.unusedSimpArgs false
attribute [local irreducible] Ok GR G Fun OpRun EVS

theorem qt_len (q : Qt) : (qtCells q).length = 3 := rfl

section
variable {lives : List Bool} {paid : List Qt} {last : Int}
abbrev bookCells (lives : List Bool) (paid : List Qt) (last : Int) : List Value := lives.map .bool ++ paid.flatMap qtCells ++ [i64 last]

theorem book_paid (hl : lives.length = 16) (hp : paid.length = 16) (j : Nat) (hj : j < paid.length) : ((bookCells lives paid last).drop (16 + j * 3)).take 3 = qtCells paid[j] := by
  have h1 := flat_length qt_len paid
  unfold bookCells
  rw [List.append_assoc, show 16 + j * 3 = (lives.map Value.bool).length + j * 3 by simp [hl], seg_right, seg_left (by omega), flat_seg qt_len paid j hj]
theorem book_setPaid (hl : lives.length = 16) (hp : paid.length = 16) (j : Nat) (hj : j < paid.length) (q : Qt) : setSeg (bookCells lives paid last) (16 + j * 3) (qtCells q) = bookCells lives (paid.set j q) last := by
  have h1 := flat_length qt_len paid
  unfold bookCells
  rw [List.append_assoc, show 16 + j * 3 = (lives.map Value.bool).length + j * 3 by simp [hl], setSeg_right, setSeg_left (by rw [qt_len]; omega), flat_set qt_len q paid j hj, List.append_assoc]
theorem book_setLife (hl : lives.length = 16) (j : Nat) (hj : j < 16) (b : Bool) : (bookCells lives paid last).set j (.bool b) = bookCells (lives.set j b) paid last := by
  unfold bookCells
  rw [List.append_assoc, List.set_append, if_pos (by simp; omega), List.map_set, List.append_assoc]
theorem book_setLast (hl : lives.length = 16) (hp : paid.length = 16) (n : Int) : (bookCells lives paid last).set 64 (i64 n) = bookCells lives paid n := by
  have h1 := flat_length qt_len paid
  unfold bookCells
  rw [List.set_append, if_neg (by simp only [List.length_append, List.length_map]; omega)]
  simp only [List.length_append, List.length_map, h1, hl, hp]
  rfl
theorem book_last (hl : lives.length = 16) (hp : paid.length = 16) : (bookCells lives paid last)[64]? = some (i64 last) := by
  have h1 := flat_length qt_len paid
  unfold bookCells
  rw [List.getElem?_append_right (by simp only [List.length_append, List.length_map]; omega)]
  simp only [List.length_append, List.length_map, h1, hl, hp]
  rfl
theorem book_life (hl : lives.length = 16) (j : Nat) (hj : j < lives.length) : (bookCells lives paid last)[j]? = some (.bool lives[j]) := by
  unfold bookCells
  rw [List.append_assoc, List.getElem?_append_left (by simp; omega)]; simp [hj]
theorem book_len (hl : lives.length = 16) (hp : paid.length = 16) : (bookCells lives paid last).length = 65 := by
  have h1 := flat_length qt_len paid
  unfold bookCells
  simp only [List.length_append, List.length_map, h1, hl, hp, List.length_cons, List.length_nil]
end

theorem livesF_of (rs : List (Option Rec)) (hl : rs.length = 16) (e : Int) : livesF (livesOf rs) e = (getr rs e).isSome := by
  unfold livesF getr livesOf
  by_cases h0 : 0 ≤ e
  · rw [if_pos h0]
    by_cases h1 : e < 16
    · rw [List.getD_eq_getElem?_getD, List.getElem?_map]
      have : e.toNat < rs.length := by omega
      rw [List.getElem?_eq_getElem this]
      simp [h0, h1]
    · rw [List.getElem?_eq_none (by omega)]; simp [h1]
  · rw [if_neg h0]; simp [h0]

theorem onRec_ok {rs : List (Option Rec)} {e : Int} {f : Rec → Int × Rec} (h : (onRec rs e f).1 = 0) : ∃ r, getr rs e = some r := by
  unfold onRec at h
  cases hr : getr rs e with
  | none => rw [hr] at h; dsimp only at h; omega
  | some r => exact ⟨r, rfl⟩

section
variable (T B : Nat) (last : Int) (rs : List (Option Rec)) (k t e n m : Int) (q : Qt) (r : Rg) (on : Bool)

theorem noted11 (hlen : rs.length = 16) (hok : ∀ r, getr rs e = some r → RecOk r) : Fun Try.prog 11 [ptr (some B), ptr (some T), opVal ⟨11, t, e, n, m, q, r, on⟩] [Table T last rs, Book B (livesOf rs) last]
    (Ret (.bool true) [Table T (stepF rs last ⟨11, t, e, n, m, q, r, on⟩).2 (stepF rs last ⟨11, t, e, n, m, q, r, on⟩).1, Book B (livesOf (stepF rs last ⟨11, t, e, n, m, q, r, on⟩).1) (stepF rs last ⟨11, t, e, n, m, q, r, on⟩).2]) := by
  have hs : stepF rs last ⟨11, t, e, n, m, q, r, on⟩ = ((onRec rs e (payRec q)).2, last) := rfl
  rw [hs]; dsimp only; rw [livesOf_onRec]
  by_cases h0 : (onRec rs e (payRec q)).1 = 0
  · have hb : decide ((onRec rs e (payRec q)).1 = 0) = true := by simpa using h0
    obtain ⟨r0, hr0⟩ := onRec_ok h0
    have hlt := getr_lt hr0
    rw [hlen] at hlt
    have hlv : livesF (livesOf rs) e = true := by rw [livesF_of rs hlen, hr0]; rfl
    have hlv2 : (!livesF (livesOf rs) e) = false := by rw [hlv]; rfl
    have hidx : 0 ≤ e ∧ e < ((16 : Nat) : Int) := hlt
    refine Fun.enter Try.func11 rfl rfl rfl ?_
    repeat (first | refine G.w0 ?_ | refine G.w1 ?_ | refine G.wn ?_ | refine GR.w ?_ | (refine G.ws (h := ?_); try (simp only [Nat.reduceAdd, Nat.zero_add, List.set_cons_succ, List.set_cons_zero])) | (refine G.wb ?_; intro bx) | (refine G.wz ?_; intro bx) | refine G.wa (h := ?_) | refine G.seq ?_ | refine G.region ?_ | refine G.nil ?_ | refine G.block ?_ | refine G.skip ?_ | refine G.blk ?_ | refine G.wx ?_ | refine G.wt ?_ | refine G.wf ?_)
    (first | refine G.take rfl ?_ | refine G.take_yes rfl rfl rfl (by first | rfl | assumption) ?_); (first | refine R.callD Try.func19 rfl (by decide) rfl rfl (Pay_ok T last rs e q hok) ?_ | refine R.callD0 Try.func19 rfl (by decide) rfl (Pay_ok T last rs e q hok) ?_); simp only [List.cons_append, List.nil_append]
    repeat (first | refine G.w0 ?_ | refine G.w1 ?_ | refine G.wn ?_ | refine GR.w ?_ | (refine G.ws (h := ?_); try (simp only [Nat.reduceAdd, Nat.zero_add, List.set_cons_succ, List.set_cons_zero])) | (refine G.wb ?_; intro bx) | (refine G.wz ?_; intro bx) | refine G.wa (h := ?_) | refine G.seq ?_ | refine G.region ?_ | refine G.nil ?_ | refine G.block ?_ | refine G.skip ?_ | refine G.blk ?_ | refine G.wx ?_ | refine G.wt ?_ | refine G.wf ?_)
    (first | refine G.take rfl ?_ | refine G.take_yes rfl rfl rfl (by first | rfl | assumption) ?_); (first | refine R.callD Try.func16 rfl (by decide) rfl rfl (lives_ok B (livesOf rs) last e) ?_ | refine R.callD0 Try.func16 rfl (by decide) rfl (lives_ok B (livesOf rs) last e) ?_); simp only [List.cons_append, List.nil_append]
    repeat (first | refine G.w0 ?_ | refine G.w1 ?_ | refine G.wn ?_ | refine GR.w ?_ | (refine G.ws (h := ?_); try (simp only [Nat.reduceAdd, Nat.zero_add, List.set_cons_succ, List.set_cons_zero])) | (refine G.wb ?_; intro bx) | (refine G.wz ?_; intro bx) | refine G.wa (h := ?_) | refine G.seq ?_ | refine G.region ?_ | refine G.nil ?_ | refine G.block ?_ | refine G.skip ?_ | refine G.blk ?_ | refine G.wx ?_ | refine G.wt ?_ | refine G.wf ?_)
    refine G.open (Book B (livesOf rs) last) rfl ?_
    rintro paid ⟨hl, hpd⟩
    simp only [List.cons_append, List.nil_append]
    refine G.isC B (bookCells (livesOf rs) paid last) rfl ?_
    have hload := book_paid (last := last) hl hpd e.toNat (by omega)
    (repeat refine G.seq ?_); refine G.drawS [(.pur, 0), (.pur, 1), (.look, 2), (.pur, 3), (.pur, 4), (.look, 5), (.pur, 6), (.pur, 7), (.pur, 8), (.look, 9), (.pur, 10), (.look, 11), (.look, 12), (.pur, 13), (.pur, 14), (.pur, 15), (.act, 16)] (by kernel_rfl) (by kernel_rfl) rfl ?_
    repeat (first | refine EVS.wq ?_ | refine EVS.wp ?_ | refine EVS.wn ?_ | refine EVS.w0 ?_ | refine EVS.wy ?_ | (refine EVS.ws (h := ?_); try (simp only [Nat.reduceAdd, Nat.zero_add, List.set_cons_succ, List.set_cons_zero])) | refine EVS.wa (h := ?_) | (refine EVS.wb ?_; intro bx) | (refine EVS.wz ?_; intro bx) | refine EVS.wm ?_ | refine EVS.done ?_)
    refine EVS.ok (Ok.loadA rfl hload (by rw [book_len hl hpd]; simp [qt_len]; omega)) ?_
    repeat (first | refine EVS.wq ?_ | refine EVS.wp ?_ | refine EVS.wn ?_ | refine EVS.w0 ?_ | refine EVS.wy ?_ | (refine EVS.ws (h := ?_); try (simp only [Nat.reduceAdd, Nat.zero_add, List.set_cons_succ, List.set_cons_zero])) | refine EVS.wa (h := ?_) | (refine EVS.wb ?_; intro bx) | (refine EVS.wz ?_; intro bx) | refine EVS.wm ?_ | refine EVS.done ?_)
    refine EVS.ok (Ok.callD Try.func22 rfl (by decide) rfl (add_ok paid[e.toNat] q 1)) ?_
    repeat (first | refine EVS.wq ?_ | refine EVS.wp ?_ | refine EVS.wn ?_ | refine EVS.w0 ?_ | refine EVS.wy ?_ | (refine EVS.ws (h := ?_); try (simp only [Nat.reduceAdd, Nat.zero_add, List.set_cons_succ, List.set_cons_zero])) | refine EVS.wa (h := ?_) | (refine EVS.wb ?_; intro bx) | (refine EVS.wz ?_; intro bx) | refine EVS.wm ?_ | refine EVS.done ?_)
    refine EVS.m_storeA rfl rfl rfl rfl (by rw [book_len hl hpd]; simp [qt_len]; omega) ?_
    rw [show setSeg (bookCells (livesOf rs) paid last) (0 + 16 + e.toNat * 3) (qtCells (addF paid[e.toNat] q 1)) = bookCells (livesOf rs) (paid.set e.toNat (addF paid[e.toNat] q 1)) last from book_setPaid hl hpd e.toNat (by omega) _]
    repeat (first | refine EVS.wq ?_ | refine EVS.wp ?_ | refine EVS.wn ?_ | refine EVS.w0 ?_ | refine EVS.wy ?_ | (refine EVS.ws (h := ?_); try (simp only [Nat.reduceAdd, Nat.zero_add, List.set_cons_succ, List.set_cons_zero])) | refine EVS.wa (h := ?_) | (refine EVS.wb ?_; intro bx) | (refine EVS.wz ?_; intro bx) | refine EVS.wm ?_ | refine EVS.done ?_)
    repeat (first | refine G.w0 ?_ | refine G.w1 ?_ | refine G.wn ?_ | refine GR.w ?_ | (refine G.ws (h := ?_); try (simp only [Nat.reduceAdd, Nat.zero_add, List.set_cons_succ, List.set_cons_zero])) | (refine G.wb ?_; intro bx) | (refine G.wz ?_; intro bx) | refine G.wa (h := ?_) | refine G.seq ?_ | refine G.region ?_ | refine G.nil ?_ | refine G.block ?_ | refine G.skip ?_ | refine G.blk ?_ | refine G.wx ?_ | refine G.wt ?_ | refine G.wf ?_)
    refine G.close (Book B (livesOf rs) last) rfl (paid.set e.toNat (addF paid[e.toNat] q 1)) (⟨hl, by simpa using hpd⟩) (by dsimp only) ?_
    first | refine G.retK [Table T last (onRec rs e (payRec q)).2, Book B (livesOf rs) last] rfl Try.func11 rfl Res.nil ?_ | refine G.retK [Table T last (onRec rs e (payRec q)).2, Book B (livesOf rs) last] rfl Try.func11 rfl (Res.tmp rfl Res.nil) ?_ | refine G.retK [Table T last (onRec rs e (payRec q)).2, Book B (livesOf rs) last] rfl Try.func11 rfl (Res.tmp rfl (Res.tmp rfl Res.nil)) ?_ | refine G.retK [Table T last (onRec rs e (payRec q)).2, Book B (livesOf rs) last] rfl Try.func11 rfl (Res.tmp rfl (Res.tmp rfl (Res.tmp rfl Res.nil))) ?_ | refine G.retK [Table T last (onRec rs e (payRec q)).2, Book B (livesOf rs) last] rfl Try.func11 rfl (Res.cellA rfl rfl rfl Res.nil) ?_ | refine G.retK [Table T last (onRec rs e (payRec q)).2, Book B (livesOf rs) last] rfl Try.func11 rfl (Res.cellA rfl rfl rfl (Res.tmp rfl Res.nil)) ?_ | refine G.retK [Table T last (onRec rs e (payRec q)).2, Book B (livesOf rs) last] rfl Try.func11 rfl (Res.cell rfl rfl Res.nil) ?_
    exact ⟨rfl, rfl⟩
  · have hb : decide ((onRec rs e (payRec q)).1 = 0) = false := by simpa using h0
    refine Fun.enter Try.func11 rfl rfl rfl ?_
    repeat (first | refine G.w0 ?_ | refine G.w1 ?_ | refine G.wn ?_ | refine GR.w ?_ | (refine G.ws (h := ?_); try (simp only [Nat.reduceAdd, Nat.zero_add, List.set_cons_succ, List.set_cons_zero])) | (refine G.wb ?_; intro bx) | (refine G.wz ?_; intro bx) | refine G.wa (h := ?_) | refine G.seq ?_ | refine G.region ?_ | refine G.nil ?_ | refine G.block ?_ | refine G.skip ?_ | refine G.blk ?_ | refine G.wx ?_ | refine G.wt ?_ | refine G.wf ?_)
    (first | refine G.take rfl ?_ | refine G.take_yes rfl rfl rfl (by first | rfl | assumption) ?_); (first | refine R.callD Try.func19 rfl (by decide) rfl rfl (Pay_ok T last rs e q hok) ?_ | refine R.callD0 Try.func19 rfl (by decide) rfl (Pay_ok T last rs e q hok) ?_); simp only [List.cons_append, List.nil_append]
    repeat (first | refine G.w0 ?_ | refine G.w1 ?_ | refine G.wn ?_ | refine GR.w ?_ | (refine G.ws (h := ?_); try (simp only [Nat.reduceAdd, Nat.zero_add, List.set_cons_succ, List.set_cons_zero])) | (refine G.wb ?_; intro bx) | (refine G.wz ?_; intro bx) | refine G.wa (h := ?_) | refine G.seq ?_ | refine G.region ?_ | refine G.nil ?_ | refine G.block ?_ | refine G.skip ?_ | refine G.blk ?_ | refine G.wx ?_ | refine G.wt ?_ | refine G.wf ?_)
    first | refine G.retK [Table T last (onRec rs e (payRec q)).2, Book B (livesOf rs) last] rfl Try.func11 rfl Res.nil ?_ | refine G.retK [Table T last (onRec rs e (payRec q)).2, Book B (livesOf rs) last] rfl Try.func11 rfl (Res.tmp rfl Res.nil) ?_ | refine G.retK [Table T last (onRec rs e (payRec q)).2, Book B (livesOf rs) last] rfl Try.func11 rfl (Res.tmp rfl (Res.tmp rfl Res.nil)) ?_ | refine G.retK [Table T last (onRec rs e (payRec q)).2, Book B (livesOf rs) last] rfl Try.func11 rfl (Res.tmp rfl (Res.tmp rfl (Res.tmp rfl Res.nil))) ?_ | refine G.retK [Table T last (onRec rs e (payRec q)).2, Book B (livesOf rs) last] rfl Try.func11 rfl (Res.cellA rfl rfl rfl Res.nil) ?_ | refine G.retK [Table T last (onRec rs e (payRec q)).2, Book B (livesOf rs) last] rfl Try.func11 rfl (Res.cellA rfl rfl rfl (Res.tmp rfl Res.nil)) ?_ | refine G.retK [Table T last (onRec rs e (payRec q)).2, Book B (livesOf rs) last] rfl Try.func11 rfl (Res.cell rfl rfl Res.nil) ?_
    exact ⟨rfl, rfl⟩
theorem noted12 (hlen : rs.length = 16) (hok : ∀ r, getr rs e = some r → RecOk r) : Fun Try.prog 11 [ptr (some B), ptr (some T), opVal ⟨12, t, e, n, m, q, r, on⟩] [Table T last rs, Book B (livesOf rs) last]
    (Ret (.bool true) [Table T (stepF rs last ⟨12, t, e, n, m, q, r, on⟩).2 (stepF rs last ⟨12, t, e, n, m, q, r, on⟩).1, Book B (livesOf (stepF rs last ⟨12, t, e, n, m, q, r, on⟩).1) (stepF rs last ⟨12, t, e, n, m, q, r, on⟩).2]) := by
  have hs : stepF rs last ⟨12, t, e, n, m, q, r, on⟩ = ((onRec rs e (refundRec q)).2, last) := rfl
  rw [hs]; dsimp only; rw [livesOf_onRec]
  by_cases h0 : (onRec rs e (refundRec q)).1 = 0
  · have hb : decide ((onRec rs e (refundRec q)).1 = 0) = true := by simpa using h0
    obtain ⟨r0, hr0⟩ := onRec_ok h0
    have hlt := getr_lt hr0
    rw [hlen] at hlt
    have hlv : livesF (livesOf rs) e = true := by rw [livesF_of rs hlen, hr0]; rfl
    have hlv2 : (!livesF (livesOf rs) e) = false := by rw [hlv]; rfl
    have hidx : 0 ≤ e ∧ e < ((16 : Nat) : Int) := hlt
    refine Fun.enter Try.func11 rfl rfl rfl ?_
    repeat (first | refine G.w0 ?_ | refine G.w1 ?_ | refine G.wn ?_ | refine GR.w ?_ | (refine G.ws (h := ?_); try (simp only [Nat.reduceAdd, Nat.zero_add, List.set_cons_succ, List.set_cons_zero])) | (refine G.wb ?_; intro bx) | (refine G.wz ?_; intro bx) | refine G.wa (h := ?_) | refine G.seq ?_ | refine G.region ?_ | refine G.nil ?_ | refine G.block ?_ | refine G.skip ?_ | refine G.blk ?_ | refine G.wx ?_ | refine G.wt ?_ | refine G.wf ?_)
    (first | refine G.take rfl ?_ | refine G.take_yes rfl rfl rfl (by first | rfl | assumption) ?_); (first | refine R.callD Try.func20 rfl (by decide) rfl rfl (Refund_ok T last rs e q hok) ?_ | refine R.callD0 Try.func20 rfl (by decide) rfl (Refund_ok T last rs e q hok) ?_); simp only [List.cons_append, List.nil_append]
    repeat (first | refine G.w0 ?_ | refine G.w1 ?_ | refine G.wn ?_ | refine GR.w ?_ | (refine G.ws (h := ?_); try (simp only [Nat.reduceAdd, Nat.zero_add, List.set_cons_succ, List.set_cons_zero])) | (refine G.wb ?_; intro bx) | (refine G.wz ?_; intro bx) | refine G.wa (h := ?_) | refine G.seq ?_ | refine G.region ?_ | refine G.nil ?_ | refine G.block ?_ | refine G.skip ?_ | refine G.blk ?_ | refine G.wx ?_ | refine G.wt ?_ | refine G.wf ?_)
    (first | refine G.take rfl ?_ | refine G.take_yes rfl rfl rfl (by first | rfl | assumption) ?_); (first | refine R.callD Try.func16 rfl (by decide) rfl rfl (lives_ok B (livesOf rs) last e) ?_ | refine R.callD0 Try.func16 rfl (by decide) rfl (lives_ok B (livesOf rs) last e) ?_); simp only [List.cons_append, List.nil_append]
    repeat (first | refine G.w0 ?_ | refine G.w1 ?_ | refine G.wn ?_ | refine GR.w ?_ | (refine G.ws (h := ?_); try (simp only [Nat.reduceAdd, Nat.zero_add, List.set_cons_succ, List.set_cons_zero])) | (refine G.wb ?_; intro bx) | (refine G.wz ?_; intro bx) | refine G.wa (h := ?_) | refine G.seq ?_ | refine G.region ?_ | refine G.nil ?_ | refine G.block ?_ | refine G.skip ?_ | refine G.blk ?_ | refine G.wx ?_ | refine G.wt ?_ | refine G.wf ?_)
    refine G.open (Book B (livesOf rs) last) rfl ?_
    rintro paid ⟨hl, hpd⟩
    simp only [List.cons_append, List.nil_append]
    refine G.isC B (bookCells (livesOf rs) paid last) rfl ?_
    have hload := book_paid (last := last) hl hpd e.toNat (by omega)
    (repeat refine G.seq ?_); refine G.drawS [(.pur, 0), (.pur, 1), (.look, 2), (.pur, 3), (.pur, 4), (.look, 5), (.pur, 6), (.pur, 7), (.pur, 8), (.look, 9), (.pur, 10), (.look, 11), (.look, 12), (.pur, 13), (.pur, 14), (.pur, 15), (.act, 16)] (by kernel_rfl) (by kernel_rfl) rfl ?_
    repeat (first | refine EVS.wq ?_ | refine EVS.wp ?_ | refine EVS.wn ?_ | refine EVS.w0 ?_ | refine EVS.wy ?_ | (refine EVS.ws (h := ?_); try (simp only [Nat.reduceAdd, Nat.zero_add, List.set_cons_succ, List.set_cons_zero])) | refine EVS.wa (h := ?_) | (refine EVS.wb ?_; intro bx) | (refine EVS.wz ?_; intro bx) | refine EVS.wm ?_ | refine EVS.done ?_)
    refine EVS.ok (Ok.loadA rfl hload (by rw [book_len hl hpd]; simp [qt_len]; omega)) ?_
    repeat (first | refine EVS.wq ?_ | refine EVS.wp ?_ | refine EVS.wn ?_ | refine EVS.w0 ?_ | refine EVS.wy ?_ | (refine EVS.ws (h := ?_); try (simp only [Nat.reduceAdd, Nat.zero_add, List.set_cons_succ, List.set_cons_zero])) | refine EVS.wa (h := ?_) | (refine EVS.wb ?_; intro bx) | (refine EVS.wz ?_; intro bx) | refine EVS.wm ?_ | refine EVS.done ?_)
    refine EVS.ok (Ok.callD Try.func22 rfl (by decide) rfl (add_ok paid[e.toNat] q (-1))) ?_
    repeat (first | refine EVS.wq ?_ | refine EVS.wp ?_ | refine EVS.wn ?_ | refine EVS.w0 ?_ | refine EVS.wy ?_ | (refine EVS.ws (h := ?_); try (simp only [Nat.reduceAdd, Nat.zero_add, List.set_cons_succ, List.set_cons_zero])) | refine EVS.wa (h := ?_) | (refine EVS.wb ?_; intro bx) | (refine EVS.wz ?_; intro bx) | refine EVS.wm ?_ | refine EVS.done ?_)
    refine EVS.m_storeA rfl rfl rfl rfl (by rw [book_len hl hpd]; simp [qt_len]; omega) ?_
    rw [show setSeg (bookCells (livesOf rs) paid last) (0 + 16 + e.toNat * 3) (qtCells (addF paid[e.toNat] q (-1))) = bookCells (livesOf rs) (paid.set e.toNat (addF paid[e.toNat] q (-1))) last from book_setPaid hl hpd e.toNat (by omega) _]
    repeat (first | refine EVS.wq ?_ | refine EVS.wp ?_ | refine EVS.wn ?_ | refine EVS.w0 ?_ | refine EVS.wy ?_ | (refine EVS.ws (h := ?_); try (simp only [Nat.reduceAdd, Nat.zero_add, List.set_cons_succ, List.set_cons_zero])) | refine EVS.wa (h := ?_) | (refine EVS.wb ?_; intro bx) | (refine EVS.wz ?_; intro bx) | refine EVS.wm ?_ | refine EVS.done ?_)
    repeat (first | refine G.w0 ?_ | refine G.w1 ?_ | refine G.wn ?_ | refine GR.w ?_ | (refine G.ws (h := ?_); try (simp only [Nat.reduceAdd, Nat.zero_add, List.set_cons_succ, List.set_cons_zero])) | (refine G.wb ?_; intro bx) | (refine G.wz ?_; intro bx) | refine G.wa (h := ?_) | refine G.seq ?_ | refine G.region ?_ | refine G.nil ?_ | refine G.block ?_ | refine G.skip ?_ | refine G.blk ?_ | refine G.wx ?_ | refine G.wt ?_ | refine G.wf ?_)
    refine G.close (Book B (livesOf rs) last) rfl (paid.set e.toNat (addF paid[e.toNat] q (-1))) (⟨hl, by simpa using hpd⟩) (by dsimp only) ?_
    first | refine G.retK [Table T last (onRec rs e (refundRec q)).2, Book B (livesOf rs) last] rfl Try.func11 rfl Res.nil ?_ | refine G.retK [Table T last (onRec rs e (refundRec q)).2, Book B (livesOf rs) last] rfl Try.func11 rfl (Res.tmp rfl Res.nil) ?_ | refine G.retK [Table T last (onRec rs e (refundRec q)).2, Book B (livesOf rs) last] rfl Try.func11 rfl (Res.tmp rfl (Res.tmp rfl Res.nil)) ?_ | refine G.retK [Table T last (onRec rs e (refundRec q)).2, Book B (livesOf rs) last] rfl Try.func11 rfl (Res.tmp rfl (Res.tmp rfl (Res.tmp rfl Res.nil))) ?_ | refine G.retK [Table T last (onRec rs e (refundRec q)).2, Book B (livesOf rs) last] rfl Try.func11 rfl (Res.cellA rfl rfl rfl Res.nil) ?_ | refine G.retK [Table T last (onRec rs e (refundRec q)).2, Book B (livesOf rs) last] rfl Try.func11 rfl (Res.cellA rfl rfl rfl (Res.tmp rfl Res.nil)) ?_ | refine G.retK [Table T last (onRec rs e (refundRec q)).2, Book B (livesOf rs) last] rfl Try.func11 rfl (Res.cell rfl rfl Res.nil) ?_
    exact ⟨rfl, rfl⟩
  · have hb : decide ((onRec rs e (refundRec q)).1 = 0) = false := by simpa using h0
    refine Fun.enter Try.func11 rfl rfl rfl ?_
    repeat (first | refine G.w0 ?_ | refine G.w1 ?_ | refine G.wn ?_ | refine GR.w ?_ | (refine G.ws (h := ?_); try (simp only [Nat.reduceAdd, Nat.zero_add, List.set_cons_succ, List.set_cons_zero])) | (refine G.wb ?_; intro bx) | (refine G.wz ?_; intro bx) | refine G.wa (h := ?_) | refine G.seq ?_ | refine G.region ?_ | refine G.nil ?_ | refine G.block ?_ | refine G.skip ?_ | refine G.blk ?_ | refine G.wx ?_ | refine G.wt ?_ | refine G.wf ?_)
    (first | refine G.take rfl ?_ | refine G.take_yes rfl rfl rfl (by first | rfl | assumption) ?_); (first | refine R.callD Try.func20 rfl (by decide) rfl rfl (Refund_ok T last rs e q hok) ?_ | refine R.callD0 Try.func20 rfl (by decide) rfl (Refund_ok T last rs e q hok) ?_); simp only [List.cons_append, List.nil_append]
    repeat (first | refine G.w0 ?_ | refine G.w1 ?_ | refine G.wn ?_ | refine GR.w ?_ | (refine G.ws (h := ?_); try (simp only [Nat.reduceAdd, Nat.zero_add, List.set_cons_succ, List.set_cons_zero])) | (refine G.wb ?_; intro bx) | (refine G.wz ?_; intro bx) | refine G.wa (h := ?_) | refine G.seq ?_ | refine G.region ?_ | refine G.nil ?_ | refine G.block ?_ | refine G.skip ?_ | refine G.blk ?_ | refine G.wx ?_ | refine G.wt ?_ | refine G.wf ?_)
    first | refine G.retK [Table T last (onRec rs e (refundRec q)).2, Book B (livesOf rs) last] rfl Try.func11 rfl Res.nil ?_ | refine G.retK [Table T last (onRec rs e (refundRec q)).2, Book B (livesOf rs) last] rfl Try.func11 rfl (Res.tmp rfl Res.nil) ?_ | refine G.retK [Table T last (onRec rs e (refundRec q)).2, Book B (livesOf rs) last] rfl Try.func11 rfl (Res.tmp rfl (Res.tmp rfl Res.nil)) ?_ | refine G.retK [Table T last (onRec rs e (refundRec q)).2, Book B (livesOf rs) last] rfl Try.func11 rfl (Res.tmp rfl (Res.tmp rfl (Res.tmp rfl Res.nil))) ?_ | refine G.retK [Table T last (onRec rs e (refundRec q)).2, Book B (livesOf rs) last] rfl Try.func11 rfl (Res.cellA rfl rfl rfl Res.nil) ?_ | refine G.retK [Table T last (onRec rs e (refundRec q)).2, Book B (livesOf rs) last] rfl Try.func11 rfl (Res.cellA rfl rfl rfl (Res.tmp rfl Res.nil)) ?_ | refine G.retK [Table T last (onRec rs e (refundRec q)).2, Book B (livesOf rs) last] rfl Try.func11 rfl (Res.cell rfl rfl Res.nil) ?_
    exact ⟨rfl, rfl⟩
end
end Go.Proofs.Ytffcilmllebdmaa
