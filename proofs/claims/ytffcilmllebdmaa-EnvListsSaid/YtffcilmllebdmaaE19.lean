/- One step of a script: Create. -/
import Derived.Test.YtffcilmllebdmaaE18
namespace Go.Proofs.Ytffcilmllebdmaa
open Go.Am
set_option maxHeartbeats 4000000
set_option linter.unusedVariables false
set_option linter.unusedSimpArgs false
attribute [local irreducible] Ok GR G Fun OpRun EVS

theorem list_set_same {α : Type} {l : List α} {i : Nat} {v : α} (h : l[i]? = some v) : l.set i v = l := by
  apply List.ext_getElem?
  intro k
  rw [List.getElem?_set]
  split
  · rename_i hk; subst hk
    rw [h, if_pos (List.getElem?_eq_some_iff.1 h).1]
  · rfl

theorem create_cases {rs : List (Option Rec)} {last : Int} (t : TreeOk rs last) (e n : Int) (q : Qt) :
    ((createF rs last e n q).1.2 ≠ 0 ∧ (createF rs last e n q).1.1 = -1 ∧ (createF rs last e n q).2 = (last, rs)) ∨
    (∃ (j : Nat) (rs' : List (Option Rec)), j < 16 ∧ createF rs last e n q = (((j : Int), 0), n, rs') ∧ getr rs j = none ∧ last < n ∧ livesOf rs' = (livesOf rs).set j true) := by
  unfold createF
  cases hp : getr rs e with
  | none => exact .inl ⟨by simp, rfl, rfl⟩
  | some p =>
    dsimp only
    split
    · exact .inl ⟨by simp, rfl, rfl⟩
    · rename_i h1
      split
      · exact .inl ⟨by simp, rfl, rfl⟩
      · rename_i h2
        cases hf : freeOf rs with
        | none => exact .inl ⟨by simp, rfl, rfl⟩
        | some j =>
          dsimp only
          obtain ⟨hj, hfree⟩ := freeOf_some hf
          have hs : last < n := by
            by_cases h : n ≤ last
            · exact absurd (.inr (.inl h)) h1
            · omega
          refine .inr ⟨j, _, by rw [t.len] at hj; exact hj, rfl, hfree, hs, ?_⟩
          have hne : e ≠ (j : Int) := by rintro rfl; rw [hfree] at hp; cases hp
          have hl := getr_lt hp
          have h3 : rs[e.toNat]? = some (some p) := by
            unfold getr at hp
            rw [if_pos hl.1] at hp
            cases h3 : rs[e.toNat]? with
            | none => rw [h3] at hp; cases hp
            | some x => rw [h3] at hp; simp at hp; rw [hp]
          unfold livesOf
          rw [List.map_set, List.map_set]
          refine list_set_same ?_
          simp only [Option.isSome_some]
          rw [List.getElem?_set, if_neg (by omega), List.getElem?_map, h3]; rfl

theorem lives_false {rs : List (Option Rec)} {j : Nat} (hj : j < rs.length) (h : getr rs j = none) : (livesOf rs)[j]? = some false := by
  unfold getr at h
  rw [if_pos (by omega), Int.toNat_natCast, List.getElem?_eq_getElem hj] at h
  unfold livesOf
  rw [List.getElem?_map, List.getElem?_eq_getElem hj]
  simp at h; rw [h]; rfl

section
variable (T B : Nat) (last : Int) (rs : List (Option Rec)) (k t e n m : Int) (q : Qt) (r : Rg) (on : Bool)

theorem noted2 (ht : TreeOk rs last) : Fun Try.prog 11 [ptr (some B), ptr (some T), opVal ⟨2, t, e, n, m, q, r, on⟩] [Table T last rs, Book B (livesOf rs) last]
    (Ret (.bool true) [Table T (stepF rs last ⟨2, t, e, n, m, q, r, on⟩).2 (stepF rs last ⟨2, t, e, n, m, q, r, on⟩).1, Book B (livesOf (stepF rs last ⟨2, t, e, n, m, q, r, on⟩).1) (stepF rs last ⟨2, t, e, n, m, q, r, on⟩).2]) := by
  have hs : stepF rs last ⟨2, t, e, n, m, q, r, on⟩ = ((createF rs last e n q).2.2, (createF rs last e n q).2.1) := rfl
  rw [hs]; dsimp only
  have spec := Create_ok T last rs e n q (fun r hr => ⟨ht.ok e r hr, ht.kids16 hr⟩)
  have hlen := ht.len
  rcases create_cases ht e n q with ⟨h1, h2, h3⟩ | ⟨j, rs', hj, hc, hfree, hlast, hlv⟩
  · rw [h2, h3] at spec
    rw [h3]; dsimp only at spec ⊢
    have hb : decide ((createF rs last e n q).1.2 ≠ 0) = true := by simpa using h1
    refine Fun.enter Try.func11 rfl rfl rfl ?_
    repeat (first | refine G.w0 ?_ | refine G.w1 ?_ | refine G.wn ?_ | refine GR.w ?_ | (refine G.ws (h := ?_); try (simp only [Nat.reduceAdd, Nat.zero_add, List.set_cons_succ, List.set_cons_zero])) | (refine G.wb ?_; intro bx) | (refine G.wz ?_; intro bx) | refine G.wa (h := ?_) | refine G.seq ?_ | refine G.region ?_ | refine G.nil ?_ | refine G.block ?_ | refine G.skip ?_ | refine G.blk ?_ | refine G.wx ?_ | refine G.wt ?_ | refine G.wf ?_)
    (first | refine G.take rfl ?_ | refine G.take_yes rfl rfl rfl (by first | rfl | assumption) ?_); (first | refine R.callD Try.func18 rfl (by decide) rfl rfl (spec) ?_ | refine R.callD0 Try.func18 rfl (by decide) rfl (spec) ?_); simp only [List.cons_append, List.nil_append]
    repeat (first | refine G.w0 ?_ | refine G.w1 ?_ | refine G.wn ?_ | refine GR.w ?_ | (refine G.ws (h := ?_); try (simp only [Nat.reduceAdd, Nat.zero_add, List.set_cons_succ, List.set_cons_zero])) | (refine G.wb ?_; intro bx) | (refine G.wz ?_; intro bx) | refine G.wa (h := ?_) | refine G.seq ?_ | refine G.region ?_ | refine G.nil ?_ | refine G.block ?_ | refine G.skip ?_ | refine G.blk ?_ | refine G.wx ?_ | refine G.wt ?_ | refine G.wf ?_)
    first | refine G.retK [Table T last rs, Book B (livesOf rs) last] rfl Try.func11 rfl Res.nil ?_ | refine G.retK [Table T last rs, Book B (livesOf rs) last] rfl Try.func11 rfl (Res.tmp rfl Res.nil) ?_ | refine G.retK [Table T last rs, Book B (livesOf rs) last] rfl Try.func11 rfl (Res.tmp rfl (Res.tmp rfl Res.nil)) ?_ | refine G.retK [Table T last rs, Book B (livesOf rs) last] rfl Try.func11 rfl (Res.tmp rfl (Res.tmp rfl (Res.tmp rfl Res.nil))) ?_ | refine G.retK [Table T last rs, Book B (livesOf rs) last] rfl Try.func11 rfl (Res.cellA rfl rfl rfl Res.nil) ?_ | refine G.retK [Table T last rs, Book B (livesOf rs) last] rfl Try.func11 rfl (Res.cellA rfl rfl rfl (Res.tmp rfl Res.nil)) ?_ | refine G.retK [Table T last rs, Book B (livesOf rs) last] rfl Try.func11 rfl (Res.cell rfl rfl Res.nil) ?_
    exact ⟨rfl, rfl⟩
  · rw [hc] at spec
    rw [hc]; dsimp only at spec ⊢
    rw [hlv]
    have hll : (livesOf rs).length = 16 := by simp [livesOf, hlen]
    have hb1 : decide ((j : Int) < 0) = false := decide_eq_false (by omega)
    have hb2 : decide ((16 : Int) ≤ (j : Int)) = false := decide_eq_false (by omega)
    have hb3 : decide (n ≤ last) = false := decide_eq_false (by omega)
    have hidx : 0 ≤ (j : Int) ∧ (j : Int) < ((16 : Nat) : Int) := by omega
    have hl0 := lives_false (by omega) hfree
    refine Fun.enter Try.func11 rfl rfl rfl ?_
    repeat (first | refine G.w0 ?_ | refine G.w1 ?_ | refine G.wn ?_ | refine GR.w ?_ | (refine G.ws (h := ?_); try (simp only [Nat.reduceAdd, Nat.zero_add, List.set_cons_succ, List.set_cons_zero])) | (refine G.wb ?_; intro bx) | (refine G.wz ?_; intro bx) | refine G.wa (h := ?_) | refine G.seq ?_ | refine G.region ?_ | refine G.nil ?_ | refine G.block ?_ | refine G.skip ?_ | refine G.blk ?_ | refine G.wx ?_ | refine G.wt ?_ | refine G.wf ?_)
    (first | refine G.take rfl ?_ | refine G.take_yes rfl rfl rfl (by first | rfl | assumption) ?_); (first | refine R.callD Try.func18 rfl (by decide) rfl rfl (spec) ?_ | refine R.callD0 Try.func18 rfl (by decide) rfl (spec) ?_); simp only [List.cons_append, List.nil_append]
    repeat (first | refine G.w0 ?_ | refine G.w1 ?_ | refine G.wn ?_ | refine GR.w ?_ | (refine G.ws (h := ?_); try (simp only [Nat.reduceAdd, Nat.zero_add, List.set_cons_succ, List.set_cons_zero])) | (refine G.wb ?_; intro bx) | (refine G.wz ?_; intro bx) | refine G.wa (h := ?_) | refine G.seq ?_ | refine G.region ?_ | refine G.nil ?_ | refine G.block ?_ | refine G.skip ?_ | refine G.blk ?_ | refine G.wx ?_ | refine G.wt ?_ | refine G.wf ?_)
    refine G.open (Book B (livesOf rs) last) rfl ?_
    rintro paid ⟨hl, hpd⟩
    simp only [List.cons_append, List.nil_append]
    refine G.isC B (bookCells (livesOf rs) paid last) rfl ?_
    have hload : (bookCells (livesOf rs) paid last)[j]? = some (.bool false) := by
      rw [book_life hl j (by omega)]
      rw [List.getElem?_eq_getElem (by omega)] at hl0
      rw [Option.some.inj hl0]
    have hlastc := book_last (last := last) hl hpd
    (repeat refine G.seq ?_); refine G.drawS [(.pur, 0), (.pur, 1), (.pur, 2), (.pur, 3), (.pur, 4), (.pur, 5), (.pur, 6), (.pur, 7), (.pur, 8), (.pur, 9), (.pur, 10), (.pur, 11), (.look, 12), (.pur, 13), (.pur, 14), (.pur, 15), (.look, 16), (.pur, 17), (.pur, 18), (.pur, 19), (.look, 20), (.pur, 21), (.pur, 22)] (by kernel_rfl) (by kernel_rfl) rfl ?_
    repeat (first | refine EVS.wq ?_ | refine EVS.wp ?_ | refine EVS.wn ?_ | refine EVS.w0 ?_ | refine EVS.wy ?_ | (refine EVS.ws (h := ?_); try (simp only [Nat.reduceAdd, Nat.zero_add, List.set_cons_succ, List.set_cons_zero])) | refine EVS.wa (h := ?_) | (refine EVS.wb ?_; intro bx) | (refine EVS.wz ?_; intro bx) | refine EVS.wm ?_ | refine EVS.done ?_)
    refine EVS.oky rfl rfl hb2 (Ok.load (v := .bool false) rfl (by simpa using hload)) ?_
    repeat (first | refine EVS.wq ?_ | refine EVS.wp ?_ | refine EVS.wn ?_ | refine EVS.w0 ?_ | refine EVS.wy ?_ | (refine EVS.ws (h := ?_); try (simp only [Nat.reduceAdd, Nat.zero_add, List.set_cons_succ, List.set_cons_zero])) | refine EVS.wa (h := ?_) | (refine EVS.wb ?_; intro bx) | (refine EVS.wz ?_; intro bx) | refine EVS.wm ?_ | refine EVS.done ?_)
    refine EVS.oky rfl rfl rfl (Ok.load rfl hlastc) ?_
    repeat (first | refine EVS.wq ?_ | refine EVS.wp ?_ | refine EVS.wn ?_ | refine EVS.w0 ?_ | refine EVS.wy ?_ | (refine EVS.ws (h := ?_); try (simp only [Nat.reduceAdd, Nat.zero_add, List.set_cons_succ, List.set_cons_zero])) | refine EVS.wa (h := ?_) | (refine EVS.wb ?_; intro bx) | (refine EVS.wz ?_; intro bx) | refine EVS.wm ?_ | refine EVS.done ?_)
    repeat (first | refine G.w0 ?_ | refine G.w1 ?_ | refine G.wn ?_ | refine GR.w ?_ | (refine G.ws (h := ?_); try (simp only [Nat.reduceAdd, Nat.zero_add, List.set_cons_succ, List.set_cons_zero])) | (refine G.wb ?_; intro bx) | (refine G.wz ?_; intro bx) | refine G.wa (h := ?_) | refine G.seq ?_ | refine G.region ?_ | refine G.nil ?_ | refine G.block ?_ | refine G.skip ?_ | refine G.blk ?_ | refine G.wx ?_ | refine G.wt ?_ | refine G.wf ?_)
    (first | refine G.take rfl ?_ | refine G.take_yes rfl rfl rfl (by first | rfl | assumption) ?_)
    refine R.store rfl rfl rfl (by rw [book_len hl hpd]; simp [Nat.blt_eq]; omega) ?_
    rw [show (bookCells (livesOf rs) paid last).set (0 + 0 + (j : Int).toNat * 1) (.bool true) = bookCells ((livesOf rs).set j true) paid last from by
      rw [← book_setLife hl j hj true]; congr 1; simp]
    have hl' : ((livesOf rs).set j true).length = 16 := by simpa using hl
    repeat (first | refine G.w0 ?_ | refine G.w1 ?_ | refine G.wn ?_ | refine GR.w ?_ | (refine G.ws (h := ?_); try (simp only [Nat.reduceAdd, Nat.zero_add, List.set_cons_succ, List.set_cons_zero])) | (refine G.wb ?_; intro bx) | (refine G.wz ?_; intro bx) | refine G.wa (h := ?_) | refine G.seq ?_ | refine G.region ?_ | refine G.nil ?_ | refine G.block ?_ | refine G.skip ?_ | refine G.blk ?_ | refine G.wx ?_ | refine G.wt ?_ | refine G.wf ?_)
    (first | refine G.take rfl ?_ | refine G.take_yes rfl rfl rfl (by first | rfl | assumption) ?_)
    refine R.storeA (vs := qtCells ⟨0, 0, 0⟩) rfl rfl rfl rfl (by rw [book_len hl' hpd]; simp [qt_len]; omega) ?_
    rw [show setSeg (bookCells ((livesOf rs).set j true) paid last) (0 + 16 + (j : Int).toNat * 3) (qtCells ⟨0, 0, 0⟩) = bookCells ((livesOf rs).set j true) (paid.set j ⟨0, 0, 0⟩) last from by
      rw [← book_setPaid hl' hpd j (by omega)]; congr 1]
    have hpd' : (paid.set j (⟨0, 0, 0⟩ : Qt)).length = 16 := by simpa using hpd
    repeat (first | refine G.w0 ?_ | refine G.w1 ?_ | refine G.wn ?_ | refine GR.w ?_ | (refine G.ws (h := ?_); try (simp only [Nat.reduceAdd, Nat.zero_add, List.set_cons_succ, List.set_cons_zero])) | (refine G.wb ?_; intro bx) | (refine G.wz ?_; intro bx) | refine G.wa (h := ?_) | refine G.seq ?_ | refine G.region ?_ | refine G.nil ?_ | refine G.block ?_ | refine G.skip ?_ | refine G.blk ?_ | refine G.wx ?_ | refine G.wt ?_ | refine G.wf ?_)
    (first | refine G.take rfl ?_ | refine G.take_yes rfl rfl rfl (by first | rfl | assumption) ?_)
    refine R.store rfl rfl rfl (by rw [book_len hl' hpd']; rfl) ?_
    rw [show (bookCells ((livesOf rs).set j true) (paid.set j ⟨0, 0, 0⟩) last).set (0 + 64) (i64 n) = bookCells ((livesOf rs).set j true) (paid.set j ⟨0, 0, 0⟩) n from book_setLast hl' hpd' n]
    repeat (first | refine G.w0 ?_ | refine G.w1 ?_ | refine G.wn ?_ | refine GR.w ?_ | (refine G.ws (h := ?_); try (simp only [Nat.reduceAdd, Nat.zero_add, List.set_cons_succ, List.set_cons_zero])) | (refine G.wb ?_; intro bx) | (refine G.wz ?_; intro bx) | refine G.wa (h := ?_) | refine G.seq ?_ | refine G.region ?_ | refine G.nil ?_ | refine G.block ?_ | refine G.skip ?_ | refine G.blk ?_ | refine G.wx ?_ | refine G.wt ?_ | refine G.wf ?_)
    refine G.close (Book B ((livesOf rs).set j true) n) rfl (paid.set j ⟨0, 0, 0⟩) (⟨hl', hpd'⟩) (by dsimp only) ?_
    first | refine G.retK [Table T n rs', Book B ((livesOf rs).set j true) n] rfl Try.func11 rfl Res.nil ?_ | refine G.retK [Table T n rs', Book B ((livesOf rs).set j true) n] rfl Try.func11 rfl (Res.tmp rfl Res.nil) ?_ | refine G.retK [Table T n rs', Book B ((livesOf rs).set j true) n] rfl Try.func11 rfl (Res.tmp rfl (Res.tmp rfl Res.nil)) ?_ | refine G.retK [Table T n rs', Book B ((livesOf rs).set j true) n] rfl Try.func11 rfl (Res.tmp rfl (Res.tmp rfl (Res.tmp rfl Res.nil))) ?_ | refine G.retK [Table T n rs', Book B ((livesOf rs).set j true) n] rfl Try.func11 rfl (Res.cellA rfl rfl rfl Res.nil) ?_ | refine G.retK [Table T n rs', Book B ((livesOf rs).set j true) n] rfl Try.func11 rfl (Res.cellA rfl rfl rfl (Res.tmp rfl Res.nil)) ?_ | refine G.retK [Table T n rs', Book B ((livesOf rs).set j true) n] rfl Try.func11 rfl (Res.cell rfl rfl Res.nil) ?_
    exact ⟨rfl, rfl⟩
end
end Go.Proofs.Ytffcilmllebdmaa
