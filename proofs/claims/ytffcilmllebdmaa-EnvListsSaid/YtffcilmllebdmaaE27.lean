/- Lists of lists: copied, sameInts, asked, told. -/
import Derived.Test.YtffcilmllebdmaaE25
namespace Go.Proofs.Ytffcilmllebdmaa
open Go.Am
set_option maxHeartbeats 4000000
set_option linter.unusedVariables false
set_option linter.unusedSimpArgs false
attribute [local irreducible] Ok GR G Fun OpRun EVS

/-- v is a slice of slices of numbers, all of the call's own. -/
def LL (v : Value) (ls : List (List Int)) : HProp := Pk (fun vs : List Value => vs.length = ls.length) (fun vs => [OwnS 57 1 v ls.length vs, sep (List.zipWith OwnI vs ls)])

theorem copied_ok (v : Value) (l : List Int) (hl : l.length ≤ 100000) : Fun Try.prog 26 [v] [OwnI v l] (fun v' H => H = [OwnI v l, OwnI v' l]) := by
  refine Fun.enter Try.func26 rfl rfl rfl ?_
  refine G.form v ?_
  rintro a cap rfl
  repeat (first | refine G.w0 ?_ | refine G.w1 ?_ | refine G.wn ?_ | refine GR.w ?_ | (refine G.ws (h := ?_); try (simp only [Nat.reduceAdd, Nat.zero_add, List.set_cons_succ, List.set_cons_zero])) | (refine G.wb ?_; intro bx) | (refine G.wz ?_; intro bx) | refine G.wa (h := ?_) | refine G.seq ?_ | refine G.region ?_ | refine G.nil ?_ | refine G.block ?_ | refine G.skip ?_ | refine G.blk ?_ | refine G.wx ?_ | refine G.wt ?_ | refine G.wf ?_)
  refine G.nilS 3 1 ?_
  refine G.loopI (α := Nat × Option Addr × Nat) (fun x => [(4, .int .i64 x.1), (3, .slice x.2.1 (l.take x.1).length x.2.2), (0, .slice a l.length cap)]) (fun x => [OwnI (.slice x.2.1 (l.take x.1).length x.2.2) (l.take x.1), OwnI (.slice a l.length cap) l]) (fun x => x.1 ≤ l.length) (fun x => l.length - x.1) (0, none, 0) (by dsimp only; omega) (Env.le_cons rfl (Env.le_cons rfl (Env.le_cons rfl (Env.le_nil _)))) rfl ?_
  rintro ⟨i, xa, xc⟩ hi hloop
  dsimp only at hi hloop ⊢
  have htl : (l.take i).length = i := by simp; omega
  by_cases hlt : i < l.length
  · have hb1 : decide ((i : Int) < (l.length : Int)) = true := by simpa using hlt
    have hidx : 0 ≤ (i : Int) ∧ (i : Int) < (l.length : Int) := by omega
    have hw : IntKind.i64.wrap ((i : Int) + 1) = (i : Int) + 1 := wrap_id (by omega) (by omega)
    have hcell := ints_get' l i hlt
    refine G.formS (.slice a l.length cap) (by omega) ?_
    rintro sb cap2 hsb -
    cases hsb
    repeat (first | refine G.w0 ?_ | refine G.w1 ?_ | refine G.wn ?_ | refine GR.w ?_ | (refine G.ws (h := ?_); try (simp only [Nat.reduceAdd, Nat.zero_add, List.set_cons_succ, List.set_cons_zero])) | (refine G.wb ?_; intro bx) | (refine G.wz ?_; intro bx) | refine G.wa (h := ?_) | refine G.seq ?_ | refine G.region ?_ | refine G.nil ?_ | refine G.block ?_ | refine G.skip ?_ | refine G.blk ?_ | refine G.wx ?_ | refine G.wt ?_ | refine G.wf ?_)
    (first | refine G.take rfl ?_ | refine G.take_yes rfl rfl rfl (by first | rfl | assumption) ?_)
    refine GR.ok (Ok.loadS rfl hcell) rfl rfl ?_
    (first | refine G.take rfl ?_ | refine G.take_yes rfl rfl rfl (by first | rfl | assumption) ?_)
    refine R.bs1 rfl rfl rfl rfl fun nb => ?_
    (first | refine G.take rfl ?_ | refine G.take_yes rfl rfl rfl (by first | rfl | assumption) ?_)
    refine R.append (n := 1) (bytes := 8) (z := .int .i64 0) (cs := ints (l.take i)) (news := [i64 l[i]]) rfl rfl (by rfl) (by exact Nat.le_refl _) rfl rfl (by omega) (by omega) (by decide) rfl fun a' cap' => ?_
    have h4 : ints (l.take i) ++ [i64 l[i]] = ints (l.take (i + 1)) := by rw [List.take_succ_eq_append_getElem hlt]; unfold ints; rw [List.map_append]; rfl
    have h5 : (l.take i).length + 1 = (l.take (i + 1)).length := by simp; omega
    rw [h4, h5]
    repeat (first | refine G.w0 ?_ | refine G.w1 ?_ | refine G.wn ?_ | refine GR.w ?_ | (refine G.ws (h := ?_); try (simp only [Nat.reduceAdd, Nat.zero_add, List.set_cons_succ, List.set_cons_zero])) | (refine G.wb ?_; intro bx) | (refine G.wz ?_; intro bx) | refine G.wa (h := ?_) | refine G.seq ?_ | refine G.region ?_ | refine G.nil ?_ | refine G.block ?_ | refine G.skip ?_ | refine G.blk ?_ | refine G.wx ?_ | refine G.wt ?_ | refine G.wf ?_)
    refine G.keep [OwnI (.slice a' (l.take (i + 1)).length cap') (l.take (i + 1)), OwnI (.slice (some ⟨sb, 0, none⟩) l.length cap) l] ?_
    exact (hloop (i + 1, a', cap') (by dsimp only; omega) (by dsimp only; omega)).forget _ (Env.le_cons rfl (Env.le_cons rfl (Env.le_cons rfl (Env.le_nil _))))
  · have hb1 : decide ((i : Int) < (l.length : Int)) = false := by simpa using hlt
    have hi2 : i = l.length := by omega
    subst hi2
    rw [List.take_length]
    repeat (first | refine G.w0 ?_ | refine G.w1 ?_ | refine G.wn ?_ | refine GR.w ?_ | (refine G.ws (h := ?_); try (simp only [Nat.reduceAdd, Nat.zero_add, List.set_cons_succ, List.set_cons_zero])) | (refine G.wb ?_; intro bx) | (refine G.wz ?_; intro bx) | refine G.wa (h := ?_) | refine G.seq ?_ | refine G.region ?_ | refine G.nil ?_ | refine G.block ?_ | refine G.skip ?_ | refine G.blk ?_ | refine G.wx ?_ | refine G.wt ?_ | refine G.wf ?_)
    first | refine G.retK [OwnI (.slice a l.length cap) l, OwnI (.slice xa l.length xc) l] rfl Try.func26 rfl Res.nil ?_ | refine G.retK [OwnI (.slice a l.length cap) l, OwnI (.slice xa l.length xc) l] rfl Try.func26 rfl (Res.tmp rfl Res.nil) ?_ | refine G.retK [OwnI (.slice a l.length cap) l, OwnI (.slice xa l.length xc) l] rfl Try.func26 rfl (Res.tmp rfl (Res.tmp rfl Res.nil)) ?_ | refine G.retK [OwnI (.slice a l.length cap) l, OwnI (.slice xa l.length xc) l] rfl Try.func26 rfl (Res.tmp rfl (Res.tmp rfl (Res.tmp rfl Res.nil))) ?_ | refine G.retK [OwnI (.slice a l.length cap) l, OwnI (.slice xa l.length xc) l] rfl Try.func26 rfl (Res.cellA rfl rfl rfl Res.nil) ?_ | refine G.retK [OwnI (.slice a l.length cap) l, OwnI (.slice xa l.length xc) l] rfl Try.func26 rfl (Res.cellA rfl rfl rfl (Res.tmp rfl Res.nil)) ?_ | refine G.retK [OwnI (.slice a l.length cap) l, OwnI (.slice xa l.length xc) l] rfl Try.func26 rfl (Res.cell rfl rfl Res.nil) ?_
    rfl

theorem sameInts_ok (v1 v2 : Value) (l : List Int) (hl : l.length ≤ 100000) : Fun Try.prog 28 [v1, v2] [OwnI v1 l, OwnI v2 l] (Ret (.bool true) [OwnI v1 l, OwnI v2 l]) := by
  refine Fun.enter Try.func28 rfl rfl rfl ?_
  refine G.form v1 ?_
  rintro a1 c1 rfl
  refine G.form v2 ?_
  rintro a2 c2 rfl
  have hb0 : decide ((l.length : Int) ≠ (l.length : Int)) = false := decide_eq_false (by simp)
  repeat (first | refine G.w0 ?_ | refine G.w1 ?_ | refine G.wn ?_ | refine GR.w ?_ | (refine G.ws (h := ?_); try (simp only [Nat.reduceAdd, Nat.zero_add, List.set_cons_succ, List.set_cons_zero])) | (refine G.wb ?_; intro bx) | (refine G.wz ?_; intro bx) | refine G.wa (h := ?_) | refine G.seq ?_ | refine G.region ?_ | refine G.nil ?_ | refine G.block ?_ | refine G.skip ?_ | refine G.blk ?_ | refine G.wx ?_ | refine G.wt ?_ | refine G.wf ?_)
  refine G.loopI (fun i : Nat => [(5, .int .i64 i), (1, .slice a2 l.length c2), (0, .slice a1 l.length c1)]) (fun _ => [OwnI (.slice a1 l.length c1) l, OwnI (.slice a2 l.length c2) l]) (fun i => i ≤ l.length) (fun i => l.length - i) 0 (by omega) (Env.le_cons rfl (Env.le_cons rfl (Env.le_cons rfl (Env.le_nil _)))) rfl ?_
  rintro i hi hloop
  by_cases hlt : i < l.length
  · have hb1 : decide ((i : Int) < (l.length : Int)) = true := by simpa using hlt
    have hidx : 0 ≤ (i : Int) ∧ (i : Int) < (l.length : Int) := by omega
    have hw : IntKind.i64.wrap ((i : Int) + 1) = (i : Int) + 1 := wrap_id (by omega) (by omega)
    have hcell := ints_get' l i hlt
    have hb2 : decide (l[i] ≠ l[i]) = false := decide_eq_false (by simp)
    refine G.formS (.slice a1 l.length c1) (by omega) ?_
    rintro sb1 cc1 hsb1 -
    cases hsb1
    refine G.formS (.slice a2 l.length c2) (by omega) ?_
    rintro sb2 cc2 hsb2 -
    cases hsb2
    repeat (first | refine G.w0 ?_ | refine G.w1 ?_ | refine G.wn ?_ | refine GR.w ?_ | (refine G.ws (h := ?_); try (simp only [Nat.reduceAdd, Nat.zero_add, List.set_cons_succ, List.set_cons_zero])) | (refine G.wb ?_; intro bx) | (refine G.wz ?_; intro bx) | refine G.wa (h := ?_) | refine G.seq ?_ | refine G.region ?_ | refine G.nil ?_ | refine G.block ?_ | refine G.skip ?_ | refine G.blk ?_ | refine G.wx ?_ | refine G.wt ?_ | refine G.wf ?_)
    (repeat refine G.seq ?_); refine G.drawS [(.pur, 0), (.pur, 1), (.pur, 2), (.look, 3), (.pur, 4), (.pur, 5), (.pur, 6), (.look, 7), (.pur, 8)] (by kernel_rfl) (by kernel_rfl) rfl ?_
    repeat (first | refine EVS.wq ?_ | refine EVS.wp ?_ | refine EVS.wn ?_ | refine EVS.w0 ?_ | refine EVS.wy ?_ | (refine EVS.ws (h := ?_); try (simp only [Nat.reduceAdd, Nat.zero_add, List.set_cons_succ, List.set_cons_zero])) | refine EVS.wa (h := ?_) | (refine EVS.wb ?_; intro bx) | (refine EVS.wz ?_; intro bx) | refine EVS.wm ?_ | refine EVS.done ?_)
    refine EVS.ok (Ok.loadS rfl hcell) ?_
    repeat (first | refine EVS.wq ?_ | refine EVS.wp ?_ | refine EVS.wn ?_ | refine EVS.w0 ?_ | refine EVS.wy ?_ | (refine EVS.ws (h := ?_); try (simp only [Nat.reduceAdd, Nat.zero_add, List.set_cons_succ, List.set_cons_zero])) | refine EVS.wa (h := ?_) | (refine EVS.wb ?_; intro bx) | (refine EVS.wz ?_; intro bx) | refine EVS.wm ?_ | refine EVS.done ?_)
    refine EVS.ok (Ok.loadS rfl hcell) ?_
    repeat (first | refine EVS.wq ?_ | refine EVS.wp ?_ | refine EVS.wn ?_ | refine EVS.w0 ?_ | refine EVS.wy ?_ | (refine EVS.ws (h := ?_); try (simp only [Nat.reduceAdd, Nat.zero_add, List.set_cons_succ, List.set_cons_zero])) | refine EVS.wa (h := ?_) | (refine EVS.wb ?_; intro bx) | (refine EVS.wz ?_; intro bx) | refine EVS.wm ?_ | refine EVS.done ?_)
    repeat (first | refine G.w0 ?_ | refine G.w1 ?_ | refine G.wn ?_ | refine GR.w ?_ | (refine G.ws (h := ?_); try (simp only [Nat.reduceAdd, Nat.zero_add, List.set_cons_succ, List.set_cons_zero])) | (refine G.wb ?_; intro bx) | (refine G.wz ?_; intro bx) | refine G.wa (h := ?_) | refine G.seq ?_ | refine G.region ?_ | refine G.nil ?_ | refine G.block ?_ | refine G.skip ?_ | refine G.blk ?_ | refine G.wx ?_ | refine G.wt ?_ | refine G.wf ?_)
    exact (hloop (i + 1) (by omega) (by omega)).forget _ (Env.le_cons rfl (Env.le_cons rfl (Env.le_cons rfl (Env.le_nil _))))
  · have hb1 : decide ((i : Int) < (l.length : Int)) = false := by simpa using hlt
    repeat (first | refine G.w0 ?_ | refine G.w1 ?_ | refine G.wn ?_ | refine GR.w ?_ | (refine G.ws (h := ?_); try (simp only [Nat.reduceAdd, Nat.zero_add, List.set_cons_succ, List.set_cons_zero])) | (refine G.wb ?_; intro bx) | (refine G.wz ?_; intro bx) | refine G.wa (h := ?_) | refine G.seq ?_ | refine G.region ?_ | refine G.nil ?_ | refine G.block ?_ | refine G.skip ?_ | refine G.blk ?_ | refine G.wx ?_ | refine G.wt ?_ | refine G.wf ?_)
    first | refine G.retK [OwnI (.slice a1 l.length c1) l, OwnI (.slice a2 l.length c2) l] rfl Try.func28 rfl Res.nil ?_ | refine G.retK [OwnI (.slice a1 l.length c1) l, OwnI (.slice a2 l.length c2) l] rfl Try.func28 rfl (Res.tmp rfl Res.nil) ?_ | refine G.retK [OwnI (.slice a1 l.length c1) l, OwnI (.slice a2 l.length c2) l] rfl Try.func28 rfl (Res.tmp rfl (Res.tmp rfl Res.nil)) ?_ | refine G.retK [OwnI (.slice a1 l.length c1) l, OwnI (.slice a2 l.length c2) l] rfl Try.func28 rfl (Res.tmp rfl (Res.tmp rfl (Res.tmp rfl Res.nil))) ?_ | refine G.retK [OwnI (.slice a1 l.length c1) l, OwnI (.slice a2 l.length c2) l] rfl Try.func28 rfl (Res.cellA rfl rfl rfl Res.nil) ?_ | refine G.retK [OwnI (.slice a1 l.length c1) l, OwnI (.slice a2 l.length c2) l] rfl Try.func28 rfl (Res.cellA rfl rfl rfl (Res.tmp rfl Res.nil)) ?_ | refine G.retK [OwnI (.slice a1 l.length c1) l, OwnI (.slice a2 l.length c2) l] rfl Try.func28 rfl (Res.cell rfl rfl Res.nil) ?_
    exact ⟨rfl, rfl⟩

theorem asked_ok (T : Nat) (last : Int) (rs : List (Option Rec)) (e : Int) (v : Value) (ls : List (List Int)) (hl : ls.length ≤ 10000) (ht : TreeOk rs last) : Fun Try.prog 27 [ptr (some T), v, i64 e] [Table T last rs, LL v ls]
    (fun v' H => H = [Table T last rs, LL v' (ls ++ [treeF rs e, kidsF rs e])]) := by
  refine Fun.enter Try.func27 rfl rfl rfl ?_
  refine G.open (LL v ls) rfl ?_
  rintro vs hvs
  simp only [List.cons_append, List.nil_append]
  refine G.form v ?_
  rintro a cap rfl
  repeat (first | refine G.w0 ?_ | refine G.w1 ?_ | refine G.wn ?_ | refine GR.w ?_ | (refine G.ws (h := ?_); try (simp only [Nat.reduceAdd, Nat.zero_add, List.set_cons_succ, List.set_cons_zero])) | (refine G.wb ?_; intro bx) | (refine G.wz ?_; intro bx) | refine G.wa (h := ?_) | refine G.seq ?_ | refine G.region ?_ | refine G.nil ?_ | refine G.block ?_ | refine G.skip ?_ | refine G.blk ?_ | refine G.wx ?_ | refine G.wt ?_ | refine G.wf ?_)
  (first | refine G.take rfl ?_ | refine G.take_yes rfl rfl rfl (by first | rfl | assumption) ?_); (first | refine R.callQ Try.func41 rfl (by decide) rfl rfl (Tree_ok T last rs e ht) ?_ | refine R.callQ0 Try.func41 rfl (by decide) rfl (Tree_ok T last rs e ht) ?_); (rintro _ _ ⟨tv, rfl, rfl⟩ <;> simp only [List.cons_append, List.nil_append])
  repeat (first | refine G.w0 ?_ | refine G.w1 ?_ | refine G.wn ?_ | refine GR.w ?_ | (refine G.ws (h := ?_); try (simp only [Nat.reduceAdd, Nat.zero_add, List.set_cons_succ, List.set_cons_zero])) | (refine G.wb ?_; intro bx) | (refine G.wz ?_; intro bx) | refine G.wa (h := ?_) | refine G.seq ?_ | refine G.region ?_ | refine G.nil ?_ | refine G.block ?_ | refine G.skip ?_ | refine G.blk ?_ | refine G.wx ?_ | refine G.wt ?_ | refine G.wf ?_)
  (first | refine G.take rfl ?_ | refine G.take_yes rfl rfl rfl (by first | rfl | assumption) ?_); (first | refine R.callQ Try.func25 rfl (by decide) rfl rfl (Children_ok T last rs e ht) ?_ | refine R.callQ0 Try.func25 rfl (by decide) rfl (Children_ok T last rs e ht) ?_); (rintro _ _ ⟨kv, rfl, rfl⟩ <;> simp only [List.cons_append, List.nil_append])
  refine G.form tv ?_
  rintro ta tc rfl
  refine G.form kv ?_
  rintro ka kc rfl
  repeat (first | refine G.w0 ?_ | refine G.w1 ?_ | refine G.wn ?_ | refine GR.w ?_ | (refine G.ws (h := ?_); try (simp only [Nat.reduceAdd, Nat.zero_add, List.set_cons_succ, List.set_cons_zero])) | (refine G.wb ?_; intro bx) | (refine G.wz ?_; intro bx) | refine G.wa (h := ?_) | refine G.seq ?_ | refine G.region ?_ | refine G.nil ?_ | refine G.block ?_ | refine G.skip ?_ | refine G.blk ?_ | refine G.wx ?_ | refine G.wt ?_ | refine G.wf ?_)
  (first | refine G.take rfl ?_ | refine G.take_yes rfl rfl rfl (by first | rfl | assumption) ?_)
  refine R.bs2 rfl rfl rfl rfl rfl rfl fun nb => ?_
  (first | refine G.take rfl ?_ | refine G.take_yes rfl rfl rfl (by first | rfl | assumption) ?_)
  refine R.append (n := 1) (bytes := 24) (z := .slice none 0 0) (cs := vs) (news := [.slice ta (treeF rs e).length tc, .slice ka (kidsF rs e).length kc]) rfl rfl (by rfl) (by exact Nat.le_refl _) rfl rfl (by omega) (by omega) (by decide) rfl fun a' cap' => ?_
  repeat (first | refine G.w0 ?_ | refine G.w1 ?_ | refine G.wn ?_ | refine GR.w ?_ | (refine G.ws (h := ?_); try (simp only [Nat.reduceAdd, Nat.zero_add, List.set_cons_succ, List.set_cons_zero])) | (refine G.wb ?_; intro bx) | (refine G.wz ?_; intro bx) | refine G.wa (h := ?_) | refine G.seq ?_ | refine G.region ?_ | refine G.nil ?_ | refine G.block ?_ | refine G.skip ?_ | refine G.blk ?_ | refine G.wx ?_ | refine G.wt ?_ | refine G.wf ?_)
  refine G.bagSnoc (List.zipWith OwnI vs ls) (OwnI (.slice ta (treeF rs e).length tc) (treeF rs e)) ?_
  refine G.bagSnoc (List.zipWith OwnI vs ls ++ [OwnI (.slice ta (treeF rs e).length tc) (treeF rs e)]) (OwnI (.slice ka (kidsF rs e).length kc) (kidsF rs e)) ?_
  have e1 : List.zipWith OwnI vs ls ++ [OwnI (.slice ta (treeF rs e).length tc) (treeF rs e)] ++ [OwnI (.slice ka (kidsF rs e).length kc) (kidsF rs e)] = List.zipWith OwnI (vs ++ [.slice ta (treeF rs e).length tc, .slice ka (kidsF rs e).length kc]) (ls ++ [treeF rs e, kidsF rs e]) := by
    rw [List.zipWith_append hvs]; simp
  have e2 : ls.length + 2 = (ls ++ [treeF rs e, kidsF rs e]).length := by simp
  rw [e1, e2]
  refine G.close (LL (.slice a' (ls ++ [treeF rs e, kidsF rs e]).length cap') (ls ++ [treeF rs e, kidsF rs e])) rfl (vs ++ [.slice ta (treeF rs e).length tc, .slice ka (kidsF rs e).length kc]) ((by simp [hvs])) (by dsimp only) ?_
  first | refine G.retK [Table T last rs, LL (.slice a' (ls ++ [treeF rs e, kidsF rs e]).length cap') (ls ++ [treeF rs e, kidsF rs e])] rfl Try.func27 rfl Res.nil ?_ | refine G.retK [Table T last rs, LL (.slice a' (ls ++ [treeF rs e, kidsF rs e]).length cap') (ls ++ [treeF rs e, kidsF rs e])] rfl Try.func27 rfl (Res.tmp rfl Res.nil) ?_ | refine G.retK [Table T last rs, LL (.slice a' (ls ++ [treeF rs e, kidsF rs e]).length cap') (ls ++ [treeF rs e, kidsF rs e])] rfl Try.func27 rfl (Res.tmp rfl (Res.tmp rfl Res.nil)) ?_ | refine G.retK [Table T last rs, LL (.slice a' (ls ++ [treeF rs e, kidsF rs e]).length cap') (ls ++ [treeF rs e, kidsF rs e])] rfl Try.func27 rfl (Res.tmp rfl (Res.tmp rfl (Res.tmp rfl Res.nil))) ?_ | refine G.retK [Table T last rs, LL (.slice a' (ls ++ [treeF rs e, kidsF rs e]).length cap') (ls ++ [treeF rs e, kidsF rs e])] rfl Try.func27 rfl (Res.cellA rfl rfl rfl Res.nil) ?_ | refine G.retK [Table T last rs, LL (.slice a' (ls ++ [treeF rs e, kidsF rs e]).length cap') (ls ++ [treeF rs e, kidsF rs e])] rfl Try.func27 rfl (Res.cellA rfl rfl rfl (Res.tmp rfl Res.nil)) ?_ | refine G.retK [Table T last rs, LL (.slice a' (ls ++ [treeF rs e, kidsF rs e]).length cap') (ls ++ [treeF rs e, kidsF rs e])] rfl Try.func27 rfl (Res.cell rfl rfl Res.nil) ?_
  rfl
end Go.Proofs.Ytffcilmllebdmaa
