/- branch: a walk is its root and then its children's walks. -/
import Derived.Test.YtffcilmllebdmaaM9
namespace Go.Proofs.Ytffcilmllebdmaa
open Go.Am
set_option maxHeartbeats 4000000
set_option linter.unusedVariables false
set_option linter.unusedSimpArgs false
attribute [local irreducible] Ok GR G Fun OpRun EVS

theorem ints_get (l : List Int) (i : Nat) (h : i < l.length) : (ints l)[i]? = some (i64 l[i]) := by simp [ints, h]
theorem ints_get' (l : List Int) (i : Nat) (h : i < l.length) : (ints l)[0 + (i : Int).toNat * 1]? = some (i64 l[i]) := by
  rw [show 0 + (i : Int).toNat * 1 = i by simp]; exact ints_get l i h

/-- The serial that the next child must pass. -/
def lastS (rs : List (Option Rec)) (r : Rec) (i : Nat) : Int := if i = 0 then r.serial else serOf rs (r.kids.getD (i - 1) 0)
/-- Where the next child's walk begins. -/
def atOf (rs : List (Option Rec)) (r : Rec) (i : Nat) : Nat := 1 + ((r.kids.take i).flatMap (treeF rs)).length

theorem branch_ok (T : Nat) (last : Int) (rs : List (Option Rec)) (e : Int) (r : Rec) (ht : TreeOk rs last) (hr : getr rs e = some r) :
    Fun Try.prog 32 [ptr (some T), i64 e] [Table T last rs] (Ret (.bool true) [Table T last rs]) := by
  have htree := Tree_ok T last rs e ht
  have hkids := Children_ok T last rs e ht
  have hinfo := Info_ok T last rs e (fun r hr => ht.ok _ r hr)
  simp only [infoOf, errOf, hr] at htree hkids hinfo
  have hk : kidsF rs e = r.kids := by simp only [kidsF, hr]
  rw [hk] at hkids
  have hw16 := tree_len ht e
  have hk16 := ht.kids16 hr
  have hcons := tree_cons ht hr
  have hpos : 0 < (treeF rs e).length := by rw [hcons]; simp
  have h0 : (treeF rs e)[0]'hpos = e := by
    have : (treeF rs e)[0]? = some e := by rw [hcons]; rfl
    rw [List.getElem?_eq_getElem hpos] at this
    exact Option.some.inj this
  have hins := Inside_ok T last rs e e (ht.up16 e)
  rw [hr, (inside16 ht e hr).2 .refl] at hins
  have hb1 : decide (((treeF rs e).length : Int) = 0) = false := decide_eq_false (by omega)
  have hb2 : decide ((16 : Int) < ((treeF rs e).length : Int)) = false := decide_eq_false (by omega)
  have hcell0 : (ints (treeF rs e))[0 + (0 : Int).toNat * 1]? = some (i64 e) := by
    have := ints_get' (treeF rs e) 0 hpos
    rw [h0] at this
    exact this
  have hb3 : decide (e ≠ e) = false := decide_eq_false (by simp)
  have hidx : 0 ≤ (0 : Int) ∧ (0 : Int) < ((treeF rs e).length : Int) := by omega
  refine Fun.enter Try.func32 rfl rfl rfl ?_
  repeat (first | refine G.w0 ?_ | refine G.w1 ?_ | refine G.wn ?_ | refine GR.w ?_ | (refine G.ws (h := ?_); try (simp only [Nat.reduceAdd, Nat.zero_add, List.set_cons_succ, List.set_cons_zero])) | (refine G.wb ?_; intro bx) | (refine G.wz ?_; intro bx) | refine G.wa (h := ?_) | refine G.seq ?_ | refine G.region ?_ | refine G.nil ?_ | refine G.block ?_ | refine G.skip ?_ | refine G.blk ?_ | refine G.wx ?_ | refine G.wt ?_ | refine G.wf ?_)
  (first | refine G.take rfl ?_ | refine G.take_yes rfl rfl rfl (by first | rfl | assumption) ?_); (first | refine R.callQ Try.func41 rfl (by decide) rfl rfl (htree) ?_ | refine R.callQ0 Try.func41 rfl (by decide) rfl (htree) ?_); (rintro _ _ ⟨wv, rfl, rfl⟩ <;> simp only [List.cons_append, List.nil_append])
  refine G.formS wv hpos ?_
  rintro wb wcap rfl -
  repeat (first | refine G.w0 ?_ | refine G.w1 ?_ | refine G.wn ?_ | refine GR.w ?_ | (refine G.ws (h := ?_); try (simp only [Nat.reduceAdd, Nat.zero_add, List.set_cons_succ, List.set_cons_zero])) | (refine G.wb ?_; intro bx) | (refine G.wz ?_; intro bx) | refine G.wa (h := ?_) | refine G.seq ?_ | refine G.region ?_ | refine G.nil ?_ | refine G.block ?_ | refine G.skip ?_ | refine G.blk ?_ | refine G.wx ?_ | refine G.wt ?_ | refine G.wf ?_)
  (first | refine G.take rfl ?_ | refine G.take_yes rfl rfl rfl (by first | rfl | assumption) ?_); (first | refine R.callQ Try.func25 rfl (by decide) rfl rfl (hkids) ?_ | refine R.callQ0 Try.func25 rfl (by decide) rfl (hkids) ?_); (rintro _ _ ⟨kv, rfl, rfl⟩ <;> simp only [List.cons_append, List.nil_append])
  refine G.form kv ?_
  rintro ka kcap rfl
  repeat (first | refine G.w0 ?_ | refine G.w1 ?_ | refine G.wn ?_ | refine GR.w ?_ | (refine G.ws (h := ?_); try (simp only [Nat.reduceAdd, Nat.zero_add, List.set_cons_succ, List.set_cons_zero])) | (refine G.wb ?_; intro bx) | (refine G.wz ?_; intro bx) | refine G.wa (h := ?_) | refine G.seq ?_ | refine G.region ?_ | refine G.nil ?_ | refine G.block ?_ | refine G.skip ?_ | refine G.blk ?_ | refine G.wx ?_ | refine G.wt ?_ | refine G.wf ?_)
  (first | refine G.take rfl ?_ | refine G.take_yes rfl rfl rfl (by first | rfl | assumption) ?_); (first | refine R.callD Try.func12 rfl (by decide) rfl rfl (hinfo) ?_ | refine R.callD0 Try.func12 rfl (by decide) rfl (hinfo) ?_); simp only [List.cons_append, List.nil_append]
  repeat (first | refine G.w0 ?_ | refine G.w1 ?_ | refine G.wn ?_ | refine GR.w ?_ | (refine G.ws (h := ?_); try (simp only [Nat.reduceAdd, Nat.zero_add, List.set_cons_succ, List.set_cons_zero])) | (refine G.wb ?_; intro bx) | (refine G.wz ?_; intro bx) | refine G.wa (h := ?_))
  revert bx
  intro xb
  refine G.isC xb (infoCells r) rfl ?_
  repeat (first | refine G.w0 ?_ | refine G.w1 ?_ | refine G.wn ?_ | refine GR.w ?_ | (refine G.ws (h := ?_); try (simp only [Nat.reduceAdd, Nat.zero_add, List.set_cons_succ, List.set_cons_zero])) | (refine G.wb ?_; intro bx) | (refine G.wz ?_; intro bx) | refine G.wa (h := ?_) | refine G.seq ?_ | refine G.region ?_ | refine G.nil ?_ | refine G.block ?_ | refine G.skip ?_ | refine G.blk ?_ | refine G.wx ?_ | refine G.wt ?_ | refine G.wf ?_)
  (first | refine G.take rfl ?_ | refine G.take_yes rfl rfl rfl (by first | rfl | assumption) ?_)
  refine GR.ok (Ok.loadS rfl hcell0) rfl rfl ?_
  repeat (first | refine G.w0 ?_ | refine G.w1 ?_ | refine G.wn ?_ | refine GR.w ?_ | (refine G.ws (h := ?_); try (simp only [Nat.reduceAdd, Nat.zero_add, List.set_cons_succ, List.set_cons_zero])) | (refine G.wb ?_; intro bx) | (refine G.wz ?_; intro bx) | refine G.wa (h := ?_) | refine G.seq ?_ | refine G.region ?_ | refine G.nil ?_ | refine G.block ?_ | refine G.skip ?_ | refine G.blk ?_ | refine G.wx ?_ | refine G.wt ?_ | refine G.wf ?_)
  refine G.loopI (fun i : Nat => [(13, .int .i64 i), (12, i64 (lastS rs r i)), (11, .int .i64 (atOf rs r i : Nat)), (9, ptr (some xb)), (7, .slice ka r.kids.length kcap), (5, .slice (some ⟨wb, 0, none⟩) (treeF rs e).length wcap), (1, i64 e), (0, ptr (some T))])
    (fun _ => [cb xb (infoCells r) 40, Table T last rs, OwnI (.slice ka r.kids.length kcap) r.kids, OwnI (.slice (some ⟨wb, 0, none⟩) (treeF rs e).length wcap) (treeF rs e)]) (fun i => i ≤ r.kids.length) (fun i => r.kids.length - i) 0 (by omega) (Env.le_cons rfl (Env.le_cons rfl (Env.le_cons rfl (Env.le_cons rfl (Env.le_cons rfl (Env.le_cons rfl (Env.le_cons rfl (Env.le_cons rfl (Env.le_nil _))))))))) rfl ?_
  rintro i hi hloop
  by_cases hlt : i < r.kids.length
  rotate_left
  · have hb4 : decide ((i : Int) < (r.kids.length : Int)) = false := by simpa using hlt
    have hi2 : i = r.kids.length := by omega
    have hat : atOf rs r i = (treeF rs e).length := by
      rw [hi2]; unfold atOf; rw [List.take_length, hcons]; simp only [List.length_cons]; omega
    have hb5 : decide (((atOf rs r i : Nat) : Int) = ((treeF rs e).length : Int)) = true := by rw [hat]; simp
    repeat (first | refine G.w0 ?_ | refine G.w1 ?_ | refine G.wn ?_ | refine GR.w ?_ | (refine G.ws (h := ?_); try (simp only [Nat.reduceAdd, Nat.zero_add, List.set_cons_succ, List.set_cons_zero])) | (refine G.wb ?_; intro bx) | (refine G.wz ?_; intro bx) | refine G.wa (h := ?_) | refine G.seq ?_ | refine G.region ?_ | refine G.nil ?_ | refine G.block ?_ | refine G.skip ?_ | refine G.blk ?_ | refine G.wx ?_ | refine G.wt ?_ | refine G.wf ?_)
    (first | refine G.take rfl ?_ | refine G.take_yes rfl rfl rfl (by first | rfl | assumption) ?_); (first | refine R.callD Try.func17 rfl (by decide) rfl rfl (hins) ?_ | refine R.callD0 Try.func17 rfl (by decide) rfl (hins) ?_); simp only [List.cons_append, List.nil_append]
    repeat (first | refine G.w0 ?_ | refine G.w1 ?_ | refine G.wn ?_ | refine GR.w ?_ | (refine G.ws (h := ?_); try (simp only [Nat.reduceAdd, Nat.zero_add, List.set_cons_succ, List.set_cons_zero])) | (refine G.wb ?_; intro bx) | (refine G.wz ?_; intro bx) | refine G.wa (h := ?_) | refine G.seq ?_ | refine G.region ?_ | refine G.nil ?_ | refine G.block ?_ | refine G.skip ?_ | refine G.blk ?_ | refine G.wx ?_ | refine G.wt ?_ | refine G.wf ?_)
    first | refine G.retK [Table T last rs] rfl Try.func32 rfl Res.nil ?_ | refine G.retK [Table T last rs] rfl Try.func32 rfl (Res.tmp rfl Res.nil) ?_ | refine G.retK [Table T last rs] rfl Try.func32 rfl (Res.tmp rfl (Res.tmp rfl Res.nil)) ?_ | refine G.retK [Table T last rs] rfl Try.func32 rfl (Res.tmp rfl (Res.tmp rfl (Res.tmp rfl Res.nil))) ?_ | refine G.retK [Table T last rs] rfl Try.func32 rfl (Res.cellA rfl rfl rfl Res.nil) ?_ | refine G.retK [Table T last rs] rfl Try.func32 rfl (Res.cellA rfl rfl rfl (Res.tmp rfl Res.nil)) ?_ | refine G.retK [Table T last rs] rfl Try.func32 rfl (Res.cell rfl rfl Res.nil) ?_
    exact ⟨rfl, rfl⟩
  have hb4 : decide ((i : Int) < (r.kids.length : Int)) = true := by simpa using hlt
  have hidx2 : 0 ≤ (i : Int) ∧ (i : Int) < (r.kids.length : Int) := by omega
  have hw : IntKind.i64.wrap ((i : Int) + 1) = (i : Int) + 1 := wrap_id (by omega) (by omega)
  obtain ⟨s, hs, hsp, hser, hser2⟩ := kid_serial ht hr hlt
  have hlast : lastS rs r i < s.serial := by
    unfold lastS
    split at hser
    · rename_i h; rw [if_pos h]; exact hser
    · rename_i h; rw [if_neg h, List.getD_eq_getElem?_getD, List.getElem?_eq_getElem (by omega)]; exact hser
  have hlast2 : lastS rs r (i + 1) = s.serial := by
    unfold lastS
    rw [if_neg (by omega), show i + 1 - 1 = i by omega, List.getD_eq_getElem?_getD, List.getElem?_eq_getElem hlt]; exact hser2
  have hinfo2 := Info_ok T last rs r.kids[i] (fun r hr => ht.ok _ r hr)
  have htree2 := Tree_ok T last rs r.kids[i] ht
  simp only [infoOf, errOf, hs] at hinfo2 htree2
  obtain ⟨hlen, hget⟩ := tree_at ht hr hlt
  have hat2 : atOf rs r (i + 1) = atOf rs r i + (treeF rs r.kids[i]).length := by
    unfold atOf
    rw [List.take_succ_eq_append_getElem hlt, List.flatMap_append]
    simp; omega
  have hatle : atOf rs r i + (treeF rs r.kids[i]).length ≤ (treeF rs e).length := by unfold atOf; omega
  have hb5 : decide (s.parent ≠ e) = false := decide_eq_false (by simp [hsp])
  have hb6 : decide (s.serial ≤ lastS rs r i) = false := decide_eq_false (by omega)
  have hw2 : IntKind.i64.wrap (((atOf rs r i : Nat) : Int) + ((treeF rs r.kids[i]).length : Int)) = ((atOf rs r i : Nat) : Int) + ((treeF rs r.kids[i]).length : Int) := wrap_id (by omega) (by omega)
  have hb7 : decide (((treeF rs e).length : Int) < ((atOf rs r i : Nat) : Int) + ((treeF rs r.kids[i]).length : Int)) = false := decide_eq_false (by omega)
  have hloop' := hloop (i + 1) (by omega) (by omega)
  rw [hlast2, hat2] at hloop'
  refine G.formS (.slice ka r.kids.length kcap) (by omega) ?_
  rintro kb kc2 hkb -
  cases hkb
  have hcell := ints_get' r.kids i hlt
  repeat (first | refine G.w0 ?_ | refine G.w1 ?_ | refine G.wn ?_ | refine GR.w ?_ | (refine G.ws (h := ?_); try (simp only [Nat.reduceAdd, Nat.zero_add, List.set_cons_succ, List.set_cons_zero])) | (refine G.wb ?_; intro bx) | (refine G.wz ?_; intro bx) | refine G.wa (h := ?_) | refine G.seq ?_ | refine G.region ?_ | refine G.nil ?_ | refine G.block ?_ | refine G.skip ?_ | refine G.blk ?_ | refine G.wx ?_ | refine G.wt ?_ | refine G.wf ?_)
  (first | refine G.take rfl ?_ | refine G.take_yes rfl rfl rfl (by first | rfl | assumption) ?_)
  refine GR.ok (Ok.loadS rfl hcell) rfl rfl ?_
  (first | refine G.take rfl ?_ | refine G.take_yes rfl rfl rfl (by first | rfl | assumption) ?_); (first | refine R.callD Try.func12 rfl (by decide) rfl rfl (hinfo2) ?_ | refine R.callD0 Try.func12 rfl (by decide) rfl (hinfo2) ?_); simp only [List.cons_append, List.nil_append]
  repeat (first | refine G.w0 ?_ | refine G.w1 ?_ | refine G.wn ?_ | refine GR.w ?_ | (refine G.ws (h := ?_); try (simp only [Nat.reduceAdd, Nat.zero_add, List.set_cons_succ, List.set_cons_zero])) | (refine G.wb ?_; intro bx) | (refine G.wz ?_; intro bx) | refine G.wa (h := ?_))
  revert bx
  intro yb
  refine G.isC yb (infoCells s) rfl ?_
  repeat (first | refine G.w0 ?_ | refine G.w1 ?_ | refine G.wn ?_ | refine GR.w ?_ | (refine G.ws (h := ?_); try (simp only [Nat.reduceAdd, Nat.zero_add, List.set_cons_succ, List.set_cons_zero])) | (refine G.wb ?_; intro bx) | (refine G.wz ?_; intro bx) | refine G.wa (h := ?_) | refine G.seq ?_ | refine G.region ?_ | refine G.nil ?_ | refine G.block ?_ | refine G.skip ?_ | refine G.blk ?_ | refine G.wx ?_ | refine G.wt ?_ | refine G.wf ?_)
  (first | refine G.take rfl ?_ | refine G.take_yes rfl rfl rfl (by first | rfl | assumption) ?_)
  refine GR.ok (Ok.loadS rfl hcell) rfl rfl ?_
  (first | refine G.take rfl ?_ | refine G.take_yes rfl rfl rfl (by first | rfl | assumption) ?_); (first | refine R.callQ Try.func41 rfl (by decide) rfl rfl (htree2) ?_ | refine R.callQ0 Try.func41 rfl (by decide) rfl (htree2) ?_); (rintro _ _ ⟨vv, rfl, rfl⟩ <;> simp only [List.cons_append, List.nil_append])
  refine G.form vv ?_
  rintro va vcap rfl
  repeat (first | refine G.w0 ?_ | refine G.w1 ?_ | refine G.wn ?_ | refine GR.w ?_ | (refine G.ws (h := ?_); try (simp only [Nat.reduceAdd, Nat.zero_add, List.set_cons_succ, List.set_cons_zero])) | (refine G.wb ?_; intro bx) | (refine G.wz ?_; intro bx) | refine G.wa (h := ?_) | refine G.seq ?_ | refine G.region ?_ | refine G.nil ?_ | refine G.block ?_ | refine G.skip ?_ | refine G.blk ?_ | refine G.wx ?_ | refine G.wt ?_ | refine G.wf ?_)
  refine G.keep [Table T last rs, OwnI (.slice (some ⟨wb, 0, none⟩) (treeF rs e).length wcap) (treeF rs e), OwnI (.slice (some ⟨kb, 0, none⟩) r.kids.length kcap) r.kids, cb xb (infoCells r) 40, OwnI (.slice va (treeF rs r.kids[i]).length vcap) (treeF rs r.kids[i])] ?_
  refine G.loopI (fun j : Nat => [(18, .int .i64 j), (16, .slice va (treeF rs r.kids[i]).length vcap), (13, .int .i64 i), (12, i64 s.serial), (11, .int .i64 (atOf rs r i : Nat)), (9, ptr (some xb)), (7, .slice (some ⟨kb, 0, none⟩) r.kids.length kcap), (5, .slice (some ⟨wb, 0, none⟩) (treeF rs e).length wcap), (1, i64 e), (0, ptr (some T))])
    (fun _ => [Table T last rs, OwnI (.slice (some ⟨wb, 0, none⟩) (treeF rs e).length wcap) (treeF rs e), OwnI (.slice (some ⟨kb, 0, none⟩) r.kids.length kcap) r.kids, cb xb (infoCells r) 40, OwnI (.slice va (treeF rs r.kids[i]).length vcap) (treeF rs r.kids[i])]) (fun j => j ≤ (treeF rs r.kids[i]).length) (fun j => (treeF rs r.kids[i]).length - j) 0 (by omega) (Env.le_cons rfl (Env.le_cons rfl (Env.le_cons rfl (Env.le_cons rfl (Env.le_cons rfl (Env.le_cons rfl (Env.le_cons rfl (Env.le_cons rfl (Env.le_cons rfl (Env.le_cons rfl (Env.le_nil _))))))))))) rfl ?_
  have hv16 := tree_len ht r.kids[i]
  rintro j hj hin
  by_cases hjl : j < (treeF rs r.kids[i]).length
  rotate_left
  · have hb8 : decide ((j : Int) < ((treeF rs r.kids[i]).length : Int)) = false := by simpa using hjl
    clear hin
    repeat (first | refine G.w0 ?_ | refine G.w1 ?_ | refine G.wn ?_ | refine GR.w ?_ | (refine G.ws (h := ?_); try (simp only [Nat.reduceAdd, Nat.zero_add, List.set_cons_succ, List.set_cons_zero])) | (refine G.wb ?_; intro bx) | (refine G.wz ?_; intro bx) | refine G.wa (h := ?_) | refine G.seq ?_ | refine G.region ?_ | refine G.nil ?_ | refine G.block ?_ | refine G.skip ?_ | refine G.blk ?_ | refine G.wx ?_ | refine G.wt ?_ | refine G.wf ?_)
    refine G.keep [cb xb (infoCells r) 40, Table T last rs, OwnI (.slice (some ⟨kb, 0, none⟩) r.kids.length kcap) r.kids, OwnI (.slice (some ⟨wb, 0, none⟩) (treeF rs e).length wcap) (treeF rs e)] ?_
    exact hloop'.forget _ (Env.le_cons rfl (Env.le_cons rfl (Env.le_cons rfl (Env.le_cons rfl (Env.le_cons rfl (Env.le_cons rfl (Env.le_cons rfl (Env.le_cons rfl (Env.le_nil _)))))))))
  have hb8 : decide ((j : Int) < ((treeF rs r.kids[i]).length : Int)) = true := by simpa using hjl
  have hidx3 : 0 ≤ (j : Int) ∧ (j : Int) < ((treeF rs r.kids[i]).length : Int) := by omega
  have hw3 : IntKind.i64.wrap ((j : Int) + 1) = (j : Int) + 1 := wrap_id (by omega) (by omega)
  have hw4 : IntKind.i64.wrap (((atOf rs r i : Nat) : Int) + (j : Int)) = ((atOf rs r i : Nat) : Int) + (j : Int) := wrap_id (by omega) (by omega)
  have hidx4 : 0 ≤ ((atOf rs r i : Nat) : Int) + (j : Int) ∧ ((atOf rs r i : Nat) : Int) + (j : Int) < ((treeF rs e).length : Int) := by omega
  obtain ⟨hl1, hl2, hl3⟩ := kid_inside ht hr (List.getElem_mem hlt) (List.getElem_mem hjl)
  obtain ⟨y, hy⟩ := Option.isSome_iff_exists.1 hl1
  have hin1 := Inside_ok T last rs e (treeF rs r.kids[i])[j] (ht.up16 _)
  rw [hr, hl2] at hin1
  have hin2 := Inside_ok T last rs (treeF rs r.kids[i])[j] e (ht.up16 _)
  rw [hy, hl3] at hin2
  have hc1 := ints_get' (treeF rs r.kids[i]) j hjl
  have hc2 : (ints (treeF rs e))[0 + (((atOf rs r i : Nat) : Int) + (j : Int)).toNat * 1]? = some (i64 (treeF rs r.kids[i])[j]) := by
    have h1 := hget j hjl
    rw [List.getElem?_eq_getElem hjl] at h1
    unfold ints
    rw [List.getElem?_map, show 0 + (((atOf rs r i : Nat) : Int) + (j : Int)).toNat * 1 = 1 + ((r.kids.take i).flatMap (treeF rs)).length + j by unfold atOf; omega, h1]; rfl
  have hb9 : decide ((treeF rs r.kids[i])[j] ≠ (treeF rs r.kids[i])[j]) = false := decide_eq_false (by simp)
  refine G.formS (.slice va (treeF rs r.kids[i]).length vcap) (by omega) ?_
  rintro vb vc2 hvb -
  cases hvb
  repeat (first | refine G.w0 ?_ | refine G.w1 ?_ | refine G.wn ?_ | refine GR.w ?_ | (refine G.ws (h := ?_); try (simp only [Nat.reduceAdd, Nat.zero_add, List.set_cons_succ, List.set_cons_zero])) | (refine G.wb ?_; intro bx) | (refine G.wz ?_; intro bx) | refine G.wa (h := ?_) | refine G.seq ?_ | refine G.region ?_ | refine G.nil ?_ | refine G.block ?_ | refine G.skip ?_ | refine G.blk ?_ | refine G.wx ?_ | refine G.wt ?_ | refine G.wf ?_)
  (repeat refine G.seq ?_); refine G.drawS [(.pur, 0), (.pur, 1), (.pur, 2), (.look, 3), (.pur, 4), (.pur, 5), (.pur, 6), (.pur, 7), (.pur, 8), (.look, 9), (.pur, 10), (.pur, 11), (.pur, 12), (.pur, 13), (.pur, 14), (.pur, 15), (.pur, 16), (.look, 17), (.look, 18), (.pur, 19), (.pur, 20), (.pur, 21), (.pur, 22), (.pur, 23), (.pur, 24), (.pur, 25), (.look, 26), (.pur, 27), (.look, 28), (.pur, 29)] (by kernel_rfl) (by kernel_rfl) rfl ?_
  repeat (first | refine EVS.wq ?_ | refine EVS.wp ?_ | refine EVS.wn ?_ | refine EVS.w0 ?_ | refine EVS.wy ?_ | (refine EVS.ws (h := ?_); try (simp only [Nat.reduceAdd, Nat.zero_add, List.set_cons_succ, List.set_cons_zero])) | refine EVS.wa (h := ?_) | (refine EVS.wb ?_; intro bx) | (refine EVS.wz ?_; intro bx) | refine EVS.wm ?_ | refine EVS.done ?_)
  refine EVS.ok (Ok.loadS rfl hc1) ?_
  repeat (first | refine EVS.wq ?_ | refine EVS.wp ?_ | refine EVS.wn ?_ | refine EVS.w0 ?_ | refine EVS.wy ?_ | (refine EVS.ws (h := ?_); try (simp only [Nat.reduceAdd, Nat.zero_add, List.set_cons_succ, List.set_cons_zero])) | refine EVS.wa (h := ?_) | (refine EVS.wb ?_; intro bx) | (refine EVS.wz ?_; intro bx) | refine EVS.wm ?_ | refine EVS.done ?_)
  refine EVS.ok (Ok.loadS rfl hc2) ?_
  repeat (first | refine EVS.wq ?_ | refine EVS.wp ?_ | refine EVS.wn ?_ | refine EVS.w0 ?_ | refine EVS.wy ?_ | (refine EVS.ws (h := ?_); try (simp only [Nat.reduceAdd, Nat.zero_add, List.set_cons_succ, List.set_cons_zero])) | refine EVS.wa (h := ?_) | (refine EVS.wb ?_; intro bx) | (refine EVS.wz ?_; intro bx) | refine EVS.wm ?_ | refine EVS.done ?_)
  refine EVS.oky rfl rfl hb9 (Ok.loadS rfl hc1) ?_
  refine EVS.oky rfl rfl hb9 (Ok.callD Try.func17 rfl (by decide) rfl (hin1)) ?_
  repeat (first | refine EVS.wq ?_ | refine EVS.wp ?_ | refine EVS.wn ?_ | refine EVS.w0 ?_ | refine EVS.wy ?_ | (refine EVS.ws (h := ?_); try (simp only [Nat.reduceAdd, Nat.zero_add, List.set_cons_succ, List.set_cons_zero])) | refine EVS.wa (h := ?_) | (refine EVS.wb ?_; intro bx) | (refine EVS.wz ?_; intro bx) | refine EVS.wm ?_ | refine EVS.done ?_)
  refine EVS.oky rfl rfl rfl (Ok.loadS rfl hc1) ?_
  repeat (first | refine EVS.wq ?_ | refine EVS.wp ?_ | refine EVS.wn ?_ | refine EVS.w0 ?_ | refine EVS.wy ?_ | (refine EVS.ws (h := ?_); try (simp only [Nat.reduceAdd, Nat.zero_add, List.set_cons_succ, List.set_cons_zero])) | refine EVS.wa (h := ?_) | (refine EVS.wb ?_; intro bx) | (refine EVS.wz ?_; intro bx) | refine EVS.wm ?_ | refine EVS.done ?_)
  refine EVS.oky rfl rfl rfl (Ok.callD Try.func17 rfl (by decide) rfl (hin2)) ?_
  repeat (first | refine EVS.wq ?_ | refine EVS.wp ?_ | refine EVS.wn ?_ | refine EVS.w0 ?_ | refine EVS.wy ?_ | (refine EVS.ws (h := ?_); try (simp only [Nat.reduceAdd, Nat.zero_add, List.set_cons_succ, List.set_cons_zero])) | refine EVS.wa (h := ?_) | (refine EVS.wb ?_; intro bx) | (refine EVS.wz ?_; intro bx) | refine EVS.wm ?_ | refine EVS.done ?_)
  repeat (first | refine G.w0 ?_ | refine G.w1 ?_ | refine G.wn ?_ | refine GR.w ?_ | (refine G.ws (h := ?_); try (simp only [Nat.reduceAdd, Nat.zero_add, List.set_cons_succ, List.set_cons_zero])) | (refine G.wb ?_; intro bx) | (refine G.wz ?_; intro bx) | refine G.wa (h := ?_) | refine G.seq ?_ | refine G.region ?_ | refine G.nil ?_ | refine G.block ?_ | refine G.skip ?_ | refine G.blk ?_ | refine G.wx ?_ | refine G.wt ?_ | refine G.wf ?_)
  exact (hin (j + 1) (by omega) (by omega)).forget _ (Env.le_cons rfl (Env.le_cons rfl (Env.le_cons rfl (Env.le_cons rfl (Env.le_cons rfl (Env.le_cons rfl (Env.le_cons rfl (Env.le_cons rfl (Env.le_cons rfl (Env.le_cons rfl (Env.le_nil _)))))))))))
end Go.Proofs.Ytffcilmllebdmaa
