/- The law EnvLists. -/
import Derived.Test.YtffcilmllebdmaaE31
namespace Go.Proofs.Ytffcilmllebdmaa
open Go.Am
set_option maxHeartbeats 4000000
set_option linter.unusedVariables false
set_option linter.unusedSimpArgs false
attribute [local irreducible] Ok GR G Fun OpRun EVS

theorem allF_len (rs : List (Option Rec)) (kids : List Int) : (allF rs kids).length = 3 + 2 * min 3 kids.length := by
  unfold allF
  rw [List.length_append, askF_len rs kids _ (by omega)]
  simp; omega
def lsN (rs : List (Option Rec)) (kids : List Int) (n : Nat) : List (List Int) := (List.replicate n (allF rs kids)).flatten
theorem lsN_next (rs : List (Option Rec)) (kids : List Int) (n : Nat) : lsN rs kids (n + 1) = lsN rs kids n ++ (askF rs kids (min 3 kids.length) ++ [liveF rs]) := by
  unfold lsN
  rw [List.replicate_succ', List.flatten_append]; simp [allF]
theorem lsN_len (rs : List (Option Rec)) (kids : List Int) (n : Nat) : (lsN rs kids n).length = n * (allF rs kids).length := by
  unfold lsN
  rw [List.length_flatten]; simp

theorem perm_three {ps : List HProp} {k : Nat} (hk : k + 2 < ps.length) : ∃ rest, ps.Perm (ps[0] :: ps[1] :: ps[k + 2] :: rest) := by
  match ps, hk with
  | p0 :: p1 :: ps, hk =>
    simp only [List.length_cons, Nat.add_lt_add_iff_right] at hk
    exact ⟨ps.eraseIdx k, List.Perm.cons _ (List.Perm.cons _ (perm_eraseIdx hk))⟩

section
variable {P : Program} {c : Ctx} {ds : List Nat} {todo : List It} {e : Env} {H R : List HProp} {Q : Post}
/-- Three of the lists are taken out for good. -/
theorem G.llThree (v : Value) (ls : List (List Int)) (i : Nat) (hi : i + 2 < ls.length) [h : SelH H (LL v ls) R]
    (k : ∀ (ob cap : Nat) (vs : List Value) (x y z : Value), v = .slice (some ⟨ob, 0, none⟩) ls.length cap → vs.length = ls.length → vs[0]? = some x → vs[1]? = some y → vs[i + 2]? = some z →
      G P c ds todo e (OwnI x (ls[0]'(by omega)) :: OwnI y (ls[1]'(by omega)) :: OwnI z ls[i + 2] :: OwnS 57 1 (.slice (some ⟨ob, 0, none⟩) ls.length cap) ls.length vs :: R) Q) : G P c ds todo e H Q := by
  refine Am.G.open (LL v ls) rfl ?_
  intro vs hvs
  simp only [List.cons_append, List.nil_append]
  refine Am.G.formS v (by omega) ?_
  rintro ob cap rfl _
  have hlz : (List.zipWith OwnI vs ls).length = ls.length := by simp [hvs]
  obtain ⟨rest, hp⟩ := perm_three (ps := List.zipWith OwnI vs ls) (k := i) (by omega)
  simp only [List.getElem_zipWith] at hp
  refine (k ob cap vs (vs[0]'(by omega)) (vs[1]'(by omega)) (vs[i + 2]'(by omega)) rfl hvs (List.getElem?_eq_getElem (by omega)) (List.getElem?_eq_getElem (by omega)) (List.getElem?_eq_getElem (by omega))).conv fun g w s => ?_
  have s1 : Sat (List.zipWith OwnI vs ls ++ (OwnS 57 1 (.slice (some ⟨ob, 0, none⟩) ls.length cap) ls.length vs :: R)) g w := Sat.sep.1 (s.perm (.swap _ _ _))
  have s2 := s1.perm (hp.append_right _)
  have s3 : Sat ((OwnI (vs[0]'(by omega)) (ls[0]'(by omega)) :: OwnI (vs[1]'(by omega)) (ls[1]'(by omega)) :: OwnI (vs[i + 2]'(by omega)) ls[i + 2] :: OwnS 57 1 (.slice (some ⟨ob, 0, none⟩) ls.length cap) ls.length vs :: R) ++ rest) g w := s2.perm (by
    simp only [List.cons_append]
    refine List.Perm.cons _ (List.Perm.cons _ (List.Perm.cons _ ?_))
    exact List.perm_append_comm.trans (by simp))
  exact s3.drop
end

theorem Ok.neqSame {P : Program} {e : Env} {H : List HProp} {d : Nat} {ty : TypeId} {pos : String} {af : Array Edge} {gu : Option (Nat × Bool)} {T T2 : TypeId} {x y : Operand} {l : List (Nat × Sc)} {n : Nat} {xs : List Value} [ht : TFlat P T l] [ha : TAgg P T n] (hx : ev e x = some (.agg xs.toArray)) (hy : ev e y = some (.agg xs.toArray))
    (h1 : xs.length = n) (t1 : typedB l xs = true) : Ok P e ⟨some d, .binOp .neq T x y T2, ty, pos, af, gu⟩ H (.bool false) := by
  have := Ok.neqA (P := P) (e := e) (H := H) (d := d) (ty := ty) (pos := pos) (af := af) (gu := gu) (T := T) (T2 := T2) hx hy h1 h1 t1 t1
  rw [eqCells_self t1] at this
  exact this

theorem told_plain (rs : List (Option Rec)) : plainCells (toldTo rs 16) = true := by
  unfold toldTo
  refine plain_append (plain_flatMap (fun o => by cases o <;> rfl) _) ?_
  unfold errsTo
  exact plain_append (plain_map (fun o => by cases o <;> rfl) _) rfl

theorem kidsF_len {rs : List (Option Rec)} {last : Int} (t : TreeOk rs last) (e : Int) : (kidsF rs e).length ≤ 16 := by
  unfold kidsF
  cases hr : getr rs e with
  | none => simp
  | some r => exact t.kids16 hr
theorem liveF_len (rs : List (Option Rec)) : (liveF rs).length ≤ 16 := by
  unfold liveF
  rw [List.length_map]
  exact Nat.le_trans (List.length_filter_le _ _) (by simp)
theorem allF_small {rs : List (Option Rec)} {last : Int} (t : TreeOk rs last) (kids : List Int) : ∀ l ∈ allF rs kids, l.length ≤ 16 := by
  intro l hl
  unfold allF askF at hl
  simp only [List.mem_append, List.mem_cons, List.not_mem_nil, or_false, List.mem_flatMap] at hl
  rcases hl with ((rfl | rfl) | ⟨x, _, rfl | rfl⟩) | rfl
  · exact tree_len t 0
  · exact kidsF_len t 0
  · exact tree_len t x
  · exact kidsF_len t x
  · exact liveF_len rs

theorem allF_0 (rs : List (Option Rec)) (kids : List Int) : (allF rs kids)[0]? = some (treeF rs 0) := by simp [allF, askF]
theorem allF_1 (rs : List (Option Rec)) (kids : List Int) : (allF rs kids)[1]? = some (kidsF rs 0) := by simp [allF, askF]
theorem allF_z (rs : List (Option Rec)) (kids : List Int) : (allF rs kids)[(allF rs kids).length - 1]? = some (liveF rs) := by
  unfold allF
  rw [List.length_append, List.getElem?_append_right (by simp)]
  simp

set_option maxRecDepth 100000 in
theorem EnvLists_ok (W : World) (a : Option Addr) (cap : Nat) (ops : List Op) (hs : ScriptAt W a ops) (hlen : ops.length < 9223372036854775808) :
    Fun Try.prog 5 [.slice a ops.length cap] [Old W] (Ret (.bool true) [Old W]) := by
  refine Fun.enter Try.func5 rfl rfl rfl ?_
  repeat (first | refine G.w0 ?_ | refine G.w1 ?_ | refine G.wn ?_ | refine GR.w ?_ | (refine G.ws (h := ?_); try (simp only [Nat.reduceAdd, Nat.zero_add, List.set_cons_succ, List.set_cons_zero])) | (refine G.wb ?_; intro bx) | (refine G.wz ?_; intro bx) | refine G.wa (h := ?_) | refine G.seq ?_ | refine G.region ?_ | refine G.nil ?_ | refine G.block ?_ | refine G.skip ?_ | refine G.blk ?_ | refine G.wx ?_ | refine G.wt ?_ | refine G.wf ?_)
  (first | refine G.take rfl ?_ | refine G.take_yes rfl rfl rfl (by first | rfl | assumption) ?_); (first | refine R.callQ Try.func8 rfl (by decide) rfl rfl (first_ok) ?_ | refine R.callQ0 Try.func8 rfl (by decide) rfl (first_ok) ?_); (rintro _ _ ⟨T, B, rfl, rfl⟩ <;> simp only [List.cons_append, List.nil_append])
  repeat (first | refine G.w0 ?_ | refine G.w1 ?_ | refine G.wn ?_ | refine GR.w ?_ | (refine G.ws (h := ?_); try (simp only [Nat.reduceAdd, Nat.zero_add, List.set_cons_succ, List.set_cons_zero])) | (refine G.wb ?_; intro bx) | (refine G.wz ?_; intro bx) | refine G.wa (h := ?_) | refine G.seq ?_ | refine G.region ?_ | refine G.nil ?_ | refine G.block ?_ | refine G.skip ?_ | refine G.blk ?_ | refine G.wx ?_ | refine G.wt ?_ | refine G.wf ?_)
  rw [← lives_B]
  refine G.loopI (α := Nat × List (Option Rec) × Int) (fun x => [(5, .int .i64 x.1), (4, ptr (some B)), (3, ptr (some T)), (0, .slice a ops.length cap)])
    (fun x => [Table T x.2.2 x.2.1, Book B (livesOf x.2.1) x.2.2, Old W]) (fun x => x.1 ≤ ops.length ∧ TreeOk x.2.1 x.2.2) (fun x => ops.length - x.1) (0, rsB, 3) ⟨by omega, tree_B⟩ (Env.le_cons rfl (Env.le_cons rfl (Env.le_cons rfl (Env.le_cons rfl (Env.le_nil _))))) rfl ?_
  rintro ⟨i, rs, last⟩ ⟨hi, ht⟩ hloop
  dsimp only at hi ht hloop ⊢
  by_cases hlt : i < ops.length
  · have hb1 : decide ((i : Int) < (ops.length : Int)) = true := by simpa using hlt
    have hidx : 0 ≤ (i : Int) ∧ (i : Int) < (ops.length : Int) := by omega
    have hw : IntKind.i64.wrap ((i : Int) + 1) = (i : Int) + 1 := wrap_id (by omega) (by omega)
    obtain ⟨ad, rfl, hcells⟩ := hs i hlt
    have hcells' : CellsAt W (ad.add ((i : Int).toNat * 18)) (opCells ops[i]) := by rw [Int.toNat_natCast]; exact hcells
    repeat (first | refine G.w0 ?_ | refine G.w1 ?_ | refine G.wn ?_ | refine GR.w ?_ | (refine G.ws (h := ?_); try (simp only [Nat.reduceAdd, Nat.zero_add, List.set_cons_succ, List.set_cons_zero])) | (refine G.wb ?_; intro bx) | (refine G.wz ?_; intro bx) | refine G.wa (h := ?_) | refine G.seq ?_ | refine G.region ?_ | refine G.nil ?_ | refine G.block ?_ | refine G.skip ?_ | refine G.blk ?_ | refine G.wx ?_ | refine G.wt ?_ | refine G.wf ?_)
    (first | refine G.take rfl ?_ | refine G.take_yes rfl rfl rfl (by first | rfl | assumption) ?_)
    refine GR.ok (Ok.indexOld rfl rfl hidx) rfl rfl ?_
    repeat (first | refine G.w0 ?_ | refine G.w1 ?_ | refine G.wn ?_ | refine GR.w ?_ | (refine G.ws (h := ?_); try (simp only [Nat.reduceAdd, Nat.zero_add, List.set_cons_succ, List.set_cons_zero])) | (refine G.wb ?_; intro bx) | (refine G.wz ?_; intro bx) | refine G.wa (h := ?_) | refine G.seq ?_ | refine G.region ?_ | refine G.nil ?_ | refine G.block ?_ | refine G.skip ?_ | refine G.blk ?_ | refine G.wx ?_ | refine G.wt ?_ | refine G.wf ?_)
    (first | refine G.take rfl ?_ | refine G.take_yes rfl rfl rfl (by first | rfl | assumption) ?_)
    refine GR.ok (Ok.loadOldA W rfl hcells' rfl) rfl rfl ?_
    (first | refine G.take rfl ?_ | refine G.take_yes rfl rfl rfl (by first | rfl | assumption) ?_); (first | refine R.callD Try.func11 rfl (by decide) rfl rfl (noted_ok T B last rs ops[i] ht) ?_ | refine R.callD0 Try.func11 rfl (by decide) rfl (noted_ok T B last rs ops[i] ht) ?_); simp only [List.cons_append, List.nil_append]
    repeat (first | refine G.w0 ?_ | refine G.w1 ?_ | refine G.wn ?_ | refine GR.w ?_ | (refine G.ws (h := ?_); try (simp only [Nat.reduceAdd, Nat.zero_add, List.set_cons_succ, List.set_cons_zero])) | (refine G.wb ?_; intro bx) | (refine G.wz ?_; intro bx) | refine G.wa (h := ?_) | refine G.seq ?_ | refine G.region ?_ | refine G.nil ?_ | refine G.block ?_ | refine G.skip ?_ | refine G.blk ?_ | refine G.wx ?_ | refine G.wt ?_ | refine G.wf ?_)
    exact (hloop (i + 1, (stepF rs last ops[i]).1, (stepF rs last ops[i]).2) ⟨by dsimp only; omega, ht.step _⟩ (by dsimp only; omega)).forget _ (Env.le_cons rfl (Env.le_cons rfl (Env.le_cons rfl (Env.le_cons rfl (Env.le_nil _)))))
  have hb1 : decide ((i : Int) < (ops.length : Int)) = false := by simpa using hlt
  clear hloop
  obtain ⟨r0, hr0, hr0p⟩ := ht.root
  have hk16 := ht.kids16 hr0
  have hkids := Children_ok T last rs 0 ht
  have hkf : kidsF rs 0 = r0.kids := by simp only [kidsF, hr0]
  rw [hkf] at hkids
  have hal := allF_len rs r0.kids
  repeat (first | refine G.w0 ?_ | refine G.w1 ?_ | refine G.wn ?_ | refine GR.w ?_ | (refine G.ws (h := ?_); try (simp only [Nat.reduceAdd, Nat.zero_add, List.set_cons_succ, List.set_cons_zero])) | (refine G.wb ?_; intro bx) | (refine G.wz ?_; intro bx) | refine G.wa (h := ?_) | refine G.seq ?_ | refine G.region ?_ | refine G.nil ?_ | refine G.block ?_ | refine G.skip ?_ | refine G.blk ?_ | refine G.wx ?_ | refine G.wt ?_ | refine G.wf ?_)
  (first | refine G.take rfl ?_ | refine G.take_yes rfl rfl rfl (by first | rfl | assumption) ?_); (first | refine R.callQ Try.func25 rfl (by decide) rfl rfl (hkids) ?_ | refine R.callQ0 Try.func25 rfl (by decide) rfl (hkids) ?_); (rintro _ _ ⟨kv0, rfl, rfl⟩ <;> simp only [List.cons_append, List.nil_append])
  repeat (first | refine G.w0 ?_ | refine G.w1 ?_ | refine G.wn ?_ | refine GR.w ?_ | (refine G.ws (h := ?_); try (simp only [Nat.reduceAdd, Nat.zero_add, List.set_cons_succ, List.set_cons_zero])) | (refine G.wb ?_; intro bx) | (refine G.wz ?_; intro bx) | refine G.wa (h := ?_) | refine G.seq ?_ | refine G.region ?_ | refine G.nil ?_ | refine G.block ?_ | refine G.skip ?_ | refine G.blk ?_ | refine G.wx ?_ | refine G.wt ?_ | refine G.wf ?_)
  (first | refine G.take rfl ?_ | refine G.take_yes rfl rfl rfl (by first | rfl | assumption) ?_); (first | refine R.callQ Try.func26 rfl (by decide) rfl rfl (copied_ok kv0 r0.kids (by omega)) ?_ | refine R.callQ0 Try.func26 rfl (by decide) rfl (copied_ok kv0 r0.kids (by omega)) ?_); (rintro _ _ rfl <;> simp only [List.cons_append, List.nil_append])
  rename_i kv
  refine G.form kv ?_
  rintro ka kc rfl
  refine G.ll0 ?_
  repeat (first | refine G.w0 ?_ | refine G.w1 ?_ | refine G.wn ?_ | refine GR.w ?_ | (refine G.ws (h := ?_); try (simp only [Nat.reduceAdd, Nat.zero_add, List.set_cons_succ, List.set_cons_zero])) | (refine G.wb ?_; intro bx) | (refine G.wz ?_; intro bx) | refine G.wa (h := ?_) | refine G.seq ?_ | refine G.region ?_ | refine G.nil ?_ | refine G.block ?_ | refine G.skip ?_ | refine G.blk ?_ | refine G.wx ?_ | refine G.wt ?_ | refine G.wf ?_)
  refine G.keep [Table T last rs, LL (.slice none 0 0) [], OwnI (.slice ka r0.kids.length kc) r0.kids, Old W] ?_
  refine G.loopI (α := Nat × Option Addr × Nat) (fun x => [(9, .int .i64 x.1), (8, .slice x.2.1 (lsN rs r0.kids x.1).length x.2.2), (6, .slice ka r0.kids.length kc), (3, ptr (some T))])
    (fun x => [Table T last rs, LL (.slice x.2.1 (lsN rs r0.kids x.1).length x.2.2) (lsN rs r0.kids x.1), OwnI (.slice ka r0.kids.length kc) r0.kids, Old W]) (fun x => x.1 ≤ 2) (fun x => 2 - x.1) (0, none, 0) (by dsimp only; omega) (Env.le_cons rfl (Env.le_cons rfl (Env.le_cons rfl (Env.le_cons rfl (Env.le_nil _))))) rfl ?_
  rintro ⟨n, la, lc⟩ hn hloop
  dsimp only at hn hloop ⊢
  have hln := lsN_len rs r0.kids n
  by_cases hn2 : n < 2
  · have hb2 : decide ((n : Int) < 2) = true := decide_eq_true (by omega)
    have hw : IntKind.i64.wrap ((n : Int) + 1) = (n : Int) + 1 := wrap_id (by omega) (by omega)
    have hnm : n * (allF rs r0.kids).length ≤ 1 * 9 := Nat.mul_le_mul (by omega) (by omega)
    repeat (first | refine G.w0 ?_ | refine G.w1 ?_ | refine G.wn ?_ | refine GR.w ?_ | (refine G.ws (h := ?_); try (simp only [Nat.reduceAdd, Nat.zero_add, List.set_cons_succ, List.set_cons_zero])) | (refine G.wb ?_; intro bx) | (refine G.wz ?_; intro bx) | refine G.wa (h := ?_) | refine G.seq ?_ | refine G.region ?_ | refine G.nil ?_ | refine G.block ?_ | refine G.skip ?_ | refine G.blk ?_ | refine G.wx ?_ | refine G.wt ?_ | refine G.wf ?_)
    (first | refine G.take rfl ?_ | refine G.take_yes rfl rfl rfl (by first | rfl | assumption) ?_); (first | refine R.callQ Try.func27 rfl (by decide) rfl rfl (asked_ok T last rs 0 (.slice la (lsN rs r0.kids n).length lc) (lsN rs r0.kids n) (by omega) ht) ?_ | refine R.callQ0 Try.func27 rfl (by decide) rfl (asked_ok T last rs 0 (.slice la (lsN rs r0.kids n).length lc) (lsN rs r0.kids n) (by omega) ht) ?_); (rintro _ _ rfl <;> simp only [List.cons_append, List.nil_append])
    rename_i lv
    refine G.llForm lv (lsN rs r0.kids n ++ [treeF rs 0, kidsF rs 0]) ?_
    rintro la1 lc1 rfl
    repeat (first | refine G.w0 ?_ | refine G.w1 ?_ | refine G.wn ?_ | refine GR.w ?_ | (refine G.ws (h := ?_); try (simp only [Nat.reduceAdd, Nat.zero_add, List.set_cons_succ, List.set_cons_zero])) | (refine G.wb ?_; intro bx) | (refine G.wz ?_; intro bx) | refine G.wa (h := ?_) | refine G.seq ?_ | refine G.region ?_ | refine G.nil ?_ | refine G.block ?_ | refine G.skip ?_ | refine G.blk ?_ | refine G.wx ?_ | refine G.wt ?_ | refine G.wf ?_)
    refine G.loopI (α := Nat × Option Addr × Nat) (fun x => [(10, .int .i64 x.1), (9, .int .i64 n), (8, .slice x.2.1 (lsN rs r0.kids n ++ askF rs r0.kids x.1).length x.2.2), (6, .slice ka r0.kids.length kc), (3, ptr (some T))])
      (fun x => [Table T last rs, LL (.slice x.2.1 (lsN rs r0.kids n ++ askF rs r0.kids x.1).length x.2.2) (lsN rs r0.kids n ++ askF rs r0.kids x.1), OwnI (.slice ka r0.kids.length kc) r0.kids, Old W]) (fun x => x.1 ≤ min 3 r0.kids.length) (fun x => min 3 r0.kids.length - x.1) (0, la1, lc1) (by dsimp only; omega) (Env.le_cons rfl (Env.le_cons rfl (Env.le_cons rfl (Env.le_cons rfl (Env.le_cons rfl (Env.le_nil _)))))) rfl ?_
    rintro ⟨k, la2, lc2⟩ hk hin
    dsimp only at hk hin ⊢
    have hak := askF_len rs r0.kids k (by omega)
    by_cases hk3 : k < min 3 r0.kids.length
    · have hb3 : decide ((k : Int) < (r0.kids.length : Int)) = true := decide_eq_true (by omega)
      have hb4 : decide ((k : Int) < 3) = true := decide_eq_true (by omega)
      have hw2 : IntKind.i64.wrap ((k : Int) + 1) = (k : Int) + 1 := wrap_id (by omega) (by omega)
      have hidx : 0 ≤ (k : Int) ∧ (k : Int) < (r0.kids.length : Int) := by omega
      have hin' := fun la3 lc3 => hin (k + 1, la3, lc3) (by dsimp only; omega) (by dsimp only; omega)
      dsimp only at hin'
      rw [askF_next rs r0.kids k (by omega), ← List.append_assoc] at hin'
      refine G.formS (.slice ka r0.kids.length kc) (by omega) ?_
      rintro kb kc' hkb -
      cases hkb
      repeat (first | refine G.w0 ?_ | refine G.w1 ?_ | refine G.wn ?_ | refine GR.w ?_ | (refine G.ws (h := ?_); try (simp only [Nat.reduceAdd, Nat.zero_add, List.set_cons_succ, List.set_cons_zero])) | (refine G.wb ?_; intro bx) | (refine G.wz ?_; intro bx) | refine G.wa (h := ?_) | refine G.seq ?_ | refine G.region ?_ | refine G.nil ?_ | refine G.block ?_ | refine G.skip ?_ | refine G.blk ?_ | refine G.wx ?_ | refine G.wt ?_ | refine G.wf ?_)
      (first | refine G.take rfl ?_ | refine G.take_yes rfl rfl rfl (by first | rfl | assumption) ?_)
      refine GR.ok (Ok.loadS rfl (ints_get' r0.kids k (by omega))) rfl rfl ?_
      (first | refine G.take rfl ?_ | refine G.take_yes rfl rfl rfl (by first | rfl | assumption) ?_); (first | refine R.callQ Try.func27 rfl (by decide) rfl rfl (asked_ok T last rs (r0.kids[k]'(by omega)) (.slice la2 (lsN rs r0.kids n ++ askF rs r0.kids k).length lc2) (lsN rs r0.kids n ++ askF rs r0.kids k) (by simp; omega) ht) ?_ | refine R.callQ0 Try.func27 rfl (by decide) rfl (asked_ok T last rs (r0.kids[k]'(by omega)) (.slice la2 (lsN rs r0.kids n ++ askF rs r0.kids k).length lc2) (lsN rs r0.kids n ++ askF rs r0.kids k) (by simp; omega) ht) ?_); (rintro _ _ rfl <;> simp only [List.cons_append, List.nil_append])
      rename_i lv3
      refine G.llForm lv3 (lsN rs r0.kids n ++ askF rs r0.kids k ++ [treeF rs (r0.kids[k]'(by omega)), kidsF rs (r0.kids[k]'(by omega))]) ?_
      rintro la3 lc3 rfl
      repeat (first | refine G.w0 ?_ | refine G.w1 ?_ | refine G.wn ?_ | refine GR.w ?_ | (refine G.ws (h := ?_); try (simp only [Nat.reduceAdd, Nat.zero_add, List.set_cons_succ, List.set_cons_zero])) | (refine G.wb ?_; intro bx) | (refine G.wz ?_; intro bx) | refine G.wa (h := ?_) | refine G.seq ?_ | refine G.region ?_ | refine G.nil ?_ | refine G.block ?_ | refine G.skip ?_ | refine G.blk ?_ | refine G.wx ?_ | refine G.wt ?_ | refine G.wf ?_)
      refine G.keep [Table T last rs, LL (.slice la3 (lsN rs r0.kids n ++ askF rs r0.kids k ++ [treeF rs (r0.kids[k]'(by omega)), kidsF rs (r0.kids[k]'(by omega))]).length lc3) (lsN rs r0.kids n ++ askF rs r0.kids k ++ [treeF rs (r0.kids[k]'(by omega)), kidsF rs (r0.kids[k]'(by omega))]), OwnI (.slice (some ⟨kb, 0, none⟩) r0.kids.length kc) r0.kids, Old W] ?_
      exact (hin' la3 lc3).forget _ (Env.le_cons rfl (Env.le_cons rfl (Env.le_cons rfl (Env.le_cons rfl (Env.le_cons rfl (Env.le_nil _))))))
    · have hke : k = min 3 r0.kids.length := by omega
      subst hke
      by_cases hk4 : min 3 r0.kids.length < r0.kids.length
      · have hb3 : decide (((min 3 r0.kids.length : Nat) : Int) < (r0.kids.length : Int)) = true := decide_eq_true (by omega)
        have hb4 : decide (((min 3 r0.kids.length : Nat) : Int) < 3) = false := decide_eq_false (by omega)
        repeat (first | refine G.w0 ?_ | refine G.w1 ?_ | refine G.wn ?_ | refine GR.w ?_ | (refine G.ws (h := ?_); try (simp only [Nat.reduceAdd, Nat.zero_add, List.set_cons_succ, List.set_cons_zero])) | (refine G.wb ?_; intro bx) | (refine G.wz ?_; intro bx) | refine G.wa (h := ?_) | refine G.seq ?_ | refine G.region ?_ | refine G.nil ?_ | refine G.block ?_ | refine G.skip ?_ | refine G.blk ?_ | refine G.wx ?_ | refine G.wt ?_ | refine G.wf ?_)
        (first | refine G.take rfl ?_ | refine G.take_yes rfl rfl rfl (by first | rfl | assumption) ?_); (first | refine R.callQ Try.func23 rfl (by decide) rfl rfl (Live_ok T last rs) ?_ | refine R.callQ0 Try.func23 rfl (by decide) rfl (Live_ok T last rs) ?_); (rintro _ _ ⟨ps, va, vc, hal2, rfl, rfl⟩ <;> simp only [List.cons_append, List.nil_append])
        rw [liveF_eq hal2]
        refine G.open (LL (.slice la2 (lsN rs r0.kids n ++ askF rs r0.kids (min 3 r0.kids.length)).length lc2) (lsN rs r0.kids n ++ askF rs r0.kids (min 3 r0.kids.length))) rfl ?_
        intro vs hvs
        simp only [List.cons_append, List.nil_append]
        (first | refine G.take rfl ?_ | refine G.take_yes rfl rfl rfl (by first | rfl | assumption) ?_)
        refine R.bs1 rfl rfl rfl rfl fun nb => ?_
        (first | refine G.take rfl ?_ | refine G.take_yes rfl rfl rfl (by first | rfl | assumption) ?_)
        refine R.append (n := 1) (bytes := 24) (z := .slice none 0 0) (cs := vs) (news := [.slice va (liveF rs).length vc]) rfl rfl (by rfl) (by exact Nat.le_refl _) rfl rfl (by simp only [List.length_append]; omega) (by simp only [List.length_append]; omega) (by decide) rfl fun a' cap' => ?_
        refine G.llSnoc (.slice la2 (lsN rs r0.kids n ++ askF rs r0.kids (min 3 r0.kids.length)).length lc2) (.slice va (liveF rs).length vc) (.slice a' ((lsN rs r0.kids n ++ askF rs r0.kids (min 3 r0.kids.length)).length + 1) cap') (lsN rs r0.kids n ++ askF rs r0.kids (min 3 r0.kids.length)) (liveF rs) vs hvs ?_
        have e1 : lsN rs r0.kids n ++ askF rs r0.kids (min 3 r0.kids.length) ++ [liveF rs] = lsN rs r0.kids (n + 1) := by rw [lsN_next, List.append_assoc]
        have e2 : (lsN rs r0.kids n ++ askF rs r0.kids (min 3 r0.kids.length)).length + 1 = (lsN rs r0.kids (n + 1)).length := by rw [← e1]; simp only [List.length_append, List.length_cons, List.length_nil]
        rw [e1, e2]
        repeat (first | refine G.w0 ?_ | refine G.w1 ?_ | refine G.wn ?_ | refine GR.w ?_ | (refine G.ws (h := ?_); try (simp only [Nat.reduceAdd, Nat.zero_add, List.set_cons_succ, List.set_cons_zero])) | (refine G.wb ?_; intro bx) | (refine G.wz ?_; intro bx) | refine G.wa (h := ?_) | refine G.seq ?_ | refine G.region ?_ | refine G.nil ?_ | refine G.block ?_ | refine G.skip ?_ | refine G.blk ?_ | refine G.wx ?_ | refine G.wt ?_ | refine G.wf ?_)
        refine G.keep [Table T last rs, LL (.slice a' (lsN rs r0.kids (n + 1)).length cap') (lsN rs r0.kids (n + 1)), OwnI (.slice ka r0.kids.length kc) r0.kids, Old W] ?_
        exact (hloop (n + 1, a', cap') (by dsimp only; omega) (by dsimp only; omega)).forget _ (Env.le_cons rfl (Env.le_cons rfl (Env.le_cons rfl (Env.le_cons rfl (Env.le_nil _)))))
      · have hb3 : decide (((min 3 r0.kids.length : Nat) : Int) < (r0.kids.length : Int)) = false := decide_eq_false (by omega)
        repeat (first | refine G.w0 ?_ | refine G.w1 ?_ | refine G.wn ?_ | refine GR.w ?_ | (refine G.ws (h := ?_); try (simp only [Nat.reduceAdd, Nat.zero_add, List.set_cons_succ, List.set_cons_zero])) | (refine G.wb ?_; intro bx) | (refine G.wz ?_; intro bx) | refine G.wa (h := ?_) | refine G.seq ?_ | refine G.region ?_ | refine G.nil ?_ | refine G.block ?_ | refine G.skip ?_ | refine G.blk ?_ | refine G.wx ?_ | refine G.wt ?_ | refine G.wf ?_)
        (first | refine G.take rfl ?_ | refine G.take_yes rfl rfl rfl (by first | rfl | assumption) ?_); (first | refine R.callQ Try.func23 rfl (by decide) rfl rfl (Live_ok T last rs) ?_ | refine R.callQ0 Try.func23 rfl (by decide) rfl (Live_ok T last rs) ?_); (rintro _ _ ⟨ps, va, vc, hal2, rfl, rfl⟩ <;> simp only [List.cons_append, List.nil_append])
        rw [liveF_eq hal2]
        refine G.open (LL (.slice la2 (lsN rs r0.kids n ++ askF rs r0.kids (min 3 r0.kids.length)).length lc2) (lsN rs r0.kids n ++ askF rs r0.kids (min 3 r0.kids.length))) rfl ?_
        intro vs hvs
        simp only [List.cons_append, List.nil_append]
        (first | refine G.take rfl ?_ | refine G.take_yes rfl rfl rfl (by first | rfl | assumption) ?_)
        refine R.bs1 rfl rfl rfl rfl fun nb => ?_
        (first | refine G.take rfl ?_ | refine G.take_yes rfl rfl rfl (by first | rfl | assumption) ?_)
        refine R.append (n := 1) (bytes := 24) (z := .slice none 0 0) (cs := vs) (news := [.slice va (liveF rs).length vc]) rfl rfl (by rfl) (by exact Nat.le_refl _) rfl rfl (by simp only [List.length_append]; omega) (by simp only [List.length_append]; omega) (by decide) rfl fun a' cap' => ?_
        refine G.llSnoc (.slice la2 (lsN rs r0.kids n ++ askF rs r0.kids (min 3 r0.kids.length)).length lc2) (.slice va (liveF rs).length vc) (.slice a' ((lsN rs r0.kids n ++ askF rs r0.kids (min 3 r0.kids.length)).length + 1) cap') (lsN rs r0.kids n ++ askF rs r0.kids (min 3 r0.kids.length)) (liveF rs) vs hvs ?_
        have e1 : lsN rs r0.kids n ++ askF rs r0.kids (min 3 r0.kids.length) ++ [liveF rs] = lsN rs r0.kids (n + 1) := by rw [lsN_next, List.append_assoc]
        have e2 : (lsN rs r0.kids n ++ askF rs r0.kids (min 3 r0.kids.length)).length + 1 = (lsN rs r0.kids (n + 1)).length := by rw [← e1]; simp only [List.length_append, List.length_cons, List.length_nil]
        rw [e1, e2]
        repeat (first | refine G.w0 ?_ | refine G.w1 ?_ | refine G.wn ?_ | refine GR.w ?_ | (refine G.ws (h := ?_); try (simp only [Nat.reduceAdd, Nat.zero_add, List.set_cons_succ, List.set_cons_zero])) | (refine G.wb ?_; intro bx) | (refine G.wz ?_; intro bx) | refine G.wa (h := ?_) | refine G.seq ?_ | refine G.region ?_ | refine G.nil ?_ | refine G.block ?_ | refine G.skip ?_ | refine G.blk ?_ | refine G.wx ?_ | refine G.wt ?_ | refine G.wf ?_)
        refine G.keep [Table T last rs, LL (.slice a' (lsN rs r0.kids (n + 1)).length cap') (lsN rs r0.kids (n + 1)), OwnI (.slice ka r0.kids.length kc) r0.kids, Old W] ?_
        exact (hloop (n + 1, a', cap') (by dsimp only; omega) (by dsimp only; omega)).forget _ (Env.le_cons rfl (Env.le_cons rfl (Env.le_cons rfl (Env.le_cons rfl (Env.le_nil _)))))
  have hb2 : decide ((n : Int) < 2) = false := decide_eq_false (by omega)
  have hn2 : n = 2 := by omega
  subst hn2
  clear hloop
  repeat (first | refine G.w0 ?_ | refine G.w1 ?_ | refine G.wn ?_ | refine GR.w ?_ | (refine G.ws (h := ?_); try (simp only [Nat.reduceAdd, Nat.zero_add, List.set_cons_succ, List.set_cons_zero])) | (refine G.wb ?_; intro bx) | (refine G.wz ?_; intro bx) | refine G.wa (h := ?_) | refine G.seq ?_ | refine G.region ?_ | refine G.nil ?_ | refine G.block ?_ | refine G.skip ?_ | refine G.blk ?_ | refine G.wx ?_ | refine G.wt ?_ | refine G.wf ?_)
  have hl2 : lsN rs r0.kids 2 = allF rs r0.kids ++ allF rs r0.kids := by simp [lsN, List.replicate]
  rw [hl2] at hln ⊢
  have hsm := allF_small ht r0.kids
  have g0 := allF_0 rs r0.kids
  have g1 := allF_1 rs r0.kids
  have gz := allF_z rs r0.kids
  generalize hA : allF rs r0.kids = A at hal hln hl2 hsm g0 g1 gz ⊢
  have hsm2 : ∀ (i : Nat) (h : i < (A ++ A).length), (A ++ A)[i].length ≤ 16 := fun i h => hsm _ (by
    rcases List.mem_append.1 (List.getElem_mem h) with h | h <;> exact h)
  have hdiv : IntKind.i64.wrap ((((A ++ A).length : Nat) : Int).tdiv 2) = ((A.length : Nat) : Int) := by
    rw [List.length_append, show (((A.length + A.length : Nat)) : Int) = (A.length : Int) * 2 by omega, Int.mul_tdiv_cancel _ (by decide)]
    exact wrap_id (by omega) (by omega)
  (first | refine G.take rfl ?_ | refine G.take_yes rfl rfl rfl (by first | rfl | assumption) ?_)
  refine GR.ok (Ok.quo rfl rfl (by decide)) rfl rfl ?_
  rw [hdiv]
  refine G.ll0 ?_
  repeat (first | refine G.w0 ?_ | refine G.w1 ?_ | refine G.wn ?_ | refine GR.w ?_ | (refine G.ws (h := ?_); try (simp only [Nat.reduceAdd, Nat.zero_add, List.set_cons_succ, List.set_cons_zero])) | (refine G.wb ?_; intro bx) | (refine G.wz ?_; intro bx) | refine G.wa (h := ?_) | refine G.seq ?_ | refine G.region ?_ | refine G.nil ?_ | refine G.block ?_ | refine G.skip ?_ | refine G.blk ?_ | refine G.wx ?_ | refine G.wt ?_ | refine G.wf ?_)
  refine G.loopI (α := Nat × Option Addr × Nat) (fun x => [(13, .int .i64 x.1), (12, .slice x.2.1 ((A ++ A).take x.1).length x.2.2), (11, .int .i64 (A.length : Nat)), (8, .slice la (A ++ A).length lc), (6, .slice ka r0.kids.length kc), (3, ptr (some T))])
    (fun x => [LL (.slice x.2.1 ((A ++ A).take x.1).length x.2.2) ((A ++ A).take x.1), Table T last rs, LL (.slice la (A ++ A).length lc) (A ++ A), OwnI (.slice ka r0.kids.length kc) r0.kids, Old W]) (fun x => x.1 ≤ (A ++ A).length) (fun x => (A ++ A).length - x.1) (0, none, 0) (by dsimp only; omega) (Env.le_cons rfl (Env.le_cons rfl (Env.le_cons rfl (Env.le_cons rfl (Env.le_cons rfl (Env.le_cons rfl (Env.le_nil _))))))) rfl ?_
  rintro ⟨m, wa, wc⟩ hm hloop
  dsimp only at hm hloop ⊢
  have hAA : (A ++ A).length = A.length + A.length := List.length_append
  have htl : ((A ++ A).take m).length = m := by rw [List.length_take]; omega
  by_cases hml : m < (A ++ A).length
  · have hb3 : decide ((m : Int) < ((A ++ A).length : Int)) = true := decide_eq_true (by omega)
    have hw : IntKind.i64.wrap ((m : Int) + 1) = (m : Int) + 1 := wrap_id (by omega) (by omega)
    have hidx : 0 ≤ (m : Int) ∧ (m : Int) < ((A ++ A).length : Int) := by omega
    have hsmall : (A ++ A)[m].length ≤ 100000 := by have := hsm2 m hml; omega
    refine G.llOut (.slice la (A ++ A).length lc) (A ++ A) m hml ?_
    intro ob lcap vs x hv hvs hx
    cases hv
    have hx' : vs[0 + (m : Int).toNat * 1]? = some x := by rw [show 0 + (m : Int).toNat * 1 = m by simp]; exact hx
    repeat (first | refine G.w0 ?_ | refine G.w1 ?_ | refine G.wn ?_ | refine GR.w ?_ | (refine G.ws (h := ?_); try (simp only [Nat.reduceAdd, Nat.zero_add, List.set_cons_succ, List.set_cons_zero])) | (refine G.wb ?_; intro bx) | (refine G.wz ?_; intro bx) | refine G.wa (h := ?_) | refine G.seq ?_ | refine G.region ?_ | refine G.nil ?_ | refine G.block ?_ | refine G.skip ?_ | refine G.blk ?_ | refine G.wx ?_ | refine G.wt ?_ | refine G.wf ?_)
    (first | refine G.take rfl ?_ | refine G.take_yes rfl rfl rfl (by first | rfl | assumption) ?_)
    refine GR.ok (Ok.loadS rfl hx') rfl rfl ?_
    (first | refine G.take rfl ?_ | refine G.take_yes rfl rfl rfl (by first | rfl | assumption) ?_); (first | refine R.callQ Try.func26 rfl (by decide) rfl rfl (copied_ok x (A ++ A)[m] hsmall) ?_ | refine R.callQ0 Try.func26 rfl (by decide) rfl (copied_ok x (A ++ A)[m] hsmall) ?_); (rintro _ _ rfl <;> simp only [List.cons_append, List.nil_append])
    rename_i y
    refine G.llBack (ob := ob) (cap := lc) m hml x (A ++ A)[m] rfl hvs hx ?_
    refine G.form y ?_
    rintro ya yc rfl
    refine G.open (LL (.slice wa ((A ++ A).take m).length wc) ((A ++ A).take m)) rfl ?_
    intro vs2 hvs2
    simp only [List.cons_append, List.nil_append]
    (first | refine G.take rfl ?_ | refine G.take_yes rfl rfl rfl (by first | rfl | assumption) ?_)
    refine R.bs1 rfl rfl rfl rfl fun nb => ?_
    (first | refine G.take rfl ?_ | refine G.take_yes rfl rfl rfl (by first | rfl | assumption) ?_)
    refine R.append (n := 1) (bytes := 24) (z := .slice none 0 0) (cs := vs2) (news := [.slice ya (A ++ A)[m].length yc]) rfl rfl (by rfl) (by exact Nat.le_refl _) rfl rfl (by omega) (by omega) (by decide) rfl fun a' cap' => ?_
    refine G.llSnoc (.slice wa ((A ++ A).take m).length wc) (.slice ya (A ++ A)[m].length yc) (.slice a' (((A ++ A).take m).length + 1) cap') ((A ++ A).take m) (A ++ A)[m] vs2 hvs2 ?_
    have e1 : (A ++ A).take m ++ [(A ++ A)[m]] = (A ++ A).take (m + 1) := by rw [List.take_succ_eq_append_getElem hml]
    have e2 : ((A ++ A).take m).length + 1 = ((A ++ A).take (m + 1)).length := by rw [← e1]; simp only [List.length_append, List.length_cons, List.length_nil]
    rw [e1, e2]
    repeat (first | refine G.w0 ?_ | refine G.w1 ?_ | refine G.wn ?_ | refine GR.w ?_ | (refine G.ws (h := ?_); try (simp only [Nat.reduceAdd, Nat.zero_add, List.set_cons_succ, List.set_cons_zero])) | (refine G.wb ?_; intro bx) | (refine G.wz ?_; intro bx) | refine G.wa (h := ?_) | refine G.seq ?_ | refine G.region ?_ | refine G.nil ?_ | refine G.block ?_ | refine G.skip ?_ | refine G.blk ?_ | refine G.wx ?_ | refine G.wt ?_ | refine G.wf ?_)
    refine G.keep [LL (.slice a' ((A ++ A).take (m + 1)).length cap') ((A ++ A).take (m + 1)), Table T last rs, LL (.slice (some ⟨ob, 0, none⟩) (A ++ A).length lc) (A ++ A), OwnI (.slice ka r0.kids.length kc) r0.kids, Old W] ?_
    exact (hloop (m + 1, a', cap') (by dsimp only; omega) (by dsimp only; omega)).forget _ (Env.le_cons rfl (Env.le_cons rfl (Env.le_cons rfl (Env.le_cons rfl (Env.le_cons rfl (Env.le_cons rfl (Env.le_nil _)))))))
  have hb3 : decide ((m : Int) < ((A ++ A).length : Int)) = false := decide_eq_false (by omega)
  have hmm : m = (A ++ A).length := by omega
  subst hmm
  clear hloop
  rw [List.take_length]
  repeat (first | refine G.w0 ?_ | refine G.w1 ?_ | refine G.wn ?_ | refine GR.w ?_ | (refine G.ws (h := ?_); try (simp only [Nat.reduceAdd, Nat.zero_add, List.set_cons_succ, List.set_cons_zero])) | (refine G.wb ?_; intro bx) | (refine G.wz ?_; intro bx) | refine G.wa (h := ?_) | refine G.seq ?_ | refine G.region ?_ | refine G.nil ?_ | refine G.block ?_ | refine G.skip ?_ | refine G.blk ?_ | refine G.wx ?_ | refine G.wt ?_ | refine G.wf ?_)
  have htold := told_ok T last rs ht
  refine G.loopI (fun m : Nat => [(14, .int .i64 m), (12, .slice wa (A ++ A).length wc), (11, .int .i64 (A.length : Nat)), (8, .slice la (A ++ A).length lc), (6, .slice ka r0.kids.length kc), (3, ptr (some T))])
    (fun _ => [LL (.slice wa (A ++ A).length wc) (A ++ A), Table T last rs, LL (.slice la (A ++ A).length lc) (A ++ A), OwnI (.slice ka r0.kids.length kc) r0.kids, Old W]) (fun m => m ≤ A.length) (fun m => A.length - m) 0 (by omega) (Env.le_cons rfl (Env.le_cons rfl (Env.le_cons rfl (Env.le_cons rfl (Env.le_cons rfl (Env.le_cons rfl (Env.le_nil _))))))) rfl ?_
  rintro m hm hloop
  by_cases hml : m < A.length
  · have hb3 : decide ((m : Int) < ((A.length : Nat) : Int)) = true := decide_eq_true (by omega)
    have hw : IntKind.i64.wrap ((m : Int) + 1) = (m : Int) + 1 := wrap_id (by omega) (by omega)
    have hw2 : IntKind.i64.wrap (((A.length : Nat) : Int) + (m : Int)) = ((A.length : Nat) : Int) + (m : Int) := wrap_id (by omega) (by omega)
    have hidx : 0 ≤ (m : Int) ∧ (m : Int) < ((A ++ A).length : Int) := by omega
    have hidx2 : 0 ≤ ((A.length : Nat) : Int) + (m : Int) ∧ ((A.length : Nat) : Int) + (m : Int) < ((A ++ A).length : Int) := by omega
    have hj : A.length + m < (A ++ A).length := by omega
    have ea : (A ++ A)[m]'(by omega) = A[m] := List.getElem_append_left hml
    have eb : (A ++ A)[A.length + m] = A[m] := by
      rw [List.getElem_append_right (by omega)]
      congr 1; omega
    refine G.llTwo (.slice la (A ++ A).length lc) (A ++ A) m (A.length + m) (by omega) hj ?_
    intro ob lcap vs x y rest hv hvs hx hy hp
    cases hv
    rw [ea, eb] at hp ⊢
    have hx' : vs[0 + (m : Int).toNat * 1]? = some x := by rw [show 0 + (m : Int).toNat * 1 = m by simp]; exact hx
    have hy' : vs[0 + (((A.length : Nat) : Int) + (m : Int)).toNat * 1]? = some y := by rw [show 0 + (((A.length : Nat) : Int) + (m : Int)).toNat * 1 = A.length + m by omega]; exact hy
    have hs16 := hsm A[m] (List.getElem_mem hml)
    repeat (first | refine G.w0 ?_ | refine G.w1 ?_ | refine G.wn ?_ | refine GR.w ?_ | (refine G.ws (h := ?_); try (simp only [Nat.reduceAdd, Nat.zero_add, List.set_cons_succ, List.set_cons_zero])) | (refine G.wb ?_; intro bx) | (refine G.wz ?_; intro bx) | refine G.wa (h := ?_) | refine G.seq ?_ | refine G.region ?_ | refine G.nil ?_ | refine G.block ?_ | refine G.skip ?_ | refine G.blk ?_ | refine G.wx ?_ | refine G.wt ?_ | refine G.wf ?_)
    (repeat refine G.seq ?_); refine G.drawS [(.pur, 0), (.pur, 1), (.pur, 2), (.look, 3), (.pur, 4), (.pur, 5), (.pur, 6), (.pur, 7), (.pur, 8), (.look, 9), (.look, 10), (.pur, 11)] (by kernel_rfl) (by kernel_rfl) rfl ?_
    repeat (first | refine EVS.wq ?_ | refine EVS.wp ?_ | refine EVS.wn ?_ | refine EVS.w0 ?_ | refine EVS.wy ?_ | (refine EVS.ws (h := ?_); try (simp only [Nat.reduceAdd, Nat.zero_add, List.set_cons_succ, List.set_cons_zero])) | refine EVS.wa (h := ?_) | (refine EVS.wb ?_; intro bx) | (refine EVS.wz ?_; intro bx) | refine EVS.wm ?_ | refine EVS.done ?_)
    refine EVS.ok (Ok.loadS rfl hx') ?_
    repeat (first | refine EVS.wq ?_ | refine EVS.wp ?_ | refine EVS.wn ?_ | refine EVS.w0 ?_ | refine EVS.wy ?_ | (refine EVS.ws (h := ?_); try (simp only [Nat.reduceAdd, Nat.zero_add, List.set_cons_succ, List.set_cons_zero])) | refine EVS.wa (h := ?_) | (refine EVS.wb ?_; intro bx) | (refine EVS.wz ?_; intro bx) | refine EVS.wm ?_ | refine EVS.done ?_)
    refine EVS.ok (Ok.loadS rfl hy') ?_
    refine EVS.ok (Ok.callD Try.func28 rfl (by decide) rfl (sameInts_ok x y A[m] (by omega))) ?_
    repeat (first | refine EVS.wq ?_ | refine EVS.wp ?_ | refine EVS.wn ?_ | refine EVS.w0 ?_ | refine EVS.wy ?_ | (refine EVS.ws (h := ?_); try (simp only [Nat.reduceAdd, Nat.zero_add, List.set_cons_succ, List.set_cons_zero])) | refine EVS.wa (h := ?_) | (refine EVS.wb ?_; intro bx) | (refine EVS.wz ?_; intro bx) | refine EVS.wm ?_ | refine EVS.done ?_)
    repeat (first | refine G.w0 ?_ | refine G.w1 ?_ | refine G.wn ?_ | refine GR.w ?_ | (refine G.ws (h := ?_); try (simp only [Nat.reduceAdd, Nat.zero_add, List.set_cons_succ, List.set_cons_zero])) | (refine G.wb ?_; intro bx) | (refine G.wz ?_; intro bx) | refine G.wa (h := ?_) | refine G.seq ?_ | refine G.region ?_ | refine G.nil ?_ | refine G.block ?_ | refine G.skip ?_ | refine G.blk ?_ | refine G.wx ?_ | refine G.wt ?_ | refine G.wf ?_)
    refine G.llTwoBack (ob := ob) (cap := lc) x y A[m] A[m] rest hvs hp ?_
    refine G.keep [LL (.slice wa (A ++ A).length wc) (A ++ A), Table T last rs, LL (.slice (some ⟨ob, 0, none⟩) (A ++ A).length lc) (A ++ A), OwnI (.slice ka r0.kids.length kc) r0.kids, Old W] ?_
    exact (hloop (m + 1) (by omega) (by omega)).forget _ (Env.le_cons rfl (Env.le_cons rfl (Env.le_cons rfl (Env.le_cons rfl (Env.le_cons rfl (Env.le_cons rfl (Env.le_nil _)))))))
  have hb3 : decide ((m : Int) < ((A.length : Nat) : Int)) = false := decide_eq_false (by omega)
  clear hloop
  have htl := toldTo_len ht.len 16 (by omega)
  repeat (first | refine G.w0 ?_ | refine G.w1 ?_ | refine G.wn ?_ | refine GR.w ?_ | (refine G.ws (h := ?_); try (simp only [Nat.reduceAdd, Nat.zero_add, List.set_cons_succ, List.set_cons_zero])) | (refine G.wb ?_; intro bx) | (refine G.wz ?_; intro bx) | refine G.wa (h := ?_) | refine G.seq ?_ | refine G.region ?_ | refine G.nil ?_ | refine G.block ?_ | refine G.skip ?_ | refine G.blk ?_ | refine G.wx ?_ | refine G.wt ?_ | refine G.wf ?_)
  (first | refine G.take rfl ?_ | refine G.take_yes rfl rfl rfl (by first | rfl | assumption) ?_); (first | refine R.callD Try.func29 rfl (by decide) rfl rfl (htold) ?_ | refine R.callD0 Try.func29 rfl (by decide) rfl (htold) ?_); simp only [List.cons_append, List.nil_append]
  repeat (first | refine G.w0 ?_ | refine G.w1 ?_ | refine G.wn ?_ | refine GR.w ?_ | (refine G.ws (h := ?_); try (simp only [Nat.reduceAdd, Nat.zero_add, List.set_cons_succ, List.set_cons_zero])) | (refine G.wb ?_; intro bx) | (refine G.wz ?_; intro bx) | refine G.wa (h := ?_))
  have hzl : ∀ z : List Value, z.length = 352 → setSeg z 0 (toldTo rs 16) = toldTo rs 16 := fun z hz => by
    unfold setSeg; rw [htl, List.take_zero, List.drop_of_length_le (by omega)]; simp
  (first | refine G.take rfl ?_ | refine G.take_yes rfl rfl rfl (by first | rfl | assumption) ?_)
  refine R.storeA rfl rfl (told_plain rs) htl (by rfl) ?_
  rw [hzl _ rfl]
  refine G.llThree (.slice wa (A ++ A).length wc) (A ++ A) (A.length - 3) (by omega) ?_
  intro wb wcap vs x y z hv hvs hx hy hz
  cases hv
  have ea : (A ++ A)[0]'(by omega) = treeF rs 0 := by
    rw [List.getElem_append_left (by omega)]
    rw [List.getElem?_eq_getElem (by omega)] at g0; exact Option.some.inj g0
  have eb : (A ++ A)[1]'(by omega) = r0.kids := by
    rw [List.getElem_append_left (by omega)]
    rw [List.getElem?_eq_getElem (by omega), hkf] at g1; exact Option.some.inj g1
  have ec : (A ++ A)[A.length - 3 + 2]'(by omega) = liveF rs := by
    rw [List.getElem_append_left (by omega)]
    rw [List.getElem?_eq_getElem (by omega)] at gz
    have h1 := Option.some.inj gz
    rw [← h1]; congr 1; omega
  rw [ea, eb, ec]
  revert bx
  intro tb
  have hzero : (getr rs 0).isSome = true := by rw [hr0]; rfl
  have h16a := tree_len ht 0
  have h16b := liveF_len rs
  have hw1 : IntKind.i64.wrap (((A.length : Nat) : Int) - 1) = ((A.length : Nat) : Int) - 1 := wrap_id (by omega) (by omega)
  have hx0 : vs[0 + (0 : Int).toNat * 1]? = some x := hx
  have hy1 : vs[0 + (1 : Int).toNat * 1]? = some y := hy
  have hzz : vs[0 + (((A.length : Nat) : Int) - 1).toNat * 1]? = some z := by rw [← hz]; congr 1; omega
  have hix0 : 0 ≤ (0 : Int) ∧ (0 : Int) < ((A ++ A).length : Int) := by omega
  have hix1 : 0 ≤ (1 : Int) ∧ (1 : Int) < ((A ++ A).length : Int) := by omega
  have hixz : 0 ≤ ((A.length : Nat) : Int) - 1 ∧ ((A.length : Nat) : Int) - 1 < ((A ++ A).length : Int) := by omega
  have hc0 := count_ok x (treeF rs 0) 0 (by omega)
  rw [countF_nodup (tree_nodup ht 0), if_pos ((mem_tree0 ht 0).2 hzero)] at hc0
  have hcz := count_ok z (liveF rs) 0 (by omega)
  have hlive : liveF rs = liveTo (rs.map fun o => o.map fun _ => 0) 16 := (liveF_eq (by unfold Alike; simp)).symm
  have hcl : countF (liveF rs) 0 = 1 := by
    rw [hlive, countF_nodup (liveTo_nodup _ 16), if_pos]
    exact (mem_liveTo (by unfold Alike; simp) ht.len 0).2 hzero
  rw [hcl] at hcz
  refine G.form y ?_
  rintro ya yc rfl
  repeat (first | refine G.w0 ?_ | refine G.w1 ?_ | refine G.wn ?_ | refine GR.w ?_ | (refine G.ws (h := ?_); try (simp only [Nat.reduceAdd, Nat.zero_add, List.set_cons_succ, List.set_cons_zero])) | (refine G.wb ?_; intro bx) | (refine G.wz ?_; intro bx) | refine G.wa (h := ?_) | refine G.seq ?_ | refine G.region ?_ | refine G.nil ?_ | refine G.block ?_ | refine G.skip ?_ | refine G.blk ?_ | refine G.wx ?_ | refine G.wt ?_ | refine G.wf ?_)
  (repeat refine G.seq ?_); refine G.drawS [(.pur, 0), (.pur, 1), (.look, 2), (.look, 3), (.pur, 4), (.pur, 5), (.pur, 6), (.pur, 7), (.pur, 8), (.pur, 9), (.look, 10), (.look, 11), (.pur, 12), (.pur, 13), (.pur, 14), (.pur, 15), (.pur, 16), (.look, 17), (.pur, 18), (.look, 19), (.pur, 20), (.pur, 21), (.pur, 22), (.pur, 23), (.act, 24), (.pur, 25), (.pur, 26), (.pur, 27), (.pur, 28), (.look, 29), (.look, 30), (.pur, 31), (.pur, 32), (.pur, 33), (.pur, 34), (.look, 35), (.pur, 36), (.pur, 37)] (by kernel_rfl) (by kernel_rfl) rfl ?_
  repeat (first | refine EVS.wq ?_ | refine EVS.wp ?_ | refine EVS.wn ?_ | refine EVS.w0 ?_ | refine EVS.wy ?_ | (refine EVS.ws (h := ?_); try (simp only [Nat.reduceAdd, Nat.zero_add, List.set_cons_succ, List.set_cons_zero])) | refine EVS.wa (h := ?_) | (refine EVS.wb ?_; intro bx) | (refine EVS.wz ?_; intro bx) | refine EVS.wm ?_ | refine EVS.done ?_)
  refine EVS.ok (Ok.loadS rfl hx0) ?_
  refine EVS.ok (Ok.callD Try.func30 rfl (by decide) rfl (hc0)) ?_
  repeat (first | refine EVS.wq ?_ | refine EVS.wp ?_ | refine EVS.wn ?_ | refine EVS.w0 ?_ | refine EVS.wy ?_ | (refine EVS.ws (h := ?_); try (simp only [Nat.reduceAdd, Nat.zero_add, List.set_cons_succ, List.set_cons_zero])) | refine EVS.wa (h := ?_) | (refine EVS.wb ?_; intro bx) | (refine EVS.wz ?_; intro bx) | refine EVS.wm ?_ | refine EVS.done ?_)
  refine EVS.oky rfl rfl rfl (Ok.loadS rfl hzz) ?_
  refine EVS.oky rfl rfl rfl (Ok.callD Try.func30 rfl (by decide) rfl (hcz)) ?_
  repeat (first | refine EVS.wq ?_ | refine EVS.wp ?_ | refine EVS.wn ?_ | refine EVS.w0 ?_ | refine EVS.wy ?_ | (refine EVS.ws (h := ?_); try (simp only [Nat.reduceAdd, Nat.zero_add, List.set_cons_succ, List.set_cons_zero])) | refine EVS.wa (h := ?_) | (refine EVS.wb ?_; intro bx) | (refine EVS.wz ?_; intro bx) | refine EVS.wm ?_ | refine EVS.done ?_)
  refine EVS.oky rfl rfl rfl (Ok.loadS rfl hy1) ?_
  repeat (first | refine EVS.wq ?_ | refine EVS.wp ?_ | refine EVS.wn ?_ | refine EVS.w0 ?_ | refine EVS.wy ?_ | (refine EVS.ws (h := ?_); try (simp only [Nat.reduceAdd, Nat.zero_add, List.set_cons_succ, List.set_cons_zero])) | refine EVS.wa (h := ?_) | (refine EVS.wb ?_; intro bx) | (refine EVS.wz ?_; intro bx) | refine EVS.wm ?_ | refine EVS.done ?_)
  refine EVS.oky rfl rfl rfl (Ok.callD Try.func28 rfl (by decide) rfl (sameInts_ok (.slice ya r0.kids.length yc) (.slice ka r0.kids.length kc) r0.kids (by omega))) ?_
  repeat (first | refine EVS.wq ?_ | refine EVS.wp ?_ | refine EVS.wn ?_ | refine EVS.w0 ?_ | refine EVS.wy ?_ | (refine EVS.ws (h := ?_); try (simp only [Nat.reduceAdd, Nat.zero_add, List.set_cons_succ, List.set_cons_zero])) | refine EVS.wa (h := ?_) | (refine EVS.wb ?_; intro bx) | (refine EVS.wz ?_; intro bx) | refine EVS.wm ?_ | refine EVS.done ?_)
  refine EVS.callQy rfl rfl (by first | rfl | assumption) Try.func31 rfl (by decide) rfl (listsApart_ok (.slice la (A ++ A).length lc) (A ++ A) (by omega) (fun i h => by have := hsm2 i h; omega)) ?_; (rintro _ _ ⟨rfl, rfl⟩ <;> simp only [List.cons_append, List.nil_append])
  repeat (first | refine EVS.wq ?_ | refine EVS.wp ?_ | refine EVS.wn ?_ | refine EVS.w0 ?_ | refine EVS.wy ?_ | (refine EVS.ws (h := ?_); try (simp only [Nat.reduceAdd, Nat.zero_add, List.set_cons_succ, List.set_cons_zero])) | refine EVS.wa (h := ?_) | (refine EVS.wb ?_; intro bx) | (refine EVS.wz ?_; intro bx) | refine EVS.wm ?_ | refine EVS.done ?_)
  refine EVS.oky rfl rfl rfl (Ok.callD Try.func29 rfl (by decide) rfl (htold)) ?_
  refine EVS.oky rfl rfl rfl (Ok.loadA (vs := toldTo rs 16) rfl (by rw [List.drop_zero, List.take_of_length_le (by omega)]) (by rw [htl]; rfl)) ?_
  refine EVS.pury rfl rfl rfl (fun _ => Ok.neqSame (xs := toldTo rs 16) rfl rfl htl (told_typed rs ht.len)) ?_
  repeat (first | refine EVS.wq ?_ | refine EVS.wp ?_ | refine EVS.wn ?_ | refine EVS.w0 ?_ | refine EVS.wy ?_ | (refine EVS.ws (h := ?_); try (simp only [Nat.reduceAdd, Nat.zero_add, List.set_cons_succ, List.set_cons_zero])) | refine EVS.wa (h := ?_) | (refine EVS.wb ?_; intro bx) | (refine EVS.wz ?_; intro bx) | refine EVS.wm ?_ | refine EVS.done ?_)
  refine EVS.oky rfl rfl rfl (Ok.callD Try.func32 rfl (by decide) rfl (branch_ok T last rs 0 r0 ht hr0)) ?_
  repeat (first | refine EVS.wq ?_ | refine EVS.wp ?_ | refine EVS.wn ?_ | refine EVS.w0 ?_ | refine EVS.wy ?_ | (refine EVS.ws (h := ?_); try (simp only [Nat.reduceAdd, Nat.zero_add, List.set_cons_succ, List.set_cons_zero])) | refine EVS.wa (h := ?_) | (refine EVS.wb ?_; intro bx) | (refine EVS.wz ?_; intro bx) | refine EVS.wm ?_ | refine EVS.done ?_)
  refine G.ll0 ?_
  repeat (first | refine G.w0 ?_ | refine G.w1 ?_ | refine G.wn ?_ | refine GR.w ?_ | (refine G.ws (h := ?_); try (simp only [Nat.reduceAdd, Nat.zero_add, List.set_cons_succ, List.set_cons_zero])) | (refine G.wb ?_; intro bx) | (refine G.wz ?_; intro bx) | refine G.wa (h := ?_) | refine G.seq ?_ | refine G.region ?_ | refine G.nil ?_ | refine G.block ?_ | refine G.skip ?_ | refine G.blk ?_ | refine G.wx ?_ | refine G.wt ?_ | refine G.wf ?_)
  (first | refine G.take rfl ?_ | refine G.take_yes rfl rfl rfl (by first | rfl | assumption) ?_); (first | refine R.callQ Try.func27 rfl (by decide) rfl rfl (asked_ok T last rs 0 (.slice none 0 0) [] (by simp) ht) ?_ | refine R.callQ0 Try.func27 rfl (by decide) rfl (asked_ok T last rs 0 (.slice none 0 0) [] (by simp) ht) ?_); (rintro _ _ rfl <;> simp only [List.cons_append, List.nil_append])
  rename_i lv
  rw [hkf]
  refine G.llForm lv [treeF rs 0, r0.kids] ?_
  rintro la1 lc1 rfl
  repeat (first | refine G.w0 ?_ | refine G.w1 ?_ | refine G.wn ?_ | refine GR.w ?_ | (refine G.ws (h := ?_); try (simp only [Nat.reduceAdd, Nat.zero_add, List.set_cons_succ, List.set_cons_zero])) | (refine G.wb ?_; intro bx) | (refine G.wz ?_; intro bx) | refine G.wa (h := ?_) | refine G.seq ?_ | refine G.region ?_ | refine G.nil ?_ | refine G.block ?_ | refine G.skip ?_ | refine G.blk ?_ | refine G.wx ?_ | refine G.wt ?_ | refine G.wf ?_)
  (first | refine G.take rfl ?_ | refine G.take_yes rfl rfl rfl (by first | rfl | assumption) ?_); (first | refine R.callQ Try.func23 rfl (by decide) rfl rfl (Live_ok T last rs) ?_ | refine R.callQ0 Try.func23 rfl (by decide) rfl (Live_ok T last rs) ?_); (rintro _ _ ⟨ps, va, vc, hal2, rfl, rfl⟩ <;> simp only [List.cons_append, List.nil_append])
  rw [liveF_eq hal2]
  refine G.open (LL (.slice la1 [treeF rs 0, r0.kids].length lc1) [treeF rs 0, r0.kids]) rfl ?_
  intro vs2 hvs2
  simp only [List.cons_append, List.nil_append]
  (first | refine G.take rfl ?_ | refine G.take_yes rfl rfl rfl (by first | rfl | assumption) ?_)
  refine R.bs1 rfl rfl rfl rfl fun nb => ?_
  (first | refine G.take rfl ?_ | refine G.take_yes rfl rfl rfl (by first | rfl | assumption) ?_)
  refine R.append (n := 1) (bytes := 24) (z := .slice none 0 0) (cs := vs2) (news := [.slice va (liveF rs).length vc]) rfl rfl (by rfl) (by exact Nat.le_refl _) rfl rfl (by simp) (by simp) (by decide) rfl fun a' cap' => ?_
  refine G.llSnoc (.slice la1 [treeF rs 0, r0.kids].length lc1) (.slice va (liveF rs).length vc) (.slice a' ([treeF rs 0, r0.kids].length + 1) cap') [treeF rs 0, r0.kids] (liveF rs) vs2 hvs2 ?_
  simp only [List.cons_append, List.nil_append]
  refine G.llThree (.slice a' 3 cap') [treeF rs 0, r0.kids, liveF rs] 0 (by simp) ?_
  intro ab acap avs p q r hv havs hp hq hr
  cases hv
  have hp0 : avs[0 + (0 : Int).toNat * 1]? = some p := hp
  have hq1 : avs[0 + (1 : Int).toNat * 1]? = some q := hq
  have hr2 : avs[0 + (2 : Int).toNat * 1]? = some r := hr
  simp only [List.getElem_cons_zero, List.getElem_cons_succ]
  have hl2' : [treeF rs 0, r0.kids].length = 2 := rfl
  have hl3' : [treeF rs 0, r0.kids, liveF rs].length = 3 := rfl
  repeat (first | refine G.w0 ?_ | refine G.w1 ?_ | refine G.wn ?_ | refine GR.w ?_ | (refine G.ws (h := ?_); try (simp only [Nat.reduceAdd, Nat.zero_add, List.set_cons_succ, List.set_cons_zero])) | (refine G.wb ?_; intro bx) | (refine G.wz ?_; intro bx) | refine G.wa (h := ?_) | refine G.seq ?_ | refine G.region ?_ | refine G.nil ?_ | refine G.block ?_ | refine G.skip ?_ | refine G.blk ?_ | refine G.wx ?_ | refine G.wt ?_ | refine G.wf ?_)
  (repeat refine G.seq ?_); refine G.drawS [(.pur, 0), (.pur, 1), (.look, 2), (.pur, 3), (.pur, 4), (.look, 5), (.look, 6), (.pur, 7), (.pur, 8), (.pur, 9), (.pur, 10), (.look, 11), (.pur, 12), (.pur, 13), (.look, 14), (.look, 15), (.pur, 16), (.pur, 17), (.pur, 18), (.pur, 19), (.pur, 20), (.look, 21), (.pur, 22), (.pur, 23), (.pur, 24), (.pur, 25), (.look, 26), (.look, 27), (.pur, 28), (.pur, 29)] (by kernel_rfl) (by kernel_rfl) rfl ?_
  repeat (first | refine EVS.wq ?_ | refine EVS.wp ?_ | refine EVS.wn ?_ | refine EVS.w0 ?_ | refine EVS.wy ?_ | (refine EVS.ws (h := ?_); try (simp only [Nat.reduceAdd, Nat.zero_add, List.set_cons_succ, List.set_cons_zero])) | refine EVS.wa (h := ?_) | (refine EVS.wb ?_; intro bx) | (refine EVS.wz ?_; intro bx) | refine EVS.wm ?_ | refine EVS.done ?_)
  refine EVS.ok (Ok.loadS rfl hp0) ?_
  repeat (first | refine EVS.wq ?_ | refine EVS.wp ?_ | refine EVS.wn ?_ | refine EVS.w0 ?_ | refine EVS.wy ?_ | (refine EVS.ws (h := ?_); try (simp only [Nat.reduceAdd, Nat.zero_add, List.set_cons_succ, List.set_cons_zero])) | refine EVS.wa (h := ?_) | (refine EVS.wb ?_; intro bx) | (refine EVS.wz ?_; intro bx) | refine EVS.wm ?_ | refine EVS.done ?_)
  refine EVS.ok (Ok.loadS rfl hx0) ?_
  refine EVS.ok (Ok.callD Try.func28 rfl (by decide) rfl (sameInts_ok p x (treeF rs 0) (by omega))) ?_
  repeat (first | refine EVS.wq ?_ | refine EVS.wp ?_ | refine EVS.wn ?_ | refine EVS.w0 ?_ | refine EVS.wy ?_ | (refine EVS.ws (h := ?_); try (simp only [Nat.reduceAdd, Nat.zero_add, List.set_cons_succ, List.set_cons_zero])) | refine EVS.wa (h := ?_) | (refine EVS.wb ?_; intro bx) | (refine EVS.wz ?_; intro bx) | refine EVS.wm ?_ | refine EVS.done ?_)
  refine EVS.oky rfl rfl rfl (Ok.loadS rfl hq1) ?_
  repeat (first | refine EVS.wq ?_ | refine EVS.wp ?_ | refine EVS.wn ?_ | refine EVS.w0 ?_ | refine EVS.wy ?_ | (refine EVS.ws (h := ?_); try (simp only [Nat.reduceAdd, Nat.zero_add, List.set_cons_succ, List.set_cons_zero])) | refine EVS.wa (h := ?_) | (refine EVS.wb ?_; intro bx) | (refine EVS.wz ?_; intro bx) | refine EVS.wm ?_ | refine EVS.done ?_)
  refine EVS.oky rfl rfl rfl (Ok.loadS rfl hy1) ?_
  refine EVS.oky rfl rfl rfl (Ok.callD Try.func28 rfl (by decide) rfl (sameInts_ok q (.slice ya r0.kids.length yc) r0.kids (by omega))) ?_
  repeat (first | refine EVS.wq ?_ | refine EVS.wp ?_ | refine EVS.wn ?_ | refine EVS.w0 ?_ | refine EVS.wy ?_ | (refine EVS.ws (h := ?_); try (simp only [Nat.reduceAdd, Nat.zero_add, List.set_cons_succ, List.set_cons_zero])) | refine EVS.wa (h := ?_) | (refine EVS.wb ?_; intro bx) | (refine EVS.wz ?_; intro bx) | refine EVS.wm ?_ | refine EVS.done ?_)
  refine EVS.oky rfl rfl rfl (Ok.loadS rfl hr2) ?_
  repeat (first | refine EVS.wq ?_ | refine EVS.wp ?_ | refine EVS.wn ?_ | refine EVS.w0 ?_ | refine EVS.wy ?_ | (refine EVS.ws (h := ?_); try (simp only [Nat.reduceAdd, Nat.zero_add, List.set_cons_succ, List.set_cons_zero])) | refine EVS.wa (h := ?_) | (refine EVS.wb ?_; intro bx) | (refine EVS.wz ?_; intro bx) | refine EVS.wm ?_ | refine EVS.done ?_)
  refine EVS.oky rfl rfl rfl (Ok.loadS rfl hzz) ?_
  refine EVS.oky rfl rfl rfl (Ok.callD Try.func28 rfl (by decide) rfl (sameInts_ok r z (liveF rs) (by omega))) ?_
  repeat (first | refine EVS.wq ?_ | refine EVS.wp ?_ | refine EVS.wn ?_ | refine EVS.w0 ?_ | refine EVS.wy ?_ | (refine EVS.ws (h := ?_); try (simp only [Nat.reduceAdd, Nat.zero_add, List.set_cons_succ, List.set_cons_zero])) | refine EVS.wa (h := ?_) | (refine EVS.wb ?_; intro bx) | (refine EVS.wz ?_; intro bx) | refine EVS.wm ?_ | refine EVS.done ?_)
  repeat (first | refine G.w0 ?_ | refine G.w1 ?_ | refine G.wn ?_ | refine GR.w ?_ | (refine G.ws (h := ?_); try (simp only [Nat.reduceAdd, Nat.zero_add, List.set_cons_succ, List.set_cons_zero])) | (refine G.wb ?_; intro bx) | (refine G.wz ?_; intro bx) | refine G.wa (h := ?_) | refine G.seq ?_ | refine G.region ?_ | refine G.nil ?_ | refine G.block ?_ | refine G.skip ?_ | refine G.blk ?_ | refine G.wx ?_ | refine G.wt ?_ | refine G.wf ?_)
  (first | refine G.take rfl ?_ | refine G.take_yes rfl rfl rfl (by first | rfl | assumption) ?_); (first | refine R.callD Try.func33 rfl (by decide) rfl rfl (endsApart_ok T last rs (.slice ka r0.kids.length kc) r0 ht hr0) ?_ | refine R.callD0 Try.func33 rfl (by decide) rfl (endsApart_ok T last rs (.slice ka r0.kids.length kc) r0 ht hr0) ?_); simp only [List.cons_append, List.nil_append]
  repeat (first | refine G.w0 ?_ | refine G.w1 ?_ | refine G.wn ?_ | refine GR.w ?_ | (refine G.ws (h := ?_); try (simp only [Nat.reduceAdd, Nat.zero_add, List.set_cons_succ, List.set_cons_zero])) | (refine G.wb ?_; intro bx) | (refine G.wz ?_; intro bx) | refine G.wa (h := ?_) | refine G.seq ?_ | refine G.region ?_ | refine G.nil ?_ | refine G.block ?_ | refine G.skip ?_ | refine G.blk ?_ | refine G.wx ?_ | refine G.wt ?_ | refine G.wf ?_)
  first | refine G.retK [Old W] rfl Try.func5 rfl Res.nil ?_ | refine G.retK [Old W] rfl Try.func5 rfl (Res.tmp rfl Res.nil) ?_ | refine G.retK [Old W] rfl Try.func5 rfl (Res.tmp rfl (Res.tmp rfl Res.nil)) ?_ | refine G.retK [Old W] rfl Try.func5 rfl (Res.tmp rfl (Res.tmp rfl (Res.tmp rfl Res.nil))) ?_ | refine G.retK [Old W] rfl Try.func5 rfl (Res.cellA rfl rfl rfl Res.nil) ?_ | refine G.retK [Old W] rfl Try.func5 rfl (Res.cellA rfl rfl rfl (Res.tmp rfl Res.nil)) ?_ | refine G.retK [Old W] rfl Try.func5 rfl (Res.cell rfl rfl Res.nil) ?_
  exact ⟨rfl, rfl⟩
end Go.Proofs.Ytffcilmllebdmaa
