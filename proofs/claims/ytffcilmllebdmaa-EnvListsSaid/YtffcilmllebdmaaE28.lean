/- told: what is told of all, in one value. -/
import Derived.Test.YtffcilmllebdmaaE27
namespace Go.Proofs.Ytffcilmllebdmaa
open Go.Am
set_option maxHeartbeats 4000000
set_option linter.unusedVariables false
set_option linter.unusedSimpArgs false
attribute [local irreducible] Ok GR G Fun OpRun EVS

theorem plain_append : ∀ {A B : List Value}, plainCells A = true → plainCells B = true → plainCells (A ++ B) = true
  | [], _, _, h => h
  | v :: A, B, h, h2 => by
    have ih := @plain_append A B
    cases v <;> simp only [plainCells, List.cons_append] at h ⊢ <;> first | exact ih h h2 | cases h
theorem plain_flatMap {α : Type} {f : α → List Value} (hf : ∀ x, plainCells (f x) = true) : ∀ l : List α, plainCells (l.flatMap f) = true
  | [] => rfl
  | x :: l => by rw [List.flatMap_cons]; exact plain_append (hf x) (plain_flatMap hf l)

theorem plain_map {α : Type} {f : α → Value} (hf : ∀ x, plainCells [f x] = true) : ∀ l : List α, plainCells (l.map f) = true
  | [] => rfl
  | x :: l => by rw [List.map_cons]; exact plain_append (A := [f x]) (hf x) (plain_map hf l)

def infoO (o : Option Rec) : List Value := match o with | some r => infoCells r | none => infoZero
def errO (o : Option Rec) : Value := match o with | some _ => i64 0 | none => i64 90
theorem infoO_len (o : Option Rec) : (infoO o).length = 21 := by cases o <;> rfl

def upTo (rs : List (Option Rec)) (n : Nat) : List (Option Rec) := rs.take n ++ List.replicate (16 - n) none
def errsTo (rs : List (Option Rec)) (n : Nat) : List Value := (rs.take n).map errO ++ List.replicate (16 - n) (i64 0)
def toldTo (rs : List (Option Rec)) (n : Nat) : List Value := (upTo rs n).flatMap infoO ++ errsTo rs n

theorem take_set {α : Type} (l : List α) (m : α) (n N : Nat) (hN : l.length = N) (hn : n < N) (x : α) (hx : l[n]? = some x) : (l.take n ++ List.replicate (N - n) m).set n x = l.take (n + 1) ++ List.replicate (N - (n + 1)) m := by
  have h1 : (l.take n).length = n := by simp; omega
  rw [List.set_append, if_neg (by omega), h1, Nat.sub_self, show N - n = N - (n + 1) + 1 by omega, List.replicate_succ, List.set_cons_zero, List.take_add_one, hx]
  simp

section
variable {rs : List (Option Rec)} (hl : rs.length = 16)
include hl
theorem upTo_len (n : Nat) (hn : n ≤ 16) : (upTo rs n).length = 16 := by simp [upTo]; omega
theorem errsTo_len (n : Nat) (hn : n ≤ 16) : (errsTo rs n).length = 16 := by simp [errsTo]; omega
theorem toldTo_len (n : Nat) (hn : n ≤ 16) : (toldTo rs n).length = 352 := by
  unfold toldTo
  rw [List.length_append, flat_length infoO_len, upTo_len hl n hn, errsTo_len hl n hn]
theorem told_set (n : Nat) (hn : n < 16) : setSeg (toldTo rs n) (0 + 0 + (n : Int).toNat * 21) (infoOf rs n) = (upTo rs (n + 1)).flatMap infoO ++ errsTo rs n := by
  have h1 := upTo_len hl n (by omega)
  have h2 : infoOf rs n = infoO rs[n] := by
    unfold infoOf getr infoO
    rw [if_pos (by omega), Int.toNat_natCast, List.getElem?_eq_getElem (by omega)]; rfl
  unfold toldTo
  rw [show 0 + 0 + (n : Int).toNat * 21 = n * 21 by simp, h2, setSeg_left (by rw [infoO_len, flat_length infoO_len, h1]; omega), flat_set infoO_len rs[n] _ n (by omega)]
  congr 2
  unfold upTo
  exact take_set rs none n 16 hl hn rs[n] (List.getElem?_eq_getElem (by omega))
theorem told_set2 (n : Nat) (hn : n < 16) : ((upTo rs (n + 1)).flatMap infoO ++ errsTo rs n).set (0 + 336 + (n : Int).toNat * 1) (i64 (errOf rs n)) = toldTo rs (n + 1) := by
  have h1 := upTo_len hl (n + 1) (by omega)
  have h3 := flat_length infoO_len (upTo rs (n + 1))
  have h2 : i64 (errOf rs n) = errO rs[n] := by
    unfold errOf getr errO
    rw [if_pos (by omega), Int.toNat_natCast, List.getElem?_eq_getElem (by omega)]
    cases rs[n] <;> rfl
  unfold toldTo
  rw [show 0 + 336 + (n : Int).toNat * 1 = 336 + n by simp, h2, List.set_append, if_neg (by omega), h3, h1, show 336 + n - 16 * 21 = n by omega]
  congr 1
  have h4 := take_set (rs.map errO) (i64 0) n 16 (by simpa using hl) hn (errO rs[n]) (by rw [List.getElem?_map, List.getElem?_eq_getElem (by omega)]; rfl)
  unfold errsTo
  rw [← List.map_take, ← List.map_take] at h4
  exact h4
end

set_option maxRecDepth 100000 in
theorem told_ok (T : Nat) (last : Int) (rs : List (Option Rec)) (ht : TreeOk rs last) : Fun Try.prog 29 [ptr (some T)] [Table T last rs] (Ret (.agg (toldTo rs 16).toArray) [Table T last rs]) := by
  have hl := ht.len
  refine Fun.enter Try.func29 rfl rfl rfl ?_
  (first | refine G.w0 ?_ | refine G.w1 ?_ | refine G.wn ?_ | refine GR.w ?_ | (refine G.ws (h := ?_); try (simp only [Nat.reduceAdd, Nat.zero_add, List.set_cons_succ, List.set_cons_zero])) | (refine G.wb ?_; intro bx) | (refine G.wz ?_; intro bx) | refine G.wa (h := ?_) | refine G.seq ?_ | refine G.region ?_ | refine G.nil ?_ | refine G.block ?_ | refine G.skip ?_ | refine G.blk ?_ | refine G.wx ?_ | refine G.wt ?_ | refine G.wf ?_)
  (first | refine G.w0 ?_ | refine G.w1 ?_ | refine G.wn ?_ | refine GR.w ?_ | (refine G.ws (h := ?_); try (simp only [Nat.reduceAdd, Nat.zero_add, List.set_cons_succ, List.set_cons_zero])) | (refine G.wb ?_; intro bx) | (refine G.wz ?_; intro bx) | refine G.wa (h := ?_) | refine G.seq ?_ | refine G.region ?_ | refine G.nil ?_ | refine G.block ?_ | refine G.skip ?_ | refine G.blk ?_ | refine G.wx ?_ | refine G.wt ?_ | refine G.wf ?_)
  (first | refine G.w0 ?_ | refine G.w1 ?_ | refine G.wn ?_ | refine GR.w ?_ | (refine G.ws (h := ?_); try (simp only [Nat.reduceAdd, Nat.zero_add, List.set_cons_succ, List.set_cons_zero])) | (refine G.wb ?_; intro bx) | (refine G.wz ?_; intro bx) | refine G.wa (h := ?_) | refine G.seq ?_ | refine G.region ?_ | refine G.nil ?_ | refine G.block ?_ | refine G.skip ?_ | refine G.blk ?_ | refine G.wx ?_ | refine G.wt ?_ | refine G.wf ?_)
  revert bx
  intro rb
  repeat (first | refine G.w0 ?_ | refine G.w1 ?_ | refine G.wn ?_ | refine GR.w ?_ | (refine G.ws (h := ?_); try (simp only [Nat.reduceAdd, Nat.zero_add, List.set_cons_succ, List.set_cons_zero])) | (refine G.wb ?_; intro bx) | (refine G.wz ?_; intro bx) | refine G.wa (h := ?_) | refine G.seq ?_ | refine G.region ?_ | refine G.nil ?_ | refine G.block ?_ | refine G.skip ?_ | refine G.blk ?_ | refine G.wx ?_ | refine G.wt ?_ | refine G.wf ?_)
  revert bx
  intro sb
  refine G.isC sb (toldTo rs 0) rfl ?_
  refine G.loopI (fun n : Nat => [(4, .int .i64 n), (3, ptr (some sb)), (2, ptr (some rb)), (0, ptr (some T))]) (fun n => [cb sb (toldTo rs n) 69, cb rb (toldTo rs 0) 69, Table T last rs]) (fun n => n ≤ 16) (fun n => 16 - n) 0 (by omega) (Env.le_cons rfl (Env.le_cons rfl (Env.le_cons rfl (Env.le_cons rfl (Env.le_nil _))))) rfl ?_
  rintro n hn hloop
  by_cases hlt : n < 16
  · have hb1 : decide ((n : Int) < 16) = true := decide_eq_true (by omega)
    have hidx : 0 ≤ (n : Int) ∧ (n : Int) < ((16 : Nat) : Int) := by omega
    have hw : IntKind.i64.wrap ((n : Int) + 1) = (n : Int) + 1 := wrap_id (by omega) (by omega)
    have hil : (infoOf rs n).length = 21 := by unfold infoOf; split <;> rfl
    have hip : plainCells (infoOf rs n) = true := by unfold infoOf; split <;> rfl
    repeat (first | refine G.w0 ?_ | refine G.w1 ?_ | refine G.wn ?_ | refine GR.w ?_ | (refine G.ws (h := ?_); try (simp only [Nat.reduceAdd, Nat.zero_add, List.set_cons_succ, List.set_cons_zero])) | (refine G.wb ?_; intro bx) | (refine G.wz ?_; intro bx) | refine G.wa (h := ?_) | refine G.seq ?_ | refine G.region ?_ | refine G.nil ?_ | refine G.block ?_ | refine G.skip ?_ | refine G.blk ?_ | refine G.wx ?_ | refine G.wt ?_ | refine G.wf ?_)
    (first | refine G.take rfl ?_ | refine G.take_yes rfl rfl rfl (by first | rfl | assumption) ?_); (first | refine R.callD Try.func12 rfl (by decide) rfl rfl (Info_ok T last rs (n : Int) (fun r hr => ht.ok _ r hr)) ?_ | refine R.callD0 Try.func12 rfl (by decide) rfl (Info_ok T last rs (n : Int) (fun r hr => ht.ok _ r hr)) ?_); simp only [List.cons_append, List.nil_append]
    repeat (first | refine G.w0 ?_ | refine G.w1 ?_ | refine G.wn ?_ | refine GR.w ?_ | (refine G.ws (h := ?_); try (simp only [Nat.reduceAdd, Nat.zero_add, List.set_cons_succ, List.set_cons_zero])) | (refine G.wb ?_; intro bx) | (refine G.wz ?_; intro bx) | refine G.wa (h := ?_) | refine G.seq ?_ | refine G.region ?_ | refine G.nil ?_ | refine G.block ?_ | refine G.skip ?_ | refine G.blk ?_ | refine G.wx ?_ | refine G.wt ?_ | refine G.wf ?_)
    (first | refine G.take rfl ?_ | refine G.take_yes rfl rfl rfl (by first | rfl | assumption) ?_)
    refine R.storeA rfl rfl hip hil (by rw [toldTo_len hl n hn]; simp; omega) ?_
    rw [told_set hl n hlt]
    repeat (first | refine G.w0 ?_ | refine G.w1 ?_ | refine G.wn ?_ | refine GR.w ?_ | (refine G.ws (h := ?_); try (simp only [Nat.reduceAdd, Nat.zero_add, List.set_cons_succ, List.set_cons_zero])) | (refine G.wb ?_; intro bx) | (refine G.wz ?_; intro bx) | refine G.wa (h := ?_) | refine G.seq ?_ | refine G.region ?_ | refine G.nil ?_ | refine G.block ?_ | refine G.skip ?_ | refine G.blk ?_ | refine G.wx ?_ | refine G.wt ?_ | refine G.wf ?_)
    (first | refine G.take rfl ?_ | refine G.take_yes rfl rfl rfl (by first | rfl | assumption) ?_)
    refine R.store rfl rfl rfl (by rw [List.length_append, flat_length infoO_len, upTo_len hl (n + 1) (by omega), errsTo_len hl n hn]; simp [Nat.blt_eq]; omega) ?_
    rw [told_set2 hl n hlt]
    repeat (first | refine G.w0 ?_ | refine G.w1 ?_ | refine G.wn ?_ | refine GR.w ?_ | (refine G.ws (h := ?_); try (simp only [Nat.reduceAdd, Nat.zero_add, List.set_cons_succ, List.set_cons_zero])) | (refine G.wb ?_; intro bx) | (refine G.wz ?_; intro bx) | refine G.wa (h := ?_) | refine G.seq ?_ | refine G.region ?_ | refine G.nil ?_ | refine G.block ?_ | refine G.skip ?_ | refine G.blk ?_ | refine G.wx ?_ | refine G.wt ?_ | refine G.wf ?_)
    refine G.keep [cb sb (toldTo rs (n + 1)) 69, cb rb (toldTo rs 0) 69, Table T last rs] ?_
    exact (hloop (n + 1) (by omega) (by omega)).forget _ (Env.le_cons rfl (Env.le_cons rfl (Env.le_cons rfl (Env.le_cons rfl (Env.le_nil _)))))
  · have hb1 : decide ((n : Int) < 16) = false := decide_eq_false (by omega)
    have h16 : n = 16 := by omega
    subst h16
    have hlen := toldTo_len hl 16 (by omega)
    have hlen0 := toldTo_len hl 0 (by omega)
    repeat (first | refine G.w0 ?_ | refine G.w1 ?_ | refine G.wn ?_ | refine GR.w ?_ | (refine G.ws (h := ?_); try (simp only [Nat.reduceAdd, Nat.zero_add, List.set_cons_succ, List.set_cons_zero])) | (refine G.wb ?_; intro bx) | (refine G.wz ?_; intro bx) | refine G.wa (h := ?_) | refine G.seq ?_ | refine G.region ?_ | refine G.nil ?_ | refine G.block ?_ | refine G.skip ?_ | refine G.blk ?_ | refine G.wx ?_ | refine G.wt ?_ | refine G.wf ?_)
    have hplain : plainCells (toldTo rs 16) = true := by
      unfold toldTo
      refine plain_append (plain_flatMap (fun o => by cases o <;> rfl) _) ?_
      unfold errsTo
      exact plain_append (plain_map (fun o => by cases o <;> rfl) _) rfl
    (first | refine G.take rfl ?_ | refine G.take_yes rfl rfl rfl (by first | rfl | assumption) ?_)
    refine GR.ok (Ok.loadA (vs := toldTo rs 16) rfl (by rw [List.drop_zero, List.take_of_length_le (by omega)]) (by rw [hlen]; rfl)) rfl rfl ?_
    (first | refine G.take rfl ?_ | refine G.take_yes rfl rfl rfl (by first | rfl | assumption) ?_)
    refine R.storeA rfl rfl hplain hlen (by rw [hlen0]; rfl) ?_
    rw [show setSeg (toldTo rs 0) 0 (toldTo rs 16) = toldTo rs 16 by unfold setSeg; rw [hlen, List.take_zero, List.drop_of_length_le (by omega)]; simp]
    repeat (first | refine G.w0 ?_ | refine G.w1 ?_ | refine G.wn ?_ | refine GR.w ?_ | (refine G.ws (h := ?_); try (simp only [Nat.reduceAdd, Nat.zero_add, List.set_cons_succ, List.set_cons_zero])) | (refine G.wb ?_; intro bx) | (refine G.wz ?_; intro bx) | refine G.wa (h := ?_) | refine G.seq ?_ | refine G.region ?_ | refine G.nil ?_ | refine G.block ?_ | refine G.skip ?_ | refine G.blk ?_ | refine G.wx ?_ | refine G.wt ?_ | refine G.wf ?_)
    refine G.retK [Table T last rs] rfl Try.func29 rfl (.cellA (ws := toldTo rs 16) rfl (by rw [List.drop_zero, List.take_of_length_le (by omega)]) (by rw [hlen]; rfl) .nil) ?_
    exact ⟨rfl, rfl⟩

/-- What is told of all is of its type's form. -/
theorem told_typed (rs : List (Option Rec)) (hl : rs.length = 16) {l : List (Nat × Sc)} [h : TFlat Try.prog 69 l] : typedB l (toldTo rs 16) = true := by
  have h1 := h.flat.1
  have h2 : flatA Try.prog 8 69 = some (((List.range 16).flatMap fun i => ([(0, .int .i64), (1, .int .i64), (2, .int .i64), (3, .int .i64), (4, .int .i64), (5, .bool), (6, .int .u32), (7, .int .u32), (8, .int .u32), (9, .int .u32), (10, .int .u32), (11, .int .u32), (12, .int .u32), (13, .int .u32), (14, .int .u32), (15, .int .i64), (16, .int .i64), (17, .int .i64), (18, .int .i64), (19, .int .i64), (20, .int .i64)] : List (Nat × Sc)).map fun x => (i * 21 + x.1, x.2)) ++ (((List.range 16).flatMap fun i => ([(0, .int .i64)] : List (Nat × Sc)).map fun x => (i * 1 + x.1, x.2)).map fun x => (336 + x.1, x.2))) := by kernel_rfl
  have h3 := Option.some.inj (h1.symm.trans h2)
  rw [h3]
  have hu := upTo_len hl 16 (by omega)
  refine typed_append ?_ ?_
  · exact typed_row infoO_len (fun o => by cases o <;> rfl) rfl (upTo rs 16) _ 16 (by omega)
  · have h4 := flat_length infoO_len (upTo rs 16)
    rw [hu] at h4
    have h5 := typed_right (A := (upTo rs 16).flatMap infoO) (B := errsTo rs 16) (l := (List.range 16).flatMap fun i => ([(0, .int .i64)] : List (Nat × Sc)).map fun x => (i * 1 + x.1, x.2)) ?_
    · rw [h4] at h5; exact h5
    · have h6 := typed_row (f := fun v : Option Rec => [errO v]) (n := 1) (fun _ => rfl) (l := [(0, .int .i64)]) (fun o => by cases o <;> rfl) rfl rs [] 16 (by omega)
      have h7 : rs.flatMap (fun v : Option Rec => [errO v]) ++ [] = errsTo rs 16 := by
        unfold errsTo
        rw [List.take_of_length_le (by omega)]
        simp [← List.map_eq_flatMap]
      rw [h7] at h6; exact h6
end Go.Proofs.Ytffcilmllebdmaa
