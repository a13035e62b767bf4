/- All: the numbers in use, one by one; Live. -/
import Derived.Test.YtffcilmllebdmaaE16
import Derived.Test.YtffcilmllebdmaaAmList2
namespace Go.Proofs.Ytffcilmllebdmaa
open Go.Am
set_option maxHeartbeats 4000000
set_option linter.unusedVariables false
set_option linter.unusedSimpArgs false
attribute [local irreducible] Ok GR G Fun OpRun EVS

theorem All_ok (S : Nat) : Fun Try.prog 58 [ptr (some S)] [] (fun v H => ∃ bt, v = .func (.func 87) #[] #[ptr (some bt)] ∧ H = [cb bt [ptr (some S)] 86]) := by
  refine Fun.enter Try.func58 rfl rfl rfl ?_
  repeat (first | refine G.w0 ?_ | refine G.w1 ?_ | refine G.wn ?_ | refine GR.w ?_ | (refine G.ws (h := ?_); try (simp only [Nat.reduceAdd, Nat.zero_add, List.set_cons_succ, List.set_cons_zero])) | (refine G.wb ?_; intro bx) | (refine G.wz ?_; intro bx) | refine G.wa (h := ?_) | refine G.seq ?_ | refine G.region ?_ | refine G.nil ?_ | refine G.block ?_ | refine G.skip ?_ | refine G.blk ?_ | refine G.wx ?_ | refine G.wt ?_ | refine G.wf ?_)
  first | refine G.retK [cb bx [ptr (some S)] 86] rfl Try.func58 rfl Res.nil ?_ | refine G.retK [cb bx [ptr (some S)] 86] rfl Try.func58 rfl (Res.tmp rfl Res.nil) ?_ | refine G.retK [cb bx [ptr (some S)] 86] rfl Try.func58 rfl (Res.tmp rfl (Res.tmp rfl Res.nil)) ?_ | refine G.retK [cb bx [ptr (some S)] 86] rfl Try.func58 rfl (Res.tmp rfl (Res.tmp rfl (Res.tmp rfl Res.nil))) ?_ | refine G.retK [cb bx [ptr (some S)] 86] rfl Try.func58 rfl (Res.cellA rfl rfl rfl Res.nil) ?_ | refine G.retK [cb bx [ptr (some S)] 86] rfl Try.func58 rfl (Res.cellA rfl rfl rfl (Res.tmp rfl Res.nil)) ?_ | refine G.retK [cb bx [ptr (some S)] 86] rfl Try.func58 rfl (Res.cell rfl rfl Res.nil) ?_
  exact ⟨bx, rfl, rfl⟩

/-- Through All: J i: what is held (beside the table) when all below i were shown; D i: when the loop was left at i. -/
theorem All1_ok (S bt : Nat) (low : Int) (ps : List (Option Nat)) (yv : Value) (J D : Nat → List HProp) (hskip : ∀ i : Nat, i < 16 → getp ps i = none → J i = J (i + 1))
    (hy : ∀ (i b : Nat), i < 16 → getp ps i = some b → CallV Try.prog yv [i64 i, ptr (some b)] (J i) (fun v H => (v = .bool true ∧ H = J (i + 1)) ∨ (v = .bool false ∧ H = D i))) :
    Fun Try.prog 87 [yv, ptr (some bt)] (cb bt [ptr (some S)] 86 :: Slots S low ps :: J 0) (fun v H => (H = cb bt [ptr (some S)] 86 :: Slots S low ps :: J 16) ∨ ∃ i b : Nat, i < 16 ∧ getp ps i = some b ∧ H = cb bt [ptr (some S)] 86 :: Slots S low ps :: D i) := by
  have skip : ∀ (n i : Nat), i + n ≤ 16 → (∀ j : Nat, i ≤ j → j < i + n → getp ps j = none) → J i = J (i + n) := by
    intro n
    induction n with
    | zero => intro i _ _; rfl
    | succ n ih =>
      intro i h1 h2
      rw [ih i (by omega) fun j a b => h2 j a (by omega), hskip (i + n) (by omega) (h2 (i + n) (by omega) (by omega))]
      rfl
  refine Fun.enter Try.func87 rfl rfl rfl ?_
  repeat (first | refine G.w0 ?_ | refine G.w1 ?_ | refine G.wn ?_ | refine GR.w ?_ | (refine G.ws (h := ?_); try (simp only [Nat.reduceAdd, Nat.zero_add, List.set_cons_succ, List.set_cons_zero])) | (refine G.wb ?_; intro bx) | (refine G.wz ?_; intro bx) | refine G.wa (h := ?_) | refine G.seq ?_ | refine G.region ?_ | refine G.nil ?_ | refine G.block ?_ | refine G.skip ?_ | refine G.blk ?_ | refine G.wx ?_ | refine G.wt ?_ | refine G.wf ?_)
  (first | refine G.take rfl ?_ | refine G.take_yes rfl rfl rfl (by first | rfl | assumption) ?_); (first | refine R.callQ Try.func88 rfl (by decide) rfl rfl (Next_ok S low 0 ps) ?_ | refine R.callQ0 Try.func88 rfl (by decide) rfl (Next_ok S low 0 ps) ?_); (rintro _ _ ⟨r0, hr0, rfl, rfl⟩ <;> simp only [List.cons_append, List.nil_append])
  repeat (first | refine G.w0 ?_ | refine G.w1 ?_ | refine G.wn ?_ | refine GR.w ?_ | (refine G.ws (h := ?_); try (simp only [Nat.reduceAdd, Nat.zero_add, List.set_cons_succ, List.set_cons_zero])) | (refine G.wb ?_; intro bx) | (refine G.wz ?_; intro bx) | refine G.wa (h := ?_) | refine G.seq ?_ | refine G.region ?_ | refine G.nil ?_ | refine G.block ?_ | refine G.skip ?_ | refine G.blk ?_ | refine G.wx ?_ | refine G.wt ?_ | refine G.wf ?_)
  refine G.fact (p := ps.length = 16) (fun g w s => ?_) fun hl16 => ?_
  · obtain ⟨x, hx, _⟩ := Pk.open s
    exact hx.1
  refine G.loopI (fun x : Int × Nat => [(3, i64 x.1), (1, ptr (some bt)), (0, yv)]) (fun x => Slots S low ps :: cb bt [ptr (some S)] 86 :: J x.2) (fun x => x.2 ≤ 16 ∧ IsNext ps x.2 x.1) (fun x => 17 - x.2) (r0, 0) ⟨by omega, hr0⟩ (Env.le_cons rfl (Env.le_cons rfl (Env.le_cons rfl (Env.le_nil _)))) rfl ?_
  rintro ⟨r, i⟩ ⟨hi, hn⟩ hloop
  dsimp only at hi hn hloop ⊢
  rcases hn with ⟨h0, h1, h2, h3⟩ | ⟨rfl, h3⟩
  · obtain ⟨m, rfl⟩ : ∃ m : Nat, r = m := ⟨r.toNat, by omega⟩
    obtain ⟨b, hb⟩ := Option.isSome_iff_exists.1 h2
    have hlt := (getp_some h2).2
    have hb1 : decide ((0 : Int) ≤ (m : Int)) = true := decide_eq_true h0
    have hJ := skip (m - i) i (by omega) (fun j a c => by
      have := h3 j (by omega) (by omega) (by omega)
      cases hg : getp ps (j : Int) <;> simp_all)
    rw [show i + (m - i) = m by omega] at hJ
    rw [hJ]
    have hm16 : m < 16 := by omega
    have hcell : (slotCells ps)[0 + (m : Int).toNat * 2 + 1]? = some (ptr (some b)) := by
      rw [slot_ptr ps m _ (by simp; omega) (by omega)]
      rw [getp_in (by omega), Int.toNat_natCast] at hb
      rw [hb]
    repeat (first | refine G.w0 ?_ | refine G.w1 ?_ | refine G.wn ?_ | refine GR.w ?_ | (refine G.ws (h := ?_); try (simp only [Nat.reduceAdd, Nat.zero_add, List.set_cons_succ, List.set_cons_zero])) | (refine G.wb ?_; intro bx) | (refine G.wz ?_; intro bx) | refine G.wa (h := ?_) | refine G.seq ?_ | refine G.region ?_ | refine G.nil ?_ | refine G.block ?_ | refine G.skip ?_ | refine G.blk ?_ | refine G.wx ?_ | refine G.wt ?_ | refine G.wf ?_)
    refine G.open (Slots S low ps) rfl ?_
    rintro ⟨C, cnt⟩ ⟨hl, hc⟩
    simp only [List.cons_append, List.nil_append]
    have hidx : 0 ≤ (m : Int) ∧ (m : Int) < ((16 : Nat) : Int) := by omega
    repeat (first | refine G.w0 ?_ | refine G.w1 ?_ | refine G.wn ?_ | refine GR.w ?_ | (refine G.ws (h := ?_); try (simp only [Nat.reduceAdd, Nat.zero_add, List.set_cons_succ, List.set_cons_zero])) | (refine G.wb ?_; intro bx) | (refine G.wz ?_; intro bx) | refine G.wa (h := ?_) | refine G.seq ?_ | refine G.region ?_ | refine G.nil ?_ | refine G.block ?_ | refine G.skip ?_ | refine G.blk ?_ | refine G.wx ?_ | refine G.wt ?_ | refine G.wf ?_)
    (first | refine G.take rfl ?_ | refine G.take_yes rfl rfl rfl (by first | rfl | assumption) ?_)
    refine GR.ok (Ok.load rfl hcell) rfl rfl ?_
    refine G.close (Slots S low ps) rfl ((C, cnt)) (⟨hl, hc⟩) (by dsimp only) ?_
    (first | refine G.take rfl ?_ | refine G.take_yes rfl rfl rfl (by first | rfl | assumption) ?_)
    refine R.callV rfl rfl rfl (hy m b hm16 hb) (List.perm_append_comm (l₁ := [Slots S low ps, cb bt [ptr (some S)] 86]) (l₂ := J m)) ?_
    rintro v H' (⟨rfl, rfl⟩ | ⟨rfl, rfl⟩)
    · refine G.perm (H' := Slots S low ps :: cb bt [ptr (some S)] 86 :: J (m + 1)) (List.perm_append_comm (l₁ := J (m + 1)) (l₂ := [Slots S low ps, cb bt [ptr (some S)] 86])) ?_
      have hw : IntKind.i64.wrap ((m : Int) + 1) = (m : Int) + 1 := wrap_id (by omega) (by omega)
      repeat (first | refine G.w0 ?_ | refine G.w1 ?_ | refine G.wn ?_ | refine GR.w ?_ | (refine G.ws (h := ?_); try (simp only [Nat.reduceAdd, Nat.zero_add, List.set_cons_succ, List.set_cons_zero])) | (refine G.wb ?_; intro bx) | (refine G.wz ?_; intro bx) | refine G.wa (h := ?_) | refine G.seq ?_ | refine G.region ?_ | refine G.nil ?_ | refine G.block ?_ | refine G.skip ?_ | refine G.blk ?_ | refine G.wx ?_ | refine G.wt ?_ | refine G.wf ?_)
      (first | refine G.take rfl ?_ | refine G.take_yes rfl rfl rfl (by first | rfl | assumption) ?_); (first | refine R.callQ Try.func88 rfl (by decide) rfl rfl (Next_ok S low ((m : Int) + 1) ps) ?_ | refine R.callQ0 Try.func88 rfl (by decide) rfl (Next_ok S low ((m : Int) + 1) ps) ?_); (rintro _ _ ⟨r1, hr1, rfl, rfl⟩ <;> simp only [List.cons_append, List.nil_append])
      repeat (first | refine G.w0 ?_ | refine G.w1 ?_ | refine G.wn ?_ | refine GR.w ?_ | (refine G.ws (h := ?_); try (simp only [Nat.reduceAdd, Nat.zero_add, List.set_cons_succ, List.set_cons_zero])) | (refine G.wb ?_; intro bx) | (refine G.wz ?_; intro bx) | refine G.wa (h := ?_) | refine G.seq ?_ | refine G.region ?_ | refine G.nil ?_ | refine G.block ?_ | refine G.skip ?_ | refine G.blk ?_ | refine G.wx ?_ | refine G.wt ?_ | refine G.wf ?_)
      exact (hloop (r1, m + 1) ⟨by dsimp only; omega, by dsimp only; rw [show ((m + 1 : Nat) : Int) = (m : Int) + 1 by omega]; exact hr1⟩ (by dsimp only; omega)).forget _ (Env.le_cons rfl (Env.le_cons rfl (Env.le_cons rfl (Env.le_nil _))))
    · refine G.perm (H' := cb bt [ptr (some S)] 86 :: Slots S low ps :: D m) ((List.perm_append_comm (l₁ := D m) (l₂ := [Slots S low ps, cb bt [ptr (some S)] 86])).trans (.swap _ _ _)) ?_
      repeat (first | refine G.w0 ?_ | refine G.w1 ?_ | refine G.wn ?_ | refine GR.w ?_ | (refine G.ws (h := ?_); try (simp only [Nat.reduceAdd, Nat.zero_add, List.set_cons_succ, List.set_cons_zero])) | (refine G.wb ?_; intro bx) | (refine G.wz ?_; intro bx) | refine G.wa (h := ?_) | refine G.seq ?_ | refine G.region ?_ | refine G.nil ?_ | refine G.block ?_ | refine G.skip ?_ | refine G.blk ?_ | refine G.wx ?_ | refine G.wt ?_ | refine G.wf ?_)
      refine G.ret rfl Try.func87 rfl rfl rfl ?_
      exact .inr ⟨m, b, hm16, hb, rfl⟩
  · have hb1 : decide ((0 : Int) ≤ -1) = false := rfl
    have hJ := skip (16 - i) i (by omega) (fun j a c => by
      have := h3 j (by omega) (by omega)
      cases hg : getp ps (j : Int) <;> simp_all)
    rw [show i + (16 - i) = 16 by omega] at hJ
    rw [hJ]
    refine G.perm (H' := cb bt [ptr (some S)] 86 :: Slots S low ps :: J 16) (.swap _ _ _) ?_
    repeat (first | refine G.w0 ?_ | refine G.w1 ?_ | refine G.wn ?_ | refine GR.w ?_ | (refine G.ws (h := ?_); try (simp only [Nat.reduceAdd, Nat.zero_add, List.set_cons_succ, List.set_cons_zero])) | (refine G.wb ?_; intro bx) | (refine G.wz ?_; intro bx) | refine G.wa (h := ?_) | refine G.seq ?_ | refine G.region ?_ | refine G.nil ?_ | refine G.block ?_ | refine G.skip ?_ | refine G.blk ?_ | refine G.wx ?_ | refine G.wt ?_ | refine G.wf ?_)
    refine G.end rfl Try.func87 rfl rfl rfl ?_
    exact .inl rfl

section
variable {c : Ctx} {ds : List Nat} {k : List It} {e : Env} {H R : List HProp} {Q : Post}
/-- A loop over All. -/
theorem G.rangeAll {f : Operand} {p0 p1 : Tmp} {assign body : Code} (jc : Code) (S bt : Nat) (low : Int) (ps : List (Option Nat)) (J D : Nat → List HProp) (hr : c.round = none) (hf : ev e f = some (.func (.func 87) #[] #[ptr (some bt)])) (h0 : Nat.blt p0 c.n = true) (h1 : Nat.blt p1 c.n = true)
    (hp : H.Perm (cb bt [ptr (some S)] 86 :: Slots S low ps :: J 0 ++ R)) (hskip : ∀ i : Nat, i < 16 → getp ps i = none → J i = J (i + 1))
    (round : ∀ (lo : Nat) (L : Lp) (i b : Nat), i < 16 → getp ps i = some b → G Try.prog ⟨c.fn, c.n, some lo⟩ [] [.code assign, .begin, .code body] ((p1, ptr (some b)) :: (p0, i64 i) :: e) (loopC lo L .ready none :: J i)
      (fun v H => (v = .bool true ∧ H = loopC lo L .ready none :: J (i + 1)) ∨ (v = .bool false ∧ H = loopC lo L .done (some jc) :: D i)))
    (done : ∀ r, G Try.prog c (r :: ds) k e (defB r :: cb bt [ptr (some S)] 86 :: Slots S low ps :: J 16 ++ R) Q)
    (left : ∀ (r i b : Nat), i < 16 → getp ps i = some b → G Try.prog c (r :: ds) (.code jc :: k) e (defB r :: cb bt [ptr (some S)] 86 :: Slots S low ps :: D i ++ R) Q) :
    G Try.prog c ds (.code (.rangeFunc f #[p0, p1] assign body) :: k) e H Q := by
  refine Am.G.rangeFunc (Qc := fun lo r L v H => (H = (cb bt [ptr (some S)] 86 :: Slots S low ps :: loopC lo L .ready none :: J 16) ++ (defB r :: R)) ∨ ∃ i b : Nat, i < 16 ∧ getp ps i = some b ∧ H = (cb bt [ptr (some S)] 86 :: Slots S low ps :: loopC lo L .done (some jc) :: D i) ++ (defB r :: R)) hr hf (fun lo r tmps kn => ?_) ?_
  · refine CallV.func (first := []) (cap := [ptr (some bt)]) Try.func87 rfl (by decide) ?_
    generalize hL : (⟨c.fn, tmps, #[p0, p1], assign, body, r⟩ : Lp) = L
    have key := All1_ok S bt low ps (.func (.yield lo) #[] #[]) (fun i => loopC lo L .ready none :: J i) (fun i => loopC lo L .done (some jc) :: D i) (fun i hi hn => by rw [hskip i hi hn]) (fun i b hi hb => by
      have h := round lo L i b hi hb
      subst hL
      exact CallV.yield (n := c.n) (L := ⟨c.fn, tmps, #[p0, p1], assign, body, r⟩) (e0 := e) (ts := [p0, p1]) rfl kn (by simp [h0, h1]) rfl h)
    refine ((key.frame (R := defB r :: R)).conv (fun g w s => s.perm ?_)).mono ?_
    · exact (List.Perm.cons _ (List.Perm.cons _ hp)).trans ((List.perm_middle (l₁ := [defB r, cb bt [ptr (some S)] 86, Slots S low ps]) (a := loopC lo L .ready none) (l₂ := J 0 ++ R)).symm.trans (List.perm_middle (l₁ := cb bt [ptr (some S)] 86 :: Slots S low ps :: loopC lo L .ready none :: J 0)).symm)
    · rintro v H' ⟨H1, hq, rfl⟩
      rcases hq with rfl | ⟨i, b, hi, hb, rfl⟩
      · exact .inl rfl
      · exact .inr ⟨i, b, hi, hb, rfl⟩
  · have fix : ∀ (x : HProp) (l : List HProp) (r : Nat), ((cb bt [ptr (some S)] 86 :: Slots S low ps :: x :: l) ++ (defB r :: R)).Perm (x :: (defB r :: cb bt [ptr (some S)] 86 :: Slots S low ps :: l ++ R)) := by
      intro x l r
      exact (List.perm_middle (l₁ := cb bt [ptr (some S)] 86 :: Slots S low ps :: x :: l)).trans (List.perm_middle (l₁ := [defB r, cb bt [ptr (some S)] 86, Slots S low ps]) (a := x) (l₂ := l ++ R))
    rintro lo r L v H' (rfl | ⟨i, b, hi, hb, rfl⟩)
    · exact ⟨.ready, none, _, fix _ _ r, fun h => (by cases h), done r⟩
    · exact ⟨.done, some jc, _, fix _ _ r, fun h => (by cases h), left r i b hi hb⟩
end

/-- The numbers in use below i. -/
def liveTo (ps : List (Option Nat)) (i : Nat) : List Int := ((List.range i).filter fun j : Nat => (getp ps j).isSome).map fun j : Nat => (j : Int)

theorem liveTo_skip {ps : List (Option Nat)} {i : Nat} (h : getp ps i = none) : liveTo ps i = liveTo ps (i + 1) := by
  unfold liveTo
  rw [List.range_succ, List.filter_append]
  simp [h]
theorem liveTo_take {ps : List (Option Nat)} {i b : Nat} (h : getp ps i = some b) : liveTo ps (i + 1) = liveTo ps i ++ [(i : Int)] := by
  unfold liveTo
  rw [List.range_succ, List.filter_append]
  simp [h]
theorem liveTo_le (ps : List (Option Nat)) (i : Nat) : (liveTo ps i).length ≤ i := by
  unfold liveTo
  rw [List.length_map]
  exact Nat.le_trans (List.length_filter_le _ _) (by simp)

/-- A variable that holds a list of numbers of the call's own. -/
def ListVar (b : Nat) (l : List Int) : HProp := Pk (fun _ : Option Addr × Nat => True) fun x => [cb b [.slice x.1 l.length x.2] 57, OwnS 3 1 (.slice x.1 l.length x.2) l.length (ints l)]

theorem Live_ok (T : Nat) (last : Int) (rs : List (Option Rec)) : Fun Try.prog 23 [ptr (some T)] [Table T last rs]
    (fun v H => ∃ (ps : List (Option Nat)) (a : Option Addr) (cap : Nat), Alike ps rs ∧ v = .slice a (liveTo ps 16).length cap ∧ H = [Table T last rs, OwnS 3 1 (.slice a (liveTo ps 16).length cap) (liveTo ps 16).length (ints (liveTo ps 16))]) := by
  refine Fun.enter Try.func23 rfl rfl rfl ?_
  refine G.open (Table T last rs) rfl ?_
  rintro ⟨S, low, ps⟩ ⟨hlow, hal, hl⟩
  simp only [List.cons_append, List.nil_append]
  repeat (first | refine G.w0 ?_ | refine G.w1 ?_ | refine G.wn ?_ | refine GR.w ?_ | (refine G.ws (h := ?_); try (simp only [Nat.reduceAdd, Nat.zero_add, List.set_cons_succ, List.set_cons_zero])) | (refine G.wb ?_; intro bx) | (refine G.wz ?_; intro bx) | refine G.wa (h := ?_) | refine G.seq ?_ | refine G.region ?_ | refine G.nil ?_ | refine G.block ?_ | refine G.skip ?_ | refine G.blk ?_ | refine G.wx ?_ | refine G.wt ?_ | refine G.wf ?_)
  refine G.nilS 3 1 ?_
  refine G.isC bx [.slice none 0 0] rfl ?_
  refine G.close (ListVar bx (liveTo ps 0)) rfl (none, 0) trivial (L := [cb bx [.slice none 0 0] 57, OwnS 3 1 (.slice none 0 0) 0 []]) rfl ?_
  (first | refine G.take rfl ?_ | refine G.take_yes rfl rfl rfl (by first | rfl | assumption) ?_); (first | refine R.callQ Try.func58 rfl (by decide) rfl rfl (All_ok S) ?_ | refine R.callQ0 Try.func58 rfl (by decide) rfl (All_ok S) ?_); (rintro _ _ ⟨bt, rfl, rfl⟩ <;> simp only [List.cons_append, List.nil_append])
  repeat (first | refine G.w0 ?_ | refine G.w1 ?_ | refine G.wn ?_ | refine GR.w ?_ | (refine G.ws (h := ?_); try (simp only [Nat.reduceAdd, Nat.zero_add, List.set_cons_succ, List.set_cons_zero])) | (refine G.wb ?_; intro bx) | (refine G.wz ?_; intro bx) | refine G.wa (h := ?_) | refine G.seq ?_ | refine G.region ?_ | refine G.nil ?_ | refine G.block ?_ | refine G.skip ?_ | refine G.blk ?_ | refine G.wx ?_ | refine G.wt ?_ | refine G.wf ?_)
  refine G.rangeAll .ret S bt low ps (fun i => [ListVar bx (liveTo ps i)]) (fun _ => [fact False]) rfl rfl rfl rfl (Takes.takes (L := [cb bt [ptr (some S)] 86, Slots S low ps, ListVar bx (liveTo ps 0)])) (fun i hi hn => by rw [liveTo_skip hn]) (fun lo L i b hi hb => ?_) (fun r => ?_) (fun r i b hi hb => ?_)
  · have hle := liveTo_le ps i
    repeat (first | refine G.w0 ?_ | refine G.w1 ?_ | refine G.wn ?_ | refine GR.w ?_ | (refine G.ws (h := ?_); try (simp only [Nat.reduceAdd, Nat.zero_add, List.set_cons_succ, List.set_cons_zero])) | (refine G.wb ?_; intro bx) | (refine G.wz ?_; intro bx) | refine G.wa (h := ?_) | refine G.seq ?_ | refine G.region ?_ | refine G.nil ?_ | refine G.block ?_ | refine G.skip ?_ | refine G.blk ?_ | refine G.wx ?_ | refine G.wt ?_ | refine G.wf ?_)
    refine G.begin rfl (.refl _) ?_
    refine G.open (ListVar bx (liveTo ps i)) rfl ?_
    rintro ⟨a, cap⟩ -
    simp only [List.cons_append, List.nil_append]
    repeat (first | refine G.w0 ?_ | refine G.w1 ?_ | refine G.wn ?_ | refine GR.w ?_ | (refine G.ws (h := ?_); try (simp only [Nat.reduceAdd, Nat.zero_add, List.set_cons_succ, List.set_cons_zero])) | (refine G.wb ?_; intro bx) | (refine G.wz ?_; intro bx) | refine G.wa (h := ?_) | refine G.seq ?_ | refine G.region ?_ | refine G.nil ?_ | refine G.block ?_ | refine G.skip ?_ | refine G.blk ?_ | refine G.wx ?_ | refine G.wt ?_ | refine G.wf ?_)
    (first | refine G.take rfl ?_ | refine G.take_yes rfl rfl rfl (by first | rfl | assumption) ?_)
    refine R.bs1 rfl rfl rfl rfl fun nb => ?_
    (first | refine G.take rfl ?_ | refine G.take_yes rfl rfl rfl (by first | rfl | assumption) ?_)
    refine R.append (n := 1) (bytes := 8) (z := .int .i64 0) (cs := ints (liveTo ps i)) (news := [i64 i]) rfl rfl (by rfl) (by exact Nat.le_refl _) rfl rfl (by omega) (by omega) (by decide) rfl fun a' cap' => ?_
    have h4 : ints (liveTo ps i) ++ [i64 i] = ints (liveTo ps (i + 1)) := by rw [liveTo_take hb]; simp [ints]
    have h5 : (liveTo ps i).length + 1 = (liveTo ps (i + 1)).length := by rw [liveTo_take hb]; simp
    rw [h4, h5]
    repeat (first | refine G.w0 ?_ | refine G.w1 ?_ | refine G.wn ?_ | refine GR.w ?_ | (refine G.ws (h := ?_); try (simp only [Nat.reduceAdd, Nat.zero_add, List.set_cons_succ, List.set_cons_zero])) | (refine G.wb ?_; intro bx) | (refine G.wz ?_; intro bx) | refine G.wa (h := ?_) | refine G.seq ?_ | refine G.region ?_ | refine G.nil ?_ | refine G.block ?_ | refine G.skip ?_ | refine G.blk ?_ | refine G.wx ?_ | refine G.wt ?_ | refine G.wf ?_)
    refine G.close (ListVar bx (liveTo ps (i + 1))) rfl ((a', cap')) (trivial) (by dsimp only) ?_
    refine G.keep [loopC lo L .busy none, ListVar bx (liveTo ps (i + 1))] ?_
    exact G.rend rfl (.refl _) (.inl ⟨rfl, rfl⟩)
  · simp only [List.cons_append, List.nil_append]
    repeat (first | refine G.w0 ?_ | refine G.w1 ?_ | refine G.wn ?_ | refine GR.w ?_ | (refine G.ws (h := ?_); try (simp only [Nat.reduceAdd, Nat.zero_add, List.set_cons_succ, List.set_cons_zero])) | (refine G.wb ?_; intro bx) | (refine G.wz ?_; intro bx) | refine G.wa (h := ?_) | refine G.seq ?_ | refine G.region ?_ | refine G.nil ?_ | refine G.block ?_ | refine G.skip ?_ | refine G.blk ?_ | refine G.wx ?_ | refine G.wt ?_ | refine G.wf ?_)
    refine G.open (ListVar bx (liveTo ps 16)) rfl ?_
    rintro ⟨a, cap⟩ -
    simp only [List.cons_append, List.nil_append]
    repeat (first | refine G.w0 ?_ | refine G.w1 ?_ | refine G.wn ?_ | refine GR.w ?_ | (refine G.ws (h := ?_); try (simp only [Nat.reduceAdd, Nat.zero_add, List.set_cons_succ, List.set_cons_zero])) | (refine G.wb ?_; intro bx) | (refine G.wz ?_; intro bx) | refine G.wa (h := ?_) | refine G.seq ?_ | refine G.region ?_ | refine G.nil ?_ | refine G.block ?_ | refine G.skip ?_ | refine G.blk ?_ | refine G.wx ?_ | refine G.wt ?_ | refine G.wf ?_)
    refine G.close (Table T last rs) rfl ((S, low, ps)) (⟨hlow, hal, hl⟩) (by dsimp only) ?_
    refine G.keep [defB r, Table T last rs, OwnS 3 1 (.slice a (liveTo ps 16).length cap) (liveTo ps 16).length (ints (liveTo ps 16))] ?_
    refine G.retD rfl Try.func23 rfl (.refl _) (.tmp rfl .nil) ?_
    exact ⟨ps, a, cap, hal, rfl, rfl⟩
  · refine G.fact (p := False) (fun g w s => ?_) (fun h => h.elim)
    have s3 := s.tail.tail.tail
    exact (Sat.fact s3).1
end Go.Proofs.Ytffcilmllebdmaa
