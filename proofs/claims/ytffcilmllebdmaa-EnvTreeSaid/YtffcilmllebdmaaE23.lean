/- The law EnvPays. -/
import Derived.Test.YtffcilmllebdmaaE21
import Derived.Test.YtffcilmllebdmaaM8
namespace Go.Proofs.Ytffcilmllebdmaa
open Go.Am
set_option maxHeartbeats 4000000
set_option linter.unusedVariables false
set_option linter.unusedSimpArgs false
attribute [local irreducible] Ok GR G Fun OpRun EVS

def isBelow (q : Qt) : Bool := decide (q.f < 0 ∨ q.e < 0 ∨ q.x < 0)
theorem below_ok (q : Qt) : Fun Try.prog 21 [qtVal q] [] (Ret (.bool (isBelow q)) []) := by
  refine Fun.enter Try.func21 rfl rfl rfl ?_
  repeat' (first | refine G.w0 ?_ | refine G.w1 ?_ | refine G.wn ?_ | refine GR.w ?_ | (refine G.ws (h := ?_); try (simp only [Nat.reduceAdd, Nat.zero_add, List.set_cons_succ, List.set_cons_zero])) | (refine G.wb ?_; intro bx) | (refine G.wz ?_; intro bx) | refine G.wa (h := ?_) | refine G.seq ?_ | refine G.region ?_ | refine G.nil ?_ | refine G.block ?_ | refine G.skip ?_ | refine G.blk ?_ | refine G.wx ?_ | refine G.wt ?_ | refine G.wf ?_ | ((fail_if_success (first | refine G.take_yes rfl rfl rfl (by first | rfl | assumption) ?_ | refine G.take_n rfl rfl (by first | exact .inl rfl | exact .inr ⟨_, rfl, by first | rfl | assumption⟩) rfl ?_)); refine G.take_split rfl rfl rfl (fun hb => ?_) (fun hb => ?_)) | refine G.cond rfl (fun hb => ?_) (fun hb => ?_))
  all_goals first | refine G.retK [] rfl Try.func21 rfl Res.nil ?_ | refine G.retK [] rfl Try.func21 rfl (Res.tmp rfl Res.nil) ?_ | refine G.retK [] rfl Try.func21 rfl (Res.tmp rfl (Res.tmp rfl Res.nil)) ?_ | refine G.retK [] rfl Try.func21 rfl (Res.tmp rfl (Res.tmp rfl (Res.tmp rfl Res.nil))) ?_ | refine G.retK [] rfl Try.func21 rfl (Res.cellA rfl rfl rfl Res.nil) ?_ | refine G.retK [] rfl Try.func21 rfl (Res.cellA rfl rfl rfl (Res.tmp rfl Res.nil)) ?_ | refine G.retK [] rfl Try.func21 rfl (Res.cell rfl rfl Res.nil) ?_
  all_goals refine ⟨?_, rfl⟩
  all_goals simp_all [packRes, isBelow]
  all_goals (have h1 : ¬ q.f < 0 := by omega)
  all_goals (have h2 : ¬ q.e < 0 := by omega)
  all_goals simp [h1, h2]

theorem info_eq (r : Rec) : eqCells [(0, .int .i64), (1, .int .i64), (2, .int .i64), (3, .int .i64), (4, .int .i64), (5, .bool), (6, .int .u32), (7, .int .u32), (8, .int .u32), (9, .int .u32), (10, .int .u32), (11, .int .u32), (12, .int .u32), (13, .int .u32), (14, .int .u32), (15, .int .i64), (16, .int .i64), (17, .int .i64), (18, .int .i64), (19, .int .i64), (20, .int .i64)] (infoCells r) (infoCells r) = true :=
  (eqCells_iff (n := 21) rfl rfl rfl rfl rfl).2 rfl

theorem EnvPays_ok (W : World) (a : Option Addr) (cap : Nat) (ops : List Op) (hs : ScriptAt W a ops) (e : Int) (q : Qt) (hlen : ops.length < 9223372036854775808) (hq64 : q.in64) :
    Fun Try.prog 4 [.slice a ops.length cap, i64 e, qtVal q] [Old W] (Ret (.bool true) [Old W]) := by
  refine Fun.enter Try.func4 rfl rfl rfl ?_
  repeat (first | refine G.w0 ?_ | refine G.w1 ?_ | refine G.wn ?_ | refine GR.w ?_ | (refine G.ws (h := ?_); try (simp only [Nat.reduceAdd, Nat.zero_add, List.set_cons_succ, List.set_cons_zero])) | (refine G.wb ?_; intro bx) | (refine G.wz ?_; intro bx) | refine G.wa (h := ?_) | refine G.seq ?_ | refine G.region ?_ | refine G.nil ?_ | refine G.block ?_ | refine G.skip ?_ | refine G.blk ?_ | refine G.wx ?_ | refine G.wt ?_ | refine G.wf ?_)
  (first | refine G.take rfl ?_ | refine G.take_yes rfl rfl rfl (by first | rfl | assumption) ?_); (first | refine R.callQ Try.func8 rfl (by decide) rfl rfl (first_ok) ?_ | refine R.callQ0 Try.func8 rfl (by decide) rfl (first_ok) ?_); (rintro _ _ ⟨T, B, rfl, rfl⟩ <;> simp only [List.cons_append, List.nil_append])
  repeat (first | refine G.w0 ?_ | refine G.w1 ?_ | refine G.wn ?_ | refine GR.w ?_ | (refine G.ws (h := ?_); try (simp only [Nat.reduceAdd, Nat.zero_add, List.set_cons_succ, List.set_cons_zero])) | (refine G.wb ?_; intro bx) | (refine G.wz ?_; intro bx) | refine G.wa (h := ?_) | refine G.seq ?_ | refine G.region ?_ | refine G.nil ?_ | refine G.block ?_ | refine G.skip ?_ | refine G.blk ?_ | refine G.wx ?_ | refine G.wt ?_ | refine G.wf ?_)
  rw [← lives_B]
  revert bx
  intro qb
  refine G.isC qb (qtCells q) rfl ?_
  refine G.loopI (α := Nat × List (Option Rec) × Int) (fun x => [(9, .int .i64 x.1), (8, ptr (some B)), (7, ptr (some T)), (5, ptr (some qb)), (1, i64 e), (0, .slice a ops.length cap)])
    (fun x => [cb qb (qtCells q) 32, Table T x.2.2 x.2.1, Book B (livesOf x.2.1) x.2.2, Old W]) (fun x => x.1 ≤ ops.length ∧ TreeOk x.2.1 x.2.2) (fun x => ops.length - x.1) (0, rsB, 3) ⟨by omega, tree_B⟩ (Env.le_cons rfl (Env.le_cons rfl (Env.le_cons rfl (Env.le_cons rfl (Env.le_cons rfl (Env.le_cons rfl (Env.le_nil _))))))) rfl ?_
  rintro ⟨i, rs, last⟩ ⟨hi, ht⟩ hloop
  dsimp only at hi ht hloop ⊢
  by_cases hlt : i < ops.length
  · have hb1 : decide ((i : Int) < (ops.length : Int)) = true := by simpa using hlt
    have hidx : 0 ≤ (i : Int) ∧ (i : Int) < (ops.length : Int) := by omega
    have hw : IntKind.i64.wrap ((i : Int) + 1) = (i : Int) + 1 := wrap_id (by omega) (by omega)
    obtain ⟨ad, rfl, hcells⟩ := hs i hlt
    have hcells' : CellsAt W (ad.add ((i : Int).toNat * 18)) (opCells ops[i]) := by rw [Int.toNat_natCast]; exact hcells
    repeat (first | refine G.w0 ?_ | refine G.w1 ?_ | refine G.wn ?_ | refine GR.w ?_ | (refine G.ws (h := ?_); try (simp only [Nat.reduceAdd, Nat.zero_add, List.set_cons_succ, List.set_cons_zero])) | (refine G.wb ?_; intro bx) | (refine G.wz ?_; intro bx) | refine G.wa (h := ?_) | refine G.seq ?_ | refine G.region ?_ | refine G.nil ?_ | refine G.block ?_ | refine G.skip ?_ | refine G.blk ?_ | refine G.wx ?_ | refine G.wt ?_ | refine G.wf ?_)
    (first | refine G.take rfl ?_ | refine G.take_yes rfl rfl rfl (by first | rfl | assumption) ?_)
    refine GR.ok (Ok.indexOld rfl rfl hidx) rfl rfl ?_
    repeat (first | refine G.w0 ?_ | refine G.w1 ?_ | refine G.wn ?_ | refine GR.w ?_ | (refine G.ws (h := ?_); try (simp only [Nat.reduceAdd, Nat.zero_add, List.set_cons_succ, List.set_cons_zero])) | (refine G.wb ?_; intro bx) | (refine G.wz ?_; intro bx) | refine G.wa (h := ?_) | refine G.seq ?_ | refine G.region ?_ | refine G.nil ?_ | refine G.block ?_ | refine G.skip ?_ | refine G.blk ?_ | refine G.wx ?_ | refine G.wt ?_ | refine G.wf ?_)
    (first | refine G.take rfl ?_ | refine G.take_yes rfl rfl rfl (by first | rfl | assumption) ?_)
    refine GR.ok (Ok.loadOldA W rfl hcells' rfl) rfl rfl ?_
    (first | refine G.take rfl ?_ | refine G.take_yes rfl rfl rfl (by first | rfl | assumption) ?_); (first | refine R.callD Try.func11 rfl (by decide) rfl rfl (noted_ok T B last rs ops[i] ht) ?_ | refine R.callD0 Try.func11 rfl (by decide) rfl (noted_ok T B last rs ops[i] ht) ?_); simp only [List.cons_append, List.nil_append]
    repeat (first | refine G.w0 ?_ | refine G.w1 ?_ | refine G.wn ?_ | refine GR.w ?_ | (refine G.ws (h := ?_); try (simp only [Nat.reduceAdd, Nat.zero_add, List.set_cons_succ, List.set_cons_zero])) | (refine G.wb ?_; intro bx) | (refine G.wz ?_; intro bx) | refine G.wa (h := ?_) | refine G.seq ?_ | refine G.region ?_ | refine G.nil ?_ | refine G.block ?_ | refine G.skip ?_ | refine G.blk ?_ | refine G.wx ?_ | refine G.wt ?_ | refine G.wf ?_)
    refine G.keep [cb qb (qtCells q) 32, Table T (stepF rs last ops[i]).2 (stepF rs last ops[i]).1, Book B (livesOf (stepF rs last ops[i]).1) (stepF rs last ops[i]).2, Old W] ?_
    exact (hloop (i + 1, (stepF rs last ops[i]).1, (stepF rs last ops[i]).2) ⟨by dsimp only; omega, ht.step _⟩ (by dsimp only; omega)).forget _ (Env.le_cons rfl (Env.le_cons rfl (Env.le_cons rfl (Env.le_cons rfl (Env.le_cons rfl (Env.le_cons rfl (Env.le_nil _)))))))
  have hb1 : decide ((i : Int) < (ops.length : Int)) = false := by simpa using hlt
  clear hloop
  have hinfo := Info_ok T last rs e (fun r hr => ht.ok _ r hr)
  have hlv := livesF_of rs ht.len e
  have hll : (livesOf rs).length = 16 := by simp [livesOf, ht.len]
  cases hr : getr rs e with
  | none =>
    simp only [infoOf, errOf, hr] at hinfo
    rw [hr] at hlv
    have hl2 : (!livesF (livesOf rs) e) = true := by rw [hlv]; rfl
    have hcr := Create_ok T last rs e (IntKind.i64.wrap (last + 1)) q (fun r h => by rw [hr] at h; cases h)
    simp only [createF, hr] at hcr
    have hpay := Pay_ok T last rs e q (fun r h => by rw [hr] at h; cases h)
    have href := Refund_ok T last rs e q (fun r h => by rw [hr] at h; cases h)
    simp only [onRec, hr] at hpay href
    repeat (first | refine G.w0 ?_ | refine G.w1 ?_ | refine G.wn ?_ | refine GR.w ?_ | (refine G.ws (h := ?_); try (simp only [Nat.reduceAdd, Nat.zero_add, List.set_cons_succ, List.set_cons_zero])) | (refine G.wb ?_; intro bx) | (refine G.wz ?_; intro bx) | refine G.wa (h := ?_) | refine G.seq ?_ | refine G.region ?_ | refine G.nil ?_ | refine G.block ?_ | refine G.skip ?_ | refine G.blk ?_ | refine G.wx ?_ | refine G.wt ?_ | refine G.wf ?_)
    (first | refine G.take rfl ?_ | refine G.take_yes rfl rfl rfl (by first | rfl | assumption) ?_); (first | refine R.callD Try.func12 rfl (by decide) rfl rfl (hinfo) ?_ | refine R.callD0 Try.func12 rfl (by decide) rfl (hinfo) ?_); simp only [List.cons_append, List.nil_append]
    repeat (first | refine G.w0 ?_ | refine G.w1 ?_ | refine G.wn ?_ | refine GR.w ?_ | (refine G.ws (h := ?_); try (simp only [Nat.reduceAdd, Nat.zero_add, List.set_cons_succ, List.set_cons_zero])) | (refine G.wb ?_; intro bx) | (refine G.wz ?_; intro bx) | refine G.wa (h := ?_) | refine G.seq ?_ | refine G.region ?_ | refine G.nil ?_ | refine G.block ?_ | refine G.skip ?_ | refine G.blk ?_ | refine G.wx ?_ | refine G.wt ?_ | refine G.wf ?_)
    (first | refine G.take rfl ?_ | refine G.take_yes rfl rfl rfl (by first | rfl | assumption) ?_); (first | refine R.callD Try.func16 rfl (by decide) rfl rfl (lives_ok B (livesOf rs) last e) ?_ | refine R.callD0 Try.func16 rfl (by decide) rfl (lives_ok B (livesOf rs) last e) ?_); simp only [List.cons_append, List.nil_append]
    repeat (first | refine G.w0 ?_ | refine G.w1 ?_ | refine G.wn ?_ | refine GR.w ?_ | (refine G.ws (h := ?_); try (simp only [Nat.reduceAdd, Nat.zero_add, List.set_cons_succ, List.set_cons_zero])) | (refine G.wb ?_; intro bx) | (refine G.wz ?_; intro bx) | refine G.wa (h := ?_) | refine G.seq ?_ | refine G.region ?_ | refine G.nil ?_ | refine G.block ?_ | refine G.skip ?_ | refine G.blk ?_ | refine G.wx ?_ | refine G.wt ?_ | refine G.wf ?_)
    refine G.open (Book B (livesOf rs) last) rfl ?_
    rintro paid ⟨hl, hpd⟩
    simp only [List.cons_append, List.nil_append]
    refine G.isC B (bookCells (livesOf rs) paid last) rfl ?_
    (repeat refine G.seq ?_); refine G.drawS [(.pur, 0), (.pur, 1), (.pur, 2), (.pur, 3), (.pur, 4), (.look, 5), (.pur, 6), (.look, 7), (.look, 8), (.pur, 9), (.pur, 10), (.pur, 11), (.pur, 12), (.pur, 13)] (by kernel_rfl) (by kernel_rfl) rfl ?_
    repeat (first | refine EVS.wq ?_ | refine EVS.wp ?_ | refine EVS.wn ?_ | refine EVS.w0 ?_ | refine EVS.wy ?_ | (refine EVS.ws (h := ?_); try (simp only [Nat.reduceAdd, Nat.zero_add, List.set_cons_succ, List.set_cons_zero])) | refine EVS.wa (h := ?_) | (refine EVS.wb ?_; intro bx) | (refine EVS.wz ?_; intro bx) | refine EVS.wm ?_ | refine EVS.done ?_)
    refine EVS.ok (Ok.load rfl (book_last hl hpd)) ?_
    repeat (first | refine EVS.wq ?_ | refine EVS.wp ?_ | refine EVS.wn ?_ | refine EVS.w0 ?_ | refine EVS.wy ?_ | (refine EVS.ws (h := ?_); try (simp only [Nat.reduceAdd, Nat.zero_add, List.set_cons_succ, List.set_cons_zero])) | refine EVS.wa (h := ?_) | (refine EVS.wb ?_; intro bx) | (refine EVS.wz ?_; intro bx) | refine EVS.wm ?_ | refine EVS.done ?_)
    refine EVS.ok (Ok.callD Try.func18 rfl (by decide) rfl (hcr)) ?_
    repeat (first | refine EVS.wq ?_ | refine EVS.wp ?_ | refine EVS.wn ?_ | refine EVS.w0 ?_ | refine EVS.wy ?_ | (refine EVS.ws (h := ?_); try (simp only [Nat.reduceAdd, Nat.zero_add, List.set_cons_succ, List.set_cons_zero])) | refine EVS.wa (h := ?_) | (refine EVS.wb ?_; intro bx) | (refine EVS.wz ?_; intro bx) | refine EVS.wm ?_ | refine EVS.done ?_)
    repeat (first | refine G.w0 ?_ | refine G.w1 ?_ | refine G.wn ?_ | refine GR.w ?_ | (refine G.ws (h := ?_); try (simp only [Nat.reduceAdd, Nat.zero_add, List.set_cons_succ, List.set_cons_zero])) | (refine G.wb ?_; intro bx) | (refine G.wz ?_; intro bx) | refine G.wa (h := ?_) | refine G.seq ?_ | refine G.region ?_ | refine G.nil ?_ | refine G.block ?_ | refine G.skip ?_ | refine G.blk ?_ | refine G.wx ?_ | refine G.wt ?_ | refine G.wf ?_)
    (first | refine G.take rfl ?_ | refine G.take_yes rfl rfl rfl (by first | rfl | assumption) ?_); (first | refine R.callD Try.func19 rfl (by decide) rfl rfl (hpay) ?_ | refine R.callD0 Try.func19 rfl (by decide) rfl (hpay) ?_); simp only [List.cons_append, List.nil_append]
    repeat (first | refine G.w0 ?_ | refine G.w1 ?_ | refine G.wn ?_ | refine GR.w ?_ | (refine G.ws (h := ?_); try (simp only [Nat.reduceAdd, Nat.zero_add, List.set_cons_succ, List.set_cons_zero])) | (refine G.wb ?_; intro bx) | (refine G.wz ?_; intro bx) | refine G.wa (h := ?_) | refine G.seq ?_ | refine G.region ?_ | refine G.nil ?_ | refine G.block ?_ | refine G.skip ?_ | refine G.blk ?_ | refine G.wx ?_ | refine G.wt ?_ | refine G.wf ?_)
    (first | refine G.take rfl ?_ | refine G.take_yes rfl rfl rfl (by first | rfl | assumption) ?_); (first | refine R.callD Try.func20 rfl (by decide) rfl rfl (href) ?_ | refine R.callD0 Try.func20 rfl (by decide) rfl (href) ?_); simp only [List.cons_append, List.nil_append]
    repeat (first | refine G.w0 ?_ | refine G.w1 ?_ | refine G.wn ?_ | refine GR.w ?_ | (refine G.ws (h := ?_); try (simp only [Nat.reduceAdd, Nat.zero_add, List.set_cons_succ, List.set_cons_zero])) | (refine G.wb ?_; intro bx) | (refine G.wz ?_; intro bx) | refine G.wa (h := ?_) | refine G.seq ?_ | refine G.region ?_ | refine G.nil ?_ | refine G.block ?_ | refine G.skip ?_ | refine G.blk ?_ | refine G.wx ?_ | refine G.wt ?_ | refine G.wf ?_)
    first | refine G.retK [Old W] rfl Try.func4 rfl Res.nil ?_ | refine G.retK [Old W] rfl Try.func4 rfl (Res.tmp rfl Res.nil) ?_ | refine G.retK [Old W] rfl Try.func4 rfl (Res.tmp rfl (Res.tmp rfl Res.nil)) ?_ | refine G.retK [Old W] rfl Try.func4 rfl (Res.tmp rfl (Res.tmp rfl (Res.tmp rfl Res.nil))) ?_ | refine G.retK [Old W] rfl Try.func4 rfl (Res.cellA rfl rfl rfl Res.nil) ?_ | refine G.retK [Old W] rfl Try.func4 rfl (Res.cellA rfl rfl rfl (Res.tmp rfl Res.nil)) ?_ | refine G.retK [Old W] rfl Try.func4 rfl (Res.cell rfl rfl Res.nil) ?_
    exact ⟨rfl, rfl⟩
  | some r =>
    simp only [infoOf, errOf, hr] at hinfo
    rw [hr] at hlv
    have hl2 : (!livesF (livesOf rs) e) = false := by rw [hlv]; rfl
    repeat (first | refine G.w0 ?_ | refine G.w1 ?_ | refine G.wn ?_ | refine GR.w ?_ | (refine G.ws (h := ?_); try (simp only [Nat.reduceAdd, Nat.zero_add, List.set_cons_succ, List.set_cons_zero])) | (refine G.wb ?_; intro bx) | (refine G.wz ?_; intro bx) | refine G.wa (h := ?_) | refine G.seq ?_ | refine G.region ?_ | refine G.nil ?_ | refine G.block ?_ | refine G.skip ?_ | refine G.blk ?_ | refine G.wx ?_ | refine G.wt ?_ | refine G.wf ?_)
    (first | refine G.take rfl ?_ | refine G.take_yes rfl rfl rfl (by first | rfl | assumption) ?_); (first | refine R.callD Try.func12 rfl (by decide) rfl rfl (hinfo) ?_ | refine R.callD0 Try.func12 rfl (by decide) rfl (hinfo) ?_); simp only [List.cons_append, List.nil_append]
    repeat (first | refine G.w0 ?_ | refine G.w1 ?_ | refine G.wn ?_ | refine GR.w ?_ | (refine G.ws (h := ?_); try (simp only [Nat.reduceAdd, Nat.zero_add, List.set_cons_succ, List.set_cons_zero])) | (refine G.wb ?_; intro bx) | (refine G.wz ?_; intro bx) | refine G.wa (h := ?_) | refine G.seq ?_ | refine G.region ?_ | refine G.nil ?_ | refine G.block ?_ | refine G.skip ?_ | refine G.blk ?_ | refine G.wx ?_ | refine G.wt ?_ | refine G.wf ?_)
    revert bx
    intro xb
    (first | refine G.take rfl ?_ | refine G.take_yes rfl rfl rfl (by first | rfl | assumption) ?_); (first | refine R.callD Try.func16 rfl (by decide) rfl rfl (lives_ok B (livesOf rs) last e) ?_ | refine R.callD0 Try.func16 rfl (by decide) rfl (lives_ok B (livesOf rs) last e) ?_); simp only [List.cons_append, List.nil_append]
    repeat (first | refine G.w0 ?_ | refine G.w1 ?_ | refine G.wn ?_ | refine GR.w ?_ | (refine G.ws (h := ?_); try (simp only [Nat.reduceAdd, Nat.zero_add, List.set_cons_succ, List.set_cons_zero])) | (refine G.wb ?_; intro bx) | (refine G.wz ?_; intro bx) | refine G.wa (h := ?_) | refine G.seq ?_ | refine G.region ?_ | refine G.nil ?_ | refine G.block ?_ | refine G.skip ?_ | refine G.blk ?_ | refine G.wx ?_ | refine G.wt ?_ | refine G.wf ?_)
    refine G.isC xb (infoCells r) rfl ?_
    refine G.cutW [(14, .bool (decide (qgood q))), (11, i64 0), (10, ptr (some xb)), (8, ptr (some B)), (7, ptr (some T)), (5, ptr (some qb)), (1, i64 e)] [cb xb (infoCells r) 40, cb qb (qtCells q) 32, Table T last rs, Book B (livesOf rs) last, Old W] (fun k' Q' hk => ?_) ?_
    · have hfin : ∀ b : Bool, b = decide (qgood q) → G Try.prog ⟨4, Try.f4.ntmps, none⟩ [] k' [(14, .bool b), (11, i64 0), (10, ptr (some xb)), (8, ptr (some B)), (7, ptr (some T)), (5, ptr (some qb)), (1, i64 e)] [cb xb (infoCells r) 40, cb qb (qtCells q) 32, Table T last rs, Book B (livesOf rs) last, Old W] Q' := by
        rintro b rfl; exact hk
      repeat (first | refine G.w0 ?_ | refine G.w1 ?_ | refine G.wn ?_ | refine GR.w ?_ | (refine G.ws (h := ?_); try (simp only [Nat.reduceAdd, Nat.zero_add, List.set_cons_succ, List.set_cons_zero])) | (refine G.wb ?_; intro bx) | (refine G.wz ?_; intro bx) | refine G.wa (h := ?_) | refine G.seq ?_ | refine G.region ?_ | refine G.nil ?_ | refine G.block ?_ | refine G.skip ?_ | refine G.blk ?_ | refine G.wx ?_ | refine G.wt ?_ | refine G.wf ?_)
      (first | refine G.take rfl ?_ | refine G.take_yes rfl rfl rfl (by first | rfl | assumption) ?_); (first | refine R.callD Try.func21 rfl (by decide) rfl rfl (below_ok q) ?_ | refine R.callD0 Try.func21 rfl (by decide) rfl (below_ok q) ?_); simp only [List.cons_append, List.nil_append]
      repeat' (first | refine G.w0 ?_ | refine G.w1 ?_ | refine G.wn ?_ | refine GR.w ?_ | (refine G.ws (h := ?_); try (simp only [Nat.reduceAdd, Nat.zero_add, List.set_cons_succ, List.set_cons_zero])) | (refine G.wb ?_; intro bx) | (refine G.wz ?_; intro bx) | refine G.wa (h := ?_) | refine G.seq ?_ | refine G.region ?_ | refine G.nil ?_ | refine G.block ?_ | refine G.skip ?_ | refine G.blk ?_ | refine G.wx ?_ | refine G.wt ?_ | refine G.wf ?_ | ((fail_if_success (first | refine G.take_yes rfl rfl rfl (by first | rfl | assumption) ?_ | refine G.take_n rfl rfl (by first | exact .inl rfl | exact .inr ⟨_, rfl, by first | rfl | assumption⟩) rfl ?_)); refine G.take_split rfl rfl rfl (fun hb => ?_) (fun hb => ?_)) | refine G.cond rfl (fun hb => ?_) (fun hb => ?_))
      all_goals refine G.keep [cb xb (infoCells r) 40, cb qb (qtCells q) 32, Table T last rs, Book B (livesOf rs) last, Old W] ?_
      all_goals refine (hfin _ ?_).forget _ (Env.le_cons rfl (Env.le_cons rfl (Env.le_cons rfl (Env.le_cons rfl (Env.le_cons rfl (Env.le_cons rfl (Env.le_cons rfl (Env.le_nil _))))))))
      all_goals simp only [isBelow, Bool.not_eq_true', Bool.not_eq_false', Bool.not_true, Bool.not_false, decide_eq_false_iff_not, decide_eq_true_eq, not_or] at *
      all_goals first | exact decide_eq_decide.2 (by unfold qgood; omega) | exact (decide_eq_false (by unfold qgood; omega)).symm
    obtain ⟨ok1, ok2, ok3, ok4⟩ := ht.ok e r hr
    have hleft : 0 ≤ (qleft r).f ∧ 0 ≤ (qleft r).e ∧ 0 ≤ (qleft r).x ∧ (qleft r).f ≤ 4611686018427387903 ∧ (qleft r).e ≤ 4611686018427387903 ∧ (qleft r).x ≤ 4611686018427387903 := by
      unfold qgood qle qadd at *; simp only [qleft, qsub]; dsimp only at *; omega
    have hadd : qgood q → addF (qleft r) q (-1) = qsub (qleft r) q := by
      intro hg
      unfold qgood at hg
      simp only [addF, qsub]
      rw [wrap_id (k := -1 * q.f) (by omega) (by omega), wrap_id (k := -1 * q.e) (by omega) (by omega), wrap_id (k := -1 * q.x) (by omega) (by omega)]
      rw [wrap_id (by omega) (by omega), wrap_id (by omega) (by omega), wrap_id (by omega) (by omega)]
      congr 1 <;> omega
    have hbel : isBelow (qsub (qleft r) q) = !decide (qle q (qleft r)) := by
      by_cases h : qle q (qleft r)
      · rw [decide_eq_true h]; exact decide_eq_false (by unfold qle at h; simp only [qsub]; omega)
      · rw [decide_eq_false h]; exact decide_eq_true (by unfold qle at h; simp only [qsub]; omega)
    refine G.seq ?_
    refine G.cutW [(15, .bool (decide (qgood q ∧ qle q (qleft r)))), (14, .bool (decide (qgood q))), (11, i64 0), (10, ptr (some xb)), (8, ptr (some B)), (7, ptr (some T)), (5, ptr (some qb)), (1, i64 e)] [cb xb (infoCells r) 40, cb qb (qtCells q) 32, Table T last rs, Book B (livesOf rs) last, Old W] (fun k' Q' hk => ?_) ?_
    · have hfin : ∀ b : Bool, b = decide (qgood q ∧ qle q (qleft r)) → G Try.prog ⟨4, Try.f4.ntmps, none⟩ [] k' [(15, .bool b), (14, .bool (decide (qgood q))), (11, i64 0), (10, ptr (some xb)), (8, ptr (some B)), (7, ptr (some T)), (5, ptr (some qb)), (1, i64 e)] [cb xb (infoCells r) 40, cb qb (qtCells q) 32, Table T last rs, Book B (livesOf rs) last, Old W] Q' := by
        rintro b rfl; exact hk
      by_cases hg : qgood q
      · have hb2 : decide (qgood q) = true := decide_eq_true hg
        have hsp := add_ok (qleft r) q (-1)
        rw [hadd hg] at hsp
        have hsb := below_ok (qsub (qleft r) q)
        rw [hbel] at hsb
        repeat (first | refine G.w0 ?_ | refine G.w1 ?_ | refine G.wn ?_ | refine GR.w ?_ | (refine G.ws (h := ?_); try (simp only [Nat.reduceAdd, Nat.zero_add, List.set_cons_succ, List.set_cons_zero])) | (refine G.wb ?_; intro bx) | (refine G.wz ?_; intro bx) | refine G.wa (h := ?_) | refine G.seq ?_ | refine G.region ?_ | refine G.nil ?_ | refine G.block ?_ | refine G.skip ?_ | refine G.blk ?_ | refine G.wx ?_ | refine G.wt ?_ | refine G.wf ?_)
        (first | refine G.take rfl ?_ | refine G.take_yes rfl rfl rfl (by first | rfl | assumption) ?_); (first | refine R.callD Try.func22 rfl (by decide) rfl rfl (hsp) ?_ | refine R.callD0 Try.func22 rfl (by decide) rfl (hsp) ?_); simp only [List.cons_append, List.nil_append]
        repeat (first | refine G.w0 ?_ | refine G.w1 ?_ | refine G.wn ?_ | refine GR.w ?_ | (refine G.ws (h := ?_); try (simp only [Nat.reduceAdd, Nat.zero_add, List.set_cons_succ, List.set_cons_zero])) | (refine G.wb ?_; intro bx) | (refine G.wz ?_; intro bx) | refine G.wa (h := ?_) | refine G.seq ?_ | refine G.region ?_ | refine G.nil ?_ | refine G.block ?_ | refine G.skip ?_ | refine G.blk ?_ | refine G.wx ?_ | refine G.wt ?_ | refine G.wf ?_)
        (first | refine G.take rfl ?_ | refine G.take_yes rfl rfl rfl (by first | rfl | assumption) ?_); (first | refine R.callD Try.func21 rfl (by decide) rfl rfl (hsb) ?_ | refine R.callD0 Try.func21 rfl (by decide) rfl (hsb) ?_); simp only [List.cons_append, List.nil_append]
        repeat (first | refine G.w0 ?_ | refine G.w1 ?_ | refine G.wn ?_ | refine GR.w ?_ | (refine G.ws (h := ?_); try (simp only [Nat.reduceAdd, Nat.zero_add, List.set_cons_succ, List.set_cons_zero])) | (refine G.wb ?_; intro bx) | (refine G.wz ?_; intro bx) | refine G.wa (h := ?_) | refine G.seq ?_ | refine G.region ?_ | refine G.nil ?_ | refine G.block ?_ | refine G.skip ?_ | refine G.blk ?_ | refine G.wx ?_ | refine G.wt ?_ | refine G.wf ?_)
        refine G.keep [cb xb (infoCells r) 40, cb qb (qtCells q) 32, Table T last rs, Book B (livesOf rs) last, Old W] ?_
        refine (hfin _ ?_).forget _ (Env.le_cons rfl (Env.le_cons rfl (Env.le_cons rfl (Env.le_cons rfl (Env.le_cons rfl (Env.le_cons rfl (Env.le_cons rfl (Env.le_cons rfl (Env.le_nil _)))))))))
        simp [hg]
      · have hb2 : decide (qgood q) = false := decide_eq_false hg
        repeat (first | refine G.w0 ?_ | refine G.w1 ?_ | refine G.wn ?_ | refine GR.w ?_ | (refine G.ws (h := ?_); try (simp only [Nat.reduceAdd, Nat.zero_add, List.set_cons_succ, List.set_cons_zero])) | (refine G.wb ?_; intro bx) | (refine G.wz ?_; intro bx) | refine G.wa (h := ?_) | refine G.seq ?_ | refine G.region ?_ | refine G.nil ?_ | refine G.block ?_ | refine G.skip ?_ | refine G.blk ?_ | refine G.wx ?_ | refine G.wt ?_ | refine G.wf ?_)
        refine (hfin _ ?_).forget _ (Env.le_cons rfl (Env.le_cons rfl (Env.le_cons rfl (Env.le_cons rfl (Env.le_cons rfl (Env.le_cons rfl (Env.le_cons rfl (Env.le_cons rfl (Env.le_nil _)))))))))
        simp [hg]
    repeat (first | refine G.w0 ?_ | refine G.w1 ?_ | refine G.wn ?_ | refine GR.w ?_ | (refine G.ws (h := ?_); try (simp only [Nat.reduceAdd, Nat.zero_add, List.set_cons_succ, List.set_cons_zero])) | (refine G.wb ?_; intro bx) | (refine G.wz ?_; intro bx) | refine G.wa (h := ?_) | refine G.seq ?_ | refine G.region ?_ | refine G.nil ?_ | refine G.block ?_ | refine G.skip ?_ | refine G.blk ?_ | refine G.wx ?_ | refine G.wt ?_ | refine G.wf ?_)
    (first | refine G.take rfl ?_ | refine G.take_yes rfl rfl rfl (by first | rfl | assumption) ?_); (first | refine R.callQ Try.func23 rfl (by decide) rfl rfl (Live_ok T last rs) ?_ | refine R.callQ0 Try.func23 rfl (by decide) rfl (Live_ok T last rs) ?_); (rintro _ _ ⟨ps, la, lcap, hal, rfl, rfl⟩ <;> simp only [List.cons_append, List.nil_append])
    repeat (first | refine G.w0 ?_ | refine G.w1 ?_ | refine G.wn ?_ | refine GR.w ?_ | (refine G.ws (h := ?_); try (simp only [Nat.reduceAdd, Nat.zero_add, List.set_cons_succ, List.set_cons_zero])) | (refine G.wb ?_; intro bx) | (refine G.wz ?_; intro bx) | refine G.wa (h := ?_) | refine G.seq ?_ | refine G.region ?_ | refine G.nil ?_ | refine G.block ?_ | refine G.skip ?_ | refine G.blk ?_ | refine G.wx ?_ | refine G.wt ?_ | refine G.wf ?_)
    refine G.keep [cb xb (infoCells r) 40, cb qb (qtCells q) 32, Table T last rs, Book B (livesOf rs) last, Old W] ?_
    have hcr := Create_ok T last rs e MaxSer q (fun r hr => ⟨ht.ok e r hr, ht.kids16 hr⟩)
    have hpay := Pay_ok T last rs e q (fun r hr => ht.ok e r hr)
    by_cases hg : qgood q
    rotate_left
    · have hb2 : decide (qgood q) = false := decide_eq_false hg
      have hc : createF rs last e MaxSer q = ((-1, 1), last, rs) := by
        simp only [createF, hr]
        rw [if_pos (.inl hg)]
      rw [hc] at hcr
      have hp1 : payRec q r = (1, r) := by unfold payRec; rw [if_neg hg]
      simp only [onRec, hr, hp1, set_same hr] at hpay
      (first | refine G.take rfl ?_ | refine G.take_yes rfl rfl rfl (by first | rfl | assumption) ?_); (first | refine R.callD Try.func18 rfl (by decide) rfl rfl (hcr) ?_ | refine R.callD0 Try.func18 rfl (by decide) rfl (hcr) ?_); simp only [List.cons_append, List.nil_append]
      repeat (first | refine G.w0 ?_ | refine G.w1 ?_ | refine G.wn ?_ | refine GR.w ?_ | (refine G.ws (h := ?_); try (simp only [Nat.reduceAdd, Nat.zero_add, List.set_cons_succ, List.set_cons_zero])) | (refine G.wb ?_; intro bx) | (refine G.wz ?_; intro bx) | refine G.wa (h := ?_))
      refine G.nil ?_
      refine G.seq ?_
      refine G.cutW [(15, .bool (decide (qgood q ∧ qle q (qleft r)))), (14, .bool (decide (qgood q))), (10, ptr (some xb)), (8, ptr (some B)), (7, ptr (some T)), (5, ptr (some qb)), (1, i64 e)] [cb xb (infoCells r) 40, cb qb (qtCells q) 32, Table T last rs, Book B (livesOf rs) last, Old W] (fun k' Q' hk => ?_) ?_
      · refine G.open (Book B (livesOf rs) last) rfl ?_
        rintro paid ⟨hl, hpd⟩
        simp only [List.cons_append, List.nil_append]
        refine G.isC B (bookCells (livesOf rs) paid last) rfl ?_
        repeat (first | refine G.w0 ?_ | refine G.w1 ?_ | refine G.wn ?_ | refine GR.w ?_ | (refine G.ws (h := ?_); try (simp only [Nat.reduceAdd, Nat.zero_add, List.set_cons_succ, List.set_cons_zero])) | (refine G.wb ?_; intro bx) | (refine G.wz ?_; intro bx) | refine G.wa (h := ?_) | refine G.seq ?_ | refine G.region ?_ | refine G.nil ?_ | refine G.block ?_ | refine G.skip ?_ | refine G.blk ?_ | refine G.wx ?_ | refine G.wt ?_ | refine G.wf ?_)
        (first | refine G.take rfl ?_ | refine G.take_yes rfl rfl rfl (by first | rfl | assumption) ?_)
        refine GR.ok (Ok.load rfl (book_last hl hpd)) rfl rfl ?_
        by_cases hm : MaxSer ≤ last
        · have hb3 : decide (MaxSer ≤ last) = true := decide_eq_true hm
          repeat (first | refine G.w0 ?_ | refine G.w1 ?_ | refine G.wn ?_ | refine GR.w ?_ | (refine G.ws (h := ?_); try (simp only [Nat.reduceAdd, Nat.zero_add, List.set_cons_succ, List.set_cons_zero])) | (refine G.wb ?_; intro bx) | (refine G.wz ?_; intro bx) | refine G.wa (h := ?_) | refine G.seq ?_ | refine G.region ?_ | refine G.nil ?_ | refine G.block ?_ | refine G.skip ?_ | refine G.blk ?_ | refine G.wx ?_ | refine G.wt ?_ | refine G.wf ?_)
          refine G.close (Book B (livesOf rs) last) rfl (paid) (⟨hl, hpd⟩) (by dsimp only) ?_
          refine G.keep [cb xb (infoCells r) 40, cb qb (qtCells q) 32, Table T last rs, Book B (livesOf rs) last, Old W] ?_
          exact hk.forget _ (Env.le_cons rfl (Env.le_cons rfl (Env.le_cons rfl (Env.le_cons rfl (Env.le_cons rfl (Env.le_cons rfl (Env.le_cons rfl (Env.le_nil _))))))))
        · have hb3 : decide (MaxSer ≤ last) = false := decide_eq_false hm
          have hb4 : (!decide (qgood q)) = true := by rw [hb2]; rfl
          repeat (first | refine G.w0 ?_ | refine G.w1 ?_ | refine G.wn ?_ | refine GR.w ?_ | (refine G.ws (h := ?_); try (simp only [Nat.reduceAdd, Nat.zero_add, List.set_cons_succ, List.set_cons_zero])) | (refine G.wb ?_; intro bx) | (refine G.wz ?_; intro bx) | refine G.wa (h := ?_) | refine G.seq ?_ | refine G.region ?_ | refine G.nil ?_ | refine G.block ?_ | refine G.skip ?_ | refine G.blk ?_ | refine G.wx ?_ | refine G.wt ?_ | refine G.wf ?_)
          refine G.close (Book B (livesOf rs) last) rfl (paid) (⟨hl, hpd⟩) (by dsimp only) ?_
          refine G.keep [cb xb (infoCells r) 40, cb qb (qtCells q) 32, Table T last rs, Book B (livesOf rs) last, Old W] ?_
          exact hk.forget _ (Env.le_cons rfl (Env.le_cons rfl (Env.le_cons rfl (Env.le_cons rfl (Env.le_cons rfl (Env.le_cons rfl (Env.le_cons rfl (Env.le_nil _))))))))
      · have hb4 : (!decide (qgood q)) = true := by rw [hb2]; rfl
        repeat (first | refine G.w0 ?_ | refine G.w1 ?_ | refine G.wn ?_ | refine GR.w ?_ | (refine G.ws (h := ?_); try (simp only [Nat.reduceAdd, Nat.zero_add, List.set_cons_succ, List.set_cons_zero])) | (refine G.wb ?_; intro bx) | (refine G.wz ?_; intro bx) | refine G.wa (h := ?_) | refine G.seq ?_ | refine G.region ?_ | refine G.nil ?_ | refine G.block ?_ | refine G.skip ?_ | refine G.blk ?_ | refine G.wx ?_ | refine G.wt ?_ | refine G.wf ?_)
        (first | refine G.take rfl ?_ | refine G.take_yes rfl rfl rfl (by first | rfl | assumption) ?_); (first | refine R.callD Try.func19 rfl (by decide) rfl rfl (hpay) ?_ | refine R.callD0 Try.func19 rfl (by decide) rfl (hpay) ?_); simp only [List.cons_append, List.nil_append]
        repeat (first | refine G.w0 ?_ | refine G.w1 ?_ | refine G.wn ?_ | refine GR.w ?_ | (refine G.ws (h := ?_); try (simp only [Nat.reduceAdd, Nat.zero_add, List.set_cons_succ, List.set_cons_zero])) | (refine G.wb ?_; intro bx) | (refine G.wz ?_; intro bx) | refine G.wa (h := ?_) | refine G.seq ?_ | refine G.region ?_ | refine G.nil ?_ | refine G.block ?_ | refine G.skip ?_ | refine G.blk ?_ | refine G.wx ?_ | refine G.wt ?_ | refine G.wf ?_)
        (first | refine G.take rfl ?_ | refine G.take_yes rfl rfl rfl (by first | rfl | assumption) ?_); (first | refine R.callD Try.func12 rfl (by decide) rfl rfl (hinfo) ?_ | refine R.callD0 Try.func12 rfl (by decide) rfl (hinfo) ?_); simp only [List.cons_append, List.nil_append]
        repeat (first | refine G.w0 ?_ | refine G.w1 ?_ | refine G.wn ?_ | refine GR.w ?_ | (refine G.ws (h := ?_); try (simp only [Nat.reduceAdd, Nat.zero_add, List.set_cons_succ, List.set_cons_zero])) | (refine G.wb ?_; intro bx) | (refine G.wz ?_; intro bx) | refine G.wa (h := ?_))
        revert bx
        intro yb
        refine G.isC yb (infoCells r) rfl ?_
        repeat (first | refine G.w0 ?_ | refine G.w1 ?_ | refine G.wn ?_ | refine GR.w ?_ | (refine G.ws (h := ?_); try (simp only [Nat.reduceAdd, Nat.zero_add, List.set_cons_succ, List.set_cons_zero])) | (refine G.wb ?_; intro bx) | (refine G.wz ?_; intro bx) | refine G.wa (h := ?_) | refine G.seq ?_ | refine G.region ?_ | refine G.nil ?_ | refine G.block ?_ | refine G.skip ?_ | refine G.blk ?_ | refine G.wx ?_ | refine G.wt ?_ | refine G.wf ?_)
        refine G.take_yes rfl rfl rfl rfl ?_
        refine GR.ok (Ok.eqlA (xs := infoCells r) (ys := infoCells r) rfl rfl rfl rfl rfl rfl) rfl rfl ?_
        repeat (first | refine G.w0 ?_ | refine G.w1 ?_ | refine G.wn ?_ | refine GR.w ?_ | (refine G.ws (h := ?_); try (simp only [Nat.reduceAdd, Nat.zero_add, List.set_cons_succ, List.set_cons_zero])) | (refine G.wb ?_; intro bx) | (refine G.wz ?_; intro bx) | refine G.wa (h := ?_) | refine G.seq ?_ | refine G.region ?_ | refine G.nil ?_ | refine G.block ?_ | refine G.skip ?_ | refine G.blk ?_ | refine G.wx ?_ | refine G.wt ?_ | refine G.wf ?_)
        first | refine G.retK [Old W] rfl Try.func4 rfl Res.nil ?_ | refine G.retK [Old W] rfl Try.func4 rfl (Res.tmp rfl Res.nil) ?_ | refine G.retK [Old W] rfl Try.func4 rfl (Res.tmp rfl (Res.tmp rfl Res.nil)) ?_ | refine G.retK [Old W] rfl Try.func4 rfl (Res.tmp rfl (Res.tmp rfl (Res.tmp rfl Res.nil))) ?_ | refine G.retK [Old W] rfl Try.func4 rfl (Res.cellA rfl rfl rfl Res.nil) ?_ | refine G.retK [Old W] rfl Try.func4 rfl (Res.cellA rfl rfl rfl (Res.tmp rfl Res.nil)) ?_ | refine G.retK [Old W] rfl Try.func4 rfl (Res.cell rfl rfl Res.nil) ?_
        exact ⟨congrArg Value.bool (info_eq r), rfl⟩
    have hb2 : decide (qgood q) = true := decide_eq_true hg
    have hb4 : (!decide (qgood q)) = false := by rw [hb2]; rfl
    by_cases hf : qle q (qleft r)
    rotate_left
    · have hb5 : decide (qgood q ∧ qle q (qleft r)) = false := decide_eq_false fun h => hf h.2
      have hb6 : (!decide (qgood q ∧ qle q (qleft r))) = true := by rw [hb5]; rfl
      have hp1 : payRec q r = (2, r) := by unfold payRec; rw [if_pos hg, if_neg hf]
      simp only [onRec, hr, hp1, set_same hr] at hpay
      have hc : createF rs last e MaxSer q = ((-1, if MaxSer ≤ last then 1 else 2), last, rs) := by
        simp only [createF, hr]
        by_cases hm : MaxSer ≤ last
        · rw [if_pos (.inr (.inl hm)), if_pos hm]
        · rw [if_neg (by rintro (h | h | h) <;> first | exact h hg | omega), if_pos (fun h => hf (by unfold qle qone at *; dsimp only at h; omega)), if_neg hm]
      rw [hc] at hcr
      (first | refine G.take rfl ?_ | refine G.take_yes rfl rfl rfl (by first | rfl | assumption) ?_); (first | refine R.callD Try.func18 rfl (by decide) rfl rfl (hcr) ?_ | refine R.callD0 Try.func18 rfl (by decide) rfl (hcr) ?_); simp only [List.cons_append, List.nil_append]
      repeat (first | refine G.w0 ?_ | refine G.w1 ?_ | refine G.wn ?_ | refine GR.w ?_ | (refine G.ws (h := ?_); try (simp only [Nat.reduceAdd, Nat.zero_add, List.set_cons_succ, List.set_cons_zero])) | (refine G.wb ?_; intro bx) | (refine G.wz ?_; intro bx) | refine G.wa (h := ?_))
      refine G.nil ?_
      refine G.seq ?_
      refine G.cutW [(15, .bool (decide (qgood q ∧ qle q (qleft r)))), (14, .bool (decide (qgood q))), (10, ptr (some xb)), (8, ptr (some B)), (7, ptr (some T)), (5, ptr (some qb)), (1, i64 e)] [cb xb (infoCells r) 40, cb qb (qtCells q) 32, Table T last rs, Book B (livesOf rs) last, Old W] (fun k' Q' hk => ?_) ?_
      · refine G.open (Book B (livesOf rs) last) rfl ?_
        rintro paid ⟨hl, hpd⟩
        simp only [List.cons_append, List.nil_append]
        refine G.isC B (bookCells (livesOf rs) paid last) rfl ?_
        repeat (first | refine G.w0 ?_ | refine G.w1 ?_ | refine G.wn ?_ | refine GR.w ?_ | (refine G.ws (h := ?_); try (simp only [Nat.reduceAdd, Nat.zero_add, List.set_cons_succ, List.set_cons_zero])) | (refine G.wb ?_; intro bx) | (refine G.wz ?_; intro bx) | refine G.wa (h := ?_) | refine G.seq ?_ | refine G.region ?_ | refine G.nil ?_ | refine G.block ?_ | refine G.skip ?_ | refine G.blk ?_ | refine G.wx ?_ | refine G.wt ?_ | refine G.wf ?_)
        (first | refine G.take rfl ?_ | refine G.take_yes rfl rfl rfl (by first | rfl | assumption) ?_)
        refine GR.ok (Ok.load rfl (book_last hl hpd)) rfl rfl ?_
        by_cases hm : MaxSer ≤ last
        · have hb3 : decide (MaxSer ≤ last) = true := decide_eq_true hm
          have hb7 : decide ((if MaxSer ≤ last then (1 : Int) else 2) ≠ 1) = false := by rw [if_pos hm]; rfl
          repeat (first | refine G.w0 ?_ | refine G.w1 ?_ | refine G.wn ?_ | refine GR.w ?_ | (refine G.ws (h := ?_); try (simp only [Nat.reduceAdd, Nat.zero_add, List.set_cons_succ, List.set_cons_zero])) | (refine G.wb ?_; intro bx) | (refine G.wz ?_; intro bx) | refine G.wa (h := ?_) | refine G.seq ?_ | refine G.region ?_ | refine G.nil ?_ | refine G.block ?_ | refine G.skip ?_ | refine G.blk ?_ | refine G.wx ?_ | refine G.wt ?_ | refine G.wf ?_)
          refine G.close (Book B (livesOf rs) last) rfl (paid) (⟨hl, hpd⟩) (by dsimp only) ?_
          refine G.keep [cb xb (infoCells r) 40, cb qb (qtCells q) 32, Table T last rs, Book B (livesOf rs) last, Old W] ?_
          exact hk.forget _ (Env.le_cons rfl (Env.le_cons rfl (Env.le_cons rfl (Env.le_cons rfl (Env.le_cons rfl (Env.le_cons rfl (Env.le_cons rfl (Env.le_nil _))))))))
        · have hb3 : decide (MaxSer ≤ last) = false := decide_eq_false hm
          have hb7 : decide ((if MaxSer ≤ last then (1 : Int) else 2) ≠ 2) = false := by rw [if_neg hm]; rfl
          repeat (first | refine G.w0 ?_ | refine G.w1 ?_ | refine G.wn ?_ | refine GR.w ?_ | (refine G.ws (h := ?_); try (simp only [Nat.reduceAdd, Nat.zero_add, List.set_cons_succ, List.set_cons_zero])) | (refine G.wb ?_; intro bx) | (refine G.wz ?_; intro bx) | refine G.wa (h := ?_) | refine G.seq ?_ | refine G.region ?_ | refine G.nil ?_ | refine G.block ?_ | refine G.skip ?_ | refine G.blk ?_ | refine G.wx ?_ | refine G.wt ?_ | refine G.wf ?_)
          refine G.close (Book B (livesOf rs) last) rfl (paid) (⟨hl, hpd⟩) (by dsimp only) ?_
          refine G.keep [cb xb (infoCells r) 40, cb qb (qtCells q) 32, Table T last rs, Book B (livesOf rs) last, Old W] ?_
          exact hk.forget _ (Env.le_cons rfl (Env.le_cons rfl (Env.le_cons rfl (Env.le_cons rfl (Env.le_cons rfl (Env.le_cons rfl (Env.le_cons rfl (Env.le_nil _))))))))
      · repeat (first | refine G.w0 ?_ | refine G.w1 ?_ | refine G.wn ?_ | refine GR.w ?_ | (refine G.ws (h := ?_); try (simp only [Nat.reduceAdd, Nat.zero_add, List.set_cons_succ, List.set_cons_zero])) | (refine G.wb ?_; intro bx) | (refine G.wz ?_; intro bx) | refine G.wa (h := ?_) | refine G.seq ?_ | refine G.region ?_ | refine G.nil ?_ | refine G.block ?_ | refine G.skip ?_ | refine G.blk ?_ | refine G.wx ?_ | refine G.wt ?_ | refine G.wf ?_)
        (first | refine G.take rfl ?_ | refine G.take_yes rfl rfl rfl (by first | rfl | assumption) ?_); (first | refine R.callD Try.func19 rfl (by decide) rfl rfl (hpay) ?_ | refine R.callD0 Try.func19 rfl (by decide) rfl (hpay) ?_); simp only [List.cons_append, List.nil_append]
        repeat (first | refine G.w0 ?_ | refine G.w1 ?_ | refine G.wn ?_ | refine GR.w ?_ | (refine G.ws (h := ?_); try (simp only [Nat.reduceAdd, Nat.zero_add, List.set_cons_succ, List.set_cons_zero])) | (refine G.wb ?_; intro bx) | (refine G.wz ?_; intro bx) | refine G.wa (h := ?_) | refine G.seq ?_ | refine G.region ?_ | refine G.nil ?_ | refine G.block ?_ | refine G.skip ?_ | refine G.blk ?_ | refine G.wx ?_ | refine G.wt ?_ | refine G.wf ?_)
        (first | refine G.take rfl ?_ | refine G.take_yes rfl rfl rfl (by first | rfl | assumption) ?_); (first | refine R.callD Try.func12 rfl (by decide) rfl rfl (hinfo) ?_ | refine R.callD0 Try.func12 rfl (by decide) rfl (hinfo) ?_); simp only [List.cons_append, List.nil_append]
        repeat (first | refine G.w0 ?_ | refine G.w1 ?_ | refine G.wn ?_ | refine GR.w ?_ | (refine G.ws (h := ?_); try (simp only [Nat.reduceAdd, Nat.zero_add, List.set_cons_succ, List.set_cons_zero])) | (refine G.wb ?_; intro bx) | (refine G.wz ?_; intro bx) | refine G.wa (h := ?_))
        revert bx
        intro yb
        refine G.isC yb (infoCells r) rfl ?_
        repeat (first | refine G.w0 ?_ | refine G.w1 ?_ | refine G.wn ?_ | refine GR.w ?_ | (refine G.ws (h := ?_); try (simp only [Nat.reduceAdd, Nat.zero_add, List.set_cons_succ, List.set_cons_zero])) | (refine G.wb ?_; intro bx) | (refine G.wz ?_; intro bx) | refine G.wa (h := ?_) | refine G.seq ?_ | refine G.region ?_ | refine G.nil ?_ | refine G.block ?_ | refine G.skip ?_ | refine G.blk ?_ | refine G.wx ?_ | refine G.wt ?_ | refine G.wf ?_)
        refine G.take_yes rfl rfl rfl rfl ?_
        refine GR.ok (Ok.eqlA (xs := infoCells r) (ys := infoCells r) rfl rfl rfl rfl rfl rfl) rfl rfl ?_
        repeat (first | refine G.w0 ?_ | refine G.w1 ?_ | refine G.wn ?_ | refine GR.w ?_ | (refine G.ws (h := ?_); try (simp only [Nat.reduceAdd, Nat.zero_add, List.set_cons_succ, List.set_cons_zero])) | (refine G.wb ?_; intro bx) | (refine G.wz ?_; intro bx) | refine G.wa (h := ?_) | refine G.seq ?_ | refine G.region ?_ | refine G.nil ?_ | refine G.block ?_ | refine G.skip ?_ | refine G.blk ?_ | refine G.wx ?_ | refine G.wt ?_ | refine G.wf ?_)
        first | refine G.retK [Old W] rfl Try.func4 rfl Res.nil ?_ | refine G.retK [Old W] rfl Try.func4 rfl (Res.tmp rfl Res.nil) ?_ | refine G.retK [Old W] rfl Try.func4 rfl (Res.tmp rfl (Res.tmp rfl Res.nil)) ?_ | refine G.retK [Old W] rfl Try.func4 rfl (Res.tmp rfl (Res.tmp rfl (Res.tmp rfl Res.nil))) ?_ | refine G.retK [Old W] rfl Try.func4 rfl (Res.cellA rfl rfl rfl Res.nil) ?_ | refine G.retK [Old W] rfl Try.func4 rfl (Res.cellA rfl rfl rfl (Res.tmp rfl Res.nil)) ?_ | refine G.retK [Old W] rfl Try.func4 rfl (Res.cell rfl rfl Res.nil) ?_
        exact ⟨congrArg Value.bool (info_eq r), rfl⟩
    have hb5 : decide (qgood q ∧ qle q (qleft r)) = true := decide_eq_true ⟨hg, hf⟩
    have hb6 : (!decide (qgood q ∧ qle q (qleft r))) = false := by rw [hb5]; rfl
    obtain ⟨rs2, last2, r2, ht2, hr2, w1, w2, w3, hcase⟩ := create_max ht hr hg hf
    have hn16 := live_alike hal ht.len
    generalize createF rs last e MaxSer q = c at hcr hcase
    (first | refine G.take rfl ?_ | refine G.take_yes rfl rfl rfl (by first | rfl | assumption) ?_); (first | refine R.callD Try.func18 rfl (by decide) rfl rfl (hcr) ?_ | refine R.callD0 Try.func18 rfl (by decide) rfl (hcr) ?_); simp only [List.cons_append, List.nil_append]
    repeat (first | refine G.w0 ?_ | refine G.w1 ?_ | refine G.wn ?_ | refine GR.w ?_ | (refine G.ws (h := ?_); try (simp only [Nat.reduceAdd, Nat.zero_add, List.set_cons_succ, List.set_cons_zero])) | (refine G.wb ?_; intro bx) | (refine G.wz ?_; intro bx) | refine G.wa (h := ?_))
    refine G.nil ?_
    refine G.seq ?_
    refine G.cutW [(15, .bool (decide (qgood q ∧ qle q (qleft r)))), (14, .bool (decide (qgood q))), (10, ptr (some xb)), (8, ptr (some B)), (7, ptr (some T)), (5, ptr (some qb)), (1, i64 e)] [cb xb (infoCells r) 40, cb qb (qtCells q) 32, Table T last2 rs2, Book B (livesOf rs) last, Old W] (fun k' Q' hk => ?_) ?_
    · refine G.open (Book B (livesOf rs) last) rfl ?_
      rintro paid ⟨hl, hpd⟩
      simp only [List.cons_append, List.nil_append]
      refine G.isC B (bookCells (livesOf rs) paid last) rfl ?_
      repeat (first | refine G.w0 ?_ | refine G.w1 ?_ | refine G.wn ?_ | refine GR.w ?_ | (refine G.ws (h := ?_); try (simp only [Nat.reduceAdd, Nat.zero_add, List.set_cons_succ, List.set_cons_zero])) | (refine G.wb ?_; intro bx) | (refine G.wz ?_; intro bx) | refine G.wa (h := ?_) | refine G.seq ?_ | refine G.region ?_ | refine G.nil ?_ | refine G.block ?_ | refine G.skip ?_ | refine G.blk ?_ | refine G.wx ?_ | refine G.wt ?_ | refine G.wf ?_)
      (first | refine G.take rfl ?_ | refine G.take_yes rfl rfl rfl (by first | rfl | assumption) ?_)
      refine GR.ok (Ok.load rfl (book_last hl hpd)) rfl rfl ?_
      rcases hcase with ⟨hm, rfl, rfl, rfl⟩ | ⟨hm, hor, rfl, rfl, rfl⟩ | ⟨hm, hne, hfr, n, rs1, rfl, ht1, hd0, rfl, rfl⟩
      · have hb3 : decide (MaxSer ≤ last2) = true := decide_eq_true hm
        repeat (first | refine G.w0 ?_ | refine G.w1 ?_ | refine G.wn ?_ | refine GR.w ?_ | (refine G.ws (h := ?_); try (simp only [Nat.reduceAdd, Nat.zero_add, List.set_cons_succ, List.set_cons_zero])) | (refine G.wb ?_; intro bx) | (refine G.wz ?_; intro bx) | refine G.wa (h := ?_) | refine G.seq ?_ | refine G.region ?_ | refine G.nil ?_ | refine G.block ?_ | refine G.skip ?_ | refine G.blk ?_ | refine G.wx ?_ | refine G.wt ?_ | refine G.wf ?_)
        refine G.close (Book B (livesOf rs2) last2) rfl (paid) (⟨hl, hpd⟩) (by dsimp only) ?_
        refine G.keep [cb xb (infoCells r) 40, cb qb (qtCells q) 32, Table T last2 rs2, Book B (livesOf rs2) last2, Old W] ?_
        exact hk.forget _ (Env.le_cons rfl (Env.le_cons rfl (Env.le_cons rfl (Env.le_cons rfl (Env.le_cons rfl (Env.le_cons rfl (Env.le_cons rfl (Env.le_nil _))))))))
      · have hb3 : decide (MaxSer ≤ last2) = false := decide_eq_false (by omega)
        by_cases hqe : q.e = (qleft r).e
        · have hb7 : decide (q.e = (qleft r).e) = true := decide_eq_true hqe
          repeat (first | refine G.w0 ?_ | refine G.w1 ?_ | refine G.wn ?_ | refine GR.w ?_ | (refine G.ws (h := ?_); try (simp only [Nat.reduceAdd, Nat.zero_add, List.set_cons_succ, List.set_cons_zero])) | (refine G.wb ?_; intro bx) | (refine G.wz ?_; intro bx) | refine G.wa (h := ?_) | refine G.seq ?_ | refine G.region ?_ | refine G.nil ?_ | refine G.block ?_ | refine G.skip ?_ | refine G.blk ?_ | refine G.wx ?_ | refine G.wt ?_ | refine G.wf ?_)
          refine G.close (Book B (livesOf rs2) last2) rfl (paid) (⟨hl, hpd⟩) (by dsimp only) ?_
          refine G.keep [cb xb (infoCells r) 40, cb qb (qtCells q) 32, Table T last2 rs2, Book B (livesOf rs2) last2, Old W] ?_
          exact hk.forget _ (Env.le_cons rfl (Env.le_cons rfl (Env.le_cons rfl (Env.le_cons rfl (Env.le_cons rfl (Env.le_cons rfl (Env.le_cons rfl (Env.le_nil _))))))))
        · have hb7 : decide (q.e = (qleft r).e) = false := decide_eq_false hqe
          have hn := hn16.2 (hor.resolve_left hqe)
          have hb8 : decide (((liveTo ps 16).length : Int) = 16) = true := decide_eq_true (by omega)
          repeat (first | refine G.w0 ?_ | refine G.w1 ?_ | refine G.wn ?_ | refine GR.w ?_ | (refine G.ws (h := ?_); try (simp only [Nat.reduceAdd, Nat.zero_add, List.set_cons_succ, List.set_cons_zero])) | (refine G.wb ?_; intro bx) | (refine G.wz ?_; intro bx) | refine G.wa (h := ?_) | refine G.seq ?_ | refine G.region ?_ | refine G.nil ?_ | refine G.block ?_ | refine G.skip ?_ | refine G.blk ?_ | refine G.wx ?_ | refine G.wt ?_ | refine G.wf ?_)
          refine G.close (Book B (livesOf rs2) last2) rfl (paid) (⟨hl, hpd⟩) (by dsimp only) ?_
          refine G.keep [cb xb (infoCells r) 40, cb qb (qtCells q) 32, Table T last2 rs2, Book B (livesOf rs2) last2, Old W] ?_
          exact hk.forget _ (Env.le_cons rfl (Env.le_cons rfl (Env.le_cons rfl (Env.le_cons rfl (Env.le_cons rfl (Env.le_cons rfl (Env.le_cons rfl (Env.le_nil _))))))))
      · have hb3 : decide (MaxSer ≤ last) = false := decide_eq_false (by omega)
        have hb7 : decide (q.e = (qleft r).e) = false := decide_eq_false hne
        have hb8 : decide (((liveTo ps 16).length : Int) = 16) = false := decide_eq_false (fun h => hfr (hn16.1 (by omega)))
        have hdes := Destroy_ok T MaxSer rs1 n (fun r hr h0 => ht1.canEnd hr h0)
        rw [hd0] at hdes
        repeat (first | refine G.w0 ?_ | refine G.w1 ?_ | refine G.wn ?_ | refine GR.w ?_ | (refine G.ws (h := ?_); try (simp only [Nat.reduceAdd, Nat.zero_add, List.set_cons_succ, List.set_cons_zero])) | (refine G.wb ?_; intro bx) | (refine G.wz ?_; intro bx) | refine G.wa (h := ?_) | refine G.seq ?_ | refine G.region ?_ | refine G.nil ?_ | refine G.block ?_ | refine G.skip ?_ | refine G.blk ?_ | refine G.wx ?_ | refine G.wt ?_ | refine G.wf ?_)
        (first | refine G.take rfl ?_ | refine G.take_yes rfl rfl rfl (by first | rfl | assumption) ?_); (first | refine R.callQ Try.func24 rfl (by decide) rfl rfl (hdes) ?_ | refine R.callQ0 Try.func24 rfl (by decide) rfl (hdes) ?_); (rintro _ _ ⟨sv, rfl, rfl⟩ <;> simp only [List.cons_append, List.nil_append])
        repeat (first | refine G.w0 ?_ | refine G.w1 ?_ | refine G.wn ?_ | refine GR.w ?_ | (refine G.ws (h := ?_); try (simp only [Nat.reduceAdd, Nat.zero_add, List.set_cons_succ, List.set_cons_zero])) | (refine G.wb ?_; intro bx) | (refine G.wz ?_; intro bx) | refine G.wa (h := ?_) | refine G.seq ?_ | refine G.region ?_ | refine G.nil ?_ | refine G.block ?_ | refine G.skip ?_ | refine G.blk ?_ | refine G.wx ?_ | refine G.wt ?_ | refine G.wf ?_)
        refine G.close (Book B (livesOf rs) last) rfl (paid) (⟨hl, hpd⟩) (by dsimp only) ?_
        refine G.keep [cb xb (infoCells r) 40, cb qb (qtCells q) 32, Table T MaxSer (destroyF rs1 n).2, Book B (livesOf rs) last, Old W] ?_
        exact hk.forget _ (Env.le_cons rfl (Env.le_cons rfl (Env.le_cons rfl (Env.le_cons rfl (Env.le_cons rfl (Env.le_cons rfl (Env.le_cons rfl (Env.le_nil _))))))))
    have hpay2 := Pay_ok T last2 rs2 e q (fun r hr => ht2.ok e r hr)
    have hlq : qleft r2 = qleft r := by unfold qleft; rw [w1, w2, w3]
    have hp2 : payRec q r2 = (0, { r2 with paid := qadd r2.paid q }) := by unfold payRec; rw [if_pos hg, hlq, if_pos hf]
    have ht3 := ht2.onRec (mild_pay q) e
    simp only [onRec, hr2, hp2] at hpay2 ht3
    have hl2 := getr_lt hr2
    have hg3 : getr (rs2.set e.toNat (some { r2 with paid := qadd r2.paid q })) e = some { r2 with paid := qadd r2.paid q } := by rw [getr_set hl2.1 hl2.2, if_pos rfl]
    generalize rs2.set e.toNat (some { r2 with paid := qadd r2.paid q }) = rs3 at hpay2 ht3 hg3
    have hinfo3 := Info_ok T last2 rs3 e (fun r hr => ht3.ok _ r hr)
    simp only [infoOf, errOf, hg3] at hinfo3
    have href := Refund_ok T last2 rs3 e q (fun r hr => ht3.ok e r hr)
    have hpaid : qgood r2.paid := (ht2.ok e r2 hr2).2.1
    have hrf : refundRec q { r2 with paid := qadd r2.paid q } = (0, { r2 with paid := qsub (qadd r2.paid q) q }) := by
      unfold refundRec
      rw [if_pos ⟨hg, by unfold qgood at hpaid; unfold qle qadd; dsimp only; omega⟩]
    simp only [onRec, hg3, hrf] at href
    have hsp := add_ok (qleft r) q (-1)
    rw [hadd hg] at hsp
    repeat (first | refine G.w0 ?_ | refine G.w1 ?_ | refine G.wn ?_ | refine GR.w ?_ | (refine G.ws (h := ?_); try (simp only [Nat.reduceAdd, Nat.zero_add, List.set_cons_succ, List.set_cons_zero])) | (refine G.wb ?_; intro bx) | (refine G.wz ?_; intro bx) | refine G.wa (h := ?_) | refine G.seq ?_ | refine G.region ?_ | refine G.nil ?_ | refine G.block ?_ | refine G.skip ?_ | refine G.blk ?_ | refine G.wx ?_ | refine G.wt ?_ | refine G.wf ?_)
    (first | refine G.take rfl ?_ | refine G.take_yes rfl rfl rfl (by first | rfl | assumption) ?_); (first | refine R.callD Try.func19 rfl (by decide) rfl rfl (hpay2) ?_ | refine R.callD0 Try.func19 rfl (by decide) rfl (hpay2) ?_); simp only [List.cons_append, List.nil_append]
    repeat (first | refine G.w0 ?_ | refine G.w1 ?_ | refine G.wn ?_ | refine GR.w ?_ | (refine G.ws (h := ?_); try (simp only [Nat.reduceAdd, Nat.zero_add, List.set_cons_succ, List.set_cons_zero])) | (refine G.wb ?_; intro bx) | (refine G.wz ?_; intro bx) | refine G.wa (h := ?_) | refine G.seq ?_ | refine G.region ?_ | refine G.nil ?_ | refine G.block ?_ | refine G.skip ?_ | refine G.blk ?_ | refine G.wx ?_ | refine G.wt ?_ | refine G.wf ?_)
    (first | refine G.take rfl ?_ | refine G.take_yes rfl rfl rfl (by first | rfl | assumption) ?_); (first | refine R.callD Try.func12 rfl (by decide) rfl rfl (hinfo3) ?_ | refine R.callD0 Try.func12 rfl (by decide) rfl (hinfo3) ?_); simp only [List.cons_append, List.nil_append]
    repeat (first | refine G.w0 ?_ | refine G.w1 ?_ | refine G.wn ?_ | refine GR.w ?_ | (refine G.ws (h := ?_); try (simp only [Nat.reduceAdd, Nat.zero_add, List.set_cons_succ, List.set_cons_zero])) | (refine G.wb ?_; intro bx) | (refine G.wz ?_; intro bx) | refine G.wa (h := ?_))
    revert bx
    intro yb
    refine G.isC yb (infoCells { r2 with paid := qadd r2.paid q }) rfl ?_
    repeat (first | refine G.w0 ?_ | refine G.w1 ?_ | refine G.wn ?_ | refine GR.w ?_ | (refine G.ws (h := ?_); try (simp only [Nat.reduceAdd, Nat.zero_add, List.set_cons_succ, List.set_cons_zero])) | (refine G.wb ?_; intro bx) | (refine G.wz ?_; intro bx) | refine G.wa (h := ?_) | refine G.seq ?_ | refine G.region ?_ | refine G.nil ?_ | refine G.block ?_ | refine G.skip ?_ | refine G.blk ?_ | refine G.wx ?_ | refine G.wt ?_ | refine G.wf ?_)
    have heq : eqCells [(0, .int .i64), (1, .int .i64), (2, .int .i64)] (qtCells (qleft { r2 with paid := qadd r2.paid q })) (qtCells (qsub (qleft r) q)) = true := by
      refine (eqCells_iff (n := 3) rfl rfl rfl rfl rfl).2 ?_
      rw [← hlq]
      congr 1
      simp only [qleft, qsub, qadd, Qt.mk.injEq]
      omega
    (repeat refine G.seq ?_); refine G.drawS [(.pur, 0), (.pur, 1), (.pur, 2), (.pur, 3), (.look, 4), (.pur, 5), (.look, 6), (.look, 7), (.look, 8), (.pur, 9), (.pur, 10), (.pur, 11), (.pur, 12), (.pur, 13), (.look, 14), (.act, 15), (.pur, 16), (.pur, 17), (.pur, 18)] (by kernel_rfl) (by kernel_rfl) rfl ?_
    repeat (first | refine EVS.wq ?_ | refine EVS.wp ?_ | refine EVS.wn ?_ | refine EVS.w0 ?_ | refine EVS.wy ?_ | (refine EVS.ws (h := ?_); try (simp only [Nat.reduceAdd, Nat.zero_add, List.set_cons_succ, List.set_cons_zero])) | refine EVS.wa (h := ?_) | (refine EVS.wb ?_; intro bx) | (refine EVS.wz ?_; intro bx) | refine EVS.wm ?_ | refine EVS.done ?_)
    refine EVS.oky rfl rfl rfl (Ok.callD Try.func22 rfl (by decide) rfl (hsp)) ?_
    refine EVS.pury rfl rfl rfl (fun _ => Ok.eqlA (xs := qtCells (qleft { r2 with paid := qadd r2.paid q })) (ys := qtCells (qsub (qleft r) q)) rfl rfl rfl rfl rfl rfl) ?_
    repeat (first | refine EVS.wq ?_ | refine EVS.wp ?_ | refine EVS.wn ?_ | refine EVS.w0 ?_ | refine EVS.wy ?_ | (refine EVS.ws (h := ?_); try (simp only [Nat.reduceAdd, Nat.zero_add, List.set_cons_succ, List.set_cons_zero])) | refine EVS.wa (h := ?_) | (refine EVS.wb ?_; intro bx) | (refine EVS.wz ?_; intro bx) | refine EVS.wm ?_ | refine EVS.done ?_)
    refine EVS.callQy rfl rfl (by first | rfl | assumption) Try.func20 rfl (by decide) rfl (href) ?_; (rintro _ _ ⟨rfl, rfl⟩ <;> simp only [List.cons_append, List.nil_append])
    repeat (first | refine EVS.wq ?_ | refine EVS.wp ?_ | refine EVS.wn ?_ | refine EVS.w0 ?_ | refine EVS.wy ?_ | (refine EVS.ws (h := ?_); try (simp only [Nat.reduceAdd, Nat.zero_add, List.set_cons_succ, List.set_cons_zero])) | refine EVS.wa (h := ?_) | (refine EVS.wb ?_; intro bx) | (refine EVS.wz ?_; intro bx) | refine EVS.wm ?_ | refine EVS.done ?_)
    repeat (first | refine G.w0 ?_ | refine G.w1 ?_ | refine G.wn ?_ | refine GR.w ?_ | (refine G.ws (h := ?_); try (simp only [Nat.reduceAdd, Nat.zero_add, List.set_cons_succ, List.set_cons_zero])) | (refine G.wb ?_; intro bx) | (refine G.wz ?_; intro bx) | refine G.wa (h := ?_) | refine G.seq ?_ | refine G.region ?_ | refine G.nil ?_ | refine G.block ?_ | refine G.skip ?_ | refine G.blk ?_ | refine G.wx ?_ | refine G.wt ?_ | refine G.wf ?_)
    first | refine G.retK [Old W] rfl Try.func4 rfl Res.nil ?_ | refine G.retK [Old W] rfl Try.func4 rfl (Res.tmp rfl Res.nil) ?_ | refine G.retK [Old W] rfl Try.func4 rfl (Res.tmp rfl (Res.tmp rfl Res.nil)) ?_ | refine G.retK [Old W] rfl Try.func4 rfl (Res.tmp rfl (Res.tmp rfl (Res.tmp rfl Res.nil))) ?_ | refine G.retK [Old W] rfl Try.func4 rfl (Res.cellA rfl rfl rfl Res.nil) ?_ | refine G.retK [Old W] rfl Try.func4 rfl (Res.cellA rfl rfl rfl (Res.tmp rfl Res.nil)) ?_ | refine G.retK [Old W] rfl Try.func4 rfl (Res.cell rfl rfl Res.nil) ?_
    exact ⟨rfl, rfl⟩
end Go.Proofs.Ytffcilmllebdmaa
