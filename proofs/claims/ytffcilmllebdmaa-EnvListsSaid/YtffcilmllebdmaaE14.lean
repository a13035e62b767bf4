/- The statements' own helpers. -/
import Derived.Test.YtffcilmllebdmaaE13
namespace Go.Proofs.Ytffcilmllebdmaa
open Go.Am
set_option maxHeartbeats 4000000
set_option linter.unusedVariables false
set_option linter.unusedSimpArgs false
attribute [local irreducible] Ok GR G Fun OpRun EVS

/-- p + s * q, as Go reckons. -/
def addF (p q : Qt) (s : Int) : Qt := ⟨IntKind.i64.wrap (p.f + IntKind.i64.wrap (s * q.f)), IntKind.i64.wrap (p.e + IntKind.i64.wrap (s * q.e)), IntKind.i64.wrap (p.x + IntKind.i64.wrap (s * q.x))⟩
theorem add_ok (p q : Qt) (s : Int) : Fun Try.prog 22 [qtVal p, qtVal q, i64 s] [] (Ret (qtVal (addF p q s)) []) := by
  refine Fun.enter Try.func22 rfl rfl rfl ?_
  repeat (first | refine G.w0 ?_ | refine G.w1 ?_ | refine G.wn ?_ | refine GR.w ?_ | (refine G.ws (h := ?_); try (simp only [Nat.reduceAdd, Nat.zero_add, List.set_cons_succ, List.set_cons_zero])) | (refine G.wb ?_; intro bx) | (refine G.wz ?_; intro bx) | refine G.wa (h := ?_) | refine G.seq ?_ | refine G.region ?_ | refine G.nil ?_ | refine G.block ?_ | refine G.skip ?_ | refine G.blk ?_ | refine G.wx ?_ | refine G.wt ?_ | refine G.wf ?_)
  first | refine G.retK [] rfl Try.func22 rfl Res.nil ?_ | refine G.retK [] rfl Try.func22 rfl (Res.tmp rfl Res.nil) ?_ | refine G.retK [] rfl Try.func22 rfl (Res.tmp rfl (Res.tmp rfl Res.nil)) ?_ | refine G.retK [] rfl Try.func22 rfl (Res.tmp rfl (Res.tmp rfl (Res.tmp rfl Res.nil))) ?_ | refine G.retK [] rfl Try.func22 rfl (Res.cellA rfl rfl rfl Res.nil) ?_ | refine G.retK [] rfl Try.func22 rfl (Res.cellA rfl rfl rfl (Res.tmp rfl Res.nil)) ?_ | refine G.retK [] rfl Try.func22 rfl (Res.cell rfl rfl Res.nil) ?_
  exact ⟨rfl, rfl⟩

/-- The statement's own book. -/
def Book (B : Nat) (lives : List Bool) (last : Int) : HProp :=
  Pk (fun paid : List Qt => lives.length = 16 ∧ paid.length = 16) fun paid => [cb B (lives.map .bool ++ paid.flatMap qtCells ++ [i64 last]) 53]

def livesF (lives : List Bool) (e : Int) : Bool := decide (0 ≤ e) && decide (e < 16) && lives.getD e.toNat false

theorem lives_ok (B : Nat) (lives : List Bool) (last e : Int) : Fun Try.prog 16 [ptr (some B), i64 e] [Book B lives last] (Ret (.bool (livesF lives e)) [Book B lives last]) := by
  refine Fun.enter Try.func16 rfl rfl rfl ?_
  refine G.open (Book B lives last) rfl ?_
  rintro paid ⟨hl, hpd⟩
  simp only [List.cons_append, List.nil_append]
  by_cases h0 : 0 ≤ e
  rotate_left
  · have hb : decide (0 ≤ e) = false := by simpa using h0
    repeat (first | refine G.w0 ?_ | refine G.w1 ?_ | refine G.wn ?_ | refine GR.w ?_ | (refine G.ws (h := ?_); try (simp only [Nat.reduceAdd, Nat.zero_add, List.set_cons_succ, List.set_cons_zero])) | (refine G.wb ?_; intro bx) | (refine G.wz ?_; intro bx) | refine G.wa (h := ?_) | refine G.seq ?_ | refine G.region ?_ | refine G.nil ?_ | refine G.block ?_ | refine G.skip ?_ | refine G.blk ?_ | refine G.wx ?_ | refine G.wt ?_ | refine G.wf ?_)
    refine G.close (Book B lives last) rfl (paid) (⟨hl, hpd⟩) (by dsimp only) ?_
    first | refine G.retK [Book B lives last] rfl Try.func16 rfl Res.nil ?_ | refine G.retK [Book B lives last] rfl Try.func16 rfl (Res.tmp rfl Res.nil) ?_ | refine G.retK [Book B lives last] rfl Try.func16 rfl (Res.tmp rfl (Res.tmp rfl Res.nil)) ?_ | refine G.retK [Book B lives last] rfl Try.func16 rfl (Res.tmp rfl (Res.tmp rfl (Res.tmp rfl Res.nil))) ?_ | refine G.retK [Book B lives last] rfl Try.func16 rfl (Res.cellA rfl rfl rfl Res.nil) ?_ | refine G.retK [Book B lives last] rfl Try.func16 rfl (Res.cellA rfl rfl rfl (Res.tmp rfl Res.nil)) ?_ | refine G.retK [Book B lives last] rfl Try.func16 rfl (Res.cell rfl rfl Res.nil) ?_
    exact ⟨by simp [packRes, livesF, hb], rfl⟩
  have hb : decide (0 ≤ e) = true := by simpa using h0
  by_cases h1 : e < 16
  rotate_left
  · have hb1 : decide (e < 16) = false := by simpa using h1
    repeat (first | refine G.w0 ?_ | refine G.w1 ?_ | refine G.wn ?_ | refine GR.w ?_ | (refine G.ws (h := ?_); try (simp only [Nat.reduceAdd, Nat.zero_add, List.set_cons_succ, List.set_cons_zero])) | (refine G.wb ?_; intro bx) | (refine G.wz ?_; intro bx) | refine G.wa (h := ?_) | refine G.seq ?_ | refine G.region ?_ | refine G.nil ?_ | refine G.block ?_ | refine G.skip ?_ | refine G.blk ?_ | refine G.wx ?_ | refine G.wt ?_ | refine G.wf ?_)
    refine G.close (Book B lives last) rfl (paid) (⟨hl, hpd⟩) (by dsimp only) ?_
    first | refine G.retK [Book B lives last] rfl Try.func16 rfl Res.nil ?_ | refine G.retK [Book B lives last] rfl Try.func16 rfl (Res.tmp rfl Res.nil) ?_ | refine G.retK [Book B lives last] rfl Try.func16 rfl (Res.tmp rfl (Res.tmp rfl Res.nil)) ?_ | refine G.retK [Book B lives last] rfl Try.func16 rfl (Res.tmp rfl (Res.tmp rfl (Res.tmp rfl Res.nil))) ?_ | refine G.retK [Book B lives last] rfl Try.func16 rfl (Res.cellA rfl rfl rfl Res.nil) ?_ | refine G.retK [Book B lives last] rfl Try.func16 rfl (Res.cellA rfl rfl rfl (Res.tmp rfl Res.nil)) ?_ | refine G.retK [Book B lives last] rfl Try.func16 rfl (Res.cell rfl rfl Res.nil) ?_
    exact ⟨by simp [packRes, livesF, hb1], rfl⟩
  have hb1 : decide (e < 16) = true := by simpa using h1
  have hidx : 0 ≤ e ∧ e < ((16 : Nat) : Int) := ⟨h0, h1⟩
  repeat (first | refine G.w0 ?_ | refine G.w1 ?_ | refine G.wn ?_ | refine GR.w ?_ | (refine G.ws (h := ?_); try (simp only [Nat.reduceAdd, Nat.zero_add, List.set_cons_succ, List.set_cons_zero])) | (refine G.wb ?_; intro bx) | (refine G.wz ?_; intro bx) | refine G.wa (h := ?_) | refine G.seq ?_ | refine G.region ?_ | refine G.nil ?_ | refine G.block ?_ | refine G.skip ?_ | refine G.blk ?_ | refine G.wx ?_ | refine G.wt ?_ | refine G.wf ?_)
  have hlt : e.toNat < lives.length := by omega
  have hcell : (lives.map Value.bool ++ paid.flatMap qtCells ++ [i64 last])[0 + e.toNat * 1]? = some (.bool lives[e.toNat]) := by
    simp [List.getElem?_append, hlt]
  (first | refine G.take rfl ?_ | refine G.take_yes rfl rfl rfl (by first | rfl | assumption) ?_)
  refine GR.ok (Ok.load rfl hcell) rfl rfl ?_
  repeat (first | refine G.w0 ?_ | refine G.w1 ?_ | refine G.wn ?_ | refine GR.w ?_ | (refine G.ws (h := ?_); try (simp only [Nat.reduceAdd, Nat.zero_add, List.set_cons_succ, List.set_cons_zero])) | (refine G.wb ?_; intro bx) | (refine G.wz ?_; intro bx) | refine G.wa (h := ?_) | refine G.seq ?_ | refine G.region ?_ | refine G.nil ?_ | refine G.block ?_ | refine G.skip ?_ | refine G.blk ?_ | refine G.wx ?_ | refine G.wt ?_ | refine G.wf ?_)
  refine G.close (Book B lives last) rfl (paid) (⟨hl, hpd⟩) (by dsimp only) ?_
  first | refine G.retK [Book B lives last] rfl Try.func16 rfl Res.nil ?_ | refine G.retK [Book B lives last] rfl Try.func16 rfl (Res.tmp rfl Res.nil) ?_ | refine G.retK [Book B lives last] rfl Try.func16 rfl (Res.tmp rfl (Res.tmp rfl Res.nil)) ?_ | refine G.retK [Book B lives last] rfl Try.func16 rfl (Res.tmp rfl (Res.tmp rfl (Res.tmp rfl Res.nil))) ?_ | refine G.retK [Book B lives last] rfl Try.func16 rfl (Res.cellA rfl rfl rfl Res.nil) ?_ | refine G.retK [Book B lives last] rfl Try.func16 rfl (Res.cellA rfl rfl rfl (Res.tmp rfl Res.nil)) ?_ | refine G.retK [Book B lives last] rfl Try.func16 rfl (Res.cell rfl rfl Res.nil) ?_
  exact ⟨by simp [packRes, livesF, h0, h1, hlt], rfl⟩
end Go.Proofs.Ytffcilmllebdmaa
