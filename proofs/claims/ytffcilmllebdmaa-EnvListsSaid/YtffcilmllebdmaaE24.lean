/- Tree, Children, Find; count. -/
import Derived.Test.YtffcilmllebdmaaE22
import Derived.Test.YtffcilmllebdmaaM7
namespace Go.Proofs.Ytffcilmllebdmaa
open Go.Am
set_option maxHeartbeats 4000000
set_option linter.unusedVariables false
set_option linter.unusedSimpArgs false
attribute [local irreducible] Ok GR G Fun OpRun EVS

def treeF (rs : List (Option Rec)) (e : Int) : List Int := match getr rs e with | none => [] | some _ => pre 16 rs e
def kidsF (rs : List (Option Rec)) (e : Int) : List Int := match getr rs e with | none => [] | some r => r.kids

/-- v is a slice of numbers of the call's own. -/
abbrev OwnI (v : Value) (l : List Int) : HProp := OwnS 3 1 v l.length (ints l)

theorem Tree_ok (T : Nat) (last : Int) (rs : List (Option Rec)) (e : Int) (ht : TreeOk rs last) : Fun Try.prog 41 [ptr (some T), i64 e] [Table T last rs]
    (fun v H => ∃ sv, v = .tuple #[sv, i64 (errOf rs e)] ∧ H = [Table T last rs, OwnI sv (treeF rs e)]) := by
  refine Fun.enter Try.func41 rfl rfl rfl ?_
  refine G.open (Table T last rs) rfl ?_
  rintro ⟨S, low, ps⟩ ⟨hlow, hal, hl⟩
  simp only [List.cons_append, List.nil_append]
  rcases hp : getp ps e with _ | b
  · repeat (first | refine G.w0 ?_ | refine G.w1 ?_ | refine G.wn ?_ | refine GR.w ?_ | (refine G.ws (h := ?_); try (simp only [Nat.reduceAdd, Nat.zero_add, List.set_cons_succ, List.set_cons_zero])) | (refine G.wb ?_; intro bx) | (refine G.wz ?_; intro bx) | refine G.wa (h := ?_) | refine G.seq ?_ | refine G.region ?_ | refine G.nil ?_ | refine G.block ?_ | refine G.skip ?_ | refine G.blk ?_ | refine G.wx ?_ | refine G.wt ?_ | refine G.wf ?_)
    (first | refine G.take rfl ?_ | refine G.take_yes rfl rfl rfl (by first | rfl | assumption) ?_); (first | refine R.callD Try.func44 rfl (by decide) rfl rfl (at_ok S low e ps _ hp) ?_ | refine R.callD0 Try.func44 rfl (by decide) rfl (at_ok S low e ps _ hp) ?_); simp only [List.cons_append, List.nil_append]
    repeat (first | refine G.w0 ?_ | refine G.w1 ?_ | refine G.wn ?_ | refine GR.w ?_ | (refine G.ws (h := ?_); try (simp only [Nat.reduceAdd, Nat.zero_add, List.set_cons_succ, List.set_cons_zero])) | (refine G.wb ?_; intro bx) | (refine G.wz ?_; intro bx) | refine G.wa (h := ?_) | refine G.seq ?_ | refine G.region ?_ | refine G.nil ?_ | refine G.block ?_ | refine G.skip ?_ | refine G.blk ?_ | refine G.wx ?_ | refine G.wt ?_ | refine G.wf ?_)
    refine G.close (Table T last rs) rfl ((S, low, ps)) (⟨hlow, hal, hl⟩) (by dsimp only) ?_
    refine G.nilS 3 1 ?_
    first | refine G.retK [Table T last rs, OwnS 3 1 (.slice none 0 0) 0 []] rfl Try.func41 rfl Res.nil ?_ | refine G.retK [Table T last rs, OwnS 3 1 (.slice none 0 0) 0 []] rfl Try.func41 rfl (Res.tmp rfl Res.nil) ?_ | refine G.retK [Table T last rs, OwnS 3 1 (.slice none 0 0) 0 []] rfl Try.func41 rfl (Res.tmp rfl (Res.tmp rfl Res.nil)) ?_ | refine G.retK [Table T last rs, OwnS 3 1 (.slice none 0 0) 0 []] rfl Try.func41 rfl (Res.tmp rfl (Res.tmp rfl (Res.tmp rfl Res.nil))) ?_ | refine G.retK [Table T last rs, OwnS 3 1 (.slice none 0 0) 0 []] rfl Try.func41 rfl (Res.cellA rfl rfl rfl Res.nil) ?_ | refine G.retK [Table T last rs, OwnS 3 1 (.slice none 0 0) 0 []] rfl Try.func41 rfl (Res.cellA rfl rfl rfl (Res.tmp rfl Res.nil)) ?_ | refine G.retK [Table T last rs, OwnS 3 1 (.slice none 0 0) 0 []] rfl Try.func41 rfl (Res.cell rfl rfl Res.nil) ?_
    simp only [treeF, errOf, getr_none hal hp]
    exact ⟨_, rfl, rfl⟩
  · obtain ⟨r, hr⟩ := getr_some hal hp
    have hpl : ps.length = rs.length := hal.length
    repeat (first | refine G.w0 ?_ | refine G.w1 ?_ | refine G.wn ?_ | refine GR.w ?_ | (refine G.ws (h := ?_); try (simp only [Nat.reduceAdd, Nat.zero_add, List.set_cons_succ, List.set_cons_zero])) | (refine G.wb ?_; intro bx) | (refine G.wz ?_; intro bx) | refine G.wa (h := ?_) | refine G.seq ?_ | refine G.region ?_ | refine G.nil ?_ | refine G.block ?_ | refine G.skip ?_ | refine G.blk ?_ | refine G.wx ?_ | refine G.wt ?_ | refine G.wf ?_)
    (first | refine G.take rfl ?_ | refine G.take_yes rfl rfl rfl (by first | rfl | assumption) ?_); (first | refine R.callD Try.func44 rfl (by decide) rfl rfl (at_ok S low e ps _ hp) ?_ | refine R.callD0 Try.func44 rfl (by decide) rfl (at_ok S low e ps _ hp) ?_); simp only [List.cons_append, List.nil_append]
    repeat (first | refine G.w0 ?_ | refine G.w1 ?_ | refine G.wn ?_ | refine GR.w ?_ | (refine G.ws (h := ?_); try (simp only [Nat.reduceAdd, Nat.zero_add, List.set_cons_succ, List.set_cons_zero])) | (refine G.wb ?_; intro bx) | (refine G.wz ?_; intro bx) | refine G.wa (h := ?_) | refine G.seq ?_ | refine G.region ?_ | refine G.nil ?_ | refine G.block ?_ | refine G.skip ?_ | refine G.blk ?_ | refine G.wx ?_ | refine G.wt ?_ | refine G.wf ?_)
    refine G.toK ps rs hpl fun kvs hkl => ?_
    (first | refine G.take rfl ?_ | refine G.take_yes rfl rfl rfl (by first | rfl | assumption) ?_); (first | refine R.callQ Try.func59 rfl (by decide) rfl rfl (walk0_ok T S last low ps rs kvs hal hkl (fun e r h => ht.kids16 h) 16 e (ht.deep16 hr) (by have := ht.pre16 hr; omega)) ?_ | refine R.callQ0 Try.func59 rfl (by decide) rfl (walk0_ok T S last low ps rs kvs hal hkl (fun e r h => ht.kids16 h) 16 e (ht.deep16 hr) (by have := ht.pre16 hr; omega)) ?_); (rintro _ _ ⟨la, lcap, rfl, rfl⟩ <;> simp only [List.cons_append, List.nil_append])
    refine G.ofK ps rs kvs hpl hkl ?_
    repeat (first | refine G.w0 ?_ | refine G.w1 ?_ | refine G.wn ?_ | refine GR.w ?_ | (refine G.ws (h := ?_); try (simp only [Nat.reduceAdd, Nat.zero_add, List.set_cons_succ, List.set_cons_zero])) | (refine G.wb ?_; intro bx) | (refine G.wz ?_; intro bx) | refine G.wa (h := ?_) | refine G.seq ?_ | refine G.region ?_ | refine G.nil ?_ | refine G.block ?_ | refine G.skip ?_ | refine G.blk ?_ | refine G.wx ?_ | refine G.wt ?_ | refine G.wf ?_)
    refine G.close (Table T last rs) rfl ((S, low, ps)) (⟨hlow, hal, hl⟩) (by dsimp only) ?_
    first | refine G.retK [Table T last rs, OwnS 3 1 (.slice la (pre 16 rs e).length lcap) (pre 16 rs e).length (ints (pre 16 rs e))] rfl Try.func41 rfl Res.nil ?_ | refine G.retK [Table T last rs, OwnS 3 1 (.slice la (pre 16 rs e).length lcap) (pre 16 rs e).length (ints (pre 16 rs e))] rfl Try.func41 rfl (Res.tmp rfl Res.nil) ?_ | refine G.retK [Table T last rs, OwnS 3 1 (.slice la (pre 16 rs e).length lcap) (pre 16 rs e).length (ints (pre 16 rs e))] rfl Try.func41 rfl (Res.tmp rfl (Res.tmp rfl Res.nil)) ?_ | refine G.retK [Table T last rs, OwnS 3 1 (.slice la (pre 16 rs e).length lcap) (pre 16 rs e).length (ints (pre 16 rs e))] rfl Try.func41 rfl (Res.tmp rfl (Res.tmp rfl (Res.tmp rfl Res.nil))) ?_ | refine G.retK [Table T last rs, OwnS 3 1 (.slice la (pre 16 rs e).length lcap) (pre 16 rs e).length (ints (pre 16 rs e))] rfl Try.func41 rfl (Res.cellA rfl rfl rfl Res.nil) ?_ | refine G.retK [Table T last rs, OwnS 3 1 (.slice la (pre 16 rs e).length lcap) (pre 16 rs e).length (ints (pre 16 rs e))] rfl Try.func41 rfl (Res.cellA rfl rfl rfl (Res.tmp rfl Res.nil)) ?_ | refine G.retK [Table T last rs, OwnS 3 1 (.slice la (pre 16 rs e).length lcap) (pre 16 rs e).length (ints (pre 16 rs e))] rfl Try.func41 rfl (Res.cell rfl rfl Res.nil) ?_
    simp only [treeF, errOf, hr]
    exact ⟨_, rfl, rfl⟩

theorem plain_ints : ∀ l : List Int, plainCells (ints l) = true
  | [] => rfl
  | x :: l => plain_ints l

theorem Clone_ok (v : Value) (l : List Int) (hl : l.length ≤ 100000) : Fun Try.prog 62 [v] [OwnI v l] (fun v' H => H = [OwnI v l, OwnI v' l]) := by
  refine Fun.enter Try.func62 rfl rfl rfl ?_
  refine G.form v ?_
  rintro a cap rfl
  cases a with
  | none =>
    refine G.fact (p := l = []) (fun g w s => ?_) fun hl0 => ?_
    · rcases OwnS.open s with ⟨_, h1, h2, _⟩ | ⟨b, c1, sp, h1, _⟩
      · exact List.eq_nil_of_length_eq_zero h1
      · cases h1
    subst hl0
    refine G.fact (p := cap = 0) (fun g w s => ?_) fun hc0 => ?_
    · rcases OwnS.open s with ⟨h1, _⟩ | ⟨b, c1, sp, h1, _⟩
      · cases h1; rfl
      · cases h1
    subst hc0
    repeat (first | refine G.w0 ?_ | refine G.w1 ?_ | refine G.wn ?_ | refine GR.w ?_ | (refine G.ws (h := ?_); try (simp only [Nat.reduceAdd, Nat.zero_add, List.set_cons_succ, List.set_cons_zero])) | (refine G.wb ?_; intro bx) | (refine G.wz ?_; intro bx) | refine G.wa (h := ?_) | refine G.seq ?_ | refine G.region ?_ | refine G.nil ?_ | refine G.block ?_ | refine G.skip ?_ | refine G.blk ?_ | refine G.wx ?_ | refine G.wt ?_ | refine G.wf ?_)
    (first | refine G.take rfl ?_ | refine G.take_yes rfl rfl rfl (by first | rfl | assumption) ?_)
    refine GR.ok (Ok.eqlNilS rfl rfl) rfl rfl ?_
    repeat (first | refine G.w0 ?_ | refine G.w1 ?_ | refine G.wn ?_ | refine GR.w ?_ | (refine G.ws (h := ?_); try (simp only [Nat.reduceAdd, Nat.zero_add, List.set_cons_succ, List.set_cons_zero])) | (refine G.wb ?_; intro bx) | (refine G.wz ?_; intro bx) | refine G.wa (h := ?_) | refine G.seq ?_ | refine G.region ?_ | refine G.nil ?_ | refine G.block ?_ | refine G.skip ?_ | refine G.blk ?_ | refine G.wx ?_ | refine G.wt ?_ | refine G.wf ?_)
    refine G.nilS 3 1 ?_
    refine G.sel (OwnI (.slice none 0 0) []) ?_
    refine G.ret rfl Try.func62 rfl rfl rfl ?_
    rfl
  | some ad =>
    repeat (first | refine G.w0 ?_ | refine G.w1 ?_ | refine G.wn ?_ | refine GR.w ?_ | (refine G.ws (h := ?_); try (simp only [Nat.reduceAdd, Nat.zero_add, List.set_cons_succ, List.set_cons_zero])) | (refine G.wb ?_; intro bx) | (refine G.wz ?_; intro bx) | refine G.wa (h := ?_) | refine G.seq ?_ | refine G.region ?_ | refine G.nil ?_ | refine G.block ?_ | refine G.skip ?_ | refine G.blk ?_ | refine G.wx ?_ | refine G.wt ?_ | refine G.wf ?_)
    (first | refine G.take rfl ?_ | refine G.take_yes rfl rfl rfl (by first | rfl | assumption) ?_)
    refine GR.ok (Ok.eqlNilS rfl rfl) rfl rfl ?_
    repeat (first | refine G.w0 ?_ | refine G.w1 ?_ | refine G.wn ?_ | refine GR.w ?_ | (refine G.ws (h := ?_); try (simp only [Nat.reduceAdd, Nat.zero_add, List.set_cons_succ, List.set_cons_zero])) | (refine G.wb ?_; intro bx) | (refine G.wz ?_; intro bx) | refine G.wa (h := ?_) | refine G.seq ?_ | refine G.region ?_ | refine G.nil ?_ | refine G.block ?_ | refine G.skip ?_ | refine G.blk ?_ | refine G.wx ?_ | refine G.wt ?_ | refine G.wf ?_)
    (first | refine G.take rfl ?_ | refine G.take_yes rfl rfl rfl (by first | rfl | assumption) ?_)
    refine R.bs0 (n := 1) (bytes := 8) rfl fun nb => ?_
    repeat (first | refine G.w0 ?_ | refine G.w1 ?_ | refine G.wn ?_ | refine GR.w ?_ | (refine G.ws (h := ?_); try (simp only [Nat.reduceAdd, Nat.zero_add, List.set_cons_succ, List.set_cons_zero])) | (refine G.wb ?_; intro bx) | (refine G.wz ?_; intro bx) | refine G.wa (h := ?_) | refine G.seq ?_ | refine G.region ?_ | refine G.nil ?_ | refine G.block ?_ | refine G.skip ?_ | refine G.blk ?_ | refine G.wx ?_ | refine G.wt ?_ | refine G.wf ?_)
    (first | refine G.take rfl ?_ | refine G.take_yes rfl rfl rfl (by first | rfl | assumption) ?_)
    refine R.appendS (n := 1) (bytes := 8) (z := .int .i64 0) (cs := []) (news := ints l) rfl rfl (by simp [ints]) rfl (plain_ints l) (by omega) (by omega) (by decide) rfl fun a' cap' => ?_
    rw [Nat.zero_add, List.nil_append]
    repeat (first | refine G.w0 ?_ | refine G.w1 ?_ | refine G.wn ?_ | refine GR.w ?_ | (refine G.ws (h := ?_); try (simp only [Nat.reduceAdd, Nat.zero_add, List.set_cons_succ, List.set_cons_zero])) | (refine G.wb ?_; intro bx) | (refine G.wz ?_; intro bx) | refine G.wa (h := ?_) | refine G.seq ?_ | refine G.region ?_ | refine G.nil ?_ | refine G.block ?_ | refine G.skip ?_ | refine G.blk ?_ | refine G.wx ?_ | refine G.wt ?_ | refine G.wf ?_)
    first | refine G.retK [OwnI (.slice (some ad) l.length cap) l, OwnI (.slice a' l.length cap') l] rfl Try.func62 rfl Res.nil ?_ | refine G.retK [OwnI (.slice (some ad) l.length cap) l, OwnI (.slice a' l.length cap') l] rfl Try.func62 rfl (Res.tmp rfl Res.nil) ?_ | refine G.retK [OwnI (.slice (some ad) l.length cap) l, OwnI (.slice a' l.length cap') l] rfl Try.func62 rfl (Res.tmp rfl (Res.tmp rfl Res.nil)) ?_ | refine G.retK [OwnI (.slice (some ad) l.length cap) l, OwnI (.slice a' l.length cap') l] rfl Try.func62 rfl (Res.tmp rfl (Res.tmp rfl (Res.tmp rfl Res.nil))) ?_ | refine G.retK [OwnI (.slice (some ad) l.length cap) l, OwnI (.slice a' l.length cap') l] rfl Try.func62 rfl (Res.cellA rfl rfl rfl Res.nil) ?_ | refine G.retK [OwnI (.slice (some ad) l.length cap) l, OwnI (.slice a' l.length cap') l] rfl Try.func62 rfl (Res.cellA rfl rfl rfl (Res.tmp rfl Res.nil)) ?_ | refine G.retK [OwnI (.slice (some ad) l.length cap) l, OwnI (.slice a' l.length cap') l] rfl Try.func62 rfl (Res.cell rfl rfl Res.nil) ?_
    rfl

theorem Children_ok (T : Nat) (last : Int) (rs : List (Option Rec)) (e : Int) (ht : TreeOk rs last) : Fun Try.prog 25 [ptr (some T), i64 e] [Table T last rs]
    (fun v H => ∃ sv, v = .tuple #[sv, i64 (errOf rs e)] ∧ H = [Table T last rs, OwnI sv (kidsF rs e)]) := by
  refine Fun.enter Try.func25 rfl rfl rfl ?_
  refine G.open (Table T last rs) rfl ?_
  rintro ⟨S, low, ps⟩ ⟨hlow, hal, hl⟩
  simp only [List.cons_append, List.nil_append]
  rcases hp : getp ps e with _ | b
  · repeat (first | refine G.w0 ?_ | refine G.w1 ?_ | refine G.wn ?_ | refine GR.w ?_ | (refine G.ws (h := ?_); try (simp only [Nat.reduceAdd, Nat.zero_add, List.set_cons_succ, List.set_cons_zero])) | (refine G.wb ?_; intro bx) | (refine G.wz ?_; intro bx) | refine G.wa (h := ?_) | refine G.seq ?_ | refine G.region ?_ | refine G.nil ?_ | refine G.block ?_ | refine G.skip ?_ | refine G.blk ?_ | refine G.wx ?_ | refine G.wt ?_ | refine G.wf ?_)
    (first | refine G.take rfl ?_ | refine G.take_yes rfl rfl rfl (by first | rfl | assumption) ?_); (first | refine R.callD Try.func44 rfl (by decide) rfl rfl (at_ok S low e ps _ hp) ?_ | refine R.callD0 Try.func44 rfl (by decide) rfl (at_ok S low e ps _ hp) ?_); simp only [List.cons_append, List.nil_append]
    repeat (first | refine G.w0 ?_ | refine G.w1 ?_ | refine G.wn ?_ | refine GR.w ?_ | (refine G.ws (h := ?_); try (simp only [Nat.reduceAdd, Nat.zero_add, List.set_cons_succ, List.set_cons_zero])) | (refine G.wb ?_; intro bx) | (refine G.wz ?_; intro bx) | refine G.wa (h := ?_) | refine G.seq ?_ | refine G.region ?_ | refine G.nil ?_ | refine G.block ?_ | refine G.skip ?_ | refine G.blk ?_ | refine G.wx ?_ | refine G.wt ?_ | refine G.wf ?_)
    refine G.close (Table T last rs) rfl ((S, low, ps)) (⟨hlow, hal, hl⟩) (by dsimp only) ?_
    refine G.nilS 3 1 ?_
    first | refine G.retK [Table T last rs, OwnS 3 1 (.slice none 0 0) 0 []] rfl Try.func25 rfl Res.nil ?_ | refine G.retK [Table T last rs, OwnS 3 1 (.slice none 0 0) 0 []] rfl Try.func25 rfl (Res.tmp rfl Res.nil) ?_ | refine G.retK [Table T last rs, OwnS 3 1 (.slice none 0 0) 0 []] rfl Try.func25 rfl (Res.tmp rfl (Res.tmp rfl Res.nil)) ?_ | refine G.retK [Table T last rs, OwnS 3 1 (.slice none 0 0) 0 []] rfl Try.func25 rfl (Res.tmp rfl (Res.tmp rfl (Res.tmp rfl Res.nil))) ?_ | refine G.retK [Table T last rs, OwnS 3 1 (.slice none 0 0) 0 []] rfl Try.func25 rfl (Res.cellA rfl rfl rfl Res.nil) ?_ | refine G.retK [Table T last rs, OwnS 3 1 (.slice none 0 0) 0 []] rfl Try.func25 rfl (Res.cellA rfl rfl rfl (Res.tmp rfl Res.nil)) ?_ | refine G.retK [Table T last rs, OwnS 3 1 (.slice none 0 0) 0 []] rfl Try.func25 rfl (Res.cell rfl rfl Res.nil) ?_
    simp only [kidsF, errOf, getr_none hal hp]
    exact ⟨_, rfl, rfl⟩
  · obtain ⟨r, hr⟩ := getr_some hal hp
    have hk := ht.kids16 hr
    repeat (first | refine G.w0 ?_ | refine G.w1 ?_ | refine G.wn ?_ | refine GR.w ?_ | (refine G.ws (h := ?_); try (simp only [Nat.reduceAdd, Nat.zero_add, List.set_cons_succ, List.set_cons_zero])) | (refine G.wb ?_; intro bx) | (refine G.wz ?_; intro bx) | refine G.wa (h := ?_) | refine G.seq ?_ | refine G.region ?_ | refine G.nil ?_ | refine G.block ?_ | refine G.skip ?_ | refine G.blk ?_ | refine G.wx ?_ | refine G.wt ?_ | refine G.wf ?_)
    (first | refine G.take rfl ?_ | refine G.take_yes rfl rfl rfl (by first | rfl | assumption) ?_); (first | refine R.callD Try.func44 rfl (by decide) rfl rfl (at_ok S low e ps _ hp) ?_ | refine R.callD0 Try.func44 rfl (by decide) rfl (at_ok S low e ps _ hp) ?_); simp only [List.cons_append, List.nil_append]
    repeat (first | refine G.w0 ?_ | refine G.w1 ?_ | refine G.wn ?_ | refine GR.w ?_ | (refine G.ws (h := ?_); try (simp only [Nat.reduceAdd, Nat.zero_add, List.set_cons_succ, List.set_cons_zero])) | (refine G.wb ?_; intro bx) | (refine G.wz ?_; intro bx) | refine G.wa (h := ?_) | refine G.seq ?_ | refine G.region ?_ | refine G.nil ?_ | refine G.block ?_ | refine G.skip ?_ | refine G.blk ?_ | refine G.wx ?_ | refine G.wt ?_ | refine G.wf ?_)
    refine G.recOut hp hr fun kv => ?_
    repeat (first | refine G.w0 ?_ | refine G.w1 ?_ | refine G.wn ?_ | refine GR.w ?_ | (refine G.ws (h := ?_); try (simp only [Nat.reduceAdd, Nat.zero_add, List.set_cons_succ, List.set_cons_zero])) | (refine G.wb ?_; intro bx) | (refine G.wz ?_; intro bx) | refine G.wa (h := ?_) | refine G.seq ?_ | refine G.region ?_ | refine G.nil ?_ | refine G.block ?_ | refine G.skip ?_ | refine G.blk ?_ | refine G.wx ?_ | refine G.wt ?_ | refine G.wf ?_)
    (first | refine G.take rfl ?_ | refine G.take_yes rfl rfl rfl (by first | rfl | assumption) ?_); (first | refine R.callQ Try.func62 rfl (by decide) rfl rfl (Clone_ok kv r.kids (by omega)) ?_ | refine R.callQ0 Try.func62 rfl (by decide) rfl (Clone_ok kv r.kids (by omega)) ?_); (rintro _ _ rfl <;> simp only [List.cons_append, List.nil_append])
    rename_i sv
    repeat (first | refine G.w0 ?_ | refine G.w1 ?_ | refine G.wn ?_ | refine GR.w ?_ | (refine G.ws (h := ?_); try (simp only [Nat.reduceAdd, Nat.zero_add, List.set_cons_succ, List.set_cons_zero])) | (refine G.wb ?_; intro bx) | (refine G.wz ?_; intro bx) | refine G.wa (h := ?_) | refine G.seq ?_ | refine G.region ?_ | refine G.nil ?_ | refine G.block ?_ | refine G.skip ?_ | refine G.blk ?_ | refine G.wx ?_ | refine G.wt ?_ | refine G.wf ?_)
    refine G.recIn e b r kv rfl rfl ⟨rfl, rfl, rfl, rfl⟩ hp hal ?_
    rw [set_same hr]
    refine G.close (Table T last rs) rfl ((S, low, ps)) (⟨hlow, hal, hl⟩) (by dsimp only) ?_
    first | refine G.retK [Table T last rs, OwnI sv r.kids] rfl Try.func25 rfl Res.nil ?_ | refine G.retK [Table T last rs, OwnI sv r.kids] rfl Try.func25 rfl (Res.tmp rfl Res.nil) ?_ | refine G.retK [Table T last rs, OwnI sv r.kids] rfl Try.func25 rfl (Res.tmp rfl (Res.tmp rfl Res.nil)) ?_ | refine G.retK [Table T last rs, OwnI sv r.kids] rfl Try.func25 rfl (Res.tmp rfl (Res.tmp rfl (Res.tmp rfl Res.nil))) ?_ | refine G.retK [Table T last rs, OwnI sv r.kids] rfl Try.func25 rfl (Res.cellA rfl rfl rfl Res.nil) ?_ | refine G.retK [Table T last rs, OwnI sv r.kids] rfl Try.func25 rfl (Res.cellA rfl rfl rfl (Res.tmp rfl Res.nil)) ?_ | refine G.retK [Table T last rs, OwnI sv r.kids] rfl Try.func25 rfl (Res.cell rfl rfl Res.nil) ?_
    simp only [kidsF, errOf, hr]
    exact ⟨_, rfl, rfl⟩

def countF (l : List Int) (e : Int) : Nat := l.countP fun x => decide (x = e)
theorem count_ok (v : Value) (l : List Int) (e : Int) (hl : l.length ≤ 100000) : Fun Try.prog 30 [v, i64 e] [OwnI v l] (Ret (i64 (countF l e)) [OwnI v l]) := by
  refine Fun.enter Try.func30 rfl rfl rfl ?_
  refine G.form v ?_
  rintro a cap rfl
  repeat (first | refine G.w0 ?_ | refine G.w1 ?_ | refine G.wn ?_ | refine GR.w ?_ | (refine G.ws (h := ?_); try (simp only [Nat.reduceAdd, Nat.zero_add, List.set_cons_succ, List.set_cons_zero])) | (refine G.wb ?_; intro bx) | (refine G.wz ?_; intro bx) | refine G.wa (h := ?_) | refine G.seq ?_ | refine G.region ?_ | refine G.nil ?_ | refine G.block ?_ | refine G.skip ?_ | refine G.blk ?_ | refine G.wx ?_ | refine G.wt ?_ | refine G.wf ?_)
  refine G.loopI (fun i : Nat => [(6, .int .i64 i), (5, i64 (countF (l.take i) e)), (1, i64 e), (0, .slice a l.length cap)]) (fun _ => [OwnI (.slice a l.length cap) l]) (fun i => i ≤ l.length) (fun i => l.length - i) 0 (by omega) (Env.le_cons rfl (Env.le_cons rfl (Env.le_cons rfl (Env.le_cons rfl (Env.le_nil _))))) rfl ?_
  rintro i hi hloop
  by_cases hlt : i < l.length
  · have hb1 : decide ((i : Int) < (l.length : Int)) = true := by simpa using hlt
    have hidx : 0 ≤ (i : Int) ∧ (i : Int) < (l.length : Int) := by omega
    have hw : IntKind.i64.wrap ((i : Int) + 1) = (i : Int) + 1 := wrap_id (by omega) (by omega)
    have hcell : (ints l)[0 + (i : Int).toNat * 1]? = some (i64 l[i]) := by
      rw [show 0 + (i : Int).toNat * 1 = i by simp]; simp [ints, hlt]
    have hc : countF (l.take (i + 1)) e = countF (l.take i) e + (if l[i] = e then 1 else 0) := by
      unfold countF
      rw [List.take_succ_eq_append_getElem hlt, List.countP_append]
      simp [List.countP_cons]
    have hle : countF (l.take i) e ≤ 100000 := Nat.le_trans List.countP_le_length (by simp; omega)
    have hloop' := hloop (i + 1) (by omega) (by omega)
    rw [hc] at hloop'
    refine G.formS (.slice a l.length cap) (by omega) ?_
    rintro sb cap2 hsb hcs
    cases hsb
    repeat (first | refine G.w0 ?_ | refine G.w1 ?_ | refine G.wn ?_ | refine GR.w ?_ | (refine G.ws (h := ?_); try (simp only [Nat.reduceAdd, Nat.zero_add, List.set_cons_succ, List.set_cons_zero])) | (refine G.wb ?_; intro bx) | (refine G.wz ?_; intro bx) | refine G.wa (h := ?_) | refine G.seq ?_ | refine G.region ?_ | refine G.nil ?_ | refine G.block ?_ | refine G.skip ?_ | refine G.blk ?_ | refine G.wx ?_ | refine G.wt ?_ | refine G.wf ?_)
    (first | refine G.take rfl ?_ | refine G.take_yes rfl rfl rfl (by first | rfl | assumption) ?_)
    refine GR.ok (Ok.loadS rfl hcell) rfl rfl ?_
    by_cases he : l[i] = e
    · have hb2 : decide (l[i] = e) = true := decide_eq_true he
      have hw2 : IntKind.i64.wrap ((countF (l.take i) e : Int) + 1) = (countF (l.take i) e : Int) + 1 := wrap_id (by omega) (by omega)
      rw [if_pos he] at hloop'
      repeat (first | refine G.w0 ?_ | refine G.w1 ?_ | refine G.wn ?_ | refine GR.w ?_ | (refine G.ws (h := ?_); try (simp only [Nat.reduceAdd, Nat.zero_add, List.set_cons_succ, List.set_cons_zero])) | (refine G.wb ?_; intro bx) | (refine G.wz ?_; intro bx) | refine G.wa (h := ?_) | refine G.seq ?_ | refine G.region ?_ | refine G.nil ?_ | refine G.block ?_ | refine G.skip ?_ | refine G.blk ?_ | refine G.wx ?_ | refine G.wt ?_ | refine G.wf ?_)
      exact hloop'.forget _ (Env.le_cons rfl (Env.le_cons rfl (Env.le_cons rfl (Env.le_cons rfl (Env.le_nil _)))))
    · have hb2 : decide (l[i] = e) = false := decide_eq_false he
      rw [if_neg he] at hloop'
      repeat (first | refine G.w0 ?_ | refine G.w1 ?_ | refine G.wn ?_ | refine GR.w ?_ | (refine G.ws (h := ?_); try (simp only [Nat.reduceAdd, Nat.zero_add, List.set_cons_succ, List.set_cons_zero])) | (refine G.wb ?_; intro bx) | (refine G.wz ?_; intro bx) | refine G.wa (h := ?_) | refine G.seq ?_ | refine G.region ?_ | refine G.nil ?_ | refine G.block ?_ | refine G.skip ?_ | refine G.blk ?_ | refine G.wx ?_ | refine G.wt ?_ | refine G.wf ?_)
      exact hloop'.forget _ (Env.le_cons rfl (Env.le_cons rfl (Env.le_cons rfl (Env.le_cons rfl (Env.le_nil _)))))
  · have hb1 : decide ((i : Int) < (l.length : Int)) = false := by simpa using hlt
    have hi2 : i = l.length := by omega
    subst hi2
    rw [List.take_length]
    repeat (first | refine G.w0 ?_ | refine G.w1 ?_ | refine G.wn ?_ | refine GR.w ?_ | (refine G.ws (h := ?_); try (simp only [Nat.reduceAdd, Nat.zero_add, List.set_cons_succ, List.set_cons_zero])) | (refine G.wb ?_; intro bx) | (refine G.wz ?_; intro bx) | refine G.wa (h := ?_) | refine G.seq ?_ | refine G.region ?_ | refine G.nil ?_ | refine G.block ?_ | refine G.skip ?_ | refine G.blk ?_ | refine G.wx ?_ | refine G.wt ?_ | refine G.wf ?_)
    first | refine G.retK [OwnI (.slice a l.length cap) l] rfl Try.func30 rfl Res.nil ?_ | refine G.retK [OwnI (.slice a l.length cap) l] rfl Try.func30 rfl (Res.tmp rfl Res.nil) ?_ | refine G.retK [OwnI (.slice a l.length cap) l] rfl Try.func30 rfl (Res.tmp rfl (Res.tmp rfl Res.nil)) ?_ | refine G.retK [OwnI (.slice a l.length cap) l] rfl Try.func30 rfl (Res.tmp rfl (Res.tmp rfl (Res.tmp rfl Res.nil))) ?_ | refine G.retK [OwnI (.slice a l.length cap) l] rfl Try.func30 rfl (Res.cellA rfl rfl rfl Res.nil) ?_ | refine G.retK [OwnI (.slice a l.length cap) l] rfl Try.func30 rfl (Res.cellA rfl rfl rfl (Res.tmp rfl Res.nil)) ?_ | refine G.retK [OwnI (.slice a l.length cap) l] rfl Try.func30 rfl (Res.cell rfl rfl Res.nil) ?_
    exact ⟨rfl, rfl⟩

/-- No environment below number i bears that serial. -/
def NoneTo (rs : List (Option Rec)) (s : Int) (i : Nat) : Prop := ∀ (j : Nat) (r : Rec), j < i → getr rs j = some r → r.serial ≠ s

theorem Find_ok (T : Nat) (last : Int) (rs : List (Option Rec)) (s : Int) : Fun Try.prog 42 [ptr (some T), i64 s] [Table T last rs]
    (fun v H => ∃ n : Int, v = i64 n ∧ H = [Table T last rs] ∧ ((n = -1 ∧ NoneTo rs s 16) ∨ ∃ r, getr rs n = some r ∧ r.serial = s)) := by
  refine Fun.enter Try.func42 rfl rfl rfl ?_
  refine G.open (Table T last rs) rfl ?_
  rintro ⟨S, low, ps⟩ ⟨hlow, hal, hl⟩
  simp only [List.cons_append, List.nil_append]
  (first | refine G.w0 ?_ | refine G.w1 ?_ | refine G.wn ?_ | refine GR.w ?_ | (refine G.ws (h := ?_); try (simp only [Nat.reduceAdd, Nat.zero_add, List.set_cons_succ, List.set_cons_zero])) | (refine G.wb ?_; intro bx) | (refine G.wz ?_; intro bx) | refine G.wa (h := ?_) | refine G.seq ?_ | refine G.region ?_ | refine G.nil ?_ | refine G.block ?_ | refine G.skip ?_ | refine G.blk ?_ | refine G.wx ?_ | refine G.wt ?_ | refine G.wf ?_)
  (first | refine G.w0 ?_ | refine G.w1 ?_ | refine G.wn ?_ | refine GR.w ?_ | (refine G.ws (h := ?_); try (simp only [Nat.reduceAdd, Nat.zero_add, List.set_cons_succ, List.set_cons_zero])) | (refine G.wb ?_; intro bx) | (refine G.wz ?_; intro bx) | refine G.wa (h := ?_) | refine G.seq ?_ | refine G.region ?_ | refine G.nil ?_ | refine G.block ?_ | refine G.skip ?_ | refine G.blk ?_ | refine G.wx ?_ | refine G.wt ?_ | refine G.wf ?_)
  (first | refine G.w0 ?_ | refine G.w1 ?_ | refine G.wn ?_ | refine GR.w ?_ | (refine G.ws (h := ?_); try (simp only [Nat.reduceAdd, Nat.zero_add, List.set_cons_succ, List.set_cons_zero])) | (refine G.wb ?_; intro bx) | (refine G.wz ?_; intro bx) | refine G.wa (h := ?_) | refine G.seq ?_ | refine G.region ?_ | refine G.nil ?_ | refine G.block ?_ | refine G.skip ?_ | refine G.blk ?_ | refine G.wx ?_ | refine G.wt ?_ | refine G.wf ?_)
  revert bx
  intro sb
  repeat (first | refine G.w0 ?_ | refine G.w1 ?_ | refine G.wn ?_ | refine GR.w ?_ | (refine G.ws (h := ?_); try (simp only [Nat.reduceAdd, Nat.zero_add, List.set_cons_succ, List.set_cons_zero])) | (refine G.wb ?_; intro bx) | (refine G.wz ?_; intro bx) | refine G.wa (h := ?_) | refine G.seq ?_ | refine G.region ?_ | refine G.nil ?_ | refine G.block ?_ | refine G.skip ?_ | refine G.blk ?_ | refine G.wx ?_ | refine G.wt ?_ | refine G.wf ?_)
  revert bx
  intro rb
  refine G.isC rb [i64 0] rfl ?_
  (first | refine G.take rfl ?_ | refine G.take_yes rfl rfl rfl (by first | rfl | assumption) ?_); (first | refine R.callQ Try.func58 rfl (by decide) rfl rfl (All_ok S) ?_ | refine R.callQ0 Try.func58 rfl (by decide) rfl (All_ok S) ?_); (rintro _ _ ⟨bt, rfl, rfl⟩ <;> simp only [List.cons_append, List.nil_append])
  repeat (first | refine G.w0 ?_ | refine G.w1 ?_ | refine G.wn ?_ | refine GR.w ?_ | (refine G.ws (h := ?_); try (simp only [Nat.reduceAdd, Nat.zero_add, List.set_cons_succ, List.set_cons_zero])) | (refine G.wb ?_; intro bx) | (refine G.wz ?_; intro bx) | refine G.wa (h := ?_) | refine G.seq ?_ | refine G.region ?_ | refine G.nil ?_ | refine G.block ?_ | refine G.skip ?_ | refine G.blk ?_ | refine G.wx ?_ | refine G.wt ?_ | refine G.wf ?_)
  refine G.putFact (p := NoneTo rs s 0) (fun j r hj => by omega) ?_
  refine G.rangeAll .ret S bt low ps (fun i => [cb rb [i64 0] 3, cb sb [i64 s] 3, Recs ps rs, fact (NoneTo rs s i)]) (fun i => [cb rb [i64 i] 3, Recs ps rs, fact (∃ r, getr rs (i : Nat) = some r ∧ r.serial = s)]) rfl rfl rfl rfl
    (Takes.takes (L := [cb bt [ptr (some S)] 86, Slots S low ps, cb rb [i64 0] 3, cb sb [i64 s] 3, Recs ps rs, fact (NoneTo rs s 0)])) (fun i hi hn => ?_) (fun lo L i b hi hb => ?_) (fun r => ?_) (fun r i b hi hb => ?_)
  · have : NoneTo rs s i = NoneTo rs s (i + 1) := by
      have hnr := getr_none hal hn
      refine propext ⟨fun h j r hj hr => ?_, fun h j r hj hr => h j r (by omega) hr⟩
      by_cases hji : j = i
      · subst hji; rw [hnr] at hr; cases hr
      · exact h j r (by omega) hr
    rw [this]
  · obtain ⟨r, hr⟩ := getr_some hal hb
    refine G.getFact (NoneTo rs s i) fun hnone => ?_
    repeat (first | refine G.w0 ?_ | refine G.w1 ?_ | refine G.wn ?_ | refine GR.w ?_ | (refine G.ws (h := ?_); try (simp only [Nat.reduceAdd, Nat.zero_add, List.set_cons_succ, List.set_cons_zero])) | (refine G.wb ?_; intro bx) | (refine G.wz ?_; intro bx) | refine G.wa (h := ?_) | refine G.seq ?_ | refine G.region ?_ | refine G.nil ?_ | refine G.block ?_ | refine G.skip ?_ | refine G.blk ?_ | refine G.wx ?_ | refine G.wt ?_ | refine G.wf ?_)
    refine G.begin rfl (.refl _) ?_
    refine G.recOut hb hr fun kv => ?_
    repeat (first | refine G.w0 ?_ | refine G.w1 ?_ | refine G.wn ?_ | refine GR.w ?_ | (refine G.ws (h := ?_); try (simp only [Nat.reduceAdd, Nat.zero_add, List.set_cons_succ, List.set_cons_zero])) | (refine G.wb ?_; intro bx) | (refine G.wz ?_; intro bx) | refine G.wa (h := ?_) | refine G.seq ?_ | refine G.region ?_ | refine G.nil ?_ | refine G.block ?_ | refine G.skip ?_ | refine G.blk ?_ | refine G.wx ?_ | refine G.wt ?_ | refine G.wf ?_)
    (repeat refine G.seq ?_); refine G.drawS [(.pur, 0), (.pur, 1), (.pur, 2), (.pur, 3), (.look, 4), (.look, 5), (.pur, 6)] (by kernel_rfl) (by kernel_rfl) rfl ?_
    repeat (first | refine EVS.wq ?_ | refine EVS.wp ?_ | refine EVS.wn ?_ | refine EVS.w0 ?_ | refine EVS.wy ?_ | (refine EVS.ws (h := ?_); try (simp only [Nat.reduceAdd, Nat.zero_add, List.set_cons_succ, List.set_cons_zero])) | refine EVS.wa (h := ?_) | (refine EVS.wb ?_; intro bx) | (refine EVS.wz ?_; intro bx) | refine EVS.wm ?_ | refine EVS.done ?_)
    refine G.recIn i b r kv rfl rfl ⟨rfl, rfl, rfl, rfl⟩ hb hal ?_
    rw [set_same hr]
    by_cases hs : r.serial = s
    · have hb1 : decide (r.serial = s) = true := decide_eq_true hs
      repeat (first | refine G.w0 ?_ | refine G.w1 ?_ | refine G.wn ?_ | refine GR.w ?_ | (refine G.ws (h := ?_); try (simp only [Nat.reduceAdd, Nat.zero_add, List.set_cons_succ, List.set_cons_zero])) | (refine G.wb ?_; intro bx) | (refine G.wz ?_; intro bx) | refine G.wa (h := ?_) | refine G.seq ?_ | refine G.region ?_ | refine G.nil ?_ | refine G.block ?_ | refine G.skip ?_ | refine G.blk ?_ | refine G.wx ?_ | refine G.wt ?_ | refine G.wf ?_)
      refine G.putFact (p := ∃ r, getr rs (i : Nat) = some r ∧ r.serial = s) ⟨r, hr, hs⟩ ?_
      refine G.keep [loopC lo L .busy none, cb rb [i64 i] 3, Recs ps rs, fact (∃ r, getr rs (i : Nat) = some r ∧ r.serial = s)] ?_
      exact G.rret rfl (.refl _) (.inr ⟨rfl, rfl⟩)
    · have hb1 : decide (r.serial = s) = false := decide_eq_false hs
      repeat (first | refine G.w0 ?_ | refine G.w1 ?_ | refine G.wn ?_ | refine GR.w ?_ | (refine G.ws (h := ?_); try (simp only [Nat.reduceAdd, Nat.zero_add, List.set_cons_succ, List.set_cons_zero])) | (refine G.wb ?_; intro bx) | (refine G.wz ?_; intro bx) | refine G.wa (h := ?_) | refine G.seq ?_ | refine G.region ?_ | refine G.nil ?_ | refine G.block ?_ | refine G.skip ?_ | refine G.blk ?_ | refine G.wx ?_ | refine G.wt ?_ | refine G.wf ?_)
      refine G.putFact (p := NoneTo rs s (i + 1)) (fun j r' hj hr' => ?_) ?_
      · by_cases hji : j = i
        · subst hji; rw [hr] at hr'; cases hr'; exact hs
        · exact hnone j r' (by omega) hr'
      refine G.keep [loopC lo L .busy none, cb rb [i64 0] 3, cb sb [i64 s] 3, Recs ps rs, fact (NoneTo rs s (i + 1))] ?_
      exact G.rend rfl (.refl _) (.inl ⟨rfl, rfl⟩)
  · simp only [List.cons_append, List.nil_append]
    refine G.getFact (NoneTo rs s 16) fun hnone => ?_
    repeat (first | refine G.w0 ?_ | refine G.w1 ?_ | refine G.wn ?_ | refine GR.w ?_ | (refine G.ws (h := ?_); try (simp only [Nat.reduceAdd, Nat.zero_add, List.set_cons_succ, List.set_cons_zero])) | (refine G.wb ?_; intro bx) | (refine G.wz ?_; intro bx) | refine G.wa (h := ?_) | refine G.seq ?_ | refine G.region ?_ | refine G.nil ?_ | refine G.block ?_ | refine G.skip ?_ | refine G.blk ?_ | refine G.wx ?_ | refine G.wt ?_ | refine G.wf ?_)
    refine G.close (Table T last rs) rfl ((S, low, ps)) (⟨hlow, hal, hl⟩) (by dsimp only) ?_
    refine G.retDK (D := [defB r]) [Table T last rs] rfl Try.func42 rfl rfl (.cell rfl rfl .nil) ?_
    exact ⟨-1, rfl, rfl, .inl ⟨rfl, hnone⟩⟩
  · simp only [List.cons_append, List.nil_append]
    refine G.getFact (∃ r, getr rs (i : Nat) = some r ∧ r.serial = s) fun hsome => ?_
    refine G.close (Table T last rs) rfl ((S, low, ps)) (⟨hlow, hal, hl⟩) (by dsimp only) ?_
    refine G.retDK (D := [defB r]) [Table T last rs] rfl Try.func42 rfl rfl (.cell rfl rfl .nil) ?_
    exact ⟨i, rfl, rfl, .inr hsome⟩
end Go.Proofs.Ytffcilmllebdmaa
