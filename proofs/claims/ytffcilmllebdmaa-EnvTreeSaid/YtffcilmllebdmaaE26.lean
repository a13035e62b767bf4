/- The law EnvTree. -/
import Derived.Test.YtffcilmllebdmaaE25
import Derived.Test.YtffcilmllebdmaaE23
namespace Go.Proofs.Ytffcilmllebdmaa
open Go.Am
set_option maxHeartbeats 4000000
set_option linter.unusedVariables false
set_option linter.unusedSimpArgs false
attribute [local irreducible] Ok GR G Fun OpRun EVS

theorem step_last {rs : List (Option Rec)} {last : Int} (h : 0 ≤ last ∧ last ≤ MaxSer) (o : Op) : 0 ≤ (stepF rs last o).2 ∧ (stepF rs last o).2 ≤ MaxSer := by
  unfold stepF
  split
  · unfold createF
    split
    · exact h
    · split
      · exact h
      · rename_i h1
        split
        · exact h
        · split
          · exact h
          · dsimp only
            by_cases h2 : MaxSer < o.n
            · exact absurd (.inr (.inr h2)) h1
            · by_cases h3 : o.n ≤ last
              · exact absurd (.inr (.inl h3)) h1
              · omega
  all_goals (repeat (split <;> try exact h))
  all_goals exact h

theorem book_at {rs : List (Option Rec)} (hl : rs.length = 16) (k : Nat) (hk : k < 16) (paid : List Qt) (last : Int) : (bookCells (livesOf rs) paid last)[0 + 0 + (k : Int).toNat * 1]? = some (.bool (getr rs k).isSome) := by
  have hll : (livesOf rs).length = 16 := by simp [livesOf, hl]
  rw [show 0 + 0 + (k : Int).toNat * 1 = k by simp, book_life hll k (by omega)]
  congr 2
  unfold livesOf getr
  rw [if_pos (by omega), Int.toNat_natCast]
  simp [List.getElem?_eq_getElem (show k < rs.length by omega)]

theorem EnvTree_ok (W : World) (a : Option Addr) (cap : Nat) (ops : List Op) (hs : ScriptAt W a ops) (hlen : ops.length < 9223372036854775808) (hlen2 : ops.length + 1 < 9223372036854775808) :
    Fun Try.prog 7 [.slice a ops.length cap] [Old W] (Ret (.bool true) [Old W]) := by
  refine Fun.enter Try.func7 rfl rfl rfl ?_
  repeat (first | refine G.w0 ?_ | refine G.w1 ?_ | refine G.wn ?_ | refine GR.w ?_ | (refine G.ws (h := ?_); try (simp only [Nat.reduceAdd, Nat.zero_add, List.set_cons_succ, List.set_cons_zero])) | (refine G.wb ?_; intro bx) | (refine G.wz ?_; intro bx) | refine G.wa (h := ?_) | refine G.seq ?_ | refine G.region ?_ | refine G.nil ?_ | refine G.block ?_ | refine G.skip ?_ | refine G.blk ?_ | refine G.wx ?_ | refine G.wt ?_ | refine G.wf ?_)
  (first | refine G.take rfl ?_ | refine G.take_yes rfl rfl rfl (by first | rfl | assumption) ?_); (first | refine R.callQ Try.func8 rfl (by decide) rfl rfl (first_ok) ?_ | refine R.callQ0 Try.func8 rfl (by decide) rfl (first_ok) ?_); (rintro _ _ ⟨T, B, rfl, rfl⟩ <;> simp only [List.cons_append, List.nil_append])
  repeat (first | refine G.w0 ?_ | refine G.w1 ?_ | refine G.wn ?_ | refine GR.w ?_ | (refine G.ws (h := ?_); try (simp only [Nat.reduceAdd, Nat.zero_add, List.set_cons_succ, List.set_cons_zero])) | (refine G.wb ?_; intro bx) | (refine G.wz ?_; intro bx) | refine G.wa (h := ?_) | refine G.seq ?_ | refine G.region ?_ | refine G.nil ?_ | refine G.block ?_ | refine G.skip ?_ | refine G.blk ?_ | refine G.wx ?_ | refine G.wt ?_ | refine G.wf ?_)
  rw [← lives_B]
  refine G.loopI (α := Nat × List (Option Rec) × Int) (fun x => [(5, .int .i64 x.1), (4, ptr (some B)), (3, ptr (some T)), (0, .slice a ops.length cap)])
    (fun x => [Table T x.2.2 x.2.1, Book B (livesOf x.2.1) x.2.2, Old W]) (fun x => x.1 ≤ ops.length + 1 ∧ TreeOk x.2.1 x.2.2 ∧ 0 ≤ x.2.2 ∧ x.2.2 ≤ MaxSer) (fun x => ops.length + 1 - x.1) (0, rsB, 3) ⟨by omega, tree_B, by show (0 : Int) ≤ 3 ∧ (3 : Int) ≤ MaxSer; unfold MaxSer; omega⟩ (Env.le_cons rfl (Env.le_cons rfl (Env.le_cons rfl (Env.le_cons rfl (Env.le_nil _))))) rfl ?_
  rintro ⟨i, rs, last⟩ ⟨hi, ht, hm⟩ hloop
  dsimp only at hi ht hm hloop ⊢
  by_cases hle : i ≤ ops.length
  rotate_left
  · have hb1 : decide ((i : Int) ≤ (ops.length : Int)) = false := decide_eq_false (by omega)
    repeat (first | refine G.w0 ?_ | refine G.w1 ?_ | refine G.wn ?_ | refine GR.w ?_ | (refine G.ws (h := ?_); try (simp only [Nat.reduceAdd, Nat.zero_add, List.set_cons_succ, List.set_cons_zero])) | (refine G.wb ?_; intro bx) | (refine G.wz ?_; intro bx) | refine G.wa (h := ?_) | refine G.seq ?_ | refine G.region ?_ | refine G.nil ?_ | refine G.block ?_ | refine G.skip ?_ | refine G.blk ?_ | refine G.wx ?_ | refine G.wt ?_ | refine G.wf ?_)
    first | refine G.retK [Old W] rfl Try.func7 rfl Res.nil ?_ | refine G.retK [Old W] rfl Try.func7 rfl (Res.tmp rfl Res.nil) ?_ | refine G.retK [Old W] rfl Try.func7 rfl (Res.tmp rfl (Res.tmp rfl Res.nil)) ?_ | refine G.retK [Old W] rfl Try.func7 rfl (Res.tmp rfl (Res.tmp rfl (Res.tmp rfl Res.nil))) ?_ | refine G.retK [Old W] rfl Try.func7 rfl (Res.cellA rfl rfl rfl Res.nil) ?_ | refine G.retK [Old W] rfl Try.func7 rfl (Res.cellA rfl rfl rfl (Res.tmp rfl Res.nil)) ?_ | refine G.retK [Old W] rfl Try.func7 rfl (Res.cell rfl rfl Res.nil) ?_
    exact ⟨rfl, rfl⟩
  have hb1 : decide ((i : Int) ≤ (ops.length : Int)) = true := decide_eq_true (by omega)
  have hw : IntKind.i64.wrap ((i : Int) + 1) = (i : Int) + 1 := wrap_id (by omega) (by omega)
  have htree := Tree_ok T last rs 0 ht
  obtain ⟨r0, hr0, hr0p⟩ := ht.root
  simp only [errOf, hr0] at htree
  have hw16 := tree_len ht 0
  repeat (first | refine G.w0 ?_ | refine G.w1 ?_ | refine G.wn ?_ | refine GR.w ?_ | (refine G.ws (h := ?_); try (simp only [Nat.reduceAdd, Nat.zero_add, List.set_cons_succ, List.set_cons_zero])) | (refine G.wb ?_; intro bx) | (refine G.wz ?_; intro bx) | refine G.wa (h := ?_) | refine G.seq ?_ | refine G.region ?_ | refine G.nil ?_ | refine G.block ?_ | refine G.skip ?_ | refine G.blk ?_ | refine G.wx ?_ | refine G.wt ?_ | refine G.wf ?_)
  (first | refine G.take rfl ?_ | refine G.take_yes rfl rfl rfl (by first | rfl | assumption) ?_); (first | refine R.callQ Try.func23 rfl (by decide) rfl rfl (Live_ok T last rs) ?_ | refine R.callQ0 Try.func23 rfl (by decide) rfl (Live_ok T last rs) ?_); (rintro _ _ ⟨ps, la, lcap, hal, rfl, rfl⟩ <;> simp only [List.cons_append, List.nil_append])
  repeat (first | refine G.w0 ?_ | refine G.w1 ?_ | refine G.wn ?_ | refine GR.w ?_ | (refine G.ws (h := ?_); try (simp only [Nat.reduceAdd, Nat.zero_add, List.set_cons_succ, List.set_cons_zero])) | (refine G.wb ?_; intro bx) | (refine G.wz ?_; intro bx) | refine G.wa (h := ?_) | refine G.seq ?_ | refine G.region ?_ | refine G.nil ?_ | refine G.block ?_ | refine G.skip ?_ | refine G.blk ?_ | refine G.wx ?_ | refine G.wt ?_ | refine G.wf ?_)
  (first | refine G.take rfl ?_ | refine G.take_yes rfl rfl rfl (by first | rfl | assumption) ?_); (first | refine R.callQ Try.func41 rfl (by decide) rfl rfl (htree) ?_ | refine R.callQ0 Try.func41 rfl (by decide) rfl (htree) ?_); (rintro _ _ ⟨wv, rfl, rfl⟩ <;> simp only [List.cons_append, List.nil_append])
  refine G.form wv ?_
  rintro wa wcap rfl
  have hlt := live_tree_len ht hal
  have hb2 : decide (((treeF rs 0).length : Int) ≠ ((liveTo ps 16).length : Int)) = false := decide_eq_false (by omega)
  have hlv16 := liveTo_le ps 16
  repeat (first | refine G.w0 ?_ | refine G.w1 ?_ | refine G.wn ?_ | refine GR.w ?_ | (refine G.ws (h := ?_); try (simp only [Nat.reduceAdd, Nat.zero_add, List.set_cons_succ, List.set_cons_zero])) | (refine G.wb ?_; intro bx) | (refine G.wz ?_; intro bx) | refine G.wa (h := ?_) | refine G.seq ?_ | refine G.region ?_ | refine G.nil ?_ | refine G.block ?_ | refine G.skip ?_ | refine G.blk ?_ | refine G.wx ?_ | refine G.wt ?_ | refine G.wf ?_)
  refine G.loopI (fun k : Nat => [(10, .int .i64 k), (9, .int .i64 ((liveTo ps k).length : Nat)), (7, .slice wa (treeF rs 0).length wcap), (6, .slice la (liveTo ps 16).length lcap), (5, .int .i64 i), (4, ptr (some B)), (3, ptr (some T)), (0, .slice a ops.length cap)])
    (fun _ => [Table T last rs, OwnI (.slice wa (treeF rs 0).length wcap) (treeF rs 0), OwnI (.slice la (liveTo ps 16).length lcap) (liveTo ps 16), Book B (livesOf rs) last, Old W]) (fun k => k ≤ 16) (fun k => 16 - k) 0 (by omega) (Env.le_cons rfl (Env.le_cons rfl (Env.le_cons rfl (Env.le_cons rfl (Env.le_cons rfl (Env.le_cons rfl (Env.le_cons rfl (Env.le_cons rfl (Env.le_nil _))))))))) rfl ?_
  rintro k hk hin
  by_cases hk16 : k < 16
  · have hb3 : decide ((k : Int) < 16) = true := decide_eq_true (by omega)
    have hidx : 0 ≤ (k : Int) ∧ (k : Int) < ((16 : Nat) : Int) := by omega
    have hw2 : IntKind.i64.wrap ((k : Int) + 1) = (k : Int) + 1 := wrap_id (by omega) (by omega)
    have hin' := hin (k + 1) (by omega) (by omega)
    repeat (first | refine G.w0 ?_ | refine G.w1 ?_ | refine G.wn ?_ | refine GR.w ?_ | (refine G.ws (h := ?_); try (simp only [Nat.reduceAdd, Nat.zero_add, List.set_cons_succ, List.set_cons_zero])) | (refine G.wb ?_; intro bx) | (refine G.wz ?_; intro bx) | refine G.wa (h := ?_) | refine G.seq ?_ | refine G.region ?_ | refine G.nil ?_ | refine G.block ?_ | refine G.skip ?_ | refine G.blk ?_ | refine G.wx ?_ | refine G.wt ?_ | refine G.wf ?_)
    refine G.open (Book B (livesOf rs) last) rfl ?_
    rintro paid ⟨hl, hpd⟩
    simp only [List.cons_append, List.nil_append]
    refine G.isC B (bookCells (livesOf rs) paid last) rfl ?_
    (first | refine G.take rfl ?_ | refine G.take_yes rfl rfl rfl (by first | rfl | assumption) ?_)
    refine GR.ok (Ok.load rfl (book_at ht.len k hk16 paid last)) rfl rfl ?_
    refine G.close (Book B (livesOf rs) last) rfl (paid) (⟨hl, hpd⟩) (by dsimp only) ?_
    have hinfo := Info_ok T last rs (k : Int) (fun r hr => ht.ok _ r hr)
    cases hr : getr rs (k : Int) with
    | none =>
      simp only [infoOf, errOf, hr] at hinfo
      have hruns := Runs_ok T last rs (k : Int) (ht.up16 _)
      rw [show runsF rs (k : Int) = false by simp only [runsF, hr]] at hruns
      have hins := Inside_ok T last rs 0 (k : Int) (ht.up16 _)
      rw [(Up.none hr).2, Bool.and_false] at hins
      have hpn : getp ps (k : Int) = none := by
        have := hal.getp (k : Int)
        rw [hr] at this
        cases hg : getp ps (k : Int) <;> simp_all
      rw [← liveTo_skip hpn] at hin'
      repeat (first | refine G.w0 ?_ | refine G.w1 ?_ | refine G.wn ?_ | refine GR.w ?_ | (refine G.ws (h := ?_); try (simp only [Nat.reduceAdd, Nat.zero_add, List.set_cons_succ, List.set_cons_zero])) | (refine G.wb ?_; intro bx) | (refine G.wz ?_; intro bx) | refine G.wa (h := ?_) | refine G.seq ?_ | refine G.region ?_ | refine G.nil ?_ | refine G.block ?_ | refine G.skip ?_ | refine G.blk ?_ | refine G.wx ?_ | refine G.wt ?_ | refine G.wf ?_)
      (first | refine G.take rfl ?_ | refine G.take_yes rfl rfl rfl (by first | rfl | assumption) ?_); (first | refine R.callD Try.func12 rfl (by decide) rfl rfl (hinfo) ?_ | refine R.callD0 Try.func12 rfl (by decide) rfl (hinfo) ?_); simp only [List.cons_append, List.nil_append]
      repeat (first | refine G.w0 ?_ | refine G.w1 ?_ | refine G.wn ?_ | refine GR.w ?_ | (refine G.ws (h := ?_); try (simp only [Nat.reduceAdd, Nat.zero_add, List.set_cons_succ, List.set_cons_zero])) | (refine G.wb ?_; intro bx) | (refine G.wz ?_; intro bx) | refine G.wa (h := ?_) | refine G.seq ?_ | refine G.region ?_ | refine G.nil ?_ | refine G.block ?_ | refine G.skip ?_ | refine G.blk ?_ | refine G.wx ?_ | refine G.wt ?_ | refine G.wf ?_)
      (first | refine G.take rfl ?_ | refine G.take_yes rfl rfl rfl (by first | rfl | assumption) ?_); (first | refine R.callD Try.func10 rfl (by decide) rfl rfl (hruns) ?_ | refine R.callD0 Try.func10 rfl (by decide) rfl (hruns) ?_); simp only [List.cons_append, List.nil_append]
      repeat (first | refine G.w0 ?_ | refine G.w1 ?_ | refine G.wn ?_ | refine GR.w ?_ | (refine G.ws (h := ?_); try (simp only [Nat.reduceAdd, Nat.zero_add, List.set_cons_succ, List.set_cons_zero])) | (refine G.wb ?_; intro bx) | (refine G.wz ?_; intro bx) | refine G.wa (h := ?_) | refine G.seq ?_ | refine G.region ?_ | refine G.nil ?_ | refine G.block ?_ | refine G.skip ?_ | refine G.blk ?_ | refine G.wx ?_ | refine G.wt ?_ | refine G.wf ?_)
      (first | refine G.take rfl ?_ | refine G.take_yes rfl rfl rfl (by first | rfl | assumption) ?_); (first | refine R.callD Try.func17 rfl (by decide) rfl rfl (hins) ?_ | refine R.callD0 Try.func17 rfl (by decide) rfl (hins) ?_); simp only [List.cons_append, List.nil_append]
      repeat (first | refine G.w0 ?_ | refine G.w1 ?_ | refine G.wn ?_ | refine GR.w ?_ | (refine G.ws (h := ?_); try (simp only [Nat.reduceAdd, Nat.zero_add, List.set_cons_succ, List.set_cons_zero])) | (refine G.wb ?_; intro bx) | (refine G.wz ?_; intro bx) | refine G.wa (h := ?_) | refine G.seq ?_ | refine G.region ?_ | refine G.nil ?_ | refine G.block ?_ | refine G.skip ?_ | refine G.blk ?_ | refine G.wx ?_ | refine G.wt ?_ | refine G.wf ?_)
      refine G.keep [Table T last rs, OwnI (.slice wa (treeF rs 0).length wcap) (treeF rs 0), OwnI (.slice la (liveTo ps 16).length lcap) (liveTo ps 16), Book B (livesOf rs) last, Old W] ?_
      exact hin'.forget _ (Env.le_cons rfl (Env.le_cons rfl (Env.le_cons rfl (Env.le_cons rfl (Env.le_cons rfl (Env.le_cons rfl (Env.le_cons rfl (Env.le_cons rfl (Env.le_nil _)))))))))
    | some r =>
      simp only [infoOf, errOf, hr] at hinfo
      obtain ⟨pb, hpb⟩ := getp_of hal hr
      have hat := liveTo_at hk16 hpb
      have hnlt : (liveTo ps k).length < (liveTo ps 16).length := (List.getElem?_eq_some_iff.1 hat).1
      have hb4 : decide (((liveTo ps 16).length : Int) ≤ ((liveTo ps k).length : Int)) = false := decide_eq_false (by omega)
      have hcell : (ints (liveTo ps 16))[0 + (((liveTo ps k).length : Nat) : Int).toNat * 1]? = some (i64 k) := by
        rw [show 0 + (((liveTo ps k).length : Nat) : Int).toNat * 1 = (liveTo ps k).length by simp]
        unfold ints; rw [List.getElem?_map, hat]; rfl
      have hidx2 : 0 ≤ (((liveTo ps k).length : Nat) : Int) ∧ (((liveTo ps k).length : Nat) : Int) < ((liveTo ps 16).length : Int) := by omega
      have hb5 : decide ((k : Int) ≠ (k : Int)) = false := decide_eq_false (by simp)
      have hc1 : countF (treeF rs 0) (k : Int) = 1 := by rw [countF_nodup (tree_nodup ht 0), if_pos ((mem_tree0 ht _).2 (by rw [hr]; rfl))]
      have hcount := count_ok (.slice wa (treeF rs 0).length wcap) (treeF rs 0) (k : Int) (by omega)
      rw [hc1] at hcount
      have hbranch := branch_ok T last rs (k : Int) r ht hr
      have hfind : Fun Try.prog 42 [ptr (some T), i64 r.serial] [Table T last rs] (Ret (i64 k) [Table T last rs]) := by
        refine (Find_ok T last rs r.serial).mono ?_
        rintro v H ⟨n, rfl, rfl, h | ⟨r', hr', hs'⟩⟩
        · exact absurd rfl (h.2 k r hk16 hr)
        · rw [ht.dist _ _ r' r hr' hr hs']; exact ⟨rfl, rfl⟩
      rw [liveTo_take hpb] at hin'
      have hw3 : IntKind.i64.wrap ((((liveTo ps k).length : Nat) : Int) + 1) = (((liveTo ps k).length : Nat) : Int) + 1 := wrap_id (by omega) (by omega)
      refine G.formS (.slice la (liveTo ps 16).length lcap) (by omega) ?_
      rintro lb lc2 hlb -
      cases hlb
      repeat (first | refine G.w0 ?_ | refine G.w1 ?_ | refine G.wn ?_ | refine GR.w ?_ | (refine G.ws (h := ?_); try (simp only [Nat.reduceAdd, Nat.zero_add, List.set_cons_succ, List.set_cons_zero])) | (refine G.wb ?_; intro bx) | (refine G.wz ?_; intro bx) | refine G.wa (h := ?_) | refine G.seq ?_ | refine G.region ?_ | refine G.nil ?_ | refine G.block ?_ | refine G.skip ?_ | refine G.blk ?_ | refine G.wx ?_ | refine G.wt ?_ | refine G.wf ?_)
      (first | refine G.take rfl ?_ | refine G.take_yes rfl rfl rfl (by first | rfl | assumption) ?_); (first | refine R.callD Try.func12 rfl (by decide) rfl rfl (hinfo) ?_ | refine R.callD0 Try.func12 rfl (by decide) rfl (hinfo) ?_); simp only [List.cons_append, List.nil_append]
      repeat (first | refine G.w0 ?_ | refine G.w1 ?_ | refine G.wn ?_ | refine GR.w ?_ | (refine G.ws (h := ?_); try (simp only [Nat.reduceAdd, Nat.zero_add, List.set_cons_succ, List.set_cons_zero])) | (refine G.wb ?_; intro bx) | (refine G.wz ?_; intro bx) | refine G.wa (h := ?_) | refine G.seq ?_ | refine G.region ?_ | refine G.nil ?_ | refine G.block ?_ | refine G.skip ?_ | refine G.blk ?_ | refine G.wx ?_ | refine G.wt ?_ | refine G.wf ?_)
      (first | refine G.take rfl ?_ | refine G.take_yes rfl rfl rfl (by first | rfl | assumption) ?_)
      refine GR.ok (Ok.loadS rfl hcell) rfl rfl ?_
      repeat (first | refine G.w0 ?_ | refine G.w1 ?_ | refine G.wn ?_ | refine GR.w ?_ | (refine G.ws (h := ?_); try (simp only [Nat.reduceAdd, Nat.zero_add, List.set_cons_succ, List.set_cons_zero])) | (refine G.wb ?_; intro bx) | (refine G.wz ?_; intro bx) | refine G.wa (h := ?_) | refine G.seq ?_ | refine G.region ?_ | refine G.nil ?_ | refine G.block ?_ | refine G.skip ?_ | refine G.blk ?_ | refine G.wx ?_ | refine G.wt ?_ | refine G.wf ?_)
      (first | refine G.take rfl ?_ | refine G.take_yes rfl rfl rfl (by first | rfl | assumption) ?_); (first | refine R.callD Try.func30 rfl (by decide) rfl rfl (hcount) ?_ | refine R.callD0 Try.func30 rfl (by decide) rfl (hcount) ?_); simp only [List.cons_append, List.nil_append]
      repeat (first | refine G.w0 ?_ | refine G.w1 ?_ | refine G.wn ?_ | refine GR.w ?_ | (refine G.ws (h := ?_); try (simp only [Nat.reduceAdd, Nat.zero_add, List.set_cons_succ, List.set_cons_zero])) | (refine G.wb ?_; intro bx) | (refine G.wz ?_; intro bx) | refine G.wa (h := ?_) | refine G.seq ?_ | refine G.region ?_ | refine G.nil ?_ | refine G.block ?_ | refine G.skip ?_ | refine G.blk ?_ | refine G.wx ?_ | refine G.wt ?_ | refine G.wf ?_)
      (first | refine G.take rfl ?_ | refine G.take_yes rfl rfl rfl (by first | rfl | assumption) ?_); (first | refine R.callD Try.func32 rfl (by decide) rfl rfl (hbranch) ?_ | refine R.callD0 Try.func32 rfl (by decide) rfl (hbranch) ?_); simp only [List.cons_append, List.nil_append]
      repeat (first | refine G.w0 ?_ | refine G.w1 ?_ | refine G.wn ?_ | refine GR.w ?_ | (refine G.ws (h := ?_); try (simp only [Nat.reduceAdd, Nat.zero_add, List.set_cons_succ, List.set_cons_zero])) | (refine G.wb ?_; intro bx) | (refine G.wz ?_; intro bx) | refine G.wa (h := ?_) | refine G.seq ?_ | refine G.region ?_ | refine G.nil ?_ | refine G.block ?_ | refine G.skip ?_ | refine G.blk ?_ | refine G.wx ?_ | refine G.wt ?_ | refine G.wf ?_)
      (first | refine G.take rfl ?_ | refine G.take_yes rfl rfl rfl (by first | rfl | assumption) ?_); (first | refine R.callD Try.func42 rfl (by decide) rfl rfl (hfind) ?_ | refine R.callD0 Try.func42 rfl (by decide) rfl (hfind) ?_); simp only [List.cons_append, List.nil_append]
      repeat (first | refine G.w0 ?_ | refine G.w1 ?_ | refine G.wn ?_ | refine GR.w ?_ | (refine G.ws (h := ?_); try (simp only [Nat.reduceAdd, Nat.zero_add, List.set_cons_succ, List.set_cons_zero])) | (refine G.wb ?_; intro bx) | (refine G.wz ?_; intro bx) | refine G.wa (h := ?_) | refine G.seq ?_ | refine G.region ?_ | refine G.nil ?_ | refine G.block ?_ | refine G.skip ?_ | refine G.blk ?_ | refine G.wx ?_ | refine G.wt ?_ | refine G.wf ?_)
      refine G.keep [Table T last rs, OwnI (.slice wa (treeF rs 0).length wcap) (treeF rs 0), OwnI (.slice (some ⟨lb, 0, none⟩) (liveTo ps 16).length lcap) (liveTo ps 16), Book B (livesOf rs) last, Old W] ?_
      exact hin'.forget _ (Env.le_cons rfl (Env.le_cons (by show some (Value.int .i64 _) = some (Value.int .i64 _); congr 2; simp) (Env.le_cons rfl (Env.le_cons rfl (Env.le_cons rfl (Env.le_cons rfl (Env.le_cons rfl (Env.le_cons rfl (Env.le_nil _)))))))))
  have hb3 : decide ((k : Int) < 16) = false := decide_eq_false (by omega)
  have hkk : k = 16 := by omega
  subst hkk
  clear hin
  have hb4 : decide (((liveTo ps 16).length : Int) ≠ ((liveTo ps 16).length : Int)) = false := decide_eq_false (by simp)
  have hwl : IntKind.i64.wrap (last + 1) = last + 1 := by
    exact wrap_id (by omega) (by unfold MaxSer at hm; omega)
  have hfind : Fun Try.prog 42 [ptr (some T), i64 (last + 1)] [Table T last rs] (Ret (i64 (-1)) [Table T last rs]) := by
    refine (Find_ok T last rs (last + 1)).mono ?_
    rintro v H ⟨n, rfl, rfl, h | ⟨r', hr', hs'⟩⟩
    · rw [h.1]; exact ⟨rfl, rfl⟩
    · have := ht.ser _ r' hr'; omega
  repeat (first | refine G.w0 ?_ | refine G.w1 ?_ | refine G.wn ?_ | refine GR.w ?_ | (refine G.ws (h := ?_); try (simp only [Nat.reduceAdd, Nat.zero_add, List.set_cons_succ, List.set_cons_zero])) | (refine G.wb ?_; intro bx) | (refine G.wz ?_; intro bx) | refine G.wa (h := ?_) | refine G.seq ?_ | refine G.region ?_ | refine G.nil ?_ | refine G.block ?_ | refine G.skip ?_ | refine G.blk ?_ | refine G.wx ?_ | refine G.wt ?_ | refine G.wf ?_)
  refine G.open (Book B (livesOf rs) last) rfl ?_
  rintro paid ⟨hl, hpd⟩
  simp only [List.cons_append, List.nil_append]
  refine G.isC B (bookCells (livesOf rs) paid last) rfl ?_
  repeat (first | refine G.w0 ?_ | refine G.w1 ?_ | refine G.wn ?_ | refine GR.w ?_ | (refine G.ws (h := ?_); try (simp only [Nat.reduceAdd, Nat.zero_add, List.set_cons_succ, List.set_cons_zero])) | (refine G.wb ?_; intro bx) | (refine G.wz ?_; intro bx) | refine G.wa (h := ?_) | refine G.seq ?_ | refine G.region ?_ | refine G.nil ?_ | refine G.block ?_ | refine G.skip ?_ | refine G.blk ?_ | refine G.wx ?_ | refine G.wt ?_ | refine G.wf ?_)
  (first | refine G.take rfl ?_ | refine G.take_yes rfl rfl rfl (by first | rfl | assumption) ?_)
  refine GR.ok (Ok.load rfl (book_last hl hpd)) rfl rfl ?_
  refine G.close (Book B (livesOf rs) last) rfl (paid) (⟨hl, hpd⟩) (by dsimp only) ?_
  repeat (first | refine G.w0 ?_ | refine G.w1 ?_ | refine G.wn ?_ | refine GR.w ?_ | (refine G.ws (h := ?_); try (simp only [Nat.reduceAdd, Nat.zero_add, List.set_cons_succ, List.set_cons_zero])) | (refine G.wb ?_; intro bx) | (refine G.wz ?_; intro bx) | refine G.wa (h := ?_) | refine G.seq ?_ | refine G.region ?_ | refine G.nil ?_ | refine G.block ?_ | refine G.skip ?_ | refine G.blk ?_ | refine G.wx ?_ | refine G.wt ?_ | refine G.wf ?_)
  (first | refine G.take rfl ?_ | refine G.take_yes rfl rfl rfl (by first | rfl | assumption) ?_); (first | refine R.callD Try.func42 rfl (by decide) rfl rfl (hfind) ?_ | refine R.callD0 Try.func42 rfl (by decide) rfl (hfind) ?_); simp only [List.cons_append, List.nil_append]
  by_cases hlt2 : i < ops.length
  · have hb5 : decide ((i : Int) < (ops.length : Int)) = true := decide_eq_true (by omega)
    have hidx : 0 ≤ (i : Int) ∧ (i : Int) < (ops.length : Int) := by omega
    obtain ⟨ad, rfl, hcells⟩ := hs i hlt2
    have hcells' : CellsAt W (ad.add ((i : Int).toNat * 18)) (opCells ops[i]) := by rw [Int.toNat_natCast]; exact hcells
    repeat (first | refine G.w0 ?_ | refine G.w1 ?_ | refine G.wn ?_ | refine GR.w ?_ | (refine G.ws (h := ?_); try (simp only [Nat.reduceAdd, Nat.zero_add, List.set_cons_succ, List.set_cons_zero])) | (refine G.wb ?_; intro bx) | (refine G.wz ?_; intro bx) | refine G.wa (h := ?_) | refine G.seq ?_ | refine G.region ?_ | refine G.nil ?_ | refine G.block ?_ | refine G.skip ?_ | refine G.blk ?_ | refine G.wx ?_ | refine G.wt ?_ | refine G.wf ?_)
    (first | refine G.take rfl ?_ | refine G.take_yes rfl rfl rfl (by first | rfl | assumption) ?_)
    refine GR.ok (Ok.indexOld rfl rfl hidx) rfl rfl ?_
    repeat (first | refine G.w0 ?_ | refine G.w1 ?_ | refine G.wn ?_ | refine GR.w ?_ | (refine G.ws (h := ?_); try (simp only [Nat.reduceAdd, Nat.zero_add, List.set_cons_succ, List.set_cons_zero])) | (refine G.wb ?_; intro bx) | (refine G.wz ?_; intro bx) | refine G.wa (h := ?_) | refine G.seq ?_ | refine G.region ?_ | refine G.nil ?_ | refine G.block ?_ | refine G.skip ?_ | refine G.blk ?_ | refine G.wx ?_ | refine G.wt ?_ | refine G.wf ?_)
    (first | refine G.take rfl ?_ | refine G.take_yes rfl rfl rfl (by first | rfl | assumption) ?_)
    refine GR.ok (Ok.loadOldA W rfl hcells' rfl) rfl rfl ?_
    (first | refine G.take rfl ?_ | refine G.take_yes rfl rfl rfl (by first | rfl | assumption) ?_); (first | refine R.callD Try.func11 rfl (by decide) rfl rfl (noted_ok T B last rs ops[i] ht) ?_ | refine R.callD0 Try.func11 rfl (by decide) rfl (noted_ok T B last rs ops[i] ht) ?_); simp only [List.cons_append, List.nil_append]
    repeat (first | refine G.w0 ?_ | refine G.w1 ?_ | refine G.wn ?_ | refine GR.w ?_ | (refine G.ws (h := ?_); try (simp only [Nat.reduceAdd, Nat.zero_add, List.set_cons_succ, List.set_cons_zero])) | (refine G.wb ?_; intro bx) | (refine G.wz ?_; intro bx) | refine G.wa (h := ?_) | refine G.seq ?_ | refine G.region ?_ | refine G.nil ?_ | refine G.block ?_ | refine G.skip ?_ | refine G.blk ?_ | refine G.wx ?_ | refine G.wt ?_ | refine G.wf ?_)
    refine G.keep [Table T (stepF rs last ops[i]).2 (stepF rs last ops[i]).1, Book B (livesOf (stepF rs last ops[i]).1) (stepF rs last ops[i]).2, Old W] ?_
    exact (hloop (i + 1, (stepF rs last ops[i]).1, (stepF rs last ops[i]).2) ⟨by dsimp only; omega, ht.step _, step_last hm _⟩ (by dsimp only; omega)).forget _ (Env.le_cons rfl (Env.le_cons rfl (Env.le_cons rfl (Env.le_cons rfl (Env.le_nil _)))))
  · have hb5 : decide ((i : Int) < (ops.length : Int)) = false := decide_eq_false (by omega)
    repeat (first | refine G.w0 ?_ | refine G.w1 ?_ | refine G.wn ?_ | refine GR.w ?_ | (refine G.ws (h := ?_); try (simp only [Nat.reduceAdd, Nat.zero_add, List.set_cons_succ, List.set_cons_zero])) | (refine G.wb ?_; intro bx) | (refine G.wz ?_; intro bx) | refine G.wa (h := ?_) | refine G.seq ?_ | refine G.region ?_ | refine G.nil ?_ | refine G.block ?_ | refine G.skip ?_ | refine G.blk ?_ | refine G.wx ?_ | refine G.wt ?_ | refine G.wf ?_)
    refine G.keep [Table T last rs, Book B (livesOf rs) last, Old W] ?_
    exact (hloop (i + 1, rs, last) ⟨by dsimp only; omega, ht, hm⟩ (by dsimp only; omega)).forget _ (Env.le_cons rfl (Env.le_cons rfl (Env.le_cons rfl (Env.le_cons rfl (Env.le_nil _)))))
end Go.Proofs.Ytffcilmllebdmaa
