/- One step of a script: Destroy. -/
import Derived.Test.YtffcilmllebdmaaE19
namespace Go.Proofs.Ytffcilmllebdmaa
open Go.Am
set_option maxHeartbeats 4000000
set_option linter.unusedVariables false
set_option linter.unusedSimpArgs false
attribute [local irreducible] Ok GR G Fun OpRun EVS

theorem nodup_inj {α : Type} {l : List α} (h : l.Nodup) {i j : Nat} (hi : i < l.length) (hj : j < l.length) (e : l[i] = l[j]) : i = j := by
  have hp := List.pairwise_iff_getElem.1 h
  rcases Nat.lt_trichotomy i j with h1 | h1 | h1
  · exact absurd e (hp i j hi hj h1)
  · exact h1
  · exact absurd e.symm (hp j i hj hi h1)

def dropLives (l : List Bool) (L : List Int) : List Bool := L.foldl (fun l k => l.set k.toNat false) l
theorem dropLives_length : ∀ (L : List Int) (l : List Bool), (dropLives l L).length = l.length
  | [], l => rfl
  | a :: L, l => by
    have := dropLives_length L (l.set a.toNat false)
    simp only [List.length_set] at this; exact this
theorem dropLives_snoc (l : List Bool) (L : List Int) (k : Int) : dropLives l (L ++ [k]) = (dropLives l L).set k.toNat false := by
  unfold dropLives; rw [List.foldl_append]; rfl
theorem dropLives_get : ∀ (L : List Int) (l : List Bool) (j : Nat), (∀ k ∈ L, 0 ≤ k ∧ k ≠ (j : Int)) → (dropLives l L)[j]? = l[j]?
  | [], l, j, _ => rfl
  | a :: L, l, j, h => by
    have h1 := h a (List.mem_cons_self ..)
    have := dropLives_get L (l.set a.toNat false) j fun k hk => h k (List.mem_cons_of_mem _ hk)
    show (dropLives (l.set a.toNat false) L)[j]? = _
    rw [this, List.getElem?_set, if_neg (by omega)]

theorem livesOf_dropAll : ∀ (L : List Int) (rs : List (Option Rec)), livesOf (dropAll rs L) = dropLives (livesOf rs) L
  | [], rs => rfl
  | a :: L, rs => by
    have := livesOf_dropAll L (rs.set a.toNat none)
    show livesOf (dropAll (rs.set a.toNat none) L) = dropLives ((livesOf rs).set a.toNat false) L
    rw [this]
    unfold livesOf
    rw [List.map_set]; rfl

theorem destroy_cases {rs : List (Option Rec)} {last : Int} (t : TreeOk rs last) (e : Int) :
    ((destroyF rs e).1.2 ≠ 0 ∧ (destroyF rs e).1.1 = [] ∧ (destroyF rs e).2 = rs) ∨
    (∃ (L : List Int) (rs' : List (Option Rec)), destroyF rs e = ((L, 0), rs') ∧ L.Nodup ∧ L[0]? = some e ∧ L.length ≤ 16 ∧ (∀ k ∈ L, 0 < k ∧ k < 16 ∧ (getr rs k).isSome = true) ∧ livesOf rs' = dropLives (livesOf rs) L) := by
  unfold destroyF
  cases hr : getr rs e with
  | none => exact .inl ⟨by simp, rfl, rfl⟩
  | some r =>
    dsimp only
    by_cases h0 : e = 0
    · rw [if_pos h0]; exact .inl ⟨by simp, rfl, rfl⟩
    · rw [if_neg h0]
      obtain ⟨p, hp, hm, _⟩ := t.up e r hr h0
      rw [hp]
      dsimp only
      refine .inr ⟨_, _, rfl, pre_nodup t 16 e, rfl, t.pre16 hr, fun k hk => ?_, ?_⟩
      · obtain ⟨s, hs⟩ := Option.isSome_iff_exists.1 (t.preLive hr k hk)
        have h1 := getr_lt hs
        rw [t.len] at h1
        refine ⟨?_, by omega, by rw [hs]; rfl⟩
        by_cases hk0 : k = 0
        · have := (mem_pre t hr k).1 hk
          rw [hk0] at this
          cases this with
          | refl => exact absurd rfl h0
          | step _ hx _ => exact absurd rfl hx
        · omega
      · rw [livesOf_dropAll]
        congr 1
        have hl := getr_lt hp
        unfold livesOf
        rw [List.map_set]
        refine list_set_same ?_
        unfold getr at hp
        rw [if_pos hl.1] at hp
        rw [List.getElem?_map]
        cases h3 : rs[r.parent.toNat]? with
        | none => rw [h3] at hp; cases hp
        | some x => rw [h3] at hp; simp at hp; rw [hp]; rfl

section
variable (T B : Nat) (last : Int) (rs : List (Option Rec)) (k t e n m : Int) (q : Qt) (r : Rg) (on : Bool)

theorem noted3 (ht : TreeOk rs last) : Fun Try.prog 11 [ptr (some B), ptr (some T), opVal ⟨3, t, e, n, m, q, r, on⟩] [Table T last rs, Book B (livesOf rs) last]
    (Ret (.bool true) [Table T (stepF rs last ⟨3, t, e, n, m, q, r, on⟩).2 (stepF rs last ⟨3, t, e, n, m, q, r, on⟩).1, Book B (livesOf (stepF rs last ⟨3, t, e, n, m, q, r, on⟩).1) (stepF rs last ⟨3, t, e, n, m, q, r, on⟩).2]) := by
  have hs : stepF rs last ⟨3, t, e, n, m, q, r, on⟩ = ((destroyF rs e).2, last) := rfl
  rw [hs]; dsimp only
  have spec := Destroy_ok T last rs e (fun r hr h0 => ht.canEnd hr h0)
  have hlen := ht.len
  rcases destroy_cases ht e with ⟨h1, h2, h3⟩ | ⟨L, rs', hc, hnd, hL0, hL16, hin, hlv⟩
  · rw [h2, h3] at spec
    rw [h3]
    have hb : decide ((destroyF rs e).1.2 ≠ 0) = true := by simpa using h1
    refine Fun.enter Try.func11 rfl rfl rfl ?_
    repeat (first | refine G.w0 ?_ | refine G.w1 ?_ | refine G.wn ?_ | refine GR.w ?_ | (refine G.ws (h := ?_); try (simp only [Nat.reduceAdd, Nat.zero_add, List.set_cons_succ, List.set_cons_zero])) | (refine G.wb ?_; intro bx) | (refine G.wz ?_; intro bx) | refine G.wa (h := ?_) | refine G.seq ?_ | refine G.region ?_ | refine G.nil ?_ | refine G.block ?_ | refine G.skip ?_ | refine G.blk ?_ | refine G.wx ?_ | refine G.wt ?_ | refine G.wf ?_)
    (first | refine G.take rfl ?_ | refine G.take_yes rfl rfl rfl (by first | rfl | assumption) ?_); (first | refine R.callQ Try.func24 rfl (by decide) rfl rfl (spec) ?_ | refine R.callQ0 Try.func24 rfl (by decide) rfl (spec) ?_); (rintro _ _ ⟨sv, rfl, rfl⟩ <;> simp only [List.cons_append, List.nil_append])
    refine G.form sv ?_
    rintro a cap rfl
    repeat (first | refine G.w0 ?_ | refine G.w1 ?_ | refine G.wn ?_ | refine GR.w ?_ | (refine G.ws (h := ?_); try (simp only [Nat.reduceAdd, Nat.zero_add, List.set_cons_succ, List.set_cons_zero])) | (refine G.wb ?_; intro bx) | (refine G.wz ?_; intro bx) | refine G.wa (h := ?_) | refine G.seq ?_ | refine G.region ?_ | refine G.nil ?_ | refine G.block ?_ | refine G.skip ?_ | refine G.blk ?_ | refine G.wx ?_ | refine G.wt ?_ | refine G.wf ?_)
    first | refine G.retK [Table T last rs, Book B (livesOf rs) last] rfl Try.func11 rfl Res.nil ?_ | refine G.retK [Table T last rs, Book B (livesOf rs) last] rfl Try.func11 rfl (Res.tmp rfl Res.nil) ?_ | refine G.retK [Table T last rs, Book B (livesOf rs) last] rfl Try.func11 rfl (Res.tmp rfl (Res.tmp rfl Res.nil)) ?_ | refine G.retK [Table T last rs, Book B (livesOf rs) last] rfl Try.func11 rfl (Res.tmp rfl (Res.tmp rfl (Res.tmp rfl Res.nil))) ?_ | refine G.retK [Table T last rs, Book B (livesOf rs) last] rfl Try.func11 rfl (Res.cellA rfl rfl rfl Res.nil) ?_ | refine G.retK [Table T last rs, Book B (livesOf rs) last] rfl Try.func11 rfl (Res.cellA rfl rfl rfl (Res.tmp rfl Res.nil)) ?_ | refine G.retK [Table T last rs, Book B (livesOf rs) last] rfl Try.func11 rfl (Res.cell rfl rfl Res.nil) ?_
    exact ⟨rfl, rfl⟩
  · rw [hc] at spec
    rw [hc]; dsimp only at spec ⊢
    rw [hlv]
    have hll : (livesOf rs).length = 16 := by simp [livesOf, hlen]
    have hLp : 0 < L.length := (List.getElem?_eq_some_iff.1 hL0).1
    have hbL : decide ((0 : Int) < (L.length : Int)) = true := by simp; omega
    refine Fun.enter Try.func11 rfl rfl rfl ?_
    repeat (first | refine G.w0 ?_ | refine G.w1 ?_ | refine G.wn ?_ | refine GR.w ?_ | (refine G.ws (h := ?_); try (simp only [Nat.reduceAdd, Nat.zero_add, List.set_cons_succ, List.set_cons_zero])) | (refine G.wb ?_; intro bx) | (refine G.wz ?_; intro bx) | refine G.wa (h := ?_) | refine G.seq ?_ | refine G.region ?_ | refine G.nil ?_ | refine G.block ?_ | refine G.skip ?_ | refine G.blk ?_ | refine G.wx ?_ | refine G.wt ?_ | refine G.wf ?_)
    (first | refine G.take rfl ?_ | refine G.take_yes rfl rfl rfl (by first | rfl | assumption) ?_); (first | refine R.callQ Try.func24 rfl (by decide) rfl rfl (spec) ?_ | refine R.callQ0 Try.func24 rfl (by decide) rfl (spec) ?_); (rintro _ _ ⟨sv, rfl, rfl⟩ <;> simp only [List.cons_append, List.nil_append])
    refine G.formS sv hLp ?_
    rintro sb cap rfl hcs
    repeat (first | refine G.w0 ?_ | refine G.w1 ?_ | refine G.wn ?_ | refine GR.w ?_ | (refine G.ws (h := ?_); try (simp only [Nat.reduceAdd, Nat.zero_add, List.set_cons_succ, List.set_cons_zero])) | (refine G.wb ?_; intro bx) | (refine G.wz ?_; intro bx) | refine G.wa (h := ?_) | refine G.seq ?_ | refine G.region ?_ | refine G.nil ?_ | refine G.block ?_ | refine G.skip ?_ | refine G.blk ?_ | refine G.wx ?_ | refine G.wt ?_ | refine G.wf ?_)
    refine G.loopI (fun i : Nat => [(11, .int .i64 i), (10, i64 0), (9, .slice (some ⟨sb, 0, none⟩) L.length cap), (5, ptr (some bx)), (1, ptr (some T)), (0, ptr (some B))])
      (fun i => [Table T last rs', OwnS 3 1 (.slice (some ⟨sb, 0, none⟩) L.length cap) L.length (ints L), cb bx (opCells ⟨3, t, e, n, m, q, r, on⟩) 38, Book B (dropLives (livesOf rs) (L.take i)) last])
      (fun i => i ≤ L.length) (fun i => L.length - i) 0 (by omega) (Env.le_cons rfl (Env.le_cons rfl (Env.le_cons rfl (Env.le_cons rfl (Env.le_cons rfl (Env.le_cons rfl (Env.le_nil _))))))) rfl ?_
    rintro i hi hloop
    by_cases hlt : i < L.length
    · have hb1 : decide ((i : Int) < (L.length : Int)) = true := by simpa using hlt
      have hidx : 0 ≤ (i : Int) ∧ (i : Int) < (L.length : Int) := by omega
      have hw : IntKind.i64.wrap ((i : Int) + 1) = (i : Int) + 1 := wrap_id (by omega) (by omega)
      obtain ⟨g1, g2, g3⟩ := hin L[i] (List.getElem_mem hlt)
      have hb2 : decide (L[i] ≤ 0) = false := decide_eq_false (by omega)
      have hlive : livesF (dropLives (livesOf rs) (L.take i)) L[i] = true := by
        have h1 := livesF_of rs hlen L[i]
        rw [g3] at h1
        have h2 := dropLives_get (L.take i) (livesOf rs) L[i].toNat (fun k hk => by
          obtain ⟨j, hj, rfl⟩ := List.mem_iff_getElem.1 hk
          simp only [List.length_take] at hj
          rw [List.getElem_take]
          have := (hin L[j] (List.getElem_mem _)).1
          refine ⟨by omega, fun he => ?_⟩
          have he2 : L[j] = L[i] := by omega
          have := nodup_inj hnd (by omega) hlt he2
          omega)
        unfold livesF at h1 ⊢
        rw [List.getD_eq_getElem?_getD] at h1 ⊢
        rw [h2]; exact h1
      have hlive2 : (!livesF (dropLives (livesOf rs) (L.take i)) L[i]) = false := by rw [hlive]; rfl
      have hcell : (ints L)[i]? = some (i64 L[i]) := by simp [ints, hlt]
      have hcell2 : (ints L)[0 + (i : Int).toNat * 1]? = some (i64 L[i]) := by rw [← hcell]; congr 1; simp
      have hidx2 : 0 ≤ L[i] ∧ L[i] < ((16 : Nat) : Int) := by omega
      have htk : dropLives (livesOf rs) (L.take (i + 1)) = (dropLives (livesOf rs) (L.take i)).set L[i].toNat false := by
        rw [List.take_succ_eq_append_getElem hlt, dropLives_snoc]
      have hloop' := hloop (i + 1) (by omega) (by omega)
      rw [htk] at hloop'
      repeat (first | refine G.w0 ?_ | refine G.w1 ?_ | refine G.wn ?_ | refine GR.w ?_ | (refine G.ws (h := ?_); try (simp only [Nat.reduceAdd, Nat.zero_add, List.set_cons_succ, List.set_cons_zero])) | (refine G.wb ?_; intro bx) | (refine G.wz ?_; intro bx) | refine G.wa (h := ?_) | refine G.seq ?_ | refine G.region ?_ | refine G.nil ?_ | refine G.block ?_ | refine G.skip ?_ | refine G.blk ?_ | refine G.wx ?_ | refine G.wt ?_ | refine G.wf ?_)
      (first | refine G.take rfl ?_ | refine G.take_yes rfl rfl rfl (by first | rfl | assumption) ?_)
      refine GR.ok (Ok.loadS rfl hcell2) rfl rfl ?_
      repeat (first | refine G.w0 ?_ | refine G.w1 ?_ | refine G.wn ?_ | refine GR.w ?_ | (refine G.ws (h := ?_); try (simp only [Nat.reduceAdd, Nat.zero_add, List.set_cons_succ, List.set_cons_zero])) | (refine G.wb ?_; intro bx) | (refine G.wz ?_; intro bx) | refine G.wa (h := ?_) | refine G.seq ?_ | refine G.region ?_ | refine G.nil ?_ | refine G.block ?_ | refine G.skip ?_ | refine G.blk ?_ | refine G.wx ?_ | refine G.wt ?_ | refine G.wf ?_)
      (first | refine G.take rfl ?_ | refine G.take_yes rfl rfl rfl (by first | rfl | assumption) ?_)
      refine GR.ok (Ok.loadS rfl hcell2) rfl rfl ?_
      repeat (first | refine G.w0 ?_ | refine G.w1 ?_ | refine G.wn ?_ | refine GR.w ?_ | (refine G.ws (h := ?_); try (simp only [Nat.reduceAdd, Nat.zero_add, List.set_cons_succ, List.set_cons_zero])) | (refine G.wb ?_; intro bx) | (refine G.wz ?_; intro bx) | refine G.wa (h := ?_) | refine G.seq ?_ | refine G.region ?_ | refine G.nil ?_ | refine G.block ?_ | refine G.skip ?_ | refine G.blk ?_ | refine G.wx ?_ | refine G.wt ?_ | refine G.wf ?_)
      (first | refine G.take rfl ?_ | refine G.take_yes rfl rfl rfl (by first | rfl | assumption) ?_); (first | refine R.callD Try.func16 rfl (by decide) rfl rfl (lives_ok B (dropLives (livesOf rs) (L.take i)) last L[i]) ?_ | refine R.callD0 Try.func16 rfl (by decide) rfl (lives_ok B (dropLives (livesOf rs) (L.take i)) last L[i]) ?_); simp only [List.cons_append, List.nil_append]
      repeat (first | refine G.w0 ?_ | refine G.w1 ?_ | refine G.wn ?_ | refine GR.w ?_ | (refine G.ws (h := ?_); try (simp only [Nat.reduceAdd, Nat.zero_add, List.set_cons_succ, List.set_cons_zero])) | (refine G.wb ?_; intro bx) | (refine G.wz ?_; intro bx) | refine G.wa (h := ?_) | refine G.seq ?_ | refine G.region ?_ | refine G.nil ?_ | refine G.block ?_ | refine G.skip ?_ | refine G.blk ?_ | refine G.wx ?_ | refine G.wt ?_ | refine G.wf ?_)
      refine G.open (Book B (dropLives (livesOf rs) (L.take i)) last) rfl ?_
      rintro paid ⟨hl, hpd⟩
      simp only [List.cons_append, List.nil_append]
      refine G.isC B (bookCells (dropLives (livesOf rs) (L.take i)) paid last) rfl ?_
      have hl' : ((dropLives (livesOf rs) (L.take i)).set L[i].toNat false).length = 16 := by simpa using hl
      (repeat refine G.seq ?_); refine G.drawS [(.pur, 0), (.pur, 1), (.pur, 2), (.pur, 3), (.look, 4), (.pur, 5), (.pur, 6), (.pur, 7), (.act, 8)] (by kernel_rfl) (by kernel_rfl) rfl ?_
      repeat (first | refine EVS.wq ?_ | refine EVS.wp ?_ | refine EVS.wn ?_ | refine EVS.w0 ?_ | refine EVS.wy ?_ | (refine EVS.ws (h := ?_); try (simp only [Nat.reduceAdd, Nat.zero_add, List.set_cons_succ, List.set_cons_zero])) | refine EVS.wa (h := ?_) | (refine EVS.wb ?_; intro bx) | (refine EVS.wz ?_; intro bx) | refine EVS.wm ?_ | refine EVS.done ?_)
      refine EVS.ok (Ok.loadS rfl hcell2) ?_
      repeat (first | refine EVS.wq ?_ | refine EVS.wp ?_ | refine EVS.wn ?_ | refine EVS.w0 ?_ | refine EVS.wy ?_ | (refine EVS.ws (h := ?_); try (simp only [Nat.reduceAdd, Nat.zero_add, List.set_cons_succ, List.set_cons_zero])) | refine EVS.wa (h := ?_) | (refine EVS.wb ?_; intro bx) | (refine EVS.wz ?_; intro bx) | refine EVS.wm ?_ | refine EVS.done ?_)
      refine EVS.m_store rfl rfl rfl (by rw [book_len hl hpd]; simp [Nat.blt_eq]; omega) ?_
      rw [show (bookCells (dropLives (livesOf rs) (L.take i)) paid last).set (0 + 0 + L[i].toNat * 1) (.bool false) = bookCells ((dropLives (livesOf rs) (L.take i)).set L[i].toNat false) paid last from by
        rw [← book_setLife hl L[i].toNat (by omega) false]; congr 1; simp]
      repeat (first | refine EVS.wq ?_ | refine EVS.wp ?_ | refine EVS.wn ?_ | refine EVS.w0 ?_ | refine EVS.wy ?_ | (refine EVS.ws (h := ?_); try (simp only [Nat.reduceAdd, Nat.zero_add, List.set_cons_succ, List.set_cons_zero])) | refine EVS.wa (h := ?_) | (refine EVS.wb ?_; intro bx) | (refine EVS.wz ?_; intro bx) | refine EVS.wm ?_ | refine EVS.done ?_)
      repeat (first | refine G.w0 ?_ | refine G.w1 ?_ | refine G.wn ?_ | refine GR.w ?_ | (refine G.ws (h := ?_); try (simp only [Nat.reduceAdd, Nat.zero_add, List.set_cons_succ, List.set_cons_zero])) | (refine G.wb ?_; intro bx) | (refine G.wz ?_; intro bx) | refine G.wa (h := ?_) | refine G.seq ?_ | refine G.region ?_ | refine G.nil ?_ | refine G.block ?_ | refine G.skip ?_ | refine G.blk ?_ | refine G.wx ?_ | refine G.wt ?_ | refine G.wf ?_)
      refine G.close (Book B ((dropLives (livesOf rs) (L.take i)).set L[i].toNat false) last) rfl (paid) (⟨hl', hpd⟩) (by dsimp only) ?_
      refine G.keep [Table T last rs', OwnS 3 1 (.slice (some ⟨sb, 0, none⟩) L.length cap) L.length (ints L), cb bx (opCells ⟨3, t, e, n, m, q, r, on⟩) 38, Book B ((dropLives (livesOf rs) (L.take i)).set L[i].toNat false) last] ?_
      exact hloop'.forget _ (Env.le_cons rfl (Env.le_cons rfl (Env.le_cons rfl (Env.le_cons rfl (Env.le_cons rfl (Env.le_cons rfl (Env.le_nil _)))))))
    · have hb1 : decide ((i : Int) < (L.length : Int)) = false := by simpa using hlt
      have hi2 : i = L.length := by omega
      subst hi2
      have hcell : (ints L)[0 + (0 : Int).toNat * 1]? = some (i64 e) := by
        rw [show (0 + (0 : Int).toNat * 1) = 0 from rfl]
        unfold ints; rw [List.getElem?_map, hL0]; rfl
      have hidx : 0 ≤ (0 : Int) ∧ (0 : Int) < (L.length : Int) := by omega
      rw [List.take_length]
      repeat (first | refine G.w0 ?_ | refine G.w1 ?_ | refine G.wn ?_ | refine GR.w ?_ | (refine G.ws (h := ?_); try (simp only [Nat.reduceAdd, Nat.zero_add, List.set_cons_succ, List.set_cons_zero])) | (refine G.wb ?_; intro bx) | (refine G.wz ?_; intro bx) | refine G.wa (h := ?_) | refine G.seq ?_ | refine G.region ?_ | refine G.nil ?_ | refine G.block ?_ | refine G.skip ?_ | refine G.blk ?_ | refine G.wx ?_ | refine G.wt ?_ | refine G.wf ?_)
      (repeat refine G.seq ?_); refine G.drawS [(.pur, 0), (.pur, 1), (.pur, 2), (.pur, 3), (.pur, 4), (.pur, 5), (.look, 6), (.pur, 7), (.look, 8), (.pur, 9), (.pur, 10), (.pur, 11)] (by kernel_rfl) (by kernel_rfl) rfl ?_
      repeat (first | refine EVS.wq ?_ | refine EVS.wp ?_ | refine EVS.wn ?_ | refine EVS.w0 ?_ | refine EVS.wy ?_ | (refine EVS.ws (h := ?_); try (simp only [Nat.reduceAdd, Nat.zero_add, List.set_cons_succ, List.set_cons_zero])) | refine EVS.wa (h := ?_) | (refine EVS.wb ?_; intro bx) | (refine EVS.wz ?_; intro bx) | refine EVS.wm ?_ | refine EVS.done ?_)
      refine EVS.oky rfl rfl hbL (Ok.loadS rfl hcell) ?_
      repeat (first | refine EVS.wq ?_ | refine EVS.wp ?_ | refine EVS.wn ?_ | refine EVS.w0 ?_ | refine EVS.wy ?_ | (refine EVS.ws (h := ?_); try (simp only [Nat.reduceAdd, Nat.zero_add, List.set_cons_succ, List.set_cons_zero])) | refine EVS.wa (h := ?_) | (refine EVS.wb ?_; intro bx) | (refine EVS.wz ?_; intro bx) | refine EVS.wm ?_ | refine EVS.done ?_)
      repeat (first | refine G.w0 ?_ | refine G.w1 ?_ | refine G.wn ?_ | refine GR.w ?_ | (refine G.ws (h := ?_); try (simp only [Nat.reduceAdd, Nat.zero_add, List.set_cons_succ, List.set_cons_zero])) | (refine G.wb ?_; intro bx) | (refine G.wz ?_; intro bx) | refine G.wa (h := ?_) | refine G.seq ?_ | refine G.region ?_ | refine G.nil ?_ | refine G.block ?_ | refine G.skip ?_ | refine G.blk ?_ | refine G.wx ?_ | refine G.wt ?_ | refine G.wf ?_)
      first | refine G.retK [Table T last rs', Book B (dropLives (livesOf rs) L) last] rfl Try.func11 rfl Res.nil ?_ | refine G.retK [Table T last rs', Book B (dropLives (livesOf rs) L) last] rfl Try.func11 rfl (Res.tmp rfl Res.nil) ?_ | refine G.retK [Table T last rs', Book B (dropLives (livesOf rs) L) last] rfl Try.func11 rfl (Res.tmp rfl (Res.tmp rfl Res.nil)) ?_ | refine G.retK [Table T last rs', Book B (dropLives (livesOf rs) L) last] rfl Try.func11 rfl (Res.tmp rfl (Res.tmp rfl (Res.tmp rfl Res.nil))) ?_ | refine G.retK [Table T last rs', Book B (dropLives (livesOf rs) L) last] rfl Try.func11 rfl (Res.cellA rfl rfl rfl Res.nil) ?_ | refine G.retK [Table T last rs', Book B (dropLives (livesOf rs) L) last] rfl Try.func11 rfl (Res.cellA rfl rfl rfl (Res.tmp rfl Res.nil)) ?_ | refine G.retK [Table T last rs', Book B (dropLives (livesOf rs) L) last] rfl Try.func11 rfl (Res.cell rfl rfl Res.nil) ?_
      exact ⟨by simp [packRes], rfl⟩
end
end Go.Proofs.Ytffcilmllebdmaa
