/- listsApart. -/
import Derived.Test.YtffcilmllebdmaaE29
namespace Go.Proofs.Ytffcilmllebdmaa
open Go.Am
set_option maxHeartbeats 4000000
set_option linter.unusedVariables false
set_option linter.unusedSimpArgs false
attribute [local irreducible] Ok GR G Fun OpRun EVS

def lens (ls : List (List Int)) (i : Nat) : List Int := (ls.take i).map fun l => (l.length : Int)
theorem lens_len (ls : List (List Int)) (i : Nat) (h : i ≤ ls.length) : (lens ls i).length = i := by simp [lens]; omega
theorem lens_next (ls : List (List Int)) (i : Nat) (h : i < ls.length) : lens ls (i + 1) = lens ls i ++ [(ls[i].length : Int)] := by
  unfold lens; rw [List.take_succ_eq_append_getElem h, List.map_append]; rfl
theorem lens_get (ls : List (List Int)) (n i : Nat) (h : i < n) (hn : n ≤ ls.length) : (ints (lens ls n))[0 + (i : Int).toNat * 1]? = some (.int .i64 (ls[i].length : Nat)) := by
  rw [show 0 + (i : Int).toNat * 1 = i by simp]
  unfold ints lens
  rw [List.getElem?_map, List.getElem?_map, List.getElem?_take, if_pos h, List.getElem?_eq_getElem (by omega)]; rfl

theorem listsApart_ok (v : Value) (ls : List (List Int)) (hn : ls.length ≤ 1000) (hls : ∀ (i : Nat) (h : i < ls.length), ls[i].length ≤ 1000) : Fun Try.prog 31 [v] [LL v ls] (Ret (.bool true) []) := by
  refine Fun.enter Try.func31 rfl rfl rfl ?_
  refine G.llForm v ls ?_
  rintro a cap rfl
  repeat (first | refine G.w0 ?_ | refine G.w1 ?_ | refine G.wn ?_ | refine GR.w ?_ | (refine G.ws (h := ?_); try (simp only [Nat.reduceAdd, Nat.zero_add, List.set_cons_succ, List.set_cons_zero])) | (refine G.wb ?_; intro bx) | (refine G.wz ?_; intro bx) | refine G.wa (h := ?_) | refine G.seq ?_ | refine G.region ?_ | refine G.nil ?_ | refine G.block ?_ | refine G.skip ?_ | refine G.blk ?_ | refine G.wx ?_ | refine G.wt ?_ | refine G.wf ?_)
  refine G.nilS 3 1 ?_
  refine G.loopI (α := Nat × Option Addr × Nat) (fun x => [(4, .int .i64 x.1), (3, .slice x.2.1 (lens ls x.1).length x.2.2), (0, .slice a ls.length cap)]) (fun x => [OwnI (.slice x.2.1 (lens ls x.1).length x.2.2) (lens ls x.1), LL (.slice a ls.length cap) (st1 ls x.1 0)]) (fun x => x.1 ≤ ls.length) (fun x => ls.length - x.1) (0, none, 0) (by dsimp only; omega) (Env.le_cons rfl (Env.le_cons rfl (Env.le_cons rfl (Env.le_nil _)))) (by rw [st1_0]; rfl) ?_
  rintro ⟨i, na, nc⟩ hi hloop
  dsimp only at hi hloop ⊢
  by_cases hlt : i < ls.length
  · have hb1 : decide ((i : Int) < (ls.length : Int)) = true := decide_eq_true (by omega)
    have hidx : 0 ≤ (i : Int) ∧ (i : Int) < (ls.length : Int) := by omega
    have hw : IntKind.i64.wrap ((i : Int) + 1) = (i : Int) + 1 := wrap_id (by omega) (by omega)
    have hi' : i < (st1 ls i 0).length := by rw [st1_len]; exact hlt
    have hle := hls i hlt
    have hn1 := lens_len ls i hi
    have hn2 := lens_len ls (i + 1) hlt
    refine G.llOut (.slice a ls.length cap) (st1 ls i 0) i hi' ?_
    intro ob cap' vs x hv hvs hx
    simp only [Value.slice.injEq] at hv
    obtain ⟨rfl, _, rfl⟩ := hv
    have hx' : vs[0 + (i : Int).toNat * 1]? = some x := by rw [show 0 + (i : Int).toNat * 1 = i by simp]; exact hx
    refine G.form x ?_
    rintro xa xc rfl
    repeat (first | refine G.w0 ?_ | refine G.w1 ?_ | refine G.wn ?_ | refine GR.w ?_ | (refine G.ws (h := ?_); try (simp only [Nat.reduceAdd, Nat.zero_add, List.set_cons_succ, List.set_cons_zero])) | (refine G.wb ?_; intro bx) | (refine G.wz ?_; intro bx) | refine G.wa (h := ?_) | refine G.seq ?_ | refine G.region ?_ | refine G.nil ?_ | refine G.block ?_ | refine G.skip ?_ | refine G.blk ?_ | refine G.wx ?_ | refine G.wt ?_ | refine G.wf ?_)
    (first | refine G.take rfl ?_ | refine G.take_yes rfl rfl rfl (by first | rfl | assumption) ?_)
    refine GR.ok (Ok.loadS rfl hx') rfl rfl ?_
    repeat (first | refine G.w0 ?_ | refine G.w1 ?_ | refine G.wn ?_ | refine GR.w ?_ | (refine G.ws (h := ?_); try (simp only [Nat.reduceAdd, Nat.zero_add, List.set_cons_succ, List.set_cons_zero])) | (refine G.wb ?_; intro bx) | (refine G.wz ?_; intro bx) | refine G.wa (h := ?_) | refine G.seq ?_ | refine G.region ?_ | refine G.nil ?_ | refine G.block ?_ | refine G.skip ?_ | refine G.blk ?_ | refine G.wx ?_ | refine G.wt ?_ | refine G.wf ?_)
    (first | refine G.take rfl ?_ | refine G.take_yes rfl rfl rfl (by first | rfl | assumption) ?_)
    refine R.bs1 rfl rfl rfl rfl fun nb => ?_
    (first | refine G.take rfl ?_ | refine G.take_yes rfl rfl rfl (by first | rfl | assumption) ?_)
    refine R.append (n := 1) (bytes := 8) (z := .int .i64 0) (cs := ints (lens ls i)) (news := [.int .i64 ((st1 ls i 0)[i].length : Nat)]) rfl rfl (by rfl) (by exact Nat.le_refl _) rfl rfl (by omega) (by omega) (by decide) rfl fun a' cap' => ?_
    refine G.llBack (ob := ob) (cap := cap) i hi' (.slice xa (st1 ls i 0)[i].length xc) (st1 ls i 0)[i] rfl hvs hx ?_
    rw [st1_at ls i 0 hlt (by omega), st1_len ls i 0]
    have h4 : ints (lens ls i) ++ [.int .i64 (ls[i].length : Nat)] = ints (lens ls (i + 1)) := by rw [lens_next ls i hlt]; unfold ints; rw [List.map_append]; rfl
    have h5 : (lens ls i).length + 1 = (lens ls (i + 1)).length := by omega
    rw [h4, h5]
    repeat (first | refine G.w0 ?_ | refine G.w1 ?_ | refine G.wn ?_ | refine GR.w ?_ | (refine G.ws (h := ?_); try (simp only [Nat.reduceAdd, Nat.zero_add, List.set_cons_succ, List.set_cons_zero])) | (refine G.wb ?_; intro bx) | (refine G.wz ?_; intro bx) | refine G.wa (h := ?_) | refine G.seq ?_ | refine G.region ?_ | refine G.nil ?_ | refine G.block ?_ | refine G.skip ?_ | refine G.blk ?_ | refine G.wx ?_ | refine G.wt ?_ | refine G.wf ?_)
    refine G.keep [OwnI (.slice a' (lens ls (i + 1)).length cap') (lens ls (i + 1)), LL (.slice (some ⟨ob, 0, none⟩) ls.length cap) (st1 ls i 0)] ?_
    refine G.loopI (fun k : Nat => [(5, .int .i64 k), (4, .int .i64 i), (3, .slice a' (lens ls (i + 1)).length cap'), (0, .slice (some ⟨ob, 0, none⟩) ls.length cap)]) (fun k => [OwnI (.slice a' (lens ls (i + 1)).length cap') (lens ls (i + 1)), LL (.slice (some ⟨ob, 0, none⟩) ls.length cap) (st1 ls i k)]) (fun k => k ≤ ls[i].length) (fun k => ls[i].length - k) 0 (by omega) (Env.le_cons rfl (Env.le_cons rfl (Env.le_cons rfl (Env.le_cons rfl (Env.le_nil _))))) rfl ?_
    rintro k hk hin
    have hidn : 0 ≤ (i : Int) ∧ (i : Int) < ((lens ls (i + 1)).length : Int) := by omega
    refine G.formS (.slice a' (lens ls (i + 1)).length cap') (by omega) ?_
    rintro nb' nc' hnb -
    cases hnb
    by_cases hkl : k < ls[i].length
    rotate_left
    · have hb2 : decide ((k : Int) < ((ls[i].length : Nat) : Int)) = false := decide_eq_false (by omega)
      have hkk : k = ls[i].length := by omega
      subst hkk
      rw [st1_next ls i hlt]
      repeat (first | refine G.w0 ?_ | refine G.w1 ?_ | refine G.wn ?_ | refine GR.w ?_ | (refine G.ws (h := ?_); try (simp only [Nat.reduceAdd, Nat.zero_add, List.set_cons_succ, List.set_cons_zero])) | (refine G.wb ?_; intro bx) | (refine G.wz ?_; intro bx) | refine G.wa (h := ?_) | refine G.seq ?_ | refine G.region ?_ | refine G.nil ?_ | refine G.block ?_ | refine G.skip ?_ | refine G.blk ?_ | refine G.wx ?_ | refine G.wt ?_ | refine G.wf ?_)
      (first | refine G.take rfl ?_ | refine G.take_yes rfl rfl rfl (by first | rfl | assumption) ?_)
      refine GR.ok (Ok.loadS rfl (lens_get ls (i + 1) i (by omega) hlt)) rfl rfl ?_
      repeat (first | refine G.w0 ?_ | refine G.w1 ?_ | refine G.wn ?_ | refine GR.w ?_ | (refine G.ws (h := ?_); try (simp only [Nat.reduceAdd, Nat.zero_add, List.set_cons_succ, List.set_cons_zero])) | (refine G.wb ?_; intro bx) | (refine G.wz ?_; intro bx) | refine G.wa (h := ?_) | refine G.seq ?_ | refine G.region ?_ | refine G.nil ?_ | refine G.block ?_ | refine G.skip ?_ | refine G.blk ?_ | refine G.wx ?_ | refine G.wt ?_ | refine G.wf ?_)
      exact (hloop (i + 1, _, _) (by dsimp only; omega) (by dsimp only; omega)).forget _ (Env.le_cons rfl (Env.le_cons rfl (Env.le_cons rfl (Env.le_nil _))))
    have hb2 : decide ((k : Int) < ((ls[i].length : Nat) : Int)) = true := decide_eq_true (by omega)
    have hw2 : IntKind.i64.wrap ((k : Int) + 1) = (k : Int) + 1 := wrap_id (by omega) (by omega)
    have hw3 : IntKind.i64.wrap (-1000 - (i : Int)) = -1000 - (i : Int) := wrap_id (by omega) (by omega)
    have hk' : i < (st1 ls i k).length := by rw [st1_len]; exact hlt
    have hll := st1_at ls i k hlt hk
    repeat (first | refine G.w0 ?_ | refine G.w1 ?_ | refine G.wn ?_ | refine GR.w ?_ | (refine G.ws (h := ?_); try (simp only [Nat.reduceAdd, Nat.zero_add, List.set_cons_succ, List.set_cons_zero])) | (refine G.wb ?_; intro bx) | (refine G.wz ?_; intro bx) | refine G.wa (h := ?_) | refine G.seq ?_ | refine G.region ?_ | refine G.nil ?_ | refine G.block ?_ | refine G.skip ?_ | refine G.blk ?_ | refine G.wx ?_ | refine G.wt ?_ | refine G.wf ?_)
    (first | refine G.take rfl ?_ | refine G.take_yes rfl rfl rfl (by first | rfl | assumption) ?_)
    refine GR.ok (Ok.loadS rfl (lens_get ls (i + 1) i (by omega) hlt)) rfl rfl ?_
    refine G.llOut (.slice (some ⟨ob, 0, none⟩) ls.length cap) (st1 ls i k) i hk' ?_
    intro ob2 cap2 vs2 x2 hv2 hvs2 hx2
    simp only [Value.slice.injEq, Option.some.injEq, Addr.mk.injEq] at hv2
    obtain ⟨⟨rfl, _⟩, _, rfl⟩ := hv2
    have hx2' : vs2[0 + (i : Int).toNat * 1]? = some x2 := by rw [show 0 + (i : Int).toNat * 1 = i by simp]; exact hx2
    refine G.formS x2 (by omega) ?_
    rintro xb2 xc2 rfl -
    have hidk : 0 ≤ (k : Int) ∧ (k : Int) < ((st1 ls i k)[i].length : Int) := by omega
    repeat (first | refine G.w0 ?_ | refine G.w1 ?_ | refine G.wn ?_ | refine GR.w ?_ | (refine G.ws (h := ?_); try (simp only [Nat.reduceAdd, Nat.zero_add, List.set_cons_succ, List.set_cons_zero])) | (refine G.wb ?_; intro bx) | (refine G.wz ?_; intro bx) | refine G.wa (h := ?_) | refine G.seq ?_ | refine G.region ?_ | refine G.nil ?_ | refine G.block ?_ | refine G.skip ?_ | refine G.blk ?_ | refine G.wx ?_ | refine G.wt ?_ | refine G.wf ?_)
    (first | refine G.take rfl ?_ | refine G.take_yes rfl rfl rfl (by first | rfl | assumption) ?_)
    refine GR.ok (Ok.loadS rfl hx2') rfl rfl ?_
    repeat (first | refine G.w0 ?_ | refine G.w1 ?_ | refine G.wn ?_ | refine GR.w ?_ | (refine G.ws (h := ?_); try (simp only [Nat.reduceAdd, Nat.zero_add, List.set_cons_succ, List.set_cons_zero])) | (refine G.wb ?_; intro bx) | (refine G.wz ?_; intro bx) | refine G.wa (h := ?_) | refine G.seq ?_ | refine G.region ?_ | refine G.nil ?_ | refine G.block ?_ | refine G.skip ?_ | refine G.blk ?_ | refine G.wx ?_ | refine G.wt ?_ | refine G.wf ?_)
    (first | refine G.take rfl ?_ | refine G.take_yes rfl rfl rfl (by first | rfl | assumption) ?_)
    refine R.storeS rfl rfl rfl (by simp [ints]; omega) ?_
    refine G.isS (.slice (some ⟨xb2, 0, none⟩) (st1 ls i k)[i].length xc2) ((st1 ls i k)[i].set k (marks i)).length (ints ((st1 ls i k)[i].set k (marks i))) (by simp) (by unfold ints; rw [List.map_set, show 0 + (k : Int).toNat * 1 = k by simp]; rfl) ?_
    refine G.llMod (ob := ob) (cap := cap) (vs := vs2) i hk' (.slice (some ⟨xb2, 0, none⟩) (st1 ls i k)[i].length xc2) ((st1 ls i k)[i].set k (marks i)) hvs2 hx2 ?_
    rw [st1_set ls i k hlt hkl, st1_len ls i k]
    repeat (first | refine G.w0 ?_ | refine G.w1 ?_ | refine G.wn ?_ | refine GR.w ?_ | (refine G.ws (h := ?_); try (simp only [Nat.reduceAdd, Nat.zero_add, List.set_cons_succ, List.set_cons_zero])) | (refine G.wb ?_; intro bx) | (refine G.wz ?_; intro bx) | refine G.wa (h := ?_) | refine G.seq ?_ | refine G.region ?_ | refine G.nil ?_ | refine G.block ?_ | refine G.skip ?_ | refine G.blk ?_ | refine G.wx ?_ | refine G.wt ?_ | refine G.wf ?_)
    refine G.keep [OwnI (.slice (some ⟨nb', 0, none⟩) (lens ls (i + 1)).length cap') (lens ls (i + 1)), LL (.slice (some ⟨ob, 0, none⟩) ls.length cap) (st1 ls i (k + 1))] ?_
    exact (hin (k + 1) (by omega) (by omega)).forget _ (Env.le_cons rfl (Env.le_cons rfl (Env.le_cons rfl (Env.le_cons rfl (Env.le_nil _)))))
  have hb1 : decide ((i : Int) < (ls.length : Int)) = false := decide_eq_false (by omega)
  have hii : i = ls.length := by omega
  subst hii
  clear hloop
  rw [st1_end]
  repeat (first | refine G.w0 ?_ | refine G.w1 ?_ | refine G.wn ?_ | refine GR.w ?_ | (refine G.ws (h := ?_); try (simp only [Nat.reduceAdd, Nat.zero_add, List.set_cons_succ, List.set_cons_zero])) | (refine G.wb ?_; intro bx) | (refine G.wz ?_; intro bx) | refine G.wa (h := ?_) | refine G.seq ?_ | refine G.region ?_ | refine G.nil ?_ | refine G.block ?_ | refine G.skip ?_ | refine G.blk ?_ | refine G.wx ?_ | refine G.wt ?_ | refine G.wf ?_)
  refine G.loopI (fun i : Nat => [(6, .int .i64 i), (3, .slice na (lens ls ls.length).length nc), (0, .slice a ls.length cap)]) (fun i => [OwnI (.slice na (lens ls ls.length).length nc) (lens ls ls.length), LL (.slice a ls.length cap) (st2 ls i 0)]) (fun i => i ≤ ls.length) (fun i => ls.length - i) 0 (by omega) (Env.le_cons rfl (Env.le_cons rfl (Env.le_cons rfl (Env.le_nil _)))) rfl ?_
  rintro i hi hloop
  by_cases hlt : i < ls.length
  · have hb1 : decide ((i : Int) < (ls.length : Int)) = true := decide_eq_true (by omega)
    have hidx : 0 ≤ (i : Int) ∧ (i : Int) < (ls.length : Int) := by omega
    have hw : IntKind.i64.wrap ((i : Int) + 1) = (i : Int) + 1 := wrap_id (by omega) (by omega)
    have hle := hls i hlt
    repeat (first | refine G.w0 ?_ | refine G.w1 ?_ | refine G.wn ?_ | refine GR.w ?_ | (refine G.ws (h := ?_); try (simp only [Nat.reduceAdd, Nat.zero_add, List.set_cons_succ, List.set_cons_zero])) | (refine G.wb ?_; intro bx) | (refine G.wz ?_; intro bx) | refine G.wa (h := ?_) | refine G.seq ?_ | refine G.region ?_ | refine G.nil ?_ | refine G.block ?_ | refine G.skip ?_ | refine G.blk ?_ | refine G.wx ?_ | refine G.wt ?_ | refine G.wf ?_)
    refine G.loopI (fun k : Nat => [(7, .int .i64 k), (6, .int .i64 i), (3, .slice na (lens ls ls.length).length nc), (0, .slice a ls.length cap)]) (fun k => [OwnI (.slice na (lens ls ls.length).length nc) (lens ls ls.length), LL (.slice a ls.length cap) (st2 ls i k)]) (fun k => k ≤ 64) (fun k => 64 - k) 0 (by omega) (Env.le_cons rfl (Env.le_cons rfl (Env.le_cons rfl (Env.le_cons rfl (Env.le_nil _))))) rfl ?_
    rintro k hk hin
    by_cases hkl : k < 64
    rotate_left
    · have hb2 : decide ((k : Int) < 64) = false := decide_eq_false (by omega)
      have hkk : k = 64 := by omega
      subst hkk
      rw [st2_next ls i]
      repeat (first | refine G.w0 ?_ | refine G.w1 ?_ | refine G.wn ?_ | refine GR.w ?_ | (refine G.ws (h := ?_); try (simp only [Nat.reduceAdd, Nat.zero_add, List.set_cons_succ, List.set_cons_zero])) | (refine G.wb ?_; intro bx) | (refine G.wz ?_; intro bx) | refine G.wa (h := ?_) | refine G.seq ?_ | refine G.region ?_ | refine G.nil ?_ | refine G.block ?_ | refine G.skip ?_ | refine G.blk ?_ | refine G.wx ?_ | refine G.wt ?_ | refine G.wf ?_)
      exact (hloop (i + 1) (by omega) (by omega)).forget _ (Env.le_cons rfl (Env.le_cons rfl (Env.le_cons rfl (Env.le_nil _))))
    have hb2 : decide ((k : Int) < 64) = true := decide_eq_true (by omega)
    have hw2 : IntKind.i64.wrap ((k : Int) + 1) = (k : Int) + 1 := wrap_id (by omega) (by omega)
    have hw3 : IntKind.i64.wrap (-9000 - (i : Int)) = -9000 - (i : Int) := wrap_id (by omega) (by omega)
    have hk' : i < (st2 ls i k).length := by rw [st2_len]; exact hlt
    have hll := st2_at ls i k hlt
    have hlen2 : (st2 ls i k)[i].length = ls[i].length + k := by rw [hll]; simp
    refine G.llOut (.slice a ls.length cap) (st2 ls i k) i hk' ?_
    intro ob vcap vs x hv hvs hx
    simp only [Value.slice.injEq] at hv
    obtain ⟨rfl, _, rfl⟩ := hv
    have hx' : vs[0 + (i : Int).toNat * 1]? = some x := by rw [show 0 + (i : Int).toNat * 1 = i by simp]; exact hx
    refine G.form x ?_
    rintro xa xc rfl
    repeat (first | refine G.w0 ?_ | refine G.w1 ?_ | refine G.wn ?_ | refine GR.w ?_ | (refine G.ws (h := ?_); try (simp only [Nat.reduceAdd, Nat.zero_add, List.set_cons_succ, List.set_cons_zero])) | (refine G.wb ?_; intro bx) | (refine G.wz ?_; intro bx) | refine G.wa (h := ?_) | refine G.seq ?_ | refine G.region ?_ | refine G.nil ?_ | refine G.block ?_ | refine G.skip ?_ | refine G.blk ?_ | refine G.wx ?_ | refine G.wt ?_ | refine G.wf ?_)
    (first | refine G.take rfl ?_ | refine G.take_yes rfl rfl rfl (by first | rfl | assumption) ?_)
    refine GR.ok (Ok.loadS rfl hx') rfl rfl ?_
    repeat (first | refine G.w0 ?_ | refine G.w1 ?_ | refine G.wn ?_ | refine GR.w ?_ | (refine G.ws (h := ?_); try (simp only [Nat.reduceAdd, Nat.zero_add, List.set_cons_succ, List.set_cons_zero])) | (refine G.wb ?_; intro bx) | (refine G.wz ?_; intro bx) | refine G.wa (h := ?_) | refine G.seq ?_ | refine G.region ?_ | refine G.nil ?_ | refine G.block ?_ | refine G.skip ?_ | refine G.blk ?_ | refine G.wx ?_ | refine G.wt ?_ | refine G.wf ?_)
    (first | refine G.take rfl ?_ | refine G.take_yes rfl rfl rfl (by first | rfl | assumption) ?_)
    refine R.bs1 rfl rfl rfl rfl fun nb => ?_
    (first | refine G.take rfl ?_ | refine G.take_yes rfl rfl rfl (by first | rfl | assumption) ?_)
    refine R.append (n := 1) (bytes := 8) (z := .int .i64 0) (cs := ints (st2 ls i k)[i]) (news := [.int .i64 (-9000 - (i : Int))]) rfl rfl (by rfl) (by exact Nat.le_refl _) rfl rfl (by omega) (by omega) (by decide) rfl fun a' cap' => ?_
    repeat (first | refine G.w0 ?_ | refine G.w1 ?_ | refine G.wn ?_ | refine GR.w ?_ | (refine G.ws (h := ?_); try (simp only [Nat.reduceAdd, Nat.zero_add, List.set_cons_succ, List.set_cons_zero])) | (refine G.wb ?_; intro bx) | (refine G.wz ?_; intro bx) | refine G.wa (h := ?_) | refine G.seq ?_ | refine G.region ?_ | refine G.nil ?_ | refine G.block ?_ | refine G.skip ?_ | refine G.blk ?_ | refine G.wx ?_ | refine G.wt ?_ | refine G.wf ?_)
    (first | refine G.take rfl ?_ | refine G.take_yes rfl rfl rfl (by first | rfl | assumption) ?_)
    refine R.storeS rfl rfl rfl (by rw [hvs, st2_len]; simp; omega) ?_
    refine G.isS (.slice a' ((st2 ls i k)[i].length + 1) cap') ((st2 ls i k)[i] ++ [tails i]).length (ints ((st2 ls i k)[i] ++ [tails i])) (by simp) (by unfold ints; rw [List.map_append]; rfl) ?_
    refine G.isS (.slice (some ⟨ob, 0, none⟩) (st2 ls i k).length cap) (st2 ls i k).length (vs.set i (.slice a' ((st2 ls i k)[i].length + 1) cap')) rfl (by rw [show 0 + (i : Int).toNat * 1 = i by simp]) ?_
    refine G.llIn (ob := ob) (cap := cap) (vs := vs) i hk' (.slice a' ((st2 ls i k)[i].length + 1) cap') ((st2 ls i k)[i] ++ [tails i]) hvs ?_
    rw [hll, st2_set ls i k hlt, st2_len ls i k]
    repeat (first | refine G.w0 ?_ | refine G.w1 ?_ | refine G.wn ?_ | refine GR.w ?_ | (refine G.ws (h := ?_); try (simp only [Nat.reduceAdd, Nat.zero_add, List.set_cons_succ, List.set_cons_zero])) | (refine G.wb ?_; intro bx) | (refine G.wz ?_; intro bx) | refine G.wa (h := ?_) | refine G.seq ?_ | refine G.region ?_ | refine G.nil ?_ | refine G.block ?_ | refine G.skip ?_ | refine G.blk ?_ | refine G.wx ?_ | refine G.wt ?_ | refine G.wf ?_)
    refine G.keep [OwnI (.slice na (lens ls ls.length).length nc) (lens ls ls.length), LL (.slice (some ⟨ob, 0, none⟩) ls.length cap) (st2 ls i (k + 1))] ?_
    exact (hin (k + 1) (by omega) (by omega)).forget _ (Env.le_cons rfl (Env.le_cons rfl (Env.le_cons rfl (Env.le_cons rfl (Env.le_nil _)))))
  have hb1 : decide ((i : Int) < (ls.length : Int)) = false := decide_eq_false (by omega)
  have hii : i = ls.length := by omega
  subst hii
  clear hloop
  repeat (first | refine G.w0 ?_ | refine G.w1 ?_ | refine G.wn ?_ | refine GR.w ?_ | (refine G.ws (h := ?_); try (simp only [Nat.reduceAdd, Nat.zero_add, List.set_cons_succ, List.set_cons_zero])) | (refine G.wb ?_; intro bx) | (refine G.wz ?_; intro bx) | refine G.wa (h := ?_) | refine G.seq ?_ | refine G.region ?_ | refine G.nil ?_ | refine G.block ?_ | refine G.skip ?_ | refine G.blk ?_ | refine G.wx ?_ | refine G.wt ?_ | refine G.wf ?_)
  refine G.loopI (fun i : Nat => [(8, .int .i64 i), (3, .slice na (lens ls ls.length).length nc), (0, .slice a ls.length cap)]) (fun i => [OwnI (.slice na (lens ls ls.length).length nc) (lens ls ls.length), LL (.slice a ls.length cap) (st2 ls ls.length 0)]) (fun i => i ≤ ls.length) (fun i => ls.length - i) 0 (by omega) (Env.le_cons rfl (Env.le_cons rfl (Env.le_cons rfl (Env.le_nil _)))) rfl ?_
  rintro i hi hloop
  by_cases hlt : i < ls.length
  · have hb1 : decide ((i : Int) < (ls.length : Int)) = true := decide_eq_true (by omega)
    have hidx : 0 ≤ (i : Int) ∧ (i : Int) < (ls.length : Int) := by omega
    have hw : IntKind.i64.wrap ((i : Int) + 1) = (i : Int) + 1 := wrap_id (by omega) (by omega)
    have hle := hls i hlt
    have hk' : i < (st2 ls ls.length 0).length := by rw [st2_len]; exact hlt
    have hfin := st2_fin ls i hlt
    have hlenf : (st2 ls ls.length 0)[i].length = ls[i].length + 64 := by rw [hfin]; simp
    have hnl := lens_len ls ls.length (by omega)
    have hidn : 0 ≤ (i : Int) ∧ (i : Int) < ((lens ls ls.length).length : Int) := by omega
    refine G.formS (.slice na (lens ls ls.length).length nc) (by omega) ?_
    rintro nb nc' hnb -
    cases hnb
    repeat (first | refine G.w0 ?_ | refine G.w1 ?_ | refine G.wn ?_ | refine GR.w ?_ | (refine G.ws (h := ?_); try (simp only [Nat.reduceAdd, Nat.zero_add, List.set_cons_succ, List.set_cons_zero])) | (refine G.wb ?_; intro bx) | (refine G.wz ?_; intro bx) | refine G.wa (h := ?_) | refine G.seq ?_ | refine G.region ?_ | refine G.nil ?_ | refine G.block ?_ | refine G.skip ?_ | refine G.blk ?_ | refine G.wx ?_ | refine G.wt ?_ | refine G.wf ?_)
    refine G.loopI (fun k : Nat => [(9, .int .i64 k), (8, .int .i64 i), (3, .slice (some ⟨nb, 0, none⟩) (lens ls ls.length).length nc), (0, .slice a ls.length cap)]) (fun k => [OwnI (.slice (some ⟨nb, 0, none⟩) (lens ls ls.length).length nc) (lens ls ls.length), LL (.slice a ls.length cap) (st2 ls ls.length 0)]) (fun k => k ≤ ls[i].length + 64) (fun k => ls[i].length + 64 - k) 0 (by omega) (Env.le_cons rfl (Env.le_cons rfl (Env.le_cons rfl (Env.le_cons rfl (Env.le_nil _))))) rfl ?_
    rintro k hk hin
    refine G.llOut (.slice a ls.length cap) (st2 ls ls.length 0) i hk' ?_
    intro ob vcap vs x hv hvs hx
    simp only [Value.slice.injEq] at hv
    obtain ⟨rfl, _, rfl⟩ := hv
    have hx' : vs[0 + (i : Int).toNat * 1]? = some x := by rw [show 0 + (i : Int).toNat * 1 = i by simp]; exact hx
    refine G.formS x (by omega) ?_
    rintro xb xc rfl -
    have hx2 : vs[0 + (i : Int).toNat * 1]? = some (.slice (some ⟨xb, 0, none⟩) (ls[i].length + 64) xc) := by rw [← hlenf]; exact hx'
    by_cases hkl : k < ls[i].length + 64
    rotate_left
    · have hb2 : decide ((k : Int) < ((ls[i].length + 64 : Nat) : Int)) = false := decide_eq_false (by omega)
      repeat (first | refine G.w0 ?_ | refine G.w1 ?_ | refine G.wn ?_ | refine GR.w ?_ | (refine G.ws (h := ?_); try (simp only [Nat.reduceAdd, Nat.zero_add, List.set_cons_succ, List.set_cons_zero])) | (refine G.wb ?_; intro bx) | (refine G.wz ?_; intro bx) | refine G.wa (h := ?_) | refine G.seq ?_ | refine G.region ?_ | refine G.nil ?_ | refine G.block ?_ | refine G.skip ?_ | refine G.blk ?_ | refine G.wx ?_ | refine G.wt ?_ | refine G.wf ?_)
      (first | refine G.take rfl ?_ | refine G.take_yes rfl rfl rfl (by first | rfl | assumption) ?_)
      refine GR.ok (Ok.loadS rfl hx2) rfl rfl ?_
      repeat (first | refine G.w0 ?_ | refine G.w1 ?_ | refine G.wn ?_ | refine GR.w ?_ | (refine G.ws (h := ?_); try (simp only [Nat.reduceAdd, Nat.zero_add, List.set_cons_succ, List.set_cons_zero])) | (refine G.wb ?_; intro bx) | (refine G.wz ?_; intro bx) | refine G.wa (h := ?_) | refine G.seq ?_ | refine G.region ?_ | refine G.nil ?_ | refine G.block ?_ | refine G.skip ?_ | refine G.blk ?_ | refine G.wx ?_ | refine G.wt ?_ | refine G.wf ?_)
      refine G.llBack (ob := ob) (cap := cap) i hk' (.slice (some ⟨xb, 0, none⟩) (st2 ls ls.length 0)[i].length xc) (st2 ls ls.length 0)[i] rfl hvs hx ?_
      rw [st2_len]
      refine G.keep [OwnI (.slice (some ⟨nb, 0, none⟩) (lens ls ls.length).length nc) (lens ls ls.length), LL (.slice (some ⟨ob, 0, none⟩) ls.length cap) (st2 ls ls.length 0)] ?_
      exact (hloop (i + 1) (by omega) (by omega)).forget _ (Env.le_cons rfl (Env.le_cons rfl (Env.le_cons rfl (Env.le_nil _))))
    have hb2 : decide ((k : Int) < ((ls[i].length + 64 : Nat) : Int)) = true := decide_eq_true (by omega)
    have hw2 : IntKind.i64.wrap ((k : Int) + 1) = (k : Int) + 1 := wrap_id (by omega) (by omega)
    have hidk : 0 ≤ (k : Int) ∧ (k : Int) < ((ls[i].length + 64 : Nat) : Int) := by omega
    have hlg := lens_get ls ls.length i hlt (by omega)
    by_cases hkn : k < ls[i].length
    · have hb3 : decide ((k : Int) < ((ls[i].length : Nat) : Int)) = true := decide_eq_true (by omega)
      have hb4 : decide (((ls[i].length : Nat) : Int) ≤ (k : Int)) = false := decide_eq_false (by omega)
      have hw3 : IntKind.i64.wrap (-1000 - (i : Int)) = -1000 - (i : Int) := wrap_id (by omega) (by omega)
      have hc : (ints (st2 ls ls.length 0)[i])[0 + (k : Int).toNat * 1]? = some (.int .i64 (-1000 - (i : Int))) := by
        rw [show 0 + (k : Int).toNat * 1 = k by simp, hfin]
        unfold ints
        rw [List.getElem?_map, List.getElem?_append_left (by simpa using hkn), List.getElem?_replicate, if_pos hkn]; rfl
      have hb5 : decide ((-1000 - (i : Int)) ≠ (-1000 - (i : Int))) = false := decide_eq_false (by simp)
      repeat (first | refine G.w0 ?_ | refine G.w1 ?_ | refine G.wn ?_ | refine GR.w ?_ | (refine G.ws (h := ?_); try (simp only [Nat.reduceAdd, Nat.zero_add, List.set_cons_succ, List.set_cons_zero])) | (refine G.wb ?_; intro bx) | (refine G.wz ?_; intro bx) | refine G.wa (h := ?_) | refine G.seq ?_ | refine G.region ?_ | refine G.nil ?_ | refine G.block ?_ | refine G.skip ?_ | refine G.blk ?_ | refine G.wx ?_ | refine G.wt ?_ | refine G.wf ?_)
      (first | refine G.take rfl ?_ | refine G.take_yes rfl rfl rfl (by first | rfl | assumption) ?_)
      refine GR.ok (Ok.loadS rfl hx2) rfl rfl ?_
      repeat (first | refine G.w0 ?_ | refine G.w1 ?_ | refine G.wn ?_ | refine GR.w ?_ | (refine G.ws (h := ?_); try (simp only [Nat.reduceAdd, Nat.zero_add, List.set_cons_succ, List.set_cons_zero])) | (refine G.wb ?_; intro bx) | (refine G.wz ?_; intro bx) | refine G.wa (h := ?_) | refine G.seq ?_ | refine G.region ?_ | refine G.nil ?_ | refine G.block ?_ | refine G.skip ?_ | refine G.blk ?_ | refine G.wx ?_ | refine G.wt ?_ | refine G.wf ?_)
      (first | refine G.take rfl ?_ | refine G.take_yes rfl rfl rfl (by first | rfl | assumption) ?_)
      refine GR.ok (Ok.loadS rfl hlg) rfl rfl ?_
      repeat (first | refine G.w0 ?_ | refine G.w1 ?_ | refine G.wn ?_ | refine GR.w ?_ | (refine G.ws (h := ?_); try (simp only [Nat.reduceAdd, Nat.zero_add, List.set_cons_succ, List.set_cons_zero])) | (refine G.wb ?_; intro bx) | (refine G.wz ?_; intro bx) | refine G.wa (h := ?_) | refine G.seq ?_ | refine G.region ?_ | refine G.nil ?_ | refine G.block ?_ | refine G.skip ?_ | refine G.blk ?_ | refine G.wx ?_ | refine G.wt ?_ | refine G.wf ?_)
      refine G.take_yes rfl rfl rfl hb3 ?_
      refine GR.ok (Ok.loadS rfl hx2) rfl rfl ?_
      repeat (first | refine G.w0 ?_ | refine G.w1 ?_ | refine G.wn ?_ | refine GR.w ?_ | (refine G.ws (h := ?_); try (simp only [Nat.reduceAdd, Nat.zero_add, List.set_cons_succ, List.set_cons_zero])) | (refine G.wb ?_; intro bx) | (refine G.wz ?_; intro bx) | refine G.wa (h := ?_) | refine G.seq ?_ | refine G.region ?_ | refine G.nil ?_ | refine G.block ?_ | refine G.skip ?_ | refine G.blk ?_ | refine G.wx ?_ | refine G.wt ?_ | refine G.wf ?_)
      refine G.take_yes rfl rfl rfl hb3 ?_
      refine GR.ok (Ok.loadS rfl hc) rfl rfl ?_
      repeat (first | refine G.w0 ?_ | refine G.w1 ?_ | refine G.wn ?_ | refine GR.w ?_ | (refine G.ws (h := ?_); try (simp only [Nat.reduceAdd, Nat.zero_add, List.set_cons_succ, List.set_cons_zero])) | (refine G.wb ?_; intro bx) | (refine G.wz ?_; intro bx) | refine G.wa (h := ?_) | refine G.seq ?_ | refine G.region ?_ | refine G.nil ?_ | refine G.block ?_ | refine G.skip ?_ | refine G.blk ?_ | refine G.wx ?_ | refine G.wt ?_ | refine G.wf ?_)
      refine G.take_yes rfl rfl rfl hb5 ?_
      refine GR.ok (Ok.loadS rfl hlg) rfl rfl ?_
      repeat (first | refine G.w0 ?_ | refine G.w1 ?_ | refine G.wn ?_ | refine GR.w ?_ | (refine G.ws (h := ?_); try (simp only [Nat.reduceAdd, Nat.zero_add, List.set_cons_succ, List.set_cons_zero])) | (refine G.wb ?_; intro bx) | (refine G.wz ?_; intro bx) | refine G.wa (h := ?_) | refine G.seq ?_ | refine G.region ?_ | refine G.nil ?_ | refine G.block ?_ | refine G.skip ?_ | refine G.blk ?_ | refine G.wx ?_ | refine G.wt ?_ | refine G.wf ?_)
      refine G.llBack (ob := ob) (cap := cap) i hk' (.slice (some ⟨xb, 0, none⟩) (st2 ls ls.length 0)[i].length xc) (st2 ls ls.length 0)[i] rfl hvs hx ?_
      rw [st2_len]
      refine G.keep [OwnI (.slice (some ⟨nb, 0, none⟩) (lens ls ls.length).length nc) (lens ls ls.length), LL (.slice (some ⟨ob, 0, none⟩) ls.length cap) (st2 ls ls.length 0)] ?_
      exact (hin (k + 1) (by omega) (by omega)).forget _ (Env.le_cons rfl (Env.le_cons rfl (Env.le_cons rfl (Env.le_cons rfl (Env.le_nil _)))))
    · have hb3 : decide ((k : Int) < ((ls[i].length : Nat) : Int)) = false := decide_eq_false (by omega)
      have hb4 : decide (((ls[i].length : Nat) : Int) ≤ (k : Int)) = true := decide_eq_true (by omega)
      have hw3 : IntKind.i64.wrap (-9000 - (i : Int)) = -9000 - (i : Int) := wrap_id (by omega) (by omega)
      have hc : (ints (st2 ls ls.length 0)[i])[0 + (k : Int).toNat * 1]? = some (.int .i64 (-9000 - (i : Int))) := by
        rw [show 0 + (k : Int).toNat * 1 = k by simp, hfin]
        unfold ints
        rw [List.getElem?_map, List.getElem?_append_right (by simp; omega), List.getElem?_replicate, List.length_replicate, if_pos (by omega)]; rfl
      have hb5 : decide ((-9000 - (i : Int)) ≠ (-9000 - (i : Int))) = false := decide_eq_false (by simp)
      repeat (first | refine G.w0 ?_ | refine G.w1 ?_ | refine G.wn ?_ | refine GR.w ?_ | (refine G.ws (h := ?_); try (simp only [Nat.reduceAdd, Nat.zero_add, List.set_cons_succ, List.set_cons_zero])) | (refine G.wb ?_; intro bx) | (refine G.wz ?_; intro bx) | refine G.wa (h := ?_) | refine G.seq ?_ | refine G.region ?_ | refine G.nil ?_ | refine G.block ?_ | refine G.skip ?_ | refine G.blk ?_ | refine G.wx ?_ | refine G.wt ?_ | refine G.wf ?_)
      (first | refine G.take rfl ?_ | refine G.take_yes rfl rfl rfl (by first | rfl | assumption) ?_)
      refine GR.ok (Ok.loadS rfl hx2) rfl rfl ?_
      repeat (first | refine G.w0 ?_ | refine G.w1 ?_ | refine G.wn ?_ | refine GR.w ?_ | (refine G.ws (h := ?_); try (simp only [Nat.reduceAdd, Nat.zero_add, List.set_cons_succ, List.set_cons_zero])) | (refine G.wb ?_; intro bx) | (refine G.wz ?_; intro bx) | refine G.wa (h := ?_) | refine G.seq ?_ | refine G.region ?_ | refine G.nil ?_ | refine G.block ?_ | refine G.skip ?_ | refine G.blk ?_ | refine G.wx ?_ | refine G.wt ?_ | refine G.wf ?_)
      (first | refine G.take rfl ?_ | refine G.take_yes rfl rfl rfl (by first | rfl | assumption) ?_)
      refine GR.ok (Ok.loadS rfl hlg) rfl rfl ?_
      repeat (first | refine G.w0 ?_ | refine G.w1 ?_ | refine G.wn ?_ | refine GR.w ?_ | (refine G.ws (h := ?_); try (simp only [Nat.reduceAdd, Nat.zero_add, List.set_cons_succ, List.set_cons_zero])) | (refine G.wb ?_; intro bx) | (refine G.wz ?_; intro bx) | refine G.wa (h := ?_) | refine G.seq ?_ | refine G.region ?_ | refine G.nil ?_ | refine G.block ?_ | refine G.skip ?_ | refine G.blk ?_ | refine G.wx ?_ | refine G.wt ?_ | refine G.wf ?_)
      refine G.take_yes rfl rfl rfl rfl ?_
      refine GR.ok (Ok.loadS rfl hlg) rfl rfl ?_
      repeat (first | refine G.w0 ?_ | refine G.w1 ?_ | refine G.wn ?_ | refine GR.w ?_ | (refine G.ws (h := ?_); try (simp only [Nat.reduceAdd, Nat.zero_add, List.set_cons_succ, List.set_cons_zero])) | (refine G.wb ?_; intro bx) | (refine G.wz ?_; intro bx) | refine G.wa (h := ?_) | refine G.seq ?_ | refine G.region ?_ | refine G.nil ?_ | refine G.block ?_ | refine G.skip ?_ | refine G.blk ?_ | refine G.wx ?_ | refine G.wt ?_ | refine G.wf ?_)
      refine G.take_yes rfl rfl rfl hb4 ?_
      refine GR.ok (Ok.loadS rfl hx2) rfl rfl ?_
      repeat (first | refine G.w0 ?_ | refine G.w1 ?_ | refine G.wn ?_ | refine GR.w ?_ | (refine G.ws (h := ?_); try (simp only [Nat.reduceAdd, Nat.zero_add, List.set_cons_succ, List.set_cons_zero])) | (refine G.wb ?_; intro bx) | (refine G.wz ?_; intro bx) | refine G.wa (h := ?_) | refine G.seq ?_ | refine G.region ?_ | refine G.nil ?_ | refine G.block ?_ | refine G.skip ?_ | refine G.blk ?_ | refine G.wx ?_ | refine G.wt ?_ | refine G.wf ?_)
      refine G.take_yes rfl rfl rfl hb4 ?_
      refine GR.ok (Ok.loadS rfl hc) rfl rfl ?_
      repeat (first | refine G.w0 ?_ | refine G.w1 ?_ | refine G.wn ?_ | refine GR.w ?_ | (refine G.ws (h := ?_); try (simp only [Nat.reduceAdd, Nat.zero_add, List.set_cons_succ, List.set_cons_zero])) | (refine G.wb ?_; intro bx) | (refine G.wz ?_; intro bx) | refine G.wa (h := ?_) | refine G.seq ?_ | refine G.region ?_ | refine G.nil ?_ | refine G.block ?_ | refine G.skip ?_ | refine G.blk ?_ | refine G.wx ?_ | refine G.wt ?_ | refine G.wf ?_)
      refine G.llBack (ob := ob) (cap := cap) i hk' (.slice (some ⟨xb, 0, none⟩) (st2 ls ls.length 0)[i].length xc) (st2 ls ls.length 0)[i] rfl hvs hx ?_
      rw [st2_len]
      refine G.keep [OwnI (.slice (some ⟨nb, 0, none⟩) (lens ls ls.length).length nc) (lens ls ls.length), LL (.slice (some ⟨ob, 0, none⟩) ls.length cap) (st2 ls ls.length 0)] ?_
      exact (hin (k + 1) (by omega) (by omega)).forget _ (Env.le_cons rfl (Env.le_cons rfl (Env.le_cons rfl (Env.le_cons rfl (Env.le_nil _)))))
  have hb1 : decide ((i : Int) < (ls.length : Int)) = false := decide_eq_false (by omega)
  repeat (first | refine G.w0 ?_ | refine G.w1 ?_ | refine G.wn ?_ | refine GR.w ?_ | (refine G.ws (h := ?_); try (simp only [Nat.reduceAdd, Nat.zero_add, List.set_cons_succ, List.set_cons_zero])) | (refine G.wb ?_; intro bx) | (refine G.wz ?_; intro bx) | refine G.wa (h := ?_) | refine G.seq ?_ | refine G.region ?_ | refine G.nil ?_ | refine G.block ?_ | refine G.skip ?_ | refine G.blk ?_ | refine G.wx ?_ | refine G.wt ?_ | refine G.wf ?_)
  first | refine G.retK [] rfl Try.func31 rfl Res.nil ?_ | refine G.retK [] rfl Try.func31 rfl (Res.tmp rfl Res.nil) ?_ | refine G.retK [] rfl Try.func31 rfl (Res.tmp rfl (Res.tmp rfl Res.nil)) ?_ | refine G.retK [] rfl Try.func31 rfl (Res.tmp rfl (Res.tmp rfl (Res.tmp rfl Res.nil))) ?_ | refine G.retK [] rfl Try.func31 rfl (Res.cellA rfl rfl rfl Res.nil) ?_ | refine G.retK [] rfl Try.func31 rfl (Res.cellA rfl rfl rfl (Res.tmp rfl Res.nil)) ?_ | refine G.retK [] rfl Try.func31 rfl (Res.cell rfl rfl Res.nil) ?_
  exact ⟨rfl, rfl⟩

/-- Two environments are ended: their lists are lists of their own. -/
theorem endsApart_ok (T : Nat) (last : Int) (rs : List (Option Rec)) (v : Value) (r0 : Rec) (ht : TreeOk rs last) (hr : getr rs 0 = some r0) : Fun Try.prog 33 [ptr (some T), v] [Table T last rs, OwnI v r0.kids] (Ret (.bool true) []) := by
  refine Fun.enter Try.func33 rfl rfl rfl ?_
  refine G.form v ?_
  rintro a cap rfl
  by_cases hk : r0.kids.length < 2
  · have hb1 : decide ((r0.kids.length : Int) < 2) = true := decide_eq_true (by omega)
    repeat (first | refine G.w0 ?_ | refine G.w1 ?_ | refine G.wn ?_ | refine GR.w ?_ | (refine G.ws (h := ?_); try (simp only [Nat.reduceAdd, Nat.zero_add, List.set_cons_succ, List.set_cons_zero])) | (refine G.wb ?_; intro bx) | (refine G.wz ?_; intro bx) | refine G.wa (h := ?_) | refine G.seq ?_ | refine G.region ?_ | refine G.nil ?_ | refine G.block ?_ | refine G.skip ?_ | refine G.blk ?_ | refine G.wx ?_ | refine G.wt ?_ | refine G.wf ?_)
    first | refine G.retK [] rfl Try.func33 rfl Res.nil ?_ | refine G.retK [] rfl Try.func33 rfl (Res.tmp rfl Res.nil) ?_ | refine G.retK [] rfl Try.func33 rfl (Res.tmp rfl (Res.tmp rfl Res.nil)) ?_ | refine G.retK [] rfl Try.func33 rfl (Res.tmp rfl (Res.tmp rfl (Res.tmp rfl Res.nil))) ?_ | refine G.retK [] rfl Try.func33 rfl (Res.cellA rfl rfl rfl Res.nil) ?_ | refine G.retK [] rfl Try.func33 rfl (Res.cellA rfl rfl rfl (Res.tmp rfl Res.nil)) ?_ | refine G.retK [] rfl Try.func33 rfl (Res.cell rfl rfl Res.nil) ?_
    exact ⟨rfl, rfl⟩
  have hb1 : decide ((r0.kids.length : Int) < 2) = false := decide_eq_false (by omega)
  refine G.formS (.slice a r0.kids.length cap) (by omega) ?_
  rintro kb kc hkb -
  cases hkb
  obtain ⟨s0, hs0, hp0, hn0⟩ := ht.kid 0 r0 r0.kids[0] hr (List.getElem_mem _)
  obtain ⟨s1, hs1, hp1, hn1⟩ := ht.kid 0 r0 r0.kids[1] hr (List.getElem_mem _)
  have hc0 := ints_get' r0.kids 0 (by omega)
  have hc1 := ints_get' r0.kids 1 (by omega)
  have hi0 : 0 ≤ (0 : Int) ∧ (0 : Int) < (r0.kids.length : Int) := by omega
  have hi1 : 0 ≤ (1 : Int) ∧ (1 : Int) < (r0.kids.length : Int) := by omega
  have hne : r0.kids[0] ≠ r0.kids[1] := fun h => by have := nodup_inj (ht.nd 0 r0 hr) (by omega) (by omega) h; omega
  have hpr0 : getr rs s0.parent = some r0 := by rw [hp0]; exact hr
  have hd0 := Destroy_ok T last rs r0.kids[0] (fun r h h0 => ht.canEnd h h0)
  have he0 : (destroyF rs r0.kids[0]).1 = (treeF rs r0.kids[0], 0) := by
    unfold destroyF; rw [hs0]; dsimp only; rw [if_neg hn0, hpr0]; simp only [treeF, hs0]
  have ht1 := ht.destroyF r0.kids[0]
  have hg := getr_destroy ht hs0 hn0 hpr0 r0.kids[1]
  have hout : r0.kids[1] ∉ pre 16 rs r0.kids[0] := by
    intro h
    have := (mem_pre ht hs0 _).1 h
    exact hne (apart ht hr (List.getElem_mem _) (List.getElem_mem _) this)
  have hkp : r0.kids[1] ≠ s0.parent := by rw [hp0]; exact hn1
  rw [if_neg hout, if_neg hkp] at hg
  have hg1 : getr (destroyF rs r0.kids[0]).2 r0.kids[1] = some s1 := by
    unfold destroyF; rw [hs0]; dsimp only; rw [if_neg hn0, hpr0]; dsimp only
    rw [hg]; exact hs1
  rw [he0] at hd0
  generalize (destroyF rs r0.kids[0]).2 = rs1 at hd0 ht1 hg1
  have hd1 := Destroy_ok T last rs1 r0.kids[1] (fun r h h0 => ht1.canEnd h h0)
  obtain ⟨p1, hpp1, _, _⟩ := ht1.up _ s1 hg1 hn1
  have he1 : (destroyF rs1 r0.kids[1]).1 = (treeF rs1 r0.kids[1], 0) := by
    unfold destroyF; rw [hg1]; dsimp only; rw [if_neg hn1, hpp1]; simp only [treeF, hg1]
  rw [he1] at hd1
  have hl0 := tree_len ht r0.kids[0]
  have hl1 := tree_len ht1 r0.kids[1]
  have hpos0 : 0 < (treeF rs r0.kids[0]).length := by rw [tree_cons ht hs0]; simp
  have hpos1 : 0 < (treeF rs1 r0.kids[1]).length := by rw [tree_cons ht1 hg1]; simp
  have hb2 : decide ((0 : Int) < ((treeF rs r0.kids[0]).length : Int)) = true := decide_eq_true (by omega)
  have hb3 : decide ((0 : Int) < ((treeF rs1 r0.kids[1]).length : Int)) = true := decide_eq_true (by omega)
  repeat (first | refine G.w0 ?_ | refine G.w1 ?_ | refine G.wn ?_ | refine GR.w ?_ | (refine G.ws (h := ?_); try (simp only [Nat.reduceAdd, Nat.zero_add, List.set_cons_succ, List.set_cons_zero])) | (refine G.wb ?_; intro bx) | (refine G.wz ?_; intro bx) | refine G.wa (h := ?_) | refine G.seq ?_ | refine G.region ?_ | refine G.nil ?_ | refine G.block ?_ | refine G.skip ?_ | refine G.blk ?_ | refine G.wx ?_ | refine G.wt ?_ | refine G.wf ?_)
  (first | refine G.take rfl ?_ | refine G.take_yes rfl rfl rfl (by first | rfl | assumption) ?_)
  refine GR.ok (Ok.loadS rfl hc0) rfl rfl ?_
  (first | refine G.take rfl ?_ | refine G.take_yes rfl rfl rfl (by first | rfl | assumption) ?_); (first | refine R.callQ Try.func24 rfl (by decide) rfl rfl (hd0) ?_ | refine R.callQ0 Try.func24 rfl (by decide) rfl (hd0) ?_); (rintro _ _ ⟨fv, rfl, rfl⟩ <;> simp only [List.cons_append, List.nil_append])
  repeat (first | refine G.w0 ?_ | refine G.w1 ?_ | refine G.wn ?_ | refine GR.w ?_ | (refine G.ws (h := ?_); try (simp only [Nat.reduceAdd, Nat.zero_add, List.set_cons_succ, List.set_cons_zero])) | (refine G.wb ?_; intro bx) | (refine G.wz ?_; intro bx) | refine G.wa (h := ?_) | refine G.seq ?_ | refine G.region ?_ | refine G.nil ?_ | refine G.block ?_ | refine G.skip ?_ | refine G.blk ?_ | refine G.wx ?_ | refine G.wt ?_ | refine G.wf ?_)
  (first | refine G.take rfl ?_ | refine G.take_yes rfl rfl rfl (by first | rfl | assumption) ?_); (first | refine R.callQ Try.func26 rfl (by decide) rfl rfl (copied_ok fv (treeF rs r0.kids[0]) (by omega)) ?_ | refine R.callQ0 Try.func26 rfl (by decide) rfl (copied_ok fv (treeF rs r0.kids[0]) (by omega)) ?_); (rintro _ _ rfl <;> simp only [List.cons_append, List.nil_append])
  rename_i kv
  refine G.form fv ?_
  rintro fa fc rfl
  refine G.form kv ?_
  rintro ka kc2 rfl
  repeat (first | refine G.w0 ?_ | refine G.w1 ?_ | refine G.wn ?_ | refine GR.w ?_ | (refine G.ws (h := ?_); try (simp only [Nat.reduceAdd, Nat.zero_add, List.set_cons_succ, List.set_cons_zero])) | (refine G.wb ?_; intro bx) | (refine G.wz ?_; intro bx) | refine G.wa (h := ?_) | refine G.seq ?_ | refine G.region ?_ | refine G.nil ?_ | refine G.block ?_ | refine G.skip ?_ | refine G.blk ?_ | refine G.wx ?_ | refine G.wt ?_ | refine G.wf ?_)
  (first | refine G.take rfl ?_ | refine G.take_yes rfl rfl rfl (by first | rfl | assumption) ?_)
  refine GR.ok (Ok.loadS rfl hc1) rfl rfl ?_
  (first | refine G.take rfl ?_ | refine G.take_yes rfl rfl rfl (by first | rfl | assumption) ?_); (first | refine R.callQ Try.func24 rfl (by decide) rfl rfl (hd1) ?_ | refine R.callQ0 Try.func24 rfl (by decide) rfl (hd1) ?_); (rintro _ _ ⟨gv, rfl, rfl⟩ <;> simp only [List.cons_append, List.nil_append])
  refine G.form gv ?_
  rintro ga gc rfl
  repeat (first | refine G.w0 ?_ | refine G.w1 ?_ | refine G.wn ?_ | refine GR.w ?_ | (refine G.ws (h := ?_); try (simp only [Nat.reduceAdd, Nat.zero_add, List.set_cons_succ, List.set_cons_zero])) | (refine G.wb ?_; intro bx) | (refine G.wz ?_; intro bx) | refine G.wa (h := ?_) | refine G.seq ?_ | refine G.region ?_ | refine G.nil ?_ | refine G.block ?_ | refine G.skip ?_ | refine G.blk ?_ | refine G.wx ?_ | refine G.wt ?_ | refine G.wf ?_)
  (first | refine G.take rfl ?_ | refine G.take_yes rfl rfl rfl (by first | rfl | assumption) ?_); (first | refine R.callD Try.func28 rfl (by decide) rfl rfl (sameInts_ok (.slice fa (treeF rs r0.kids[0]).length fc) (.slice ka (treeF rs r0.kids[0]).length kc2) (treeF rs r0.kids[0]) (by omega)) ?_ | refine R.callD0 Try.func28 rfl (by decide) rfl (sameInts_ok (.slice fa (treeF rs r0.kids[0]).length fc) (.slice ka (treeF rs r0.kids[0]).length kc2) (treeF rs r0.kids[0]) (by omega)) ?_); simp only [List.cons_append, List.nil_append]
  repeat (first | refine G.w0 ?_ | refine G.w1 ?_ | refine G.wn ?_ | refine GR.w ?_ | (refine G.ws (h := ?_); try (simp only [Nat.reduceAdd, Nat.zero_add, List.set_cons_succ, List.set_cons_zero])) | (refine G.wb ?_; intro bx) | (refine G.wz ?_; intro bx) | refine G.wa (h := ?_) | refine G.seq ?_ | refine G.region ?_ | refine G.nil ?_ | refine G.block ?_ | refine G.skip ?_ | refine G.blk ?_ | refine G.wx ?_ | refine G.wt ?_ | refine G.wf ?_)
  refine G.take_yes rfl rfl rfl hb3 ?_
  refine R.bs2 rfl rfl rfl rfl rfl rfl fun ob => ?_
  refine G.mkS ob 1 2 rfl ?_
  refine G.bag0 ?_
  refine G.bagSnoc [] (OwnI (.slice fa (treeF rs r0.kids[0]).length fc) (treeF rs r0.kids[0])) ?_
  refine G.bagSnoc ([] ++ [OwnI (.slice fa (treeF rs r0.kids[0]).length fc) (treeF rs r0.kids[0])]) (OwnI (.slice ga (treeF rs1 r0.kids[1]).length gc) (treeF rs1 r0.kids[1])) ?_
  refine G.close (LL (.slice (some ⟨ob, 0, none⟩) 2 2) [treeF rs r0.kids[0], treeF rs1 r0.kids[1]]) rfl [.slice fa (treeF rs r0.kids[0]).length fc, .slice ga (treeF rs1 r0.kids[1]).length gc] rfl (L := [OwnS 57 1 (.slice (some ⟨ob, 0, none⟩) 2 2) 2 [.slice fa (treeF rs r0.kids[0]).length fc, .slice ga (treeF rs1 r0.kids[1]).length gc], sep ([] ++ [OwnI (.slice fa (treeF rs r0.kids[0]).length fc) (treeF rs r0.kids[0])] ++ [OwnI (.slice ga (treeF rs1 r0.kids[1]).length gc) (treeF rs1 r0.kids[1])])]) rfl ?_
  refine G.take_yes rfl rfl rfl hb3 ?_
  refine R.callD Try.func31 rfl (by decide) rfl rfl (listsApart_ok (.slice (some ⟨ob, 0, none⟩) 2 2) [treeF rs r0.kids[0], treeF rs1 r0.kids[1]] (by simp) (fun i h => by
    match i, h with
    | 0, _ => show (treeF rs r0.kids[0]).length ≤ 1000; omega
    | 1, _ => show (treeF rs1 r0.kids[1]).length ≤ 1000; omega)) ?_
  simp only [List.cons_append, List.nil_append]
  repeat (first | refine G.w0 ?_ | refine G.w1 ?_ | refine G.wn ?_ | refine GR.w ?_ | (refine G.ws (h := ?_); try (simp only [Nat.reduceAdd, Nat.zero_add, List.set_cons_succ, List.set_cons_zero])) | (refine G.wb ?_; intro bx) | (refine G.wz ?_; intro bx) | refine G.wa (h := ?_) | refine G.seq ?_ | refine G.region ?_ | refine G.nil ?_ | refine G.block ?_ | refine G.skip ?_ | refine G.blk ?_ | refine G.wx ?_ | refine G.wt ?_ | refine G.wf ?_)
  first | refine G.retK [] rfl Try.func33 rfl Res.nil ?_ | refine G.retK [] rfl Try.func33 rfl (Res.tmp rfl Res.nil) ?_ | refine G.retK [] rfl Try.func33 rfl (Res.tmp rfl (Res.tmp rfl Res.nil)) ?_ | refine G.retK [] rfl Try.func33 rfl (Res.tmp rfl (Res.tmp rfl (Res.tmp rfl Res.nil))) ?_ | refine G.retK [] rfl Try.func33 rfl (Res.cellA rfl rfl rfl Res.nil) ?_ | refine G.retK [] rfl Try.func33 rfl (Res.cellA rfl rfl rfl (Res.tmp rfl Res.nil)) ?_ | refine G.retK [] rfl Try.func33 rfl (Res.cell rfl rfl Res.nil) ?_
  exact ⟨rfl, rfl⟩
end Go.Proofs.Ytffcilmllebdmaa
