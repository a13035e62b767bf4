/- Destroy. -/
import Derived.Test.YtffcilmllebdmaaE11
namespace Go.Proofs.Ytffcilmllebdmaa
open Go.Am
set_option maxHeartbeats 4000000
set_option linter.unusedVariables false
set_option linter.unusedSimpArgs false
attribute [local irreducible] Ok GR G Fun OpRun EVS

theorem walk0_ok (T S : Nat) (last low : Int) (ps : List (Option Nat)) (rs : List (Option Rec)) (kvs : List Value) (hal : Alike ps rs) (hkl : kvs.length = rs.length) (hks : ∀ e r, getr rs e = some r → r.kids.length ≤ 16)
    (n : Nat) (e : Int) (hd : Deep n rs e) (hb : (pre n rs e).length ≤ 100000) :
      Fun Try.prog 59 [ptr (some T), i64 e, .slice none 0 0] [cb T [ptr (some S), i64 last] 90, Slots S low ps, RecsK ps rs kvs]
        (fun v H => ∃ a' cap', v = .slice a' (pre n rs e).length cap' ∧ H = [cb T [ptr (some S), i64 last] 90, Slots S low ps, RecsK ps rs kvs, OwnS 3 1 (.slice a' (pre n rs e).length cap') (pre n rs e).length (ints (pre n rs e))]) := by
  have h := walk_ok T S last low ps rs kvs hal hkl hks n e [] none 0 hd (by simpa using hb)
  simp only [List.nil_append, List.length_nil] at h
  refine h.conv fun g w s => ?_
  exact (OwnS.nil 3 1 s).perm (List.perm_append_comm (l₁ := [OwnS 3 1 (.slice none 0 0) 0 []]) (l₂ := [cb T [ptr (some S), i64 last] 90, Slots S low ps, RecsK ps rs kvs]))

def dropAll (rs : List (Option Rec)) (l : List Int) : List (Option Rec) := l.foldl (fun rs n => rs.set n.toNat none) rs
/-- What Destroy answers and leaves. -/
def destroyF (rs : List (Option Rec)) (e : Int) : (List Int × Int) × List (Option Rec) :=
  match getr rs e with
  | none => (([], 90), rs)
  | some r => if e = 0 then (([], 92), rs) else
    match getr rs r.parent with
    | none => (([], 0), rs)
    | some p => ((pre 16 rs e, 0), dropAll (rs.set r.parent.toNat (some { p with carved := qsub p.carved (qone r.whole), kids := p.kids.filter (· ≠ e) })) (pre 16 rs e))

theorem LowOk.drop {low i : Int} {ps : List (Option Nat)} (h : LowOk low ps) (hi : 0 ≤ i) : LowOk (min low i) (ps.set i.toNat none) := by
  obtain ⟨h0, h1, h2⟩ := h
  refine ⟨by omega, by omega, fun j j0 j1 => ?_⟩
  have := h2 j j0 (by omega)
  rw [getp_in j0] at this ⊢
  rw [List.getElem?_set, if_neg (by omega)]; exact this

/-- What must hold of the tree for a Destroy. -/
structure CanEnd (rs : List (Option Rec)) (e : Int) : Prop where
  kids : ∀ e r, getr rs e = some r → r.kids.length ≤ 16
  deep : Deep 16 rs e
  len : (pre 16 rs e).length ≤ 100000
  nd : (pre 16 rs e).Nodup
  live : ∀ k ∈ pre 16 rs e, (getr rs k).isSome = true
  par : ∀ r, getr rs e = some r → e ≠ 0 → ∃ p, getr rs r.parent = some p ∧ r.parent ≠ e ∧ (qsub p.carved (qone r.whole)).in64 ∧ (qone r.whole).in64

theorem Destroy_ok (T : Nat) (last : Int) (rs : List (Option Rec)) (e : Int) (hc : ∀ r, getr rs e = some r → e ≠ 0 → CanEnd rs e) : Fun Try.prog 24 [ptr (some T), i64 e] [Table T last rs]
    (fun v H => ∃ sv, v = .tuple #[sv, i64 (destroyF rs e).1.2] ∧ H = [Table T last (destroyF rs e).2, OwnS 3 1 sv (destroyF rs e).1.1.length (ints (destroyF rs e).1.1)]) := by
  refine Fun.enter Try.func24 rfl rfl rfl ?_
  refine G.open (Table T last rs) rfl ?_
  rintro ⟨S, low, ps⟩ ⟨hlow, hal, hl⟩
  simp only [List.cons_append, List.nil_append]
  rcases hp : getp ps e with _ | b
  · repeat (first | refine G.w0 ?_ | refine G.w1 ?_ | refine G.wn ?_ | refine GR.w ?_ | (refine G.ws (h := ?_); try (simp only [Nat.reduceAdd, Nat.zero_add, List.set_cons_succ, List.set_cons_zero])) | (refine G.wb ?_; intro bx) | (refine G.wz ?_; intro bx) | refine G.wa (h := ?_) | refine G.seq ?_ | refine G.region ?_ | refine G.nil ?_ | refine G.block ?_ | refine G.skip ?_ | refine G.blk ?_ | refine G.wx ?_ | refine G.wt ?_ | refine G.wf ?_)
    (first | refine G.take rfl ?_ | refine G.take_yes rfl rfl rfl (by first | rfl | assumption) ?_); (first | refine R.callD Try.func44 rfl (by decide) rfl rfl (at_ok S low e ps _ hp) ?_ | refine R.callD0 Try.func44 rfl (by decide) rfl (at_ok S low e ps _ hp) ?_); simp only [List.cons_append, List.nil_append]
    repeat (first | refine G.w0 ?_ | refine G.w1 ?_ | refine G.wn ?_ | refine GR.w ?_ | (refine G.ws (h := ?_); try (simp only [Nat.reduceAdd, Nat.zero_add, List.set_cons_succ, List.set_cons_zero])) | (refine G.wb ?_; intro bx) | (refine G.wz ?_; intro bx) | refine G.wa (h := ?_) | refine G.seq ?_ | refine G.region ?_ | refine G.nil ?_ | refine G.block ?_ | refine G.skip ?_ | refine G.blk ?_ | refine G.wx ?_ | refine G.wt ?_ | refine G.wf ?_)
    refine G.close (Table T last rs) rfl ((S, low, ps)) (⟨hlow, hal, hl⟩) (by dsimp only) ?_
    refine G.nilS 3 1 ?_
    first | refine G.retK [Table T last rs, OwnS 3 1 (.slice none 0 0) 0 []] rfl Try.func24 rfl Res.nil ?_ | refine G.retK [Table T last rs, OwnS 3 1 (.slice none 0 0) 0 []] rfl Try.func24 rfl (Res.tmp rfl Res.nil) ?_ | refine G.retK [Table T last rs, OwnS 3 1 (.slice none 0 0) 0 []] rfl Try.func24 rfl (Res.tmp rfl (Res.tmp rfl Res.nil)) ?_ | refine G.retK [Table T last rs, OwnS 3 1 (.slice none 0 0) 0 []] rfl Try.func24 rfl (Res.tmp rfl (Res.tmp rfl (Res.tmp rfl Res.nil))) ?_ | refine G.retK [Table T last rs, OwnS 3 1 (.slice none 0 0) 0 []] rfl Try.func24 rfl (Res.cellA rfl rfl rfl Res.nil) ?_ | refine G.retK [Table T last rs, OwnS 3 1 (.slice none 0 0) 0 []] rfl Try.func24 rfl (Res.cellA rfl rfl rfl (Res.tmp rfl Res.nil)) ?_ | refine G.retK [Table T last rs, OwnS 3 1 (.slice none 0 0) 0 []] rfl Try.func24 rfl (Res.cell rfl rfl Res.nil) ?_
    simp only [destroyF, getr_none hal hp]
    exact ⟨_, rfl, rfl⟩
  · obtain ⟨r, hr⟩ := getr_some hal hp
    by_cases h0 : e = 0
    · have hb0 : decide (e = 0) = true := by simpa using h0
      repeat (first | refine G.w0 ?_ | refine G.w1 ?_ | refine G.wn ?_ | refine GR.w ?_ | (refine G.ws (h := ?_); try (simp only [Nat.reduceAdd, Nat.zero_add, List.set_cons_succ, List.set_cons_zero])) | (refine G.wb ?_; intro bx) | (refine G.wz ?_; intro bx) | refine G.wa (h := ?_) | refine G.seq ?_ | refine G.region ?_ | refine G.nil ?_ | refine G.block ?_ | refine G.skip ?_ | refine G.blk ?_ | refine G.wx ?_ | refine G.wt ?_ | refine G.wf ?_)
      (first | refine G.take rfl ?_ | refine G.take_yes rfl rfl rfl (by first | rfl | assumption) ?_); (first | refine R.callD Try.func44 rfl (by decide) rfl rfl (at_ok S low e ps _ hp) ?_ | refine R.callD0 Try.func44 rfl (by decide) rfl (at_ok S low e ps _ hp) ?_); simp only [List.cons_append, List.nil_append]
      repeat (first | refine G.w0 ?_ | refine G.w1 ?_ | refine G.wn ?_ | refine GR.w ?_ | (refine G.ws (h := ?_); try (simp only [Nat.reduceAdd, Nat.zero_add, List.set_cons_succ, List.set_cons_zero])) | (refine G.wb ?_; intro bx) | (refine G.wz ?_; intro bx) | refine G.wa (h := ?_) | refine G.seq ?_ | refine G.region ?_ | refine G.nil ?_ | refine G.block ?_ | refine G.skip ?_ | refine G.blk ?_ | refine G.wx ?_ | refine G.wt ?_ | refine G.wf ?_)
      refine G.close (Table T last rs) rfl ((S, low, ps)) (⟨hlow, hal, hl⟩) (by dsimp only) ?_
      refine G.nilS 3 1 ?_
      first | refine G.retK [Table T last rs, OwnS 3 1 (.slice none 0 0) 0 []] rfl Try.func24 rfl Res.nil ?_ | refine G.retK [Table T last rs, OwnS 3 1 (.slice none 0 0) 0 []] rfl Try.func24 rfl (Res.tmp rfl Res.nil) ?_ | refine G.retK [Table T last rs, OwnS 3 1 (.slice none 0 0) 0 []] rfl Try.func24 rfl (Res.tmp rfl (Res.tmp rfl Res.nil)) ?_ | refine G.retK [Table T last rs, OwnS 3 1 (.slice none 0 0) 0 []] rfl Try.func24 rfl (Res.tmp rfl (Res.tmp rfl (Res.tmp rfl Res.nil))) ?_ | refine G.retK [Table T last rs, OwnS 3 1 (.slice none 0 0) 0 []] rfl Try.func24 rfl (Res.cellA rfl rfl rfl Res.nil) ?_ | refine G.retK [Table T last rs, OwnS 3 1 (.slice none 0 0) 0 []] rfl Try.func24 rfl (Res.cellA rfl rfl rfl (Res.tmp rfl Res.nil)) ?_ | refine G.retK [Table T last rs, OwnS 3 1 (.slice none 0 0) 0 []] rfl Try.func24 rfl (Res.cell rfl rfl Res.nil) ?_
      simp only [destroyF, hr, if_pos h0]
      exact ⟨_, rfl, rfl⟩
    have hb0 : decide (e = 0) = false := by simpa using h0
    obtain ⟨hkids, hdeep, hlen16, hnd, hlive, hpar⟩ := hc r hr h0
    obtain ⟨p, hpr, hpe, hq1, hq2⟩ := hpar r hr h0
    obtain ⟨pb, hpb⟩ := getp_of hal hpr
    have hpl : ps.length = rs.length := hal.length
    repeat (first | refine G.w0 ?_ | refine G.w1 ?_ | refine G.wn ?_ | refine GR.w ?_ | (refine G.ws (h := ?_); try (simp only [Nat.reduceAdd, Nat.zero_add, List.set_cons_succ, List.set_cons_zero])) | (refine G.wb ?_; intro bx) | (refine G.wz ?_; intro bx) | refine G.wa (h := ?_) | refine G.seq ?_ | refine G.region ?_ | refine G.nil ?_ | refine G.block ?_ | refine G.skip ?_ | refine G.blk ?_ | refine G.wx ?_ | refine G.wt ?_ | refine G.wf ?_)
    (first | refine G.take rfl ?_ | refine G.take_yes rfl rfl rfl (by first | rfl | assumption) ?_); (first | refine R.callD Try.func44 rfl (by decide) rfl rfl (at_ok S low e ps _ hp) ?_ | refine R.callD0 Try.func44 rfl (by decide) rfl (at_ok S low e ps _ hp) ?_); simp only [List.cons_append, List.nil_append]
    repeat (first | refine G.w0 ?_ | refine G.w1 ?_ | refine G.wn ?_ | refine GR.w ?_ | (refine G.ws (h := ?_); try (simp only [Nat.reduceAdd, Nat.zero_add, List.set_cons_succ, List.set_cons_zero])) | (refine G.wb ?_; intro bx) | (refine G.wz ?_; intro bx) | refine G.wa (h := ?_) | refine G.seq ?_ | refine G.region ?_ | refine G.nil ?_ | refine G.block ?_ | refine G.skip ?_ | refine G.blk ?_ | refine G.wx ?_ | refine G.wt ?_ | refine G.wf ?_)
    refine G.toK ps rs hpl fun kvs hkl => ?_
    (first | refine G.take rfl ?_ | refine G.take_yes rfl rfl rfl (by first | rfl | assumption) ?_); (first | refine R.callQ Try.func59 rfl (by decide) rfl rfl (walk0_ok T S last low ps rs kvs hal hkl hkids 16 e hdeep hlen16) ?_ | refine R.callQ0 Try.func59 rfl (by decide) rfl (walk0_ok T S last low ps rs kvs hal hkl hkids 16 e hdeep hlen16) ?_); (rintro _ _ ⟨la, lcap, rfl, rfl⟩ <;> simp only [List.cons_append, List.nil_append])
    refine G.ofK ps rs kvs hpl hkl ?_
    repeat (first | refine G.w0 ?_ | refine G.w1 ?_ | refine G.wn ?_ | refine GR.w ?_ | (refine G.ws (h := ?_); try (simp only [Nat.reduceAdd, Nat.zero_add, List.set_cons_succ, List.set_cons_zero])) | (refine G.wb ?_; intro bx) | (refine G.wz ?_; intro bx) | refine G.wa (h := ?_) | refine G.seq ?_ | refine G.region ?_ | refine G.nil ?_ | refine G.block ?_ | refine G.skip ?_ | refine G.blk ?_ | refine G.wx ?_ | refine G.wt ?_ | refine G.wf ?_)
    refine G.recOut hp hr fun kv => ?_
    (repeat refine G.seq ?_); refine G.draw [0, 1, 2, 3, 4, 5, 6, 7, 8, 9] [] [10] (by kernel_rfl) (by kernel_rfl) rfl rfl rfl ?_
    repeat (first | refine EV.w0 ?_ | refine EV.wy ?_ | refine EV.wn ?_ | refine EV.wm ?_ | (refine EV.wb ?_; intro bx) | refine EV.done ?_)
    refine EV.ok (Ok.callD Try.func44 rfl (by decide) rfl (at_ok S low r.parent ps _ hpb)) ?_
    repeat (first | refine EV.w0 ?_ | refine EV.wy ?_ | refine EV.wn ?_ | refine EV.wm ?_ | (refine EV.wb ?_; intro bx) | refine EV.done ?_)
    repeat (first | refine G.w0 ?_ | refine G.w1 ?_ | refine G.wn ?_ | refine GR.w ?_ | (refine G.ws (h := ?_); try (simp only [Nat.reduceAdd, Nat.zero_add, List.set_cons_succ, List.set_cons_zero])) | (refine G.wb ?_; intro bx) | (refine G.wz ?_; intro bx) | refine G.wa (h := ?_) | refine G.seq ?_ | refine G.region ?_ | refine G.nil ?_ | refine G.block ?_ | refine G.skip ?_ | refine G.blk ?_ | refine G.wx ?_ | refine G.wt ?_ | refine G.wf ?_)
    (repeat refine G.seq ?_); refine G.draw [0, 1, 2, 3, 4, 5, 6, 7] [] [8] (by kernel_rfl) (by kernel_rfl) rfl rfl rfl ?_
    repeat (first | refine EV.w0 ?_ | refine EV.wy ?_ | refine EV.wn ?_ | refine EV.wm ?_ | (refine EV.wb ?_; intro bx) | refine EV.done ?_)
    refine G.recIn e b r kv rfl rfl ⟨rfl, rfl, rfl, rfl⟩ hp hal ?_
    rw [set_same hr]
    refine G.recOut hpb hpr fun pkv => ?_
    (first | refine G.take rfl ?_ | refine G.take_yes rfl rfl rfl (by first | rfl | assumption) ?_); (first | refine R.callD Try.func60 rfl (by decide) rfl rfl (uncarve_ok pb p pkv r.whole hq2 hq1) ?_ | refine R.callD0 Try.func60 rfl (by decide) rfl (uncarve_ok pb p pkv r.whole hq2 hq1) ?_); simp only [List.cons_append, List.nil_append]
    refine G.form pkv ?_
    rintro pa pcap rfl
    repeat (first | refine G.w0 ?_ | refine G.w1 ?_ | refine G.wn ?_ | refine GR.w ?_ | (refine G.ws (h := ?_); try (simp only [Nat.reduceAdd, Nat.zero_add, List.set_cons_succ, List.set_cons_zero])) | (refine G.wb ?_; intro bx) | (refine G.wz ?_; intro bx) | refine G.wa (h := ?_) | refine G.seq ?_ | refine G.region ?_ | refine G.nil ?_ | refine G.block ?_ | refine G.skip ?_ | refine G.blk ?_ | refine G.wx ?_ | refine G.wt ?_ | refine G.wf ?_)
    have hpk := hkids _ p hpr
    refine G.nilS 3 1 ?_
    refine G.keep [cb pb (recCells { p with carved := qsub p.carved (qone r.whole) } (.slice pa p.kids.length pcap)) 95, OwnS 3 1 (.slice pa p.kids.length pcap) p.kids.length (ints p.kids), OwnS 3 1 (.slice none 0 0) 0 [], Recs (ps.set r.parent.toNat none) (rs.set r.parent.toNat none), cb T [ptr (some S), i64 last] 90, Slots S low ps, OwnS 3 1 (.slice la (pre 16 rs e).length lcap) (pre 16 rs e).length (ints (pre 16 rs e))] ?_
    refine G.loopI (α := Nat × Option Addr × Nat) (fun x => [(51, .int .i64 x.1), (9, .slice x.2.1 ((p.kids.take x.1).filter (· ≠ e)).length x.2.2), (50, .int .i64 p.kids.length), (49, .slice pa p.kids.length pcap), (8, ptr (some pb)), (7, .slice la (pre 16 rs e).length lcap), (1, i64 e), (0, ptr (some T))])
      (fun x => [cb pb (recCells { p with carved := qsub p.carved (qone r.whole) } (.slice pa p.kids.length pcap)) 95, OwnS 3 1 (.slice pa p.kids.length pcap) p.kids.length (ints p.kids), OwnS 3 1 (.slice x.2.1 ((p.kids.take x.1).filter (· ≠ e)).length x.2.2) ((p.kids.take x.1).filter (· ≠ e)).length (ints ((p.kids.take x.1).filter (· ≠ e))), Recs (ps.set r.parent.toNat none) (rs.set r.parent.toNat none), cb T [ptr (some S), i64 last] 90, Slots S low ps, OwnS 3 1 (.slice la (pre 16 rs e).length lcap) (pre 16 rs e).length (ints (pre 16 rs e))])
      (fun x => x.1 ≤ p.kids.length) (fun x => p.kids.length - x.1) (0, none, 0) (Nat.zero_le _) (Env.le_cons rfl (Env.le_cons rfl (Env.le_cons rfl (Env.le_cons rfl (Env.le_cons rfl (Env.le_cons rfl (Env.le_cons rfl (Env.le_cons rfl (Env.le_nil _))))))))) rfl ?_
    rintro ⟨i, ax, cx⟩ hi hloop
    dsimp only at hi hloop ⊢
    by_cases hlt2 : i < p.kids.length
    · have hb1 : decide ((i : Int) < (p.kids.length : Int)) = true := by simpa using hlt2
      have hidx : 0 ≤ (i : Int) ∧ (i : Int) < (p.kids.length : Int) := by omega
      have hw : IntKind.i64.wrap ((i : Int) + 1) = (i : Int) + 1 := wrap_id (by omega) (by omega)
      have hfl : ((p.kids.take i).filter (· ≠ e)).length ≤ 16 := by
        have := List.length_filter_le (fun x => decide (x ≠ e)) (p.kids.take i)
        simp at this ⊢; omega
      have htk : (p.kids.take (i + 1)).filter (· ≠ e) = (p.kids.take i).filter (· ≠ e) ++ [p.kids[i]].filter (· ≠ e) := by
        rw [List.take_succ_eq_append_getElem hlt2, List.filter_append]
      refine G.formS (.slice pa p.kids.length pcap) (by omega) ?_
      rintro kb kcap hkc -
      cases hkc
      repeat (first | refine G.w0 ?_ | refine G.w1 ?_ | refine G.wn ?_ | refine GR.w ?_ | (refine G.ws (h := ?_); try (simp only [Nat.reduceAdd, Nat.zero_add, List.set_cons_succ, List.set_cons_zero])) | (refine G.wb ?_; intro bx) | (refine G.wz ?_; intro bx) | refine G.wa (h := ?_) | refine G.seq ?_ | refine G.region ?_ | refine G.nil ?_ | refine G.block ?_ | refine G.skip ?_ | refine G.blk ?_ | refine G.wx ?_ | refine G.wt ?_ | refine G.wf ?_)
      (first | refine G.take rfl ?_ | refine G.take_yes rfl rfl rfl (by first | rfl | assumption) ?_)
      refine GR.ok (Ok.loadS (v := i64 p.kids[i]) rfl (by simp [ints, List.getElem?_eq_getElem hlt2])) rfl rfl ?_
      by_cases hke : p.kids[i] = e
      · have hb2 : decide (p.kids[i] ≠ e) = false := by simpa using hke
        repeat (first | refine G.w0 ?_ | refine G.w1 ?_ | refine G.wn ?_ | refine GR.w ?_ | (refine G.ws (h := ?_); try (simp only [Nat.reduceAdd, Nat.zero_add, List.set_cons_succ, List.set_cons_zero])) | (refine G.wb ?_; intro bx) | (refine G.wz ?_; intro bx) | refine G.wa (h := ?_) | refine G.seq ?_ | refine G.region ?_ | refine G.nil ?_ | refine G.block ?_ | refine G.skip ?_ | refine G.blk ?_ | refine G.wx ?_ | refine G.wt ?_ | refine G.wf ?_)
        have h2 := hloop (i + 1, ax, cx) (by dsimp only; omega) (by dsimp only; omega)
        dsimp only at h2
        have h3 : (p.kids.take (i + 1)).filter (· ≠ e) = (p.kids.take i).filter (· ≠ e) := by rw [htk]; simp [hke]
        rw [h3] at h2
        exact h2.forget _ (Env.le_cons rfl (Env.le_cons rfl (Env.le_cons rfl (Env.le_cons rfl (Env.le_cons rfl (Env.le_cons rfl (Env.le_cons rfl (Env.le_cons rfl (Env.le_nil _)))))))))
      · have hb2 : decide (p.kids[i] ≠ e) = true := by simpa using hke
        repeat (first | refine G.w0 ?_ | refine G.w1 ?_ | refine G.wn ?_ | refine GR.w ?_ | (refine G.ws (h := ?_); try (simp only [Nat.reduceAdd, Nat.zero_add, List.set_cons_succ, List.set_cons_zero])) | (refine G.wb ?_; intro bx) | (refine G.wz ?_; intro bx) | refine G.wa (h := ?_) | refine G.seq ?_ | refine G.region ?_ | refine G.nil ?_ | refine G.block ?_ | refine G.skip ?_ | refine G.blk ?_ | refine G.wx ?_ | refine G.wt ?_ | refine G.wf ?_)
        (first | refine G.take rfl ?_ | refine G.take_yes rfl rfl rfl (by first | rfl | assumption) ?_)
        refine R.bs1 rfl rfl rfl rfl fun nb => ?_
        (first | refine G.take rfl ?_ | refine G.take_yes rfl rfl rfl (by first | rfl | assumption) ?_)
        refine R.append (n := 1) (bytes := 8) (z := .int .i64 0) (cs := ints ((p.kids.take i).filter (· ≠ e))) (news := [i64 p.kids[i]]) rfl rfl (by rfl) (by exact Nat.le_refl _) rfl rfl (by omega) (by omega) (by decide) rfl fun a1 cap1 => ?_
        repeat (first | refine G.w0 ?_ | refine G.w1 ?_ | refine G.wn ?_ | refine GR.w ?_ | (refine G.ws (h := ?_); try (simp only [Nat.reduceAdd, Nat.zero_add, List.set_cons_succ, List.set_cons_zero])) | (refine G.wb ?_; intro bx) | (refine G.wz ?_; intro bx) | refine G.wa (h := ?_) | refine G.seq ?_ | refine G.region ?_ | refine G.nil ?_ | refine G.block ?_ | refine G.skip ?_ | refine G.blk ?_ | refine G.wx ?_ | refine G.wt ?_ | refine G.wf ?_)
        have h2 := hloop (i + 1, a1, cap1) (by dsimp only; omega) (by dsimp only; omega)
        dsimp only at h2
        have h3 : (p.kids.take (i + 1)).filter (· ≠ e) = (p.kids.take i).filter (· ≠ e) ++ [p.kids[i]] := by rw [htk]; simp [hke]
        have h4 : ints ((p.kids.take i).filter (· ≠ e)) ++ [i64 p.kids[i]] = ints ((p.kids.take i).filter (· ≠ e) ++ [p.kids[i]]) := by simp [ints]
        have h5 : ((p.kids.take i).filter (· ≠ e)).length + 1 = ((p.kids.take i).filter (· ≠ e) ++ [p.kids[i]]).length := by simp
        rw [h3] at h2
        rw [h4, h5]
        refine G.keep [cb pb (recCells { p with carved := qsub p.carved (qone r.whole) } (.slice (some ⟨kb, 0, none⟩) p.kids.length pcap)) 95, OwnS 3 1 (.slice (some ⟨kb, 0, none⟩) p.kids.length pcap) p.kids.length (ints p.kids), OwnS 3 1 (.slice a1 ((p.kids.take i).filter (· ≠ e) ++ [p.kids[i]]).length cap1) ((p.kids.take i).filter (· ≠ e) ++ [p.kids[i]]).length (ints ((p.kids.take i).filter (· ≠ e) ++ [p.kids[i]])), Recs (ps.set r.parent.toNat none) (rs.set r.parent.toNat none), cb T [ptr (some S), i64 last] 90, Slots S low ps, OwnS 3 1 (.slice la (pre 16 rs e).length lcap) (pre 16 rs e).length (ints (pre 16 rs e))] ?_
        exact h2.forget _ (Env.le_cons rfl (Env.le_cons rfl (Env.le_cons rfl (Env.le_cons rfl (Env.le_cons rfl (Env.le_cons rfl (Env.le_cons rfl (Env.le_cons rfl (Env.le_nil _)))))))))
    have hb1 : decide ((i : Int) < (p.kids.length : Int)) = false := by simpa using hlt2
    have hi2 : i = p.kids.length := by omega
    subst hi2
    rw [List.take_length]
    repeat (first | refine G.w0 ?_ | refine G.w1 ?_ | refine G.wn ?_ | refine GR.w ?_ | (refine G.ws (h := ?_); try (simp only [Nat.reduceAdd, Nat.zero_add, List.set_cons_succ, List.set_cons_zero])) | (refine G.wb ?_; intro bx) | (refine G.wz ?_; intro bx) | refine G.wa (h := ?_) | refine G.seq ?_ | refine G.region ?_ | refine G.nil ?_ | refine G.block ?_ | refine G.skip ?_ | refine G.blk ?_ | refine G.wx ?_ | refine G.wt ?_ | refine G.wf ?_)
    refine G.isC pb (recCells { p with carved := qsub p.carved (qone r.whole), kids := p.kids.filter (· ≠ e) } (.slice ax (p.kids.filter (· ≠ e)).length cx)) rfl ?_
    refine G.recIn r.parent pb { p with carved := qsub p.carved (qone r.whole), kids := p.kids.filter (· ≠ e) } (.slice ax (p.kids.filter (· ≠ e)).length cx) rfl rfl ⟨rfl, rfl, rfl, rfl⟩ hpb hal ?_
    generalize hrs1 : rs.set r.parent.toNat (some { p with carved := qsub p.carved (qone r.whole), kids := p.kids.filter (· ≠ e) }) = rs1
    have hal1 : Alike ps rs1 := by rw [← hrs1]; exact hal.setr hpb _
    have hl1 : rs1.length = 16 := by rw [← hrs1]; simpa using hl
    have hlive1 : ∀ k ∈ pre 16 rs e, (getp ps k).isSome = true := fun k hk => by rw [hal.getp k]; exact hlive k hk
    generalize hL : pre 16 rs e = L at *
    refine G.keep [Recs ps rs1, cb T [ptr (some S), i64 last] 90, Slots S low ps, OwnS 3 1 (.slice la L.length lcap) L.length (ints L)] ?_
    refine G.loopI (α := Nat × Int × List (Option Nat)) (fun x => [(69, .int .i64 x.1), (68, .int .i64 L.length), (67, .slice la L.length lcap), (7, .slice la L.length lcap), (0, ptr (some T))])
      (fun x => [Recs x.2.2 (dropAll rs1 (L.take x.1)), cb T [ptr (some S), i64 last] 90, Slots S x.2.1 x.2.2, OwnS 3 1 (.slice la L.length lcap) L.length (ints L)])
      (fun x => x.1 ≤ L.length ∧ LowOk x.2.1 x.2.2 ∧ Alike x.2.2 (dropAll rs1 (L.take x.1)) ∧ ∀ k ∈ L.drop x.1, (getp x.2.2 k).isSome = true) (fun x => L.length - x.1) (0, low, ps) ⟨Nat.zero_le _, hlow, hal1, hlive1⟩
      (Env.le_cons rfl (Env.le_cons rfl (Env.le_cons rfl (Env.le_cons rfl (Env.le_cons rfl (Env.le_nil _)))))) rfl ?_
    rintro ⟨j, low', ps'⟩ ⟨hj, hlo, hal', hlv⟩ hloop
    dsimp only at hj hlo hal' hlv hloop ⊢
    by_cases hlt3 : j < L.length
    · have hb1 : decide ((j : Int) < (L.length : Int)) = true := by simpa using hlt3
      have hidx : 0 ≤ (j : Int) ∧ (j : Int) < (L.length : Int) := by omega
      have hw : IntKind.i64.wrap ((j : Int) + 1) = (j : Int) + 1 := wrap_id (by omega) (by omega)
      have hdr : L.drop j = L[j] :: L.drop (j + 1) := List.drop_eq_getElem_cons hlt3
      have hsome := hlv L[j] (by rw [hdr]; exact List.mem_cons_self ..)
      obtain ⟨kb, hkb⟩ := Option.isSome_iff_exists.1 hsome
      have hk0 := getp_some (ps := ps') (i := L[j]) hsome
      obtain ⟨kr, hkr⟩ := getr_some hal' hkb
      have hda : dropAll rs1 (L.take (j + 1)) = (dropAll rs1 (L.take j)).set L[j].toNat none := by
        unfold dropAll
        rw [List.take_succ_eq_append_getElem hlt3, List.foldl_append]; rfl
      have hnj : ∀ k ∈ L.drop (j + 1), k ≠ L[j] := by
        have hn := hnd
        rw [← List.take_append_drop j L, hdr] at hn
        have h1 := (List.nodup_append.1 hn).2.1
        have h2 := (List.nodup_cons.1 h1).1
        intro k hk e1
        exact h2 (e1 ▸ hk)
      refine G.formS (.slice la L.length lcap) (by omega) ?_
      rintro lb lcap2 hlc -
      cases hlc
      repeat (first | refine G.w0 ?_ | refine G.w1 ?_ | refine G.wn ?_ | refine GR.w ?_ | (refine G.ws (h := ?_); try (simp only [Nat.reduceAdd, Nat.zero_add, List.set_cons_succ, List.set_cons_zero])) | (refine G.wb ?_; intro bx) | (refine G.wz ?_; intro bx) | refine G.wa (h := ?_) | refine G.seq ?_ | refine G.region ?_ | refine G.nil ?_ | refine G.block ?_ | refine G.skip ?_ | refine G.blk ?_ | refine G.wx ?_ | refine G.wt ?_ | refine G.wf ?_)
      (first | refine G.take rfl ?_ | refine G.take_yes rfl rfl rfl (by first | rfl | assumption) ?_)
      refine GR.ok (Ok.loadS (v := i64 L[j]) rfl (by simp [ints, List.getElem?_eq_getElem hlt3])) rfl rfl ?_
      repeat (first | refine G.w0 ?_ | refine G.w1 ?_ | refine G.wn ?_ | refine GR.w ?_ | (refine G.ws (h := ?_); try (simp only [Nat.reduceAdd, Nat.zero_add, List.set_cons_succ, List.set_cons_zero])) | (refine G.wb ?_; intro bx) | (refine G.wz ?_; intro bx) | refine G.wa (h := ?_) | refine G.seq ?_ | refine G.region ?_ | refine G.nil ?_ | refine G.block ?_ | refine G.skip ?_ | refine G.blk ?_ | refine G.wx ?_ | refine G.wt ?_ | refine G.wf ?_)
      (first | refine G.take rfl ?_ | refine G.take_yes rfl rfl rfl (by first | rfl | assumption) ?_); (first | refine R.callD Try.func61 rfl (by decide) rfl rfl (Drop_ok S low' L[j] ps' hsome hlo) ?_ | refine R.callD0 Try.func61 rfl (by decide) rfl (Drop_ok S low' L[j] ps' hsome hlo) ?_); simp only [List.cons_append, List.nil_append]
      refine G.recOut hkb hkr fun kkv => ?_
      repeat (first | refine G.w0 ?_ | refine G.w1 ?_ | refine G.wn ?_ | refine GR.w ?_ | (refine G.ws (h := ?_); try (simp only [Nat.reduceAdd, Nat.zero_add, List.set_cons_succ, List.set_cons_zero])) | (refine G.wb ?_; intro bx) | (refine G.wz ?_; intro bx) | refine G.wa (h := ?_) | refine G.seq ?_ | refine G.region ?_ | refine G.nil ?_ | refine G.block ?_ | refine G.skip ?_ | refine G.blk ?_ | refine G.wx ?_ | refine G.wt ?_ | refine G.wf ?_)
      have h2 := hloop (j + 1, min low' L[j], ps'.set L[j].toNat none) ⟨by dsimp only; omega, hlo.drop hk0.1, ?_, ?_⟩ (by dsimp only; omega)
      · dsimp only at h2
        rw [hda] at h2
        refine G.keep [Recs (ps'.set L[j].toNat none) ((dropAll rs1 (L.take j)).set L[j].toNat none), cb T [ptr (some S), i64 last] 90, Slots S (min low' L[j]) (ps'.set L[j].toNat none), OwnS 3 1 (.slice (some ⟨lb, 0, none⟩) L.length lcap) L.length (ints L)] ?_
        exact h2.forget _ (Env.le_cons rfl (Env.le_cons rfl (Env.le_cons rfl (Env.le_cons rfl (Env.le_cons rfl (Env.le_nil _))))))
      · dsimp only
        rw [hda]
        exact hal'.set _ _ _ rfl
      · dsimp only
        intro k hk
        have h3 := hlv k (by rw [hdr]; exact List.mem_cons_of_mem _ hk)
        have h4 := getp_some (ps := ps') (i := k) h3
        have h5 := hnj k hk
        rw [getp_in h4.1] at h3 ⊢
        rw [List.getElem?_set, if_neg (by omega)]; exact h3
    · have hb1 : decide ((j : Int) < (L.length : Int)) = false := by simpa using hlt3
      have hj2 : j = L.length := by omega
      subst hj2
      rw [List.take_length] at hal' ⊢
      repeat (first | refine G.w0 ?_ | refine G.w1 ?_ | refine G.wn ?_ | refine GR.w ?_ | (refine G.ws (h := ?_); try (simp only [Nat.reduceAdd, Nat.zero_add, List.set_cons_succ, List.set_cons_zero])) | (refine G.wb ?_; intro bx) | (refine G.wz ?_; intro bx) | refine G.wa (h := ?_) | refine G.seq ?_ | refine G.region ?_ | refine G.nil ?_ | refine G.block ?_ | refine G.skip ?_ | refine G.blk ?_ | refine G.wx ?_ | refine G.wt ?_ | refine G.wf ?_)
      have hl2 : (dropAll rs1 L).length = 16 := by
        have : ∀ (l : List Int) (x : List (Option Rec)), (dropAll x l).length = x.length := by
          intro l
          induction l with
          | nil => intro x; rfl
          | cons a l ih => intro x; have := ih (x.set a.toNat none); simp only [List.length_set] at this; exact this
        rw [this, hl1]
      refine G.close (Table T last (dropAll rs1 L)) rfl ((S, low', ps')) (⟨hlo, hal', hl2⟩) (by dsimp only) ?_
      first | refine G.retK [Table T last (dropAll rs1 L), OwnS 3 1 (.slice la L.length lcap) L.length (ints L)] rfl Try.func24 rfl Res.nil ?_ | refine G.retK [Table T last (dropAll rs1 L), OwnS 3 1 (.slice la L.length lcap) L.length (ints L)] rfl Try.func24 rfl (Res.tmp rfl Res.nil) ?_ | refine G.retK [Table T last (dropAll rs1 L), OwnS 3 1 (.slice la L.length lcap) L.length (ints L)] rfl Try.func24 rfl (Res.tmp rfl (Res.tmp rfl Res.nil)) ?_ | refine G.retK [Table T last (dropAll rs1 L), OwnS 3 1 (.slice la L.length lcap) L.length (ints L)] rfl Try.func24 rfl (Res.tmp rfl (Res.tmp rfl (Res.tmp rfl Res.nil))) ?_ | refine G.retK [Table T last (dropAll rs1 L), OwnS 3 1 (.slice la L.length lcap) L.length (ints L)] rfl Try.func24 rfl (Res.cellA rfl rfl rfl Res.nil) ?_ | refine G.retK [Table T last (dropAll rs1 L), OwnS 3 1 (.slice la L.length lcap) L.length (ints L)] rfl Try.func24 rfl (Res.cellA rfl rfl rfl (Res.tmp rfl Res.nil)) ?_ | refine G.retK [Table T last (dropAll rs1 L), OwnS 3 1 (.slice la L.length lcap) L.length (ints L)] rfl Try.func24 rfl (Res.cell rfl rfl Res.nil) ?_
      simp only [destroyF, hr, if_neg h0, hpr, hL, hrs1]
      exact ⟨_, rfl, rfl⟩
end Go.Proofs.Ytffcilmllebdmaa
