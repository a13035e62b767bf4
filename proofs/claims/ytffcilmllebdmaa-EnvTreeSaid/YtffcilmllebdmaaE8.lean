/- A new table. -/
import Derived.Test.YtffcilmllebdmaaE7
namespace Go.Proofs.Ytffcilmllebdmaa
open Go.Am
set_option maxHeartbeats 4000000
set_option linter.unusedVariables false
set_option linter.unusedSimpArgs false
attribute [local irreducible] Ok GR G Fun OpRun EVS

def within (n : Int) : Int := min (max n 0) 4611686018427387903
theorem within_ok (n : Int) : Fun Try.prog 82 [i64 n] [] (Ret (i64 (within n)) []) := by
  refine Fun.enter Try.func82 rfl rfl rfl ?_
  repeat (first | refine G.w0 ?_ | refine G.w1 ?_ | refine G.wn ?_ | refine GR.w ?_ | (refine G.ws (h := ?_); try (simp only [Nat.reduceAdd, Nat.zero_add, List.set_cons_succ, List.set_cons_zero])) | (refine G.wb ?_; intro bx) | (refine G.wz ?_; intro bx) | refine G.wa (h := ?_) | refine G.seq ?_ | refine G.region ?_ | refine G.nil ?_ | refine G.block ?_ | refine G.skip ?_ | refine G.blk ?_ | refine G.wx ?_ | refine G.wt ?_ | refine G.wf ?_)
  first | refine G.retK [] rfl Try.func82 rfl Res.nil ?_ | refine G.retK [] rfl Try.func82 rfl (Res.tmp rfl Res.nil) ?_ | refine G.retK [] rfl Try.func82 rfl (Res.tmp rfl (Res.tmp rfl Res.nil)) ?_ | refine G.retK [] rfl Try.func82 rfl (Res.tmp rfl (Res.tmp rfl (Res.tmp rfl Res.nil))) ?_ | refine G.retK [] rfl Try.func82 rfl (Res.cellA rfl rfl rfl Res.nil) ?_ | refine G.retK [] rfl Try.func82 rfl (Res.cellA rfl rfl rfl (Res.tmp rfl Res.nil)) ?_ | refine G.retK [] rfl Try.func82 rfl (Res.cell rfl rfl Res.nil) ?_
  exact ⟨rfl, rfl⟩

theorem slotsNew_ok : Fun Try.prog 81 [i64 16] [] (fun v H => ∃ S, v = ptr (some S) ∧ H = [Slots S 0 (List.replicate 16 none)]) := by
  refine Fun.enter Try.func81 rfl rfl rfl ?_
  repeat (first | refine G.w0 ?_ | refine G.w1 ?_ | refine G.wn ?_ | refine GR.w ?_ | (refine G.ws (h := ?_); try (simp only [Nat.reduceAdd, Nat.zero_add, List.set_cons_succ, List.set_cons_zero])) | (refine G.wb ?_; intro bx) | (refine G.wz ?_; intro bx) | refine G.wa (h := ?_) | refine G.seq ?_ | refine G.region ?_ | refine G.nil ?_ | refine G.block ?_ | refine G.skip ?_ | refine G.blk ?_ | refine G.wx ?_ | refine G.wt ?_ | refine G.wf ?_)
  (first | refine G.take rfl ?_ | refine G.take_yes rfl rfl rfl (by first | rfl | assumption) ?_)
  refine R.makeSlice rfl rfl (by decide) (by decide) rfl rfl rfl fun C => ?_
  repeat (first | refine G.w0 ?_ | refine G.w1 ?_ | refine G.wn ?_ | refine GR.w ?_ | (refine G.ws (h := ?_); try (simp only [Nat.reduceAdd, Nat.zero_add, List.set_cons_succ, List.set_cons_zero])) | (refine G.wb ?_; intro bx) | (refine G.wz ?_; intro bx) | refine G.wa (h := ?_) | refine G.seq ?_ | refine G.region ?_ | refine G.nil ?_ | refine G.block ?_ | refine G.skip ?_ | refine G.blk ?_ | refine G.wx ?_ | refine G.wt ?_ | refine G.wf ?_)
  refine G.isC bx [.slice (some ⟨C, 0, none⟩) 16 16, .int .i64 0, .int .i64 0] rfl ?_
  refine G.isC C (slotCells (List.replicate 16 none)) rfl ?_
  refine G.close (Slots bx 0 (List.replicate 16 none)) rfl ((C, 0)) (⟨rfl, rfl⟩) (by dsimp only) ?_
  first | refine G.retK [Slots bx 0 (List.replicate 16 none)] rfl Try.func81 rfl Res.nil ?_ | refine G.retK [Slots bx 0 (List.replicate 16 none)] rfl Try.func81 rfl (Res.tmp rfl Res.nil) ?_ | refine G.retK [Slots bx 0 (List.replicate 16 none)] rfl Try.func81 rfl (Res.tmp rfl (Res.tmp rfl Res.nil)) ?_ | refine G.retK [Slots bx 0 (List.replicate 16 none)] rfl Try.func81 rfl (Res.tmp rfl (Res.tmp rfl (Res.tmp rfl Res.nil))) ?_ | refine G.retK [Slots bx 0 (List.replicate 16 none)] rfl Try.func81 rfl (Res.cellA rfl rfl rfl Res.nil) ?_ | refine G.retK [Slots bx 0 (List.replicate 16 none)] rfl Try.func81 rfl (Res.cellA rfl rfl rfl (Res.tmp rfl Res.nil)) ?_ | refine G.retK [Slots bx 0 (List.replicate 16 none)] rfl Try.func81 rfl (Res.cell rfl rfl Res.nil) ?_
  exact ⟨bx, rfl, rfl⟩

def newRec (serial parent : Int) (q : Qt) : Rec := ⟨serial, parent, 0, 0, 0, false, ⟨0, 0, 0, 0, 0, 0, 0, 0, 0⟩, q, ⟨0, 0, 0⟩, ⟨0, 0, 0⟩, []⟩
def qwithin (q : Qt) : Qt := ⟨within q.f, within q.e, within q.x⟩

section
variable {P : Program} {c : Ctx} {ds : List Nat} {todo : List It} {e : Env} {H : List HProp} {Q : Post}

/-- A record that was made is laid at i. -/
theorem G.recNew {ps : List (Option Nat)} {rs : List (Option Rec)} (i : Int) (b : Nat) (r : Rec) (kv : Value) {L : List Value} {T el : TypeId} {n len : Nat} {cs : List Value} {R1 R2 R3 : List HProp} [h1 : DelC H b L T R1] [h2 : DelS R1 kv el n len cs R2] [h3 : SelH R2 (Recs ps rs) R3]
    (hL : L = recCells r kv) (hT : T = 95) (hs : el = 3 ∧ n = 1 ∧ len = r.kids.length ∧ cs = ints r.kids) (hi : 0 ≤ i ∧ i.toNat < ps.length) (hp : getp ps i = none) (hlen : Alike ps rs)
    (k : G P c ds todo e (Recs (ps.set i.toNat (some b)) (rs.set i.toNat (some r)) :: R3) Q) : G P c ds todo e H Q := by
  obtain ⟨rfl, rfl, rfl, rfl⟩ := hs
  subst hL hT
  have hr : rs[i.toNat]?.join = none := by
    have := hlen.get i.toNat
    rw [getp_in hi.1] at hp
    rw [hp] at this
    cases h : rs[i.toNat]?.join <;> simp_all
  have hperm := recs_in ps rs i.toNat b r hi.2 (by rw [← hlen.length]; exact hi.2) (by rw [getp_in hi.1] at hp; exact hp) hr
  refine k.conv fun g w s => ?_
  have s1 : Sat (cb b (recCells r kv) 95 :: OwnS 3 1 kv r.kids.length (ints r.kids) :: Recs ps rs :: R3) g w :=
    s.perm (h1.del.trans (List.Perm.cons _ (h2.del.trans (List.Perm.cons _ h3.sel))))
  have s2 : Sat (recC b r :: Recs ps rs :: R3) g w := Pk.close (p := _) (l := _) kv trivial s1
  have s3 := Sat.sep.1 (s2.perm (.swap _ _ _))
  have s4 : Sat (recC b r :: recsL ps rs ++ R3) g w := s3.perm (by simp)
  exact Sat.sep.2 (s4.perm (List.Perm.append_right R3 hperm.symm))

theorem G.recs0 (k : G P c ds todo e (Recs (List.replicate 16 none) (List.replicate 16 none) :: H) Q) : G P c ds todo e H Q :=
  k.conv fun _ _ s => (Sat.sep (l := [])).2 s
theorem G.nilS (el : TypeId) (n : Nat) (k : G P c ds todo e (OwnS el n (.slice none 0 0) 0 [] :: H) Q) : G P c ds todo e H Q :=
  k.conv fun _ _ s => OwnS.nil el n s
end

theorem New_ok (serial : Int) (q : Qt) : Fun Try.prog 43 [i64 serial, qtVal q] [] (fun v H => ∃ T, v = ptr (some T) ∧ H = [Table T serial (some (newRec serial (-1) (qwithin q)) :: List.replicate 15 none)]) := by
  refine Fun.enter Try.func43 rfl rfl rfl ?_
  repeat (first | refine G.w0 ?_ | refine G.w1 ?_ | refine G.wn ?_ | refine GR.w ?_ | (refine G.ws (h := ?_); try (simp only [Nat.reduceAdd, Nat.zero_add, List.set_cons_succ, List.set_cons_zero])) | (refine G.wb ?_; intro bx) | (refine G.wz ?_; intro bx) | refine G.wa (h := ?_) | refine G.seq ?_ | refine G.region ?_ | refine G.nil ?_ | refine G.block ?_ | refine G.skip ?_ | refine G.blk ?_ | refine G.wx ?_ | refine G.wt ?_ | refine G.wf ?_)
  (first | refine G.take rfl ?_ | refine G.take_yes rfl rfl rfl (by first | rfl | assumption) ?_); (first | refine R.callQ Try.func81 rfl (by decide) rfl rfl (slotsNew_ok) ?_ | refine R.callQ0 Try.func81 rfl (by decide) rfl (slotsNew_ok) ?_); (rintro _ _ ⟨S, rfl, rfl⟩ <;> simp only [List.cons_append, List.nil_append])
  repeat (first | refine G.w0 ?_ | refine G.w1 ?_ | refine G.wn ?_ | refine GR.w ?_ | (refine G.ws (h := ?_); try (simp only [Nat.reduceAdd, Nat.zero_add, List.set_cons_succ, List.set_cons_zero])) | (refine G.wb ?_; intro bx) | (refine G.wz ?_; intro bx) | refine G.wa (h := ?_) | refine G.seq ?_ | refine G.region ?_ | refine G.nil ?_ | refine G.block ?_ | refine G.skip ?_ | refine G.blk ?_ | refine G.wx ?_ | refine G.wt ?_ | refine G.wf ?_)
  (repeat refine G.seq ?_); refine G.draw [0, 1, 2, 3, 4, 5, 6, 7, 8, 9] [] [10] (by kernel_rfl) (by kernel_rfl) rfl rfl rfl ?_
  repeat (first | refine EV.w0 ?_ | refine EV.wy ?_ | refine EV.wn ?_ | refine EV.wm ?_ | (refine EV.wb ?_; intro bx) | refine EV.done ?_)
  refine EV.ok (Ok.callD Try.func82 rfl (by decide) rfl (within_ok _)) ?_
  repeat (first | refine EV.w0 ?_ | refine EV.wy ?_ | refine EV.wn ?_ | refine EV.wm ?_ | (refine EV.wb ?_; intro bx) | refine EV.done ?_)
  refine EV.ok (Ok.callD Try.func82 rfl (by decide) rfl (within_ok _)) ?_
  repeat (first | refine EV.w0 ?_ | refine EV.wy ?_ | refine EV.wn ?_ | refine EV.wm ?_ | (refine EV.wb ?_; intro bx) | refine EV.done ?_)
  refine EV.ok (Ok.callD Try.func82 rfl (by decide) rfl (within_ok _)) ?_
  repeat (first | refine EV.w0 ?_ | refine EV.wy ?_ | refine EV.wn ?_ | refine EV.wm ?_ | (refine EV.wb ?_; intro bx) | refine EV.done ?_)
  repeat (first | refine G.w0 ?_ | refine G.w1 ?_ | refine G.wn ?_ | refine GR.w ?_ | (refine G.ws (h := ?_); try (simp only [Nat.reduceAdd, Nat.zero_add, List.set_cons_succ, List.set_cons_zero])) | (refine G.wb ?_; intro bx) | (refine G.wz ?_; intro bx) | refine G.wa (h := ?_) | refine G.seq ?_ | refine G.region ?_ | refine G.nil ?_ | refine G.block ?_ | refine G.skip ?_ | refine G.blk ?_ | refine G.wx ?_ | refine G.wt ?_ | refine G.wf ?_)
  (repeat refine G.seq ?_); refine G.draw [0, 1, 2, 3, 4, 5, 6, 7, 8, 9] [10] [11] (by kernel_rfl) (by kernel_rfl) rfl rfl rfl ?_
  repeat (first | refine EV.w0 ?_ | refine EV.wy ?_ | refine EV.wn ?_ | refine EV.wm ?_ | (refine EV.wb ?_; intro bx) | refine EV.done ?_)
  (first | refine G.take rfl ?_ | refine G.take_yes rfl rfl rfl (by first | rfl | assumption) ?_); (first | refine R.callQ Try.func54 rfl (by decide) rfl rfl (Put_ok S bx 0 (List.replicate 16 none) ⟨by omega, by omega, fun j a b => by omega⟩) ?_ | refine R.callQ0 Try.func54 rfl (by decide) rfl (Put_ok S bx 0 (List.replicate 16 none) ⟨by omega, by omega, fun j a b => by omega⟩) ?_); (rintro _ _ (⟨r, hr, rfl, rfl⟩ | ⟨hr, rfl, low', _, rfl⟩) <;> simp only [List.cons_append, List.nil_append])
  · have hr0 : r = 0 := by
      obtain ⟨h1, h2, h3, h4⟩ := hr
      by_cases h : r = 0
      · exact h
      · have := h4 0 (by omega) (by omega)
        simp [getp] at this
    subst hr0
    repeat (first | refine G.w0 ?_ | refine G.w1 ?_ | refine G.wn ?_ | refine GR.w ?_ | (refine G.ws (h := ?_); try (simp only [Nat.reduceAdd, Nat.zero_add, List.set_cons_succ, List.set_cons_zero])) | (refine G.wb ?_; intro bx) | (refine G.wz ?_; intro bx) | refine G.wa (h := ?_) | refine G.seq ?_ | refine G.region ?_ | refine G.nil ?_ | refine G.block ?_ | refine G.skip ?_ | refine G.blk ?_ | refine G.wx ?_ | refine G.wt ?_ | refine G.wf ?_)
    rename_i qb tb
    refine G.isC bx (recCells (newRec serial (-1) (qwithin q)) (.slice none 0 0)) rfl ?_
    refine G.isC tb [ptr (some S), i64 serial] rfl ?_
    refine G.recs0 ?_
    refine G.nilS 3 1 ?_
    refine G.recNew (ps := List.replicate 16 none) (rs := List.replicate 16 none) 0 bx (newRec serial (-1) (qwithin q)) (.slice none 0 0) rfl rfl ⟨rfl, rfl, rfl, rfl⟩ ⟨by omega, by decide⟩ rfl rfl ?_
    simp only [Int.toNat_zero]
    change G _ _ _ _ _ (Recs ((List.replicate 16 none).set 0 (some bx)) (some (newRec serial (-1) (qwithin q)) :: List.replicate 15 none) :: _) _
    refine G.close (Table tb serial (some (newRec serial (-1) (qwithin q)) :: List.replicate 15 none)) rfl ((S, 0, List.set (List.replicate 16 none) 0 (some bx))) (⟨⟨by dsimp only; omega, by dsimp only; omega, fun j a b => by dsimp only at b; omega⟩, rfl, rfl⟩) (by dsimp only) ?_
    first | refine G.retK [Table tb serial (some (newRec serial (-1) (qwithin q)) :: List.replicate 15 none)] rfl Try.func43 rfl Res.nil ?_ | refine G.retK [Table tb serial (some (newRec serial (-1) (qwithin q)) :: List.replicate 15 none)] rfl Try.func43 rfl (Res.tmp rfl Res.nil) ?_ | refine G.retK [Table tb serial (some (newRec serial (-1) (qwithin q)) :: List.replicate 15 none)] rfl Try.func43 rfl (Res.tmp rfl (Res.tmp rfl Res.nil)) ?_ | refine G.retK [Table tb serial (some (newRec serial (-1) (qwithin q)) :: List.replicate 15 none)] rfl Try.func43 rfl (Res.tmp rfl (Res.tmp rfl (Res.tmp rfl Res.nil))) ?_ | refine G.retK [Table tb serial (some (newRec serial (-1) (qwithin q)) :: List.replicate 15 none)] rfl Try.func43 rfl (Res.cellA rfl rfl rfl Res.nil) ?_ | refine G.retK [Table tb serial (some (newRec serial (-1) (qwithin q)) :: List.replicate 15 none)] rfl Try.func43 rfl (Res.cellA rfl rfl rfl (Res.tmp rfl Res.nil)) ?_ | refine G.retK [Table tb serial (some (newRec serial (-1) (qwithin q)) :: List.replicate 15 none)] rfl Try.func43 rfl (Res.cell rfl rfl Res.nil) ?_
    exact ⟨tb, rfl, rfl⟩
  · have := hr 0 (by omega) (by omega)
    simp [getp] at this
end Go.Proofs.Ytffcilmllebdmaa
