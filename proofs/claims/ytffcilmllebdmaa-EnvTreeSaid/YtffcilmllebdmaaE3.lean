/- The table of environments in memory: records, quotas, the tree's numbers. -/
import Derived.Test.YtffcilmllebdmaaE2
import Derived.Test.YtffcilmllebdmaaAmList

namespace Go.Proofs.Ytffcilmllebdmaa
open Go.Am
set_option maxHeartbeats 4000000
set_option linter.unusedVariables false
set_option linter.unusedSimpArgs false
attribute [local irreducible] Ok GR G Fun OpRun EVS

/-- A quota. -/
structure Qt where
  f : Int
  e : Int
  x : Int
  deriving DecidableEq
/-- Registers. -/
structure Rg where
  r0 : Int
  r1 : Int
  r2 : Int
  r3 : Int
  r4 : Int
  r5 : Int
  r6 : Int
  r7 : Int
  pc : Int
  deriving DecidableEq
/-- An environment's record. -/
structure Rec where
  serial : Int
  parent : Int
  state : Int
  code : Int
  bits : Int
  frozen : Bool
  regs : Rg
  whole : Qt
  paid : Qt
  carved : Qt
  kids : List Int

def i64 (n : Int) : Value := .int .i64 n
def u32 (n : Int) : Value := .int .u32 n
def qtCells (q : Qt) : List Value := [i64 q.f, i64 q.e, i64 q.x]
def qtVal (q : Qt) : Value := .agg (qtCells q).toArray
def rgCells (r : Rg) : List Value := [u32 r.r0, u32 r.r1, u32 r.r2, u32 r.r3, u32 r.r4, u32 r.r5, u32 r.r6, u32 r.r7, u32 r.pc]
def recCells (r : Rec) (kv : Value) : List Value :=
  [i64 r.serial, i64 r.parent, i64 r.state, i64 r.code, i64 r.bits, .bool r.frozen,
   u32 r.regs.r0, u32 r.regs.r1, u32 r.regs.r2, u32 r.regs.r3, u32 r.regs.r4, u32 r.regs.r5, u32 r.regs.r6, u32 r.regs.r7, u32 r.regs.pc,
   i64 0, i64 0, i64 0, i64 0, i64 0, i64 0,
   i64 r.whole.f, i64 r.whole.e, i64 r.whole.x, i64 r.paid.f, i64 r.paid.e, i64 r.paid.x, i64 r.carved.f, i64 r.carved.e, i64 r.carved.x, kv]
def ints (l : List Int) : List Value := l.map i64

/-- A record in memory. -/
def recC (b : Nat) (r : Rec) : HProp := Pk (fun _ : Value => True) fun kv => [cb b (recCells r kv) 95, OwnS 3 1 kv r.kids.length (ints r.kids)]

/-- The records, each at its pointer. -/
def recsL : List (Option Nat) → List (Option Rec) → List HProp
  | some b :: ps, some r :: rs => recC b r :: recsL ps rs
  | _ :: ps, _ :: rs => recsL ps rs
  | _, _ => []
def Recs (ps : List (Option Nat)) (rs : List (Option Rec)) : HProp := sep (recsL ps rs)

def getr (rs : List (Option Rec)) (i : Int) : Option Rec := if 0 ≤ i then (rs[i.toNat]?).join else none

theorem recs_out : ∀ (ps : List (Option Nat)) (rs : List (Option Rec)) (j b : Nat) (r : Rec), ps[j]?.join = some b → rs[j]?.join = some r → (recsL ps rs).Perm (recC b r :: recsL (ps.set j none) (rs.set j none))
  | [], _, j, b, r, h, _ => by simp at h
  | _ :: _, [], j, b, r, _, h => by simp at h
  | p :: ps, q :: rs, 0, b, r, h1, h2 => by
    simp at h1 h2; subst h1 h2; simp [recsL]
  | p :: ps, q :: rs, j + 1, b, r, h1, h2 => by
    have ih := recs_out ps rs j b r (by simpa using h1) (by simpa using h2)
    cases p <;> cases q <;> simp only [recsL, List.set_cons_succ] <;> first | exact ih | exact (List.Perm.cons _ ih).trans (.swap _ _ _)

theorem recs_in : ∀ (ps : List (Option Nat)) (rs : List (Option Rec)) (j b : Nat) (r : Rec), j < ps.length → j < rs.length → ps[j]?.join = none → rs[j]?.join = none → (recsL (ps.set j (some b)) (rs.set j (some r))).Perm (recC b r :: recsL ps rs)
  | [], _, j, b, r, h, _, _, _ => by simp at h
  | _ :: _, [], j, b, r, _, h, _, _ => by simp at h
  | p :: ps, q :: rs, 0, b, r, _, _, h1, h2 => by
    simp at h1 h2; subst h1 h2; simp [recsL]
  | p :: ps, q :: rs, j + 1, b, r, l1, l2, h1, h2 => by
    have ih := recs_in ps rs j b r (by simpa using l1) (by simpa using l2) (by simpa using h1) (by simpa using h2)
    cases p <;> cases q <;> simp only [recsL, List.set_cons_succ] <;> first | exact ih | exact (List.Perm.cons _ ih).trans (.swap _ _ _)

/-- Where a pointer lies a record stands. -/
def Alike (ps : List (Option Nat)) (rs : List (Option Rec)) : Prop := ps.map Option.isSome = rs.map Option.isSome

theorem Alike.get {ps : List (Option Nat)} {rs : List (Option Rec)} (h : Alike ps rs) (j : Nat) : (ps[j]?.join).isSome = (rs[j]?.join).isSome := by
  have := congrArg (fun l => l[j]?) h
  simp only [List.getElem?_map] at this
  cases h1 : ps[j]? <;> cases h2 : rs[j]? <;> simp_all

theorem Alike.getp {ps : List (Option Nat)} {rs : List (Option Rec)} (h : Alike ps rs) (i : Int) : (getp ps i).isSome = (getr rs i).isSome := by
  unfold Proofs.Ytffcilmllebdmaa.getp getr
  split
  · exact h.get _
  · rfl

theorem Alike.length {ps : List (Option Nat)} {rs : List (Option Rec)} (h : Alike ps rs) : ps.length = rs.length := by
  have := congrArg List.length h
  simpa using this

theorem Alike.set {ps : List (Option Nat)} {rs : List (Option Rec)} (h : Alike ps rs) (j : Nat) (p : Option Nat) (r : Option Rec) (e : p.isSome = r.isSome) : Alike (ps.set j p) (rs.set j r) := by
  unfold Alike at *
  rw [List.map_set, List.map_set, h, e]

theorem Alike.setr {ps : List (Option Nat)} {rs : List (Option Rec)} (h : Alike ps rs) {i : Int} {b : Nat} (hp : Proofs.Ytffcilmllebdmaa.getp ps i = some b) (r : Rec) : Alike ps (rs.set i.toNat (some r)) := by
  have hs := h.set i.toNat (some b) (some r) rfl
  have h0 := getp_some (ps := ps) (i := i) (by rw [hp]; rfl)
  rw [getp_in h0.1] at hp
  have hps : ps.set i.toNat (some b) = ps := by
    apply List.ext_getElem?
    intro j
    rw [List.getElem?_set]
    split
    · rename_i hj; subst hj
      have hl : i.toNat < ps.length := by omega
      rw [List.getElem?_eq_getElem hl] at hp ⊢; simp at hp; rw [hp]; simp [hl]
    · rfl
  rwa [hps] at hs

/-- A table at T: its places and records, the greatest serial that was given. -/
def Table (T : Nat) (last : Int) (rs : List (Option Rec)) : HProp :=
  Pk (fun x : Nat × Int × List (Option Nat) => LowOk x.2.1 x.2.2 ∧ Alike x.2.2 rs ∧ rs.length = 16)
    (fun x => [cb T [ptr (some x.1), i64 last] 90, Slots x.1 x.2.1 x.2.2, Recs x.2.2 rs])

section
variable {P : Program} {c : Ctx} {ds : List Nat} {todo : List It} {e : Env} {H R : List HProp} {Q : Post}

/-- One record is taken out. -/
theorem G.recOut {ps : List (Option Nat)} {rs : List (Option Rec)} {i : Int} {b : Nat} {r : Rec} [h : SelH H (Recs ps rs) R] (hp : getp ps i = some b) (hr : getr rs i = some r)
    (k : ∀ kv, G P c ds todo e (cb b (recCells r kv) 95 :: OwnS 3 1 kv r.kids.length (ints r.kids) :: Recs (ps.set i.toNat none) (rs.set i.toNat none) :: R) Q) : G P c ds todo e H Q := by
  have h0 : 0 ≤ i := (getp_some (by rw [hp]; rfl)).1
  rw [getp_in h0] at hp
  have hr' : rs[i.toNat]?.join = some r := by unfold getr at hr; rw [if_pos h0] at hr; exact hr
  have hperm := recs_out ps rs i.toNat b r hp hr'
  refine G.convEx (H' := fun kv => cb b (recCells r kv) 95 :: OwnS 3 1 kv r.kids.length (ints r.kids) :: Recs (ps.set i.toNat none) (rs.set i.toNat none) :: R) (fun g w s => ?_) k
  have s1 := Sat.sep.1 (s.perm h.sel)
  have s2 : Sat (recC b r :: (recsL (ps.set i.toNat none) (rs.set i.toNat none) ++ R)) g w := s1.perm (List.Perm.append_right R hperm)
  obtain ⟨kv, _, s3⟩ := Pk.open s2
  refine ⟨kv, ?_⟩
  have s4 : Sat ([cb b (recCells r kv) 95, OwnS 3 1 kv r.kids.length (ints r.kids)] ++ (recsL (ps.set i.toNat none) (rs.set i.toNat none) ++ R)) g w := s3
  have s5 : Sat ((recsL (ps.set i.toNat none) (rs.set i.toNat none) ++ (cb b (recCells r kv) 95 :: OwnS 3 1 kv r.kids.length (ints r.kids) :: R))) g w := s4.perm (by
    simp only [List.cons_append, List.nil_append]
    exact (List.perm_middle.trans (List.Perm.cons _ List.perm_middle)).symm)
  exact (Sat.sep.2 s5).perm ((List.Perm.swap _ _ _).trans (List.Perm.cons _ (List.Perm.swap _ _ _)))

/-- The record at i, as it is now, is put back. -/
theorem G.recIn {ps : List (Option Nat)} {rs : List (Option Rec)} (i : Int) (b : Nat) (r : Rec) (kv : Value) {L : List Value} {T el : TypeId} {n len : Nat} {cs : List Value} {R1 R2 R3 : List HProp} [h1 : DelC H b L T R1] [h2 : DelS R1 kv el n len cs R2] [h3 : SelH R2 (Recs (ps.set i.toNat none) (rs.set i.toNat none)) R3]
    (hL : L = recCells r kv) (hT : T = 95) (hs : el = 3 ∧ n = 1 ∧ len = r.kids.length ∧ cs = ints r.kids) (hp : getp ps i = some b) (hlen : Alike ps rs)
    (k : G P c ds todo e (Recs ps (rs.set i.toNat (some r)) :: R3) Q) : G P c ds todo e H Q := by
  obtain ⟨rfl, rfl, rfl, rfl⟩ := hs
  subst hL hT
  have h0 := getp_some (ps := ps) (i := i) (by rw [hp]; rfl)
  rw [getp_in h0.1] at hp
  have hl : i.toNat < ps.length := by omega
  have hps : (ps.set i.toNat none).set i.toNat (some b) = ps := by
    rw [List.set_set]
    apply List.ext_getElem?
    intro j
    rw [List.getElem?_set]
    split
    · rename_i hj; subst hj
      rw [List.getElem?_eq_getElem hl] at hp ⊢; simp at hp; rw [hp]
    · rfl
  have hperm := recs_in (ps.set i.toNat none) (rs.set i.toNat none) i.toNat b r (by simpa using hl) (by rw [List.length_set, ← hlen.length]; exact hl) (by simp [List.getElem?_set, hl]) (by simp [List.getElem?_set, ← hlen.length, hl])
  rw [hps, List.set_set] at hperm
  refine k.conv fun g w s => ?_
  have s1 : Sat (cb b (recCells r kv) 95 :: OwnS 3 1 kv r.kids.length (ints r.kids) :: Recs (ps.set i.toNat none) (rs.set i.toNat none) :: R3) g w :=
    s.perm (h1.del.trans (List.Perm.cons _ (h2.del.trans (List.Perm.cons _ h3.sel))))
  have s2 : Sat (recC b r :: Recs (ps.set i.toNat none) (rs.set i.toNat none) :: R3) g w := Pk.close (p := _) (l := _) kv trivial s1
  have s3 := Sat.sep.1 (s2.perm (.swap _ _ _))
  have s4 : Sat (recC b r :: recsL (ps.set i.toNat none) (rs.set i.toNat none) ++ R3) g w := s3.perm (by simp)
  exact Sat.sep.2 (s4.perm (List.Perm.append_right R3 hperm.symm))
end

theorem at_ok (S : Nat) (low i : Int) (ps : List (Option Nat)) (p : Option Nat) (hp : getp ps i = p) : Fun Try.prog 44 [.agg #[ptr (some S)], i64 i] [Slots S low ps] (Ret (ptr p) [Slots S low ps]) := by
  subst hp
  refine Fun.enter Try.func44 rfl rfl rfl ?_
  repeat (first | refine G.w0 ?_ | refine G.w1 ?_ | refine G.wn ?_ | refine GR.w ?_ | (refine G.ws (h := ?_); try (simp only [Nat.reduceAdd, Nat.zero_add, List.set_cons_succ, List.set_cons_zero])) | (refine G.wb ?_; intro bx) | (refine G.wz ?_; intro bx) | refine G.wa (h := ?_) | refine G.seq ?_ | refine G.region ?_ | refine G.nil ?_ | refine G.block ?_ | refine G.skip ?_ | refine G.blk ?_ | refine G.wx ?_ | refine G.wt ?_ | refine G.wf ?_)
  (first | refine G.take rfl ?_ | refine G.take_yes rfl rfl rfl (by first | rfl | assumption) ?_); (first | refine R.callD Try.func83 rfl (by decide) rfl rfl (Get_ok S low i ps) ?_ | refine R.callD0 Try.func83 rfl (by decide) rfl (Get_ok S low i ps) ?_); simp only [List.cons_append, List.nil_append]
  repeat (first | refine G.w0 ?_ | refine G.w1 ?_ | refine G.wn ?_ | refine GR.w ?_ | (refine G.ws (h := ?_); try (simp only [Nat.reduceAdd, Nat.zero_add, List.set_cons_succ, List.set_cons_zero])) | (refine G.wb ?_; intro bx) | (refine G.wz ?_; intro bx) | refine G.wa (h := ?_) | refine G.seq ?_ | refine G.region ?_ | refine G.nil ?_ | refine G.block ?_ | refine G.skip ?_ | refine G.blk ?_ | refine G.wx ?_ | refine G.wt ?_ | refine G.wf ?_)
  refine G.keep [Slots S low ps] ?_
  refine G.ret rfl Try.func44 rfl rfl rfl ?_
  exact ⟨rfl, rfl⟩

theorem isWord_ok (n : Int) : Fun Try.prog 45 [i64 n] [] (Ret (.bool (decide (0 ≤ n ∧ n ≤ 4294967295))) []) := by
  refine Fun.enter Try.func45 rfl rfl rfl ?_
  repeat' (first | refine G.w0 ?_ | refine G.w1 ?_ | refine G.wn ?_ | refine GR.w ?_ | (refine G.ws (h := ?_); try (simp only [Nat.reduceAdd, Nat.zero_add, List.set_cons_succ, List.set_cons_zero])) | (refine G.wb ?_; intro bx) | (refine G.wz ?_; intro bx) | refine G.wa (h := ?_) | refine G.seq ?_ | refine G.region ?_ | refine G.nil ?_ | refine G.block ?_ | refine G.skip ?_ | refine G.blk ?_ | refine G.wx ?_ | refine G.wt ?_ | refine G.wf ?_ | ((fail_if_success (first | refine G.take_yes rfl rfl rfl (by first | rfl | assumption) ?_ | refine G.take_n rfl rfl (by first | exact .inl rfl | exact .inr ⟨_, rfl, by first | rfl | assumption⟩) rfl ?_)); refine G.take_split rfl rfl rfl (fun hb => ?_) (fun hb => ?_)) | refine G.cond rfl (fun hb => ?_) (fun hb => ?_))
  all_goals refine G.ret rfl Try.func45 rfl rfl rfl ?_
  all_goals refine ⟨?_, rfl⟩
  · simp only [decide_eq_true_eq] at hb
    exact congrArg Value.bool (by simp [hb])
  · simp only [Bool.not_true, decide_eq_false_iff_not] at hb
    exact congrArg Value.bool (by simp [hb])

theorem getr_none {ps : List (Option Nat)} {rs : List (Option Rec)} {i : Int} (h : Alike ps rs) (hp : getp ps i = none) : getr rs i = none := by
  have := h.getp i
  rw [hp] at this
  cases hr : getr rs i <;> simp_all
theorem getr_some {ps : List (Option Nat)} {rs : List (Option Rec)} {i : Int} {b : Nat} (h : Alike ps rs) (hp : getp ps i = some b) : ∃ r, getr rs i = some r := by
  have := h.getp i
  rw [hp] at this
  cases hr : getr rs i <;> simp_all

/-- A step on one environment's record: ErrEnv, or f's error and record. -/
def onRec (rs : List (Option Rec)) (i : Int) (f : Rec → Int × Rec) : Int × List (Option Rec) :=
  match getr rs i with
  | none => (90, rs)
  | some r => ((f r).1, rs.set i.toNat (some (f r).2))

theorem set_same {rs : List (Option Rec)} {i : Int} {r : Rec} (h : getr rs i = some r) : rs.set i.toNat (some r) = rs := by
  unfold getr at h
  split at h
  · apply List.ext_getElem?
    intro j
    rw [List.getElem?_set]
    split
    · rename_i hj; subst hj
      split
      · rename_i hl; rw [List.getElem?_eq_getElem hl] at h ⊢; simp at h; rw [h]
      · rename_i hl; rw [List.getElem?_eq_none (by omega)]
    · rfl
  · cases h

theorem SetBits_ok (T : Nat) (last : Int) (rs : List (Option Rec)) (e n : Int) : Fun Try.prog 47 [ptr (some T), i64 e, i64 n] [Table T last rs]
    (Ret (i64 (onRec rs e fun r => if 0 ≤ n ∧ n ≤ 4294967295 then (0, { r with bits := n }) else (1, r)).1) [Table T last (onRec rs e fun r => if 0 ≤ n ∧ n ≤ 4294967295 then (0, { r with bits := n }) else (1, r)).2]) := by
  refine Fun.enter Try.func47 rfl rfl rfl ?_
  refine G.open (Table T last rs) rfl ?_
  rintro ⟨S, low, ps⟩ ⟨hlow, hal, hl⟩
  simp only [List.cons_append, List.nil_append]
  rcases hp : getp ps e with _ | b
  · repeat (first | refine G.w0 ?_ | refine G.w1 ?_ | refine G.wn ?_ | refine GR.w ?_ | (refine G.ws (h := ?_); try (simp only [Nat.reduceAdd, Nat.zero_add, List.set_cons_succ, List.set_cons_zero])) | (refine G.wb ?_; intro bx) | (refine G.wz ?_; intro bx) | refine G.wa (h := ?_) | refine G.seq ?_ | refine G.region ?_ | refine G.nil ?_ | refine G.block ?_ | refine G.skip ?_ | refine G.blk ?_ | refine G.wx ?_ | refine G.wt ?_ | refine G.wf ?_)
    (first | refine G.take rfl ?_ | refine G.take_yes rfl rfl rfl (by first | rfl | assumption) ?_); (first | refine R.callD Try.func44 rfl (by decide) rfl rfl (at_ok S low e ps _ hp) ?_ | refine R.callD0 Try.func44 rfl (by decide) rfl (at_ok S low e ps _ hp) ?_); simp only [List.cons_append, List.nil_append]
    repeat (first | refine G.w0 ?_ | refine G.w1 ?_ | refine G.wn ?_ | refine GR.w ?_ | (refine G.ws (h := ?_); try (simp only [Nat.reduceAdd, Nat.zero_add, List.set_cons_succ, List.set_cons_zero])) | (refine G.wb ?_; intro bx) | (refine G.wz ?_; intro bx) | refine G.wa (h := ?_) | refine G.seq ?_ | refine G.region ?_ | refine G.nil ?_ | refine G.block ?_ | refine G.skip ?_ | refine G.blk ?_ | refine G.wx ?_ | refine G.wt ?_ | refine G.wf ?_)
    refine G.close (Table T last rs) rfl ((S, low, ps)) (⟨hlow, hal, hl⟩) (by dsimp only) ?_
    refine G.ret rfl Try.func47 rfl rfl rfl ?_
    simp only [onRec, getr_none hal hp]
    exact ⟨rfl, rfl⟩
  · obtain ⟨r, hr⟩ := getr_some hal hp
    repeat (first | refine G.w0 ?_ | refine G.w1 ?_ | refine G.wn ?_ | refine GR.w ?_ | (refine G.ws (h := ?_); try (simp only [Nat.reduceAdd, Nat.zero_add, List.set_cons_succ, List.set_cons_zero])) | (refine G.wb ?_; intro bx) | (refine G.wz ?_; intro bx) | refine G.wa (h := ?_) | refine G.seq ?_ | refine G.region ?_ | refine G.nil ?_ | refine G.block ?_ | refine G.skip ?_ | refine G.blk ?_ | refine G.wx ?_ | refine G.wt ?_ | refine G.wf ?_)
    (first | refine G.take rfl ?_ | refine G.take_yes rfl rfl rfl (by first | rfl | assumption) ?_); (first | refine R.callD Try.func44 rfl (by decide) rfl rfl (at_ok S low e ps _ hp) ?_ | refine R.callD0 Try.func44 rfl (by decide) rfl (at_ok S low e ps _ hp) ?_); simp only [List.cons_append, List.nil_append]
    repeat (first | refine G.w0 ?_ | refine G.w1 ?_ | refine G.wn ?_ | refine GR.w ?_ | (refine G.ws (h := ?_); try (simp only [Nat.reduceAdd, Nat.zero_add, List.set_cons_succ, List.set_cons_zero])) | (refine G.wb ?_; intro bx) | (refine G.wz ?_; intro bx) | refine G.wa (h := ?_) | refine G.seq ?_ | refine G.region ?_ | refine G.nil ?_ | refine G.block ?_ | refine G.skip ?_ | refine G.blk ?_ | refine G.wx ?_ | refine G.wt ?_ | refine G.wf ?_)
    (first | refine G.take rfl ?_ | refine G.take_yes rfl rfl rfl (by first | rfl | assumption) ?_); (first | refine R.callD Try.func45 rfl (by decide) rfl rfl (isWord_ok n) ?_ | refine R.callD0 Try.func45 rfl (by decide) rfl (isWord_ok n) ?_); simp only [List.cons_append, List.nil_append]
    repeat (first | refine G.w0 ?_ | refine G.w1 ?_ | refine G.wn ?_ | refine GR.w ?_ | (refine G.ws (h := ?_); try (simp only [Nat.reduceAdd, Nat.zero_add, List.set_cons_succ, List.set_cons_zero])) | (refine G.wb ?_; intro bx) | (refine G.wz ?_; intro bx) | refine G.wa (h := ?_) | refine G.seq ?_ | refine G.region ?_ | refine G.nil ?_ | refine G.block ?_ | refine G.skip ?_ | refine G.blk ?_ | refine G.wx ?_ | refine G.wt ?_ | refine G.wf ?_)
    refine G.cond rfl (fun hb => ?_) (fun hb => ?_)
    · repeat (first | refine G.w0 ?_ | refine G.w1 ?_ | refine G.wn ?_ | refine GR.w ?_ | (refine G.ws (h := ?_); try (simp only [Nat.reduceAdd, Nat.zero_add, List.set_cons_succ, List.set_cons_zero])) | (refine G.wb ?_; intro bx) | (refine G.wz ?_; intro bx) | refine G.wa (h := ?_) | refine G.seq ?_ | refine G.region ?_ | refine G.nil ?_ | refine G.block ?_ | refine G.skip ?_ | refine G.blk ?_ | refine G.wx ?_ | refine G.wt ?_ | refine G.wf ?_)
      refine G.close (Table T last rs) rfl ((S, low, ps)) (⟨hlow, hal, hl⟩) (by dsimp only) ?_
      refine G.ret rfl Try.func47 rfl rfl rfl ?_
      have hn : ¬ (0 ≤ n ∧ n ≤ 4294967295) := by simp at hb; omega
      simp only [onRec, hr, hn, if_false, set_same hr]
      exact ⟨rfl, rfl⟩
    · repeat (first | refine G.w0 ?_ | refine G.w1 ?_ | refine G.wn ?_ | refine GR.w ?_ | (refine G.ws (h := ?_); try (simp only [Nat.reduceAdd, Nat.zero_add, List.set_cons_succ, List.set_cons_zero])) | (refine G.wb ?_; intro bx) | (refine G.wz ?_; intro bx) | refine G.wa (h := ?_) | refine G.seq ?_ | refine G.region ?_ | refine G.nil ?_ | refine G.block ?_ | refine G.skip ?_ | refine G.blk ?_ | refine G.wx ?_ | refine G.wt ?_ | refine G.wf ?_)
      refine G.recOut hp hr fun kv => ?_
      repeat (first | refine G.w0 ?_ | refine G.w1 ?_ | refine G.wn ?_ | refine GR.w ?_ | (refine G.ws (h := ?_); try (simp only [Nat.reduceAdd, Nat.zero_add, List.set_cons_succ, List.set_cons_zero])) | (refine G.wb ?_; intro bx) | (refine G.wz ?_; intro bx) | refine G.wa (h := ?_) | refine G.seq ?_ | refine G.region ?_ | refine G.nil ?_ | refine G.block ?_ | refine G.skip ?_ | refine G.blk ?_ | refine G.wx ?_ | refine G.wt ?_ | refine G.wf ?_)
      refine G.recIn e b { r with bits := n } kv rfl rfl ⟨rfl, rfl, rfl, rfl⟩ hp hal ?_
      repeat (first | refine G.w0 ?_ | refine G.w1 ?_ | refine G.wn ?_ | refine GR.w ?_ | (refine G.ws (h := ?_); try (simp only [Nat.reduceAdd, Nat.zero_add, List.set_cons_succ, List.set_cons_zero])) | (refine G.wb ?_; intro bx) | (refine G.wz ?_; intro bx) | refine G.wa (h := ?_) | refine G.seq ?_ | refine G.region ?_ | refine G.nil ?_ | refine G.block ?_ | refine G.skip ?_ | refine G.blk ?_ | refine G.wx ?_ | refine G.wt ?_ | refine G.wf ?_)
      refine G.close (Table T last (rs.set e.toNat (some { r with bits := n }))) rfl ((S, low, ps)) (⟨hlow, hal.setr hp _, by simpa using hl⟩) (by dsimp only) ?_
      refine G.ret rfl Try.func47 rfl rfl rfl ?_
      have hn : (0 ≤ n ∧ n ≤ 4294967295) := by simp at hb; omega
      simp only [onRec, hr, if_pos hn]
      exact ⟨rfl, rfl⟩
end Go.Proofs.Ytffcilmllebdmaa
