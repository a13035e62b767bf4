/- The walk through a tree. -/
import Derived.Test.YtffcilmllebdmaaE10
namespace Go.Proofs.Ytffcilmllebdmaa
open Go.Am
set_option maxHeartbeats 4000000
set_option linter.unusedVariables false
set_option linter.unusedSimpArgs false
attribute [local irreducible] Ok GR G Fun OpRun EVS

/-- The records with the values of their lists of children. -/
def recsK : List (Option Nat) → List (Option Rec) → List Value → List HProp
  | some b :: ps, some r :: rs, kv :: kvs => cb b (recCells r kv) 95 :: OwnS 3 1 kv r.kids.length (ints r.kids) :: recsK ps rs kvs
  | _ :: ps, _ :: rs, _ :: kvs => recsK ps rs kvs
  | _, _, _ => []
def RecsK (ps : List (Option Nat)) (rs : List (Option Rec)) (kvs : List Value) : HProp := sep (recsK ps rs kvs)

theorem recsK_out : ∀ (ps : List (Option Nat)) (rs : List (Option Rec)) (kvs : List Value) (j b : Nat) (r : Rec) (kv : Value), ps[j]?.join = some b → rs[j]?.join = some r → kvs[j]? = some kv →
    (recsK ps rs kvs).Perm (cb b (recCells r kv) 95 :: OwnS 3 1 kv r.kids.length (ints r.kids) :: recsK (ps.set j none) (rs.set j none) kvs)
  | [], _, _, j, b, r, kv, h, _, _ => by simp at h
  | _ :: _, [], _, j, b, r, kv, _, h, _ => by simp at h
  | _ :: _, _ :: _, [], j, b, r, kv, _, _, h => by simp at h
  | p :: ps, q :: rs, k :: kvs, 0, b, r, kv, h1, h2, h3 => by
    simp at h1 h2 h3; subst h1 h2 h3; simp [recsK]
  | p :: ps, q :: rs, k :: kvs, j + 1, b, r, kv, h1, h2, h3 => by
    have ih := recsK_out ps rs kvs j b r kv (by simpa using h1) (by simpa using h2) (by simpa using h3)
    cases p <;> cases q <;> simp only [recsK, List.set_cons_succ] <;> first
      | exact ih
      | exact ((List.Perm.cons _ (List.Perm.cons _ ih)).trans ((List.Perm.cons _ ((List.Perm.swap _ _ _).trans (List.Perm.cons _ (List.Perm.swap _ _ _)))).trans ((List.Perm.swap _ _ _).trans (List.Perm.cons _ (List.Perm.swap _ _ _)))))

theorem recs_toK {g : Fr} {w : World} : ∀ (ps : List (Option Nat)) (rs : List (Option Rec)) (H : List HProp), ps.length = rs.length → Sat (recsL ps rs ++ H) g w → ∃ kvs : List Value, kvs.length = rs.length ∧ Sat (recsK ps rs kvs ++ H) g w
  | [], [], H, _, s => ⟨[], rfl, s⟩
  | [], _ :: _, H, h, _ => by simp at h
  | _ :: _, [], H, h, _ => by simp at h
  | p :: ps, q :: rs, H, h, s => by
    simp only [List.length_cons, Nat.add_right_cancel_iff] at h
    rcases p with _ | b
    · obtain ⟨kvs, e, s'⟩ := recs_toK ps rs H h (by cases q <;> exact s)
      exact ⟨.nilIface :: kvs, by simp [e], by cases q <;> exact s'⟩
    · rcases q with _ | r
      · obtain ⟨kvs, e, s'⟩ := recs_toK ps rs H h s
        exact ⟨.nilIface :: kvs, by simp [e], s'⟩
      · obtain ⟨kv, _, s1⟩ := Pk.open (show Sat (recC b r :: (recsL ps rs ++ H)) g w from s)
        have s2 : Sat (cb b (recCells r kv) 95 :: OwnS 3 1 kv r.kids.length (ints r.kids) :: (recsL ps rs ++ H)) g w := s1
        obtain ⟨kvs, e, s'⟩ := recs_toK ps rs (cb b (recCells r kv) 95 :: OwnS 3 1 kv r.kids.length (ints r.kids) :: H) h (s2.perm (by
          refine List.Perm.trans ?_ (List.perm_middle (l₁ := recsL ps rs)).symm
          exact List.Perm.cons _ (List.perm_middle (l₁ := recsL ps rs)).symm))
        refine ⟨kv :: kvs, by simp [e], ?_⟩
        show Sat (cb b (recCells r kv) 95 :: OwnS 3 1 kv r.kids.length (ints r.kids) :: (recsK ps rs kvs ++ H)) g w
        exact s'.perm ((List.perm_middle (l₁ := recsK ps rs kvs)).trans (List.Perm.cons _ (List.perm_middle (l₁ := recsK ps rs kvs))))

theorem recs_ofK {g : Fr} {w : World} : ∀ (ps : List (Option Nat)) (rs : List (Option Rec)) (kvs : List Value) (H : List HProp), ps.length = rs.length → kvs.length = rs.length → Sat (recsK ps rs kvs ++ H) g w → Sat (recsL ps rs ++ H) g w
  | [], [], _, H, _, _, s => s
  | [], _ :: _, _, H, h, _, _ => by simp at h
  | _ :: _, [], _, H, h, _, _ => by simp at h
  | _ :: _, _ :: _, [], H, _, h, _ => by simp at h
  | p :: ps, q :: rs, kv :: kvs, H, h, h', s => by
    simp only [List.length_cons, Nat.add_right_cancel_iff] at h h'
    rcases p with _ | b
    · have := recs_ofK ps rs kvs H h h' (by cases q <;> exact s)
      cases q <;> exact this
    · rcases q with _ | r
      · exact recs_ofK ps rs kvs H h h' s
      · have s1 : Sat (cb b (recCells r kv) 95 :: OwnS 3 1 kv r.kids.length (ints r.kids) :: (recsK ps rs kvs ++ H)) g w := s
        have s2 := recs_ofK ps rs kvs (cb b (recCells r kv) 95 :: OwnS 3 1 kv r.kids.length (ints r.kids) :: H) h h' (s1.perm (by
          refine List.Perm.trans ?_ (List.perm_middle (l₁ := recsK ps rs kvs)).symm
          exact List.Perm.cons _ (List.perm_middle (l₁ := recsK ps rs kvs)).symm))
        have s3 : Sat (cb b (recCells r kv) 95 :: OwnS 3 1 kv r.kids.length (ints r.kids) :: (recsL ps rs ++ H)) g w :=
          s2.perm ((List.perm_middle (l₁ := recsL ps rs)).trans (List.Perm.cons _ (List.perm_middle (l₁ := recsL ps rs))))
        exact Pk.close (p := _) (l := _) kv trivial s3

section
variable {P : Program} {c : Ctx} {ds : List Nat} {todo : List It} {e : Env} {H R : List HProp} {Q : Post}

theorem G.toK (ps : List (Option Nat)) (rs : List (Option Rec)) [h : SelH H (Recs ps rs) R] (hl : ps.length = rs.length) (k : ∀ kvs, kvs.length = rs.length → G P c ds todo e (RecsK ps rs kvs :: R) Q) : G P c ds todo e H Q := by
  refine G.convEx (H' := fun x : { kvs : List Value // kvs.length = rs.length } => RecsK ps rs x.1 :: R) (fun g w s => ?_) fun x => k x.1 x.2
  obtain ⟨kvs, e1, s'⟩ := recs_toK ps rs R hl (Sat.sep.1 (s.perm h.sel))
  exact ⟨⟨kvs, e1⟩, Sat.sep.2 s'⟩
theorem G.ofK (ps : List (Option Nat)) (rs : List (Option Rec)) (kvs : List Value) [h : SelH H (RecsK ps rs kvs) R] (hl : ps.length = rs.length) (hk : kvs.length = rs.length) (k : G P c ds todo e (Recs ps rs :: R) Q) : G P c ds todo e H Q :=
  k.conv fun _ _ s => Sat.sep.2 (recs_ofK ps rs kvs R hl hk (Sat.sep.1 (s.perm h.sel)))
theorem G.outK {ps : List (Option Nat)} {rs : List (Option Rec)} {kvs : List Value} {i : Int} {b : Nat} {r : Rec} (kv : Value) [h : SelH H (RecsK ps rs kvs) R] (hp : getp ps i = some b) (hr : getr rs i = some r) (hv : kvs[i.toNat]? = some kv)
    (k : G P c ds todo e (cb b (recCells r kv) 95 :: OwnS 3 1 kv r.kids.length (ints r.kids) :: RecsK (ps.set i.toNat none) (rs.set i.toNat none) kvs :: R) Q) : G P c ds todo e H Q := by
  have h0 := getp_some (ps := ps) (i := i) (by rw [hp]; rfl)
  rw [getp_in h0.1] at hp
  unfold getr at hr; rw [if_pos h0.1] at hr
  refine k.conv fun g w s => ?_
  have s1 := Sat.sep.1 (s.perm h.sel)
  have s2 := s1.perm (List.Perm.append_right R (recsK_out ps rs kvs i.toNat b r kv hp hr hv))
  have s3 : Sat (recsK (ps.set i.toNat none) (rs.set i.toNat none) kvs ++ (cb b (recCells r kv) 95 :: OwnS 3 1 kv r.kids.length (ints r.kids) :: R)) g w := s2.perm (by
    refine List.Perm.trans ?_ (List.perm_middle).symm
    exact List.Perm.cons _ (List.perm_middle).symm)
  exact (Sat.sep.2 s3).perm ((List.Perm.swap _ _ _).trans (List.Perm.cons _ (List.Perm.swap _ _ _)))
theorem G.inK {ps : List (Option Nat)} {rs : List (Option Rec)} {kvs : List Value} (i : Int) (b : Nat) (r : Rec) (kv : Value) {R1 R2 R3 : List HProp} [h1 : SelH H (cb b (recCells r kv) 95) R1] [h2 : SelH R1 (OwnS 3 1 kv r.kids.length (ints r.kids)) R2] [h3 : SelH R2 (RecsK (ps.set i.toNat none) (rs.set i.toNat none) kvs) R3]
    (hp : getp ps i = some b) (hr : getr rs i = some r) (hv : kvs[i.toNat]? = some kv) (k : G P c ds todo e (RecsK ps rs kvs :: R3) Q) : G P c ds todo e H Q := by
  have h0 := getp_some (ps := ps) (i := i) (by rw [hp]; rfl)
  rw [getp_in h0.1] at hp
  unfold getr at hr; rw [if_pos h0.1] at hr
  refine k.conv fun g w s => ?_
  have s1 := s.perm (h1.sel.trans (List.Perm.cons _ (h2.sel.trans (List.Perm.cons _ h3.sel))))
  have s2 := Sat.sep.1 (s1.perm ((List.Perm.cons _ (List.Perm.swap _ _ _)).trans (List.Perm.swap _ _ _)))
  refine Sat.sep.2 (s2.perm ?_)
  refine List.Perm.trans ?_ (List.Perm.append_right R3 (recsK_out ps rs kvs i.toNat b r kv hp hr hv)).symm
  exact List.perm_middle.trans (List.Perm.cons _ List.perm_middle)
end

/-- e and all below it, in preorder; n: how deep it is looked. -/
def pre : Nat → List (Option Rec) → Int → List Int
  | 0, _, _ => []
  | n + 1, rs, e => e :: (match getr rs e with | some r => r.kids.flatMap (pre n rs) | none => [])
def Deep : Nat → List (Option Rec) → Int → Prop
  | 0, _, _ => False
  | n + 1, rs, e => ∃ r, getr rs e = some r ∧ ∀ k ∈ r.kids, Deep n rs k

theorem getp_of {ps : List (Option Nat)} {rs : List (Option Rec)} {i : Int} {r : Rec} (h : Alike ps rs) (hr : getr rs i = some r) : ∃ b, getp ps i = some b := by
  have := h.getp i
  rw [hr] at this
  cases hp : getp ps i with
  | none => rw [hp] at this; cases this
  | some b => exact ⟨b, rfl⟩

theorem walk_ok (T S : Nat) (last low : Int) (ps : List (Option Nat)) (rs : List (Option Rec)) (kvs : List Value) (hal : Alike ps rs) (hkl : kvs.length = rs.length) (hks : ∀ e r, getr rs e = some r → r.kids.length ≤ 16) :
    ∀ (n : Nat) (e : Int) (acc : List Int) (a : Option Addr) (cap : Nat), Deep n rs e → (acc ++ pre n rs e).length ≤ 100000 →
      Fun Try.prog 59 [ptr (some T), i64 e, .slice a acc.length cap] [cb T [ptr (some S), i64 last] 90, Slots S low ps, RecsK ps rs kvs, OwnS 3 1 (.slice a acc.length cap) acc.length (ints acc)]
        (fun v H => ∃ a' cap', v = .slice a' (acc ++ pre n rs e).length cap' ∧ H = [cb T [ptr (some S), i64 last] 90, Slots S low ps, RecsK ps rs kvs, OwnS 3 1 (.slice a' (acc ++ pre n rs e).length cap') (acc ++ pre n rs e).length (ints (acc ++ pre n rs e))]) := by
  intro n
  induction n with
  | zero => intro e acc a cap h; exact h.elim
  | succ n ih =>
    rintro e acc a cap ⟨r, hr, hk⟩ hb
    have hpre : pre (n + 1) rs e = e :: r.kids.flatMap (pre n rs) := by simp only [pre, hr]
    rw [hpre] at hb ⊢
    obtain ⟨b, hp⟩ := getp_of hal hr
    have hlt : e.toNat < kvs.length := by
      have := getp_some (ps := ps) (i := e) (by rw [hp]; rfl)
      rw [hkl, ← hal.length]; omega
    obtain ⟨kv, hkv⟩ : ∃ kv, kvs[e.toNat]? = some kv := ⟨_, List.getElem?_eq_getElem hlt⟩
    have hkl2 := hks e r hr
    simp only [List.length_append, List.length_cons] at hb
    refine Fun.enter Try.func59 rfl rfl rfl ?_
    repeat (first | refine G.w0 ?_ | refine G.w1 ?_ | refine G.wn ?_ | refine GR.w ?_ | (refine G.ws (h := ?_); try (simp only [Nat.reduceAdd, Nat.zero_add, List.set_cons_succ, List.set_cons_zero])) | (refine G.wb ?_; intro bx) | (refine G.wz ?_; intro bx) | refine G.wa (h := ?_) | refine G.seq ?_ | refine G.region ?_ | refine G.nil ?_ | refine G.block ?_ | refine G.skip ?_ | refine G.blk ?_ | refine G.wx ?_ | refine G.wt ?_ | refine G.wf ?_)
    (first | refine G.take rfl ?_ | refine G.take_yes rfl rfl rfl (by first | rfl | assumption) ?_)
    refine R.bs1 rfl rfl rfl rfl fun nb => ?_
    (first | refine G.take rfl ?_ | refine G.take_yes rfl rfl rfl (by first | rfl | assumption) ?_)
    refine R.append (n := 1) (bytes := 8) (z := .int .i64 0) (cs := ints acc) (news := [i64 e]) rfl rfl (by rfl) (by exact Nat.le_refl _) rfl rfl (by omega) (by omega) (by decide) rfl fun a1 cap1 => ?_
    repeat (first | refine G.w0 ?_ | refine G.w1 ?_ | refine G.wn ?_ | refine GR.w ?_ | (refine G.ws (h := ?_); try (simp only [Nat.reduceAdd, Nat.zero_add, List.set_cons_succ, List.set_cons_zero])) | (refine G.wb ?_; intro bx) | (refine G.wz ?_; intro bx) | refine G.wa (h := ?_) | refine G.seq ?_ | refine G.region ?_ | refine G.nil ?_ | refine G.block ?_ | refine G.skip ?_ | refine G.blk ?_ | refine G.wx ?_ | refine G.wt ?_ | refine G.wf ?_)
    (first | refine G.take rfl ?_ | refine G.take_yes rfl rfl rfl (by first | rfl | assumption) ?_); (first | refine R.callD Try.func44 rfl (by decide) rfl rfl (at_ok S low e ps _ hp) ?_ | refine R.callD0 Try.func44 rfl (by decide) rfl (at_ok S low e ps _ hp) ?_); simp only [List.cons_append, List.nil_append]
    refine G.outK kv hp hr hkv ?_
    refine G.form kv ?_
    rintro a2 cap2 rfl
    repeat (first | refine G.w0 ?_ | refine G.w1 ?_ | refine G.wn ?_ | refine GR.w ?_ | (refine G.ws (h := ?_); try (simp only [Nat.reduceAdd, Nat.zero_add, List.set_cons_succ, List.set_cons_zero])) | (refine G.wb ?_; intro bx) | (refine G.wz ?_; intro bx) | refine G.wa (h := ?_) | refine G.seq ?_ | refine G.region ?_ | refine G.nil ?_ | refine G.block ?_ | refine G.skip ?_ | refine G.blk ?_ | refine G.wx ?_ | refine G.wt ?_ | refine G.wf ?_)
    refine G.inK e b r (.slice a2 r.kids.length cap2) hp hr hkv ?_
    refine G.keep [cb T [ptr (some S), i64 last] 90, Slots S low ps, RecsK ps rs kvs, OwnS 3 1 (.slice a1 (acc.length + 1) cap1) (acc.length + 1) (ints acc ++ [i64 e])] ?_
    refine G.loopI (α := Nat × Option Addr × Nat) (fun x => [(23, .int .i64 x.1), (2, .slice x.2.1 (acc ++ e :: (r.kids.take x.1).flatMap (pre n rs)).length x.2.2), (22, .int .i64 r.kids.length), (21, .slice a2 r.kids.length cap2), (0, ptr (some T))])
      (fun x => [cb T [ptr (some S), i64 last] 90, Slots S low ps, RecsK ps rs kvs, OwnS 3 1 (.slice x.2.1 (acc ++ e :: (r.kids.take x.1).flatMap (pre n rs)).length x.2.2) (acc ++ e :: (r.kids.take x.1).flatMap (pre n rs)).length (ints (acc ++ e :: (r.kids.take x.1).flatMap (pre n rs)))])
      (fun x => x.1 ≤ r.kids.length) (fun x => r.kids.length - x.1) (0, a1, cap1) (Nat.zero_le _) ?_ ?_ ?_
    · refine Env.le_cons rfl (Env.le_cons ?_ (Env.le_cons rfl (Env.le_cons rfl (Env.le_cons rfl (Env.le_nil _)))))
      show some (Value.slice a1 (acc.length + 1) cap1) = _
      simp
    · simp [ints]
    rintro ⟨i, ax, cx⟩ hi hloop
    dsimp only at hi hloop ⊢
    by_cases hlt2 : i < r.kids.length
    · have hb1 : decide ((i : Int) < (r.kids.length : Int)) = true := by simpa using hlt2
      have hidx : 0 ≤ (i : Int) ∧ (i : Int) < (r.kids.length : Int) := by omega
      have hw : IntKind.i64.wrap ((i : Int) + 1) = (i : Int) + 1 := wrap_id (by omega) (by omega)
      have htk : (r.kids.take (i + 1)).flatMap (pre n rs) = (r.kids.take i).flatMap (pre n rs) ++ pre n rs r.kids[i] := by
        rw [List.take_succ_eq_append_getElem hlt2, List.flatMap_append]; simp
      have hlen : (acc ++ e :: (r.kids.take (i + 1)).flatMap (pre n rs)).length ≤ 100000 := by
        have h1 : (r.kids.take (i + 1)).flatMap (pre n rs) ++ (r.kids.drop (i + 1)).flatMap (pre n rs) = r.kids.flatMap (pre n rs) := by rw [← List.flatMap_append, List.take_append_drop]
        have h2 := congrArg List.length h1
        simp only [List.length_append, List.length_cons] at h2 ⊢
        omega
      have happ : (acc ++ e :: (r.kids.take i).flatMap (pre n rs)) ++ pre n rs r.kids[i] = acc ++ e :: (r.kids.take (i + 1)).flatMap (pre n rs) := by rw [htk]; simp
      refine G.outK (.slice a2 r.kids.length cap2) hp hr hkv ?_
      refine G.formS (.slice a2 r.kids.length cap2) (by omega) ?_
      rintro kb kcap hkc -
      cases hkc
      repeat (first | refine G.w0 ?_ | refine G.w1 ?_ | refine G.wn ?_ | refine GR.w ?_ | (refine G.ws (h := ?_); try (simp only [Nat.reduceAdd, Nat.zero_add, List.set_cons_succ, List.set_cons_zero])) | (refine G.wb ?_; intro bx) | (refine G.wz ?_; intro bx) | refine G.wa (h := ?_) | refine G.seq ?_ | refine G.region ?_ | refine G.nil ?_ | refine G.block ?_ | refine G.skip ?_ | refine G.blk ?_ | refine G.wx ?_ | refine G.wt ?_ | refine G.wf ?_)
      (first | refine G.take rfl ?_ | refine G.take_yes rfl rfl rfl (by first | rfl | assumption) ?_)
      refine GR.ok (Ok.loadS (v := i64 r.kids[i]) rfl (by simp [ints, List.getElem?_eq_getElem hlt2])) rfl rfl ?_
      repeat (first | refine G.w0 ?_ | refine G.w1 ?_ | refine G.wn ?_ | refine GR.w ?_ | (refine G.ws (h := ?_); try (simp only [Nat.reduceAdd, Nat.zero_add, List.set_cons_succ, List.set_cons_zero])) | (refine G.wb ?_; intro bx) | (refine G.wz ?_; intro bx) | refine G.wa (h := ?_) | refine G.seq ?_ | refine G.region ?_ | refine G.nil ?_ | refine G.block ?_ | refine G.skip ?_ | refine G.blk ?_ | refine G.wx ?_ | refine G.wt ?_ | refine G.wf ?_)
      refine G.inK e b r (.slice (some ⟨kb, 0, none⟩) r.kids.length cap2) hp hr hkv ?_
      (first | refine G.take rfl ?_ | refine G.take_yes rfl rfl rfl (by first | rfl | assumption) ?_); (first | refine R.callQ Try.func59 rfl (by decide) rfl rfl (ih r.kids[i] (acc ++ e :: (r.kids.take i).flatMap (pre n rs)) ax cx (hk _ (List.getElem_mem hlt2)) (by rw [happ]; exact hlen)) ?_ | refine R.callQ0 Try.func59 rfl (by decide) rfl (ih r.kids[i] (acc ++ e :: (r.kids.take i).flatMap (pre n rs)) ax cx (hk _ (List.getElem_mem hlt2)) (by rw [happ]; exact hlen)) ?_); (rintro _ _ ⟨a', cap', rfl, rfl⟩ <;> simp only [List.cons_append, List.nil_append])
      rw [happ]
      repeat (first | refine G.w0 ?_ | refine G.w1 ?_ | refine G.wn ?_ | refine GR.w ?_ | (refine G.ws (h := ?_); try (simp only [Nat.reduceAdd, Nat.zero_add, List.set_cons_succ, List.set_cons_zero])) | (refine G.wb ?_; intro bx) | (refine G.wz ?_; intro bx) | refine G.wa (h := ?_) | refine G.seq ?_ | refine G.region ?_ | refine G.nil ?_ | refine G.block ?_ | refine G.skip ?_ | refine G.blk ?_ | refine G.wx ?_ | refine G.wt ?_ | refine G.wf ?_)
      refine G.keep [cb T [ptr (some S), i64 last] 90, Slots S low ps, RecsK ps rs kvs, OwnS 3 1 (.slice a' (acc ++ e :: (r.kids.take (i + 1)).flatMap (pre n rs)).length cap') (acc ++ e :: (r.kids.take (i + 1)).flatMap (pre n rs)).length (ints (acc ++ e :: (r.kids.take (i + 1)).flatMap (pre n rs)))] ?_
      refine (hloop (i + 1, a', cap') (by dsimp only; omega) (by dsimp only; omega)).forget _ (Env.le_cons rfl (Env.le_cons rfl (Env.le_cons rfl (Env.le_cons rfl (Env.le_cons rfl (Env.le_nil _))))))
    · have hb1 : decide ((i : Int) < (r.kids.length : Int)) = false := by simpa using hlt2
      have hi2 : i = r.kids.length := by omega
      subst hi2
      rw [List.take_length]
      repeat (first | refine G.w0 ?_ | refine G.w1 ?_ | refine G.wn ?_ | refine GR.w ?_ | (refine G.ws (h := ?_); try (simp only [Nat.reduceAdd, Nat.zero_add, List.set_cons_succ, List.set_cons_zero])) | (refine G.wb ?_; intro bx) | (refine G.wz ?_; intro bx) | refine G.wa (h := ?_) | refine G.seq ?_ | refine G.region ?_ | refine G.nil ?_ | refine G.block ?_ | refine G.skip ?_ | refine G.blk ?_ | refine G.wx ?_ | refine G.wt ?_ | refine G.wf ?_)
      first | refine G.retK [cb T [ptr (some S), i64 last] 90, Slots S low ps, RecsK ps rs kvs, OwnS 3 1 (.slice ax (acc ++ e :: r.kids.flatMap (pre n rs)).length cx) (acc ++ e :: r.kids.flatMap (pre n rs)).length (ints (acc ++ e :: r.kids.flatMap (pre n rs)))] rfl Try.func59 rfl Res.nil ?_ | refine G.retK [cb T [ptr (some S), i64 last] 90, Slots S low ps, RecsK ps rs kvs, OwnS 3 1 (.slice ax (acc ++ e :: r.kids.flatMap (pre n rs)).length cx) (acc ++ e :: r.kids.flatMap (pre n rs)).length (ints (acc ++ e :: r.kids.flatMap (pre n rs)))] rfl Try.func59 rfl (Res.tmp rfl Res.nil) ?_ | refine G.retK [cb T [ptr (some S), i64 last] 90, Slots S low ps, RecsK ps rs kvs, OwnS 3 1 (.slice ax (acc ++ e :: r.kids.flatMap (pre n rs)).length cx) (acc ++ e :: r.kids.flatMap (pre n rs)).length (ints (acc ++ e :: r.kids.flatMap (pre n rs)))] rfl Try.func59 rfl (Res.tmp rfl (Res.tmp rfl Res.nil)) ?_ | refine G.retK [cb T [ptr (some S), i64 last] 90, Slots S low ps, RecsK ps rs kvs, OwnS 3 1 (.slice ax (acc ++ e :: r.kids.flatMap (pre n rs)).length cx) (acc ++ e :: r.kids.flatMap (pre n rs)).length (ints (acc ++ e :: r.kids.flatMap (pre n rs)))] rfl Try.func59 rfl (Res.tmp rfl (Res.tmp rfl (Res.tmp rfl Res.nil))) ?_ | refine G.retK [cb T [ptr (some S), i64 last] 90, Slots S low ps, RecsK ps rs kvs, OwnS 3 1 (.slice ax (acc ++ e :: r.kids.flatMap (pre n rs)).length cx) (acc ++ e :: r.kids.flatMap (pre n rs)).length (ints (acc ++ e :: r.kids.flatMap (pre n rs)))] rfl Try.func59 rfl (Res.cellA rfl rfl rfl Res.nil) ?_ | refine G.retK [cb T [ptr (some S), i64 last] 90, Slots S low ps, RecsK ps rs kvs, OwnS 3 1 (.slice ax (acc ++ e :: r.kids.flatMap (pre n rs)).length cx) (acc ++ e :: r.kids.flatMap (pre n rs)).length (ints (acc ++ e :: r.kids.flatMap (pre n rs)))] rfl Try.func59 rfl (Res.cellA rfl rfl rfl (Res.tmp rfl Res.nil)) ?_ | refine G.retK [cb T [ptr (some S), i64 last] 90, Slots S low ps, RecsK ps rs kvs, OwnS 3 1 (.slice ax (acc ++ e :: r.kids.flatMap (pre n rs)).length cx) (acc ++ e :: r.kids.flatMap (pre n rs)).length (ints (acc ++ e :: r.kids.flatMap (pre n rs)))] rfl Try.func59 rfl (Res.cell rfl rfl Res.nil) ?_
      exact ⟨ax, cx, rfl, rfl⟩
end Go.Proofs.Ytffcilmllebdmaa
