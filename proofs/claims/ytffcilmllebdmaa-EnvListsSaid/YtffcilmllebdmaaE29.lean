/- listsApart: lists of the call's own are each one by itself. -/
import Derived.Test.YtffcilmllebdmaaE28
import Derived.Test.YtffcilmllebdmaaE20
namespace Go.Proofs.Ytffcilmllebdmaa
open Go.Am
set_option maxHeartbeats 4000000
set_option linter.unusedVariables false
set_option linter.unusedSimpArgs false
attribute [local irreducible] Ok GR G Fun OpRun EVS

section
variable {P : Program} {c : Ctx} {ds : List Nat} {todo : List It} {e : Env} {H R : List HProp} {Q : Post}
/-- One of the lists is taken out. -/
theorem G.llOut (v : Value) (ls : List (List Int)) (i : Nat) (hi : i < ls.length) [h : SelH H (LL v ls) R]
    (k : ∀ (ob cap : Nat) (vs : List Value) (x : Value), v = .slice (some ⟨ob, 0, none⟩) ls.length cap → vs.length = ls.length → vs[i]? = some x → G P c ds todo e (OwnI x ls[i] :: sep ((List.zipWith OwnI vs ls).eraseIdx i) :: OwnS 57 1 (.slice (some ⟨ob, 0, none⟩) ls.length cap) ls.length vs :: R) Q) : G P c ds todo e H Q := by
  refine Am.G.open (LL v ls) rfl ?_
  intro vs hvs
  simp only [List.cons_append, List.nil_append]
  refine Am.G.formS v (by omega) ?_
  rintro ob cap rfl _
  have hlz : (List.zipWith OwnI vs ls).length = ls.length := by simp [hvs]
  have hx : vs[i]? = some (vs[i]'(by omega)) := List.getElem?_eq_getElem (by omega)
  refine Am.G.bagOut (List.zipWith OwnI vs ls) i (by omega) (q := OwnI (vs[i]'(by omega)) ls[i]) (by simp) ?_
  exact (k ob cap vs _ rfl hvs hx).perm (List.Perm.cons _ (.refl _))
/-- And put back, as it is now. -/
theorem G.llIn {ob cap : Nat} {ls : List (List Int)} {vs : List Value} (i : Nat) (hi : i < ls.length) (x : Value) (l : List Int) {R1 R2 R3 : List HProp} (hvs : vs.length = ls.length) [h1 : SelH H (OwnI x l) R1] [h2 : SelH R1 (sep ((List.zipWith OwnI vs ls).eraseIdx i)) R2] [h3 : SelH R2 (OwnS 57 1 (.slice (some ⟨ob, 0, none⟩) ls.length cap) ls.length (vs.set i x)) R3]
    (k : G P c ds todo e (LL (.slice (some ⟨ob, 0, none⟩) ls.length cap) (ls.set i l) :: R3) Q) : G P c ds todo e H Q := by
  have hlz : (List.zipWith OwnI vs ls).length = ls.length := by simp [hvs]
  have hz : (List.zipWith OwnI vs ls).set i (OwnI x l) = List.zipWith OwnI (vs.set i x) (ls.set i l) := by
    apply List.ext_getElem?
    intro j
    rw [List.getElem?_set, List.getElem?_zipWith, List.getElem?_zipWith, List.getElem?_set, List.getElem?_set]
    by_cases hj : i = j
    · subst hj; simp [hvs, hi]
    · simp [hj]
  refine Am.G.bagIn (List.zipWith OwnI vs ls) i (OwnI x l) (by omega) ?_
  rw [hz]
  have hlen : (ls.set i l).length = ls.length := by simp
  refine k.conv fun g w s => ?_
  have s1 : Sat (OwnS 57 1 (.slice (some ⟨ob, 0, none⟩) ls.length cap) ls.length (vs.set i x) :: sep (List.zipWith OwnI (vs.set i x) (ls.set i l)) :: R3) g w := s.perm ((List.Perm.cons _ h3.sel).trans (.swap _ _ _))
  refine Pk.close (p := fun vs' : List Value => vs'.length = (ls.set i l).length) (l := fun vs' => [OwnS 57 1 (.slice (some ⟨ob, 0, none⟩) ls.length cap) (ls.set i l).length vs', sep (List.zipWith OwnI vs' (ls.set i l))]) (vs.set i x) (by simp [hvs]) ?_
  rw [hlen]; exact s1
/-- Put back with other numbers. -/
theorem G.llMod {ob cap : Nat} {ls : List (List Int)} {vs : List Value} (i : Nat) (hi : i < ls.length) (x : Value) (l : List Int) {R1 R2 R3 : List HProp} (hvs : vs.length = ls.length) (hx : vs[i]? = some x) [h1 : SelH H (OwnI x l) R1] [h2 : SelH R1 (sep ((List.zipWith OwnI vs ls).eraseIdx i)) R2] [h3 : SelH R2 (OwnS 57 1 (.slice (some ⟨ob, 0, none⟩) ls.length cap) ls.length vs) R3]
    (k : G P c ds todo e (LL (.slice (some ⟨ob, 0, none⟩) ls.length cap) (ls.set i l) :: R3) Q) : G P c ds todo e H Q := by
  have e1 : vs.set i x = vs := list_set_same hx
  have h3' : SelH R2 (OwnS 57 1 (.slice (some ⟨ob, 0, none⟩) ls.length cap) ls.length (vs.set i x)) R3 := by rw [e1]; exact h3
  exact G.llIn (ob := ob) (cap := cap) (vs := vs) i hi x l hvs (h3 := h3') k
/-- Put back as it was. -/
theorem G.llBack {ob cap : Nat} {ls : List (List Int)} {vs : List Value} (i : Nat) (hi : i < ls.length) (x : Value) (l : List Int) (hl : l = ls[i]) {R1 R2 R3 : List HProp} (hvs : vs.length = ls.length) (hx : vs[i]? = some x) [h1 : SelH H (OwnI x l) R1] [h2 : SelH R1 (sep ((List.zipWith OwnI vs ls).eraseIdx i)) R2] [h3 : SelH R2 (OwnS 57 1 (.slice (some ⟨ob, 0, none⟩) ls.length cap) ls.length vs) R3]
    (k : G P c ds todo e (LL (.slice (some ⟨ob, 0, none⟩) ls.length cap) ls :: R3) Q) : G P c ds todo e H Q := by
  subst hl
  have e2 : ls.set i ls[i] = ls := list_set_same (List.getElem?_eq_getElem hi)
  refine G.llMod (ob := ob) (cap := cap) (vs := vs) i hi x ls[i] hvs hx ?_
  rw [e2]; exact k
/-- A block that was made is a slice of the call's own. -/
theorem G.mkS (b : Nat) (n len : Nat) {cs : List Value} {T : TypeId} [h : DelC H b cs T R] (hl : cs.length = len * n) (k : G P c ds todo e (OwnS T n (.slice (some ⟨b, 0, none⟩) len len) len cs :: R) Q) : G P c ds todo e H Q :=
  k.conv fun _ _ s => OwnS.close (sp := []) (Nat.le_refl _) hl (by simpa using hl) (by simpa using s.perm h.del)
/-- What a slice holds, said otherwise. -/
theorem G.isS (v : Value) (len' : Nat) (cs' : List Value) {el : TypeId} {n len : Nat} {cs : List Value} [h : DelS H v el n len cs R] (h1 : len = len') (h2 : cs = cs') (k : G P c ds todo e (OwnS el n v len' cs' :: R) Q) : G P c ds todo e H Q := by
  subst h1 h2
  exact k.conv fun _ _ s => s.perm h.del
/-- A list of lists has its form. -/
theorem G.llForm (v : Value) (ls : List (List Int)) [h : SelH H (LL v ls) R] (k : ∀ a cap, v = .slice a ls.length cap → G P c ds todo e H Q) : G P c ds todo e H Q := by
  refine Am.G.open (LL v ls) rfl ?_
  intro vs hvs
  simp only [List.cons_append, List.nil_append]
  refine Am.G.form v ?_
  intro a cap hv
  refine Am.G.close (LL v ls) rfl vs hvs rfl ?_
  exact (k a cap hv).perm h.sel.symm
end

def marks (i : Nat) : Int := -1000 - (i : Int)
def tails (i : Nat) : Int := -9000 - (i : Int)

/-- The lists when the first i are full of marks, and k of the next. -/
def st1 (ls : List (List Int)) (i k : Nat) : List (List Int) := ls.mapIdx fun j l => if j < i then List.replicate l.length (marks j) else if j = i then List.replicate k (marks j) ++ l.drop k else l
/-- The lists when much was laid behind the first i, and k behind the next. -/
def st2 (ls : List (List Int)) (i k : Nat) : List (List Int) := ls.mapIdx fun j l => List.replicate l.length (marks j) ++ List.replicate (if j < i then 64 else if j = i then k else 0) (tails j)

theorem st1_len (ls : List (List Int)) (i k : Nat) : (st1 ls i k).length = ls.length := by simp [st1]
theorem st2_len (ls : List (List Int)) (i k : Nat) : (st2 ls i k).length = ls.length := by simp [st2]
theorem st1_0 (ls : List (List Int)) : st1 ls 0 0 = ls := by
  apply List.ext_getElem
  · simp [st1]
  · intro j h1 h2
    simp only [st1, List.getElem_mapIdx]
    by_cases hj : j = 0 <;> simp [hj]
theorem st1_next (ls : List (List Int)) (i : Nat) (hi : i < ls.length) : st1 ls i ls[i].length = st1 ls (i + 1) 0 := by
  apply List.ext_getElem
  · simp [st1]
  · intro j h1 h2
    simp only [st1, List.getElem_mapIdx]
    by_cases h3 : j < i
    · rw [if_pos h3, if_pos (by omega)]
    · rw [if_neg h3]
      by_cases h4 : j = i
      · subst h4; rw [if_pos rfl, if_pos (by omega)]; simp
      · rw [if_neg h4, if_neg (by omega)]
        by_cases h5 : j = i + 1
        · rw [if_pos h5]; simp
        · rw [if_neg h5]
theorem st1_end (ls : List (List Int)) : st1 ls ls.length 0 = st2 ls 0 0 := by
  apply List.ext_getElem
  · simp [st1, st2]
  · intro j h1 h2
    simp only [st1, List.length_mapIdx] at h1
    simp only [st1, st2, List.getElem_mapIdx]
    rw [if_pos h1, if_neg (by omega)]
    split <;> simp
theorem st2_next (ls : List (List Int)) (i : Nat) : st2 ls i 64 = st2 ls (i + 1) 0 := by
  apply List.ext_getElem
  · simp [st2]
  · intro j h1 h2
    simp only [st2, List.getElem_mapIdx]
    congr 2
    by_cases h3 : j < i
    · rw [if_pos h3, if_pos (by omega)]
    · rw [if_neg h3]
      by_cases h4 : j = i
      · rw [if_pos h4, if_pos (by omega)]
      · rw [if_neg h4, if_neg (by omega)]; split <;> rfl
theorem st1_get (ls : List (List Int)) (i k : Nat) (hi : i < ls.length) : (st1 ls i k)[i]'(by rw [st1_len]; exact hi) = List.replicate k (marks i) ++ ls[i].drop k := by simp [st1]
theorem st1_set (ls : List (List Int)) (i k : Nat) (hi : i < ls.length) (hk : k < ls[i].length) : (st1 ls i k).set i (((st1 ls i k)[i]'(by rw [st1_len]; exact hi)).set k (marks i)) = st1 ls i (k + 1) := by
  rw [st1_get ls i k hi]
  apply List.ext_getElem
  · simp [st1]
  · intro j h1 h2
    rw [List.getElem_set]
    by_cases h3 : i = j
    · subst h3
      rw [if_pos rfl, st1_get ls i (k + 1) hi]
      rw [List.set_append, if_neg (by simp)]
      simp only [List.length_replicate, Nat.sub_self]
      rw [List.drop_eq_getElem_cons hk, List.set_cons_zero, List.replicate_succ']
      simp
    · rw [if_neg h3]
      simp only [st1, List.getElem_mapIdx]
      by_cases h4 : j < i
      · rw [if_pos h4, if_pos h4]
      · rw [if_neg h4, if_neg h4, if_neg (by omega), if_neg (by omega)]
theorem st1_at (ls : List (List Int)) (i k : Nat) (hi : i < ls.length) (hk : k ≤ ls[i].length) : ((st1 ls i k)[i]'(by rw [st1_len]; exact hi)).length = ls[i].length := by
  rw [st1_get ls i k hi]; simp; omega
theorem st2_at (ls : List (List Int)) (i k : Nat) (hi : i < ls.length) : (st2 ls i k)[i]'(by rw [st2_len]; exact hi) = List.replicate ls[i].length (marks i) ++ List.replicate k (tails i) := by simp [st2]
theorem st2_set (ls : List (List Int)) (i k : Nat) (hi : i < ls.length) : (st2 ls i k).set i (List.replicate ls[i].length (marks i) ++ List.replicate k (tails i) ++ [tails i]) = st2 ls i (k + 1) := by
  apply List.ext_getElem
  · simp [st2]
  · intro j h1 h2
    rw [List.getElem_set]
    by_cases h3 : i = j
    · subst h3
      rw [if_pos rfl, st2_at ls i (k + 1) hi, List.replicate_succ', List.append_assoc]
    · rw [if_neg h3]
      simp only [st2, List.getElem_mapIdx]
      rw [if_neg (show ¬ j = i by omega), if_neg (show ¬ j = i by omega)]
theorem st2_fin (ls : List (List Int)) (i : Nat) (hi : i < ls.length) : (st2 ls ls.length 0)[i]'(by rw [st2_len]; exact hi) = List.replicate ls[i].length (marks i) ++ List.replicate 64 (tails i) := by
  simp only [st2, List.getElem_mapIdx]
  rw [if_pos hi]
end Go.Proofs.Ytffcilmllebdmaa
