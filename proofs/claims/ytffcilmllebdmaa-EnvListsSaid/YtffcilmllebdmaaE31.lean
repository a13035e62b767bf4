/- The law EnvLists: what is asked. -/
import Derived.Test.YtffcilmllebdmaaE30
import Derived.Test.YtffcilmllebdmaaE21
namespace Go.Proofs.Ytffcilmllebdmaa
open Go.Am
set_option maxHeartbeats 4000000
set_option linter.unusedVariables false
set_option linter.unusedSimpArgs false
attribute [local irreducible] Ok GR G Fun OpRun EVS

def liveF (rs : List (Option Rec)) : List Int := ((List.range 16).filter fun j : Nat => (getr rs j).isSome).map fun j : Nat => (j : Int)
theorem liveF_eq {ps : List (Option Nat)} {rs : List (Option Rec)} (h : Alike ps rs) : liveTo ps 16 = liveF rs := by
  unfold liveTo liveF
  congr 2
  funext j
  exact h.getp j

theorem perm_two {ps : List HProp} {i j : Nat} (hij : i < j) (hj : j < ps.length) : ∃ rest, ps.Perm (ps[i] :: ps[j] :: rest) := by
  have h1 := perm_eraseIdx (ps := ps) (j := i) (by omega)
  have hl : j - 1 < (ps.eraseIdx i).length := by rw [List.length_eraseIdx]; split <;> omega
  have h2 := perm_eraseIdx (ps := ps.eraseIdx i) (j := j - 1) hl
  refine ⟨(ps.eraseIdx i).eraseIdx (j - 1), h1.trans (List.Perm.cons _ ?_)⟩
  have h3 : (ps.eraseIdx i)[j - 1] = ps[j] := by
    rw [List.getElem_eraseIdx]
    rw [dif_neg (by omega)]
    congr 1; omega
  rw [h3] at h2; exact h2

section
variable {P : Program} {c : Ctx} {ds : List Nat} {todo : List It} {e : Env} {H R : List HProp} {Q : Post}
/-- Two of the lists are taken out. -/
theorem G.llTwo (v : Value) (ls : List (List Int)) (i j : Nat) (hij : i < j) (hj : j < ls.length) [h : SelH H (LL v ls) R]
    (k : ∀ (ob cap : Nat) (vs : List Value) (x y : Value) (rest : List HProp), v = .slice (some ⟨ob, 0, none⟩) ls.length cap → vs.length = ls.length → vs[i]? = some x → vs[j]? = some y → (List.zipWith OwnI vs ls).Perm (OwnI x (ls[i]'(by omega)) :: OwnI y ls[j] :: rest) →
      G P c ds todo e (OwnI x (ls[i]'(by omega)) :: OwnI y ls[j] :: sep rest :: OwnS 57 1 (.slice (some ⟨ob, 0, none⟩) ls.length cap) ls.length vs :: R) Q) : G P c ds todo e H Q := by
  refine Am.G.open (LL v ls) rfl ?_
  intro vs hvs
  simp only [List.cons_append, List.nil_append]
  refine Am.G.formS v (by omega) ?_
  rintro ob cap rfl _
  have hlz : (List.zipWith OwnI vs ls).length = ls.length := by simp [hvs]
  obtain ⟨rest, hp⟩ := perm_two (ps := List.zipWith OwnI vs ls) hij (by omega)
  simp only [List.getElem_zipWith] at hp
  refine (k ob cap vs (vs[i]'(by omega)) (vs[j]'(by omega)) rest rfl hvs (List.getElem?_eq_getElem (by omega)) (List.getElem?_eq_getElem (by omega)) hp).conv fun g w s => ?_
  have s1 : Sat (List.zipWith OwnI vs ls ++ (OwnS 57 1 (.slice (some ⟨ob, 0, none⟩) ls.length cap) ls.length vs :: R)) g w := Sat.sep.1 (s.perm (.swap _ _ _))
  have s2 := s1.perm (hp.append_right _)
  have s3 : Sat (rest ++ (OwnI (vs[i]'(by omega)) (ls[i]'(by omega)) :: OwnI (vs[j]'(by omega)) ls[j] :: OwnS 57 1 (.slice (some ⟨ob, 0, none⟩) ls.length cap) ls.length vs :: R)) g w := s2.perm (by
    refine List.Perm.trans ?_ (List.perm_middle (l₁ := rest)).symm
    exact List.Perm.cons _ (List.perm_middle (l₁ := rest)).symm)
  exact (Sat.sep.2 s3).perm ((List.Perm.swap _ _ _).trans (List.Perm.cons _ (.swap _ _ _)))
/-- And put back. -/
theorem G.llTwoBack {ob cap : Nat} {ls : List (List Int)} {vs : List Value} (x y : Value) (l m : List Int) (rest : List HProp) {R1 R2 R3 R4 : List HProp} (hvs : vs.length = ls.length) (hp : (List.zipWith OwnI vs ls).Perm (OwnI x l :: OwnI y m :: rest))
    [h1 : SelH H (OwnI x l) R1] [h2 : SelH R1 (OwnI y m) R2] [h3 : SelH R2 (sep rest) R3] [h4 : SelH R3 (OwnS 57 1 (.slice (some ⟨ob, 0, none⟩) ls.length cap) ls.length vs) R4]
    (k : G P c ds todo e (LL (.slice (some ⟨ob, 0, none⟩) ls.length cap) ls :: R4) Q) : G P c ds todo e H Q := by
  refine k.conv fun g w s => ?_
  have s1 : Sat (OwnI x l :: OwnI y m :: sep rest :: OwnS 57 1 (.slice (some ⟨ob, 0, none⟩) ls.length cap) ls.length vs :: R4) g w :=
    s.perm (h1.sel.trans (List.Perm.cons _ (h2.sel.trans (List.Perm.cons _ (h3.sel.trans (List.Perm.cons _ h4.sel))))))
  have s2 : Sat (rest ++ (OwnI x l :: OwnI y m :: OwnS 57 1 (.slice (some ⟨ob, 0, none⟩) ls.length cap) ls.length vs :: R4)) g w := Sat.sep.1 (s1.perm ((List.Perm.cons _ (.swap _ _ _)).trans (.swap _ _ _)))
  have s3 : Sat ((OwnI x l :: OwnI y m :: rest) ++ (OwnS 57 1 (.slice (some ⟨ob, 0, none⟩) ls.length cap) ls.length vs :: R4)) g w := s2.perm (by
    refine (List.perm_middle (l₁ := rest)).trans ?_
    exact List.Perm.cons _ (List.perm_middle (l₁ := rest)))
  have s4 : Sat (List.zipWith OwnI vs ls ++ (OwnS 57 1 (.slice (some ⟨ob, 0, none⟩) ls.length cap) ls.length vs :: R4)) g w := s3.perm (hp.symm.append_right _)
  exact Pk.close (p := fun vs' : List Value => vs'.length = ls.length) (l := fun vs' => [OwnS 57 1 (.slice (some ⟨ob, 0, none⟩) ls.length cap) ls.length vs', sep (List.zipWith OwnI vs' ls)]) vs hvs ((Sat.sep.2 s4).perm (.swap _ _ _))

/-- One list more behind the others. -/
theorem G.llSnoc (v x v' : Value) (ls : List (List Int)) (l : List Int) (vs : List Value) {R1 R2 R3 : List HProp} (hvs : vs.length = ls.length) [h1 : SelH H (OwnI x l) R1] [h2 : SelH R1 (sep (List.zipWith OwnI vs ls)) R2] [h3 : SelH R2 (OwnS 57 1 v' (ls.length + 1) (vs ++ [x])) R3]
    (k : G P c ds todo e (LL v' (ls ++ [l]) :: R3) Q) : G P c ds todo e H Q := by
  refine Am.G.bagSnoc (List.zipWith OwnI vs ls) (OwnI x l) (R2 := R2) ?_
  have e1 : List.zipWith OwnI vs ls ++ [OwnI x l] = List.zipWith OwnI (vs ++ [x]) (ls ++ [l]) := by rw [List.zipWith_append hvs]; rfl
  rw [e1]
  refine k.conv fun g w s => ?_
  have s1 : Sat (OwnS 57 1 v' (ls.length + 1) (vs ++ [x]) :: sep (List.zipWith OwnI (vs ++ [x]) (ls ++ [l])) :: R3) g w := s.perm ((List.Perm.cons _ h3.sel).trans (.swap _ _ _))
  exact Pk.close (p := fun vs' : List Value => vs'.length = (ls ++ [l]).length) (l := fun vs' => [OwnS 57 1 v' (ls ++ [l]).length vs', sep (List.zipWith OwnI vs' (ls ++ [l]))]) (vs ++ [x]) (by simp [hvs]) (by simpa using s1)

/-- No lists. -/
theorem G.ll0 (k : G P c ds todo e (LL (.slice none 0 0) [] :: H) Q) : G P c ds todo e H Q := by
  refine Am.G.bag0 ?_
  refine Am.G.conv (H' := OwnS 57 1 (.slice none 0 0) 0 [] :: sep [] :: H) (fun g w s => OwnS.nil 57 1 s) ?_
  exact Am.G.close (LL (.slice none 0 0) []) rfl [] rfl (L := [OwnS 57 1 (.slice none 0 0) 0 [], sep []]) rfl k
end

/-- What is asked each time. -/
def askF (rs : List (Option Rec)) (kids : List Int) (k : Nat) : List (List Int) := [treeF rs 0, kidsF rs 0] ++ (kids.take k).flatMap fun x => [treeF rs x, kidsF rs x]
def allF (rs : List (Option Rec)) (kids : List Int) : List (List Int) := askF rs kids (min 3 kids.length) ++ [liveF rs]
theorem askF_len (rs : List (Option Rec)) (kids : List Int) (k : Nat) (hk : k ≤ kids.length) : (askF rs kids k).length = 2 + 2 * k := by
  unfold askF
  have : ∀ l : List Int, (l.flatMap fun x => [treeF rs x, kidsF rs x]).length = 2 * l.length := by
    intro l
    induction l with
    | nil => rfl
    | cons a l ih => rw [List.flatMap_cons, List.length_append, ih]; simp; omega
  rw [List.length_append, this]
  simp; omega
theorem askF_next (rs : List (Option Rec)) (kids : List Int) (k : Nat) (hk : k < kids.length) : askF rs kids (k + 1) = askF rs kids k ++ [treeF rs kids[k], kidsF rs kids[k]] := by
  unfold askF
  rw [List.take_succ_eq_append_getElem hk, List.flatMap_append, List.append_assoc]; simp
end Go.Proofs.Ytffcilmllebdmaa
