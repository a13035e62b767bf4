/- What fits is taken: Create and Destroy, Pay and Refund. -/
import Derived.Test.YtffcilmllebdmaaM7
import Derived.Test.YtffcilmllebdmaaE22
namespace Go.Proofs.Ytffcilmllebdmaa
open Go.Am
set_option linter.unusedVariables false
set_option linter.unusedSimpArgs false

section
variable {rs : List (Option Rec)} {last : Int}

/-- An environment is made and ended: its parent's book is as it was. -/
theorem made_ended (t : TreeOk rs last) {e serial : Int} {q : Qt} {p : Rec} {n : Nat} (hp : getr rs e = some p) (hq : qgood q) (hs : last < serial) (hl : qle (qone q) (qleft p)) (hf : freeOf rs = some n) :
    ∃ p2 : Rec, (destroyF ((rs.set n (some (newRec serial e q))).set e.toNat (some { p with carved := qadd p.carved (qone q), kids := p.kids ++ [(n : Int)] })) n).1.2 = 0 ∧
      getr (destroyF ((rs.set n (some (newRec serial e q))).set e.toNat (some { p with carved := qadd p.carved (qone q), kids := p.kids ++ [(n : Int)] })) n).2 e = some p2 ∧ p2.whole = p.whole ∧ p2.paid = p.paid ∧ p2.carved = p.carved := by
  have t1 := t.create hp hq hs hl hf
  obtain ⟨hn, hfree⟩ := freeOf_some hf
  have hne : (n : Int) ≠ e := by rintro h; rw [h, hp] at hfree; cases hfree
  have hel := getr_lt hp
  have hg : ∀ k, getr ((rs.set n (some (newRec serial e q))).set e.toNat (some { p with carved := qadd p.carved (qone q), kids := p.kids ++ [(n : Int)] })) k =
      if k = e then some { p with carved := qadd p.carved (qone q), kids := p.kids ++ [(n : Int)] } else if k = n then some (newRec serial e q) else getr rs k := by
    intro k
    have h1 := getr_set (rs := rs.set n (some (newRec serial e q))) hel.1 (by simpa using hel.2) (some { p with carved := qadd p.carved (qone q), kids := p.kids ++ [(n : Int)] }) k
    have h2 := getr_set (rs := rs) (e := (n : Int)) (by omega) (by omega) (some (newRec serial e q)) k
    rw [Int.toNat_natCast] at h2
    rw [h1, h2]
  generalize (rs.set n (some (newRec serial e q))).set e.toNat (some { p with carved := qadd p.carved (qone q), kids := p.kids ++ [(n : Int)] }) = rs1 at t1 hg ⊢
  have g1 : getr rs1 n = some (newRec serial e q) := by rw [hg, if_neg hne, if_pos rfl]
  have g2 : getr rs1 e = some { p with carved := qadd p.carved (qone q), kids := p.kids ++ [(n : Int)] } := by rw [hg, if_pos rfl]
  have hn0 : (n : Int) ≠ 0 := by
    obtain ⟨r0, hr0, _⟩ := t.root
    rintro h; rw [h, hr0] at hfree; cases hfree
  have g3 : getr rs1 (newRec serial e q).parent = some { p with carved := qadd p.carved (qone q), kids := p.kids ++ [(n : Int)] } := g2
  have hd := getr_destroy t1 g1 hn0 g3 e
  have ho := parent_out t1 g1 hn0 g3
  have ho' : e ∉ pre 16 rs1 n := ho
  rw [if_neg ho', if_pos (show e = (newRec serial e q).parent from rfl)] at hd
  unfold destroyF
  rw [g1]
  dsimp only
  rw [if_neg hn0, g3]
  dsimp only
  refine ⟨_, rfl, hd, rfl, rfl, ?_⟩
  simp only [qsub, qadd, newRec]
  cases hc : p.carved
  simp

theorem live_alike {ps : List (Option Nat)} (h : Alike ps rs) (hl : rs.length = 16) : (liveTo ps 16).length = 16 ↔ freeOf rs = none := by
  have hg : ∀ j : Nat, (hj : j < 16) → (getp ps j).isSome = (rs[j]'(by omega)).isSome := by
    intro j hj
    rw [h.getp j]
    simp [getr, List.getElem?_eq_getElem (show j < rs.length by omega)]
  unfold liveTo freeOf
  rw [List.length_map, List.findIdx?_eq_none_iff]
  constructor
  · intro h1 x hx
    obtain ⟨j, hj, rfl⟩ := List.mem_iff_getElem.1 hx
    have h2 : (List.range 16).filter (fun j : Nat => (getp ps j).isSome) = List.range 16 := List.Sublist.eq_of_length List.filter_sublist (by simpa using h1)
    have h3 : j ∈ (List.range 16).filter (fun j : Nat => (getp ps j).isSome) := by rw [h2]; simp; omega
    have h4 := (List.mem_filter.1 h3).2
    rw [hg j (by omega)] at h4
    cases hx2 : rs[j] <;> simp_all
  · intro h1
    have h2 : (List.range 16).filter (fun j : Nat => (getp ps j).isSome) = List.range 16 := by
      rw [List.filter_eq_self]
      intro j hj
      have hj : j < 16 := by simpa using hj
      rw [hg j hj]
      have := h1 rs[j] (List.getElem_mem _)
      cases hx2 : rs[j] <;> simp_all
    rw [h2]; simp

/-- What Create with the greatest serial comes to where q fits. -/
theorem create_max (t : TreeOk rs last) {e : Int} {q : Qt} {r : Rec} (hr : getr rs e = some r) (hq : qgood q) (hl : qle q (qleft r)) :
    ∃ (rs2 : List (Option Rec)) (last2 : Int) (r2 : Rec), TreeOk rs2 last2 ∧ getr rs2 e = some r2 ∧ r2.whole = r.whole ∧ r2.paid = r.paid ∧ r2.carved = r.carved ∧
      ((MaxSer ≤ last ∧ createF rs last e MaxSer q = ((-1, 1), last, rs) ∧ rs2 = rs ∧ last2 = last) ∨
       (last < MaxSer ∧ (q.e = (qleft r).e ∨ freeOf rs = none) ∧ createF rs last e MaxSer q = ((-1, 2), last, rs) ∧ rs2 = rs ∧ last2 = last) ∨
       (last < MaxSer ∧ q.e ≠ (qleft r).e ∧ freeOf rs ≠ none ∧ ∃ (n : Nat) (rs1 : List (Option Rec)), createF rs last e MaxSer q = (((n : Int), 0), MaxSer, rs1) ∧ TreeOk rs1 MaxSer ∧ (destroyF rs1 n).1.2 = 0 ∧ (destroyF rs1 n).2 = rs2 ∧ last2 = MaxSer)) := by
  by_cases h1 : MaxSer ≤ last
  · refine ⟨rs, last, r, t, hr, rfl, rfl, rfl, .inl ⟨h1, ?_, rfl, rfl⟩⟩
    simp only [createF, hr]
    rw [if_pos (.inr (.inl h1))]
  have h1 : last < MaxSer := by omega
  have hc : ¬ (¬ qgood q ∨ MaxSer ≤ last ∨ MaxSer < MaxSer) := by rintro (h | h | h) <;> first | exact h hq | omega
  by_cases h2 : q.e = (qleft r).e
  · refine ⟨rs, last, r, t, hr, rfl, rfl, rfl, .inr (.inl ⟨h1, .inl h2, ?_, rfl, rfl⟩)⟩
    simp only [createF, hr]
    rw [if_neg hc, if_pos (by unfold qle qone; dsimp only; omega)]
  have h3 : qle (qone q) (qleft r) := by unfold qle qone at *; dsimp only; omega
  cases hf : freeOf rs with
  | none =>
    refine ⟨rs, last, r, t, hr, rfl, rfl, rfl, .inr (.inl ⟨h1, .inr rfl, ?_, rfl, rfl⟩)⟩
    simp only [createF, hr]
    rw [if_neg hc, if_neg (not_not_intro h3), hf]
  | some n =>
    obtain ⟨p2, g1, g2, g3, g4, g5⟩ := made_ended t hr hq h1 h3 hf
    have t1 := t.create hr hq h1 h3 hf
    refine ⟨_, MaxSer, p2, t1.destroyF n, g2, g3, g4, g5, .inr (.inr ⟨h1, h2, by simp, n, _, ?_, t1, g1, rfl, rfl⟩)⟩
    simp only [createF, hr]
    rw [if_neg hc, if_neg (not_not_intro h3), hf]
end
end Go.Proofs.Ytffcilmllebdmaa
