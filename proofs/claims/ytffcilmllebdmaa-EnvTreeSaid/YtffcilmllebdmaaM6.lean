/- Destroy keeps the tree. -/
import Derived.Test.YtffcilmllebdmaaM5
namespace Go.Proofs.Ytffcilmllebdmaa
open Go.Am
set_option linter.unusedVariables false
set_option linter.unusedSimpArgs false

theorem dropAll_length : ∀ (l : List Int) (x : List (Option Rec)), (dropAll x l).length = x.length
  | [], x => rfl
  | a :: l, x => by
    have := dropAll_length l (x.set a.toNat none)
    simp only [List.length_set] at this; exact this

theorem getr_dropAll : ∀ (l : List Int) (rs : List (Option Rec)), (∀ k ∈ l, 0 ≤ k ∧ k < rs.length) → ∀ k, getr (dropAll rs l) k = if k ∈ l then none else getr rs k
  | [], rs, _, k => by simp [dropAll]
  | a :: l, rs, h, k => by
    have ha := h a (List.mem_cons_self ..)
    have ih := getr_dropAll l (rs.set a.toNat none) (fun x hx => by have := h x (List.mem_cons_of_mem _ hx); simpa using this) k
    have e1 : dropAll rs (a :: l) = dropAll (rs.set a.toNat none) l := rfl
    rw [e1, ih, getr_set ha.1 ha.2]
    by_cases h1 : k ∈ l
    · simp [h1]
    · by_cases h2 : k = a
      · simp [h2]
      · simp [h1, h2]

section
variable {rs : List (Option Rec)} {last : Int}

theorem mem_pre (t : TreeOk rs last) {e : Int} {r : Rec} (hr : getr rs e = some r) (k : Int) : k ∈ pre 16 rs e ↔ Anc rs e k :=
  ⟨pre_anc t 16 e k, anc_pre t 16 e k (t.deep16 hr)⟩

/-- The records behind a Destroy. -/
theorem getr_destroy (t : TreeOk rs last) {e : Int} {r p : Rec} (hr : getr rs e = some r) (h0 : e ≠ 0) (hp : getr rs r.parent = some p) (k : Int) :
    getr (dropAll (rs.set r.parent.toNat (some { p with carved := qsub p.carved (qone r.whole), kids := p.kids.filter (· ≠ e) })) (pre 16 rs e)) k =
      if k ∈ pre 16 rs e then none else if k = r.parent then some { p with carved := qsub p.carved (qone r.whole), kids := p.kids.filter (· ≠ e) } else getr rs k := by
  have hpl := getr_lt hp
  rw [getr_dropAll, getr_set hpl.1 hpl.2]
  intro x hx
  obtain ⟨s, hs⟩ := Option.isSome_iff_exists.1 (t.preLive hr x hx)
  have := getr_lt hs
  simpa using this

theorem parent_out (t : TreeOk rs last) {e : Int} {r p : Rec} (hr : getr rs e = some r) (h0 : e ≠ 0) (hp : getr rs r.parent = some p) : r.parent ∉ pre 16 rs e := by
  intro h
  obtain ⟨p', hp', hm, _⟩ := t.up e r hr h0
  rw [hp] at hp'; cases hp'
  exact not_above t hp hm ((mem_pre t hr _).1 h)

theorem TreeOk.destroy (t : TreeOk rs last) {e : Int} {r p : Rec} (hr : getr rs e = some r) (h0 : e ≠ 0) (hp : getr rs r.parent = some p) :
    TreeOk (dropAll (rs.set r.parent.toNat (some { p with carved := qsub p.carved (qone r.whole), kids := p.kids.filter (· ≠ e) })) (pre 16 rs e)) last := by
  have hg := getr_destroy t hr h0 hp
  have hlen : (dropAll (rs.set r.parent.toNat (some { p with carved := qsub p.carved (qone r.whole), kids := p.kids.filter (· ≠ e) })) (pre 16 rs e)).length = 16 := by
    rw [dropAll_length]; simpa using t.len
  generalize dropAll (rs.set r.parent.toNat (some { p with carved := qsub p.carved (qone r.whole), kids := p.kids.filter (· ≠ e) })) (pre 16 rs e) = rs' at hg hlen ⊢
  have hL : ∀ k, k ∈ pre 16 rs e ↔ Anc rs e k := mem_pre t hr
  have hpo := parent_out t hr h0 hp
  simp only [hL] at hpo
  have hgn : ∀ k, Anc rs e k → getr rs' k = none := fun k h => by rw [hg, if_pos ((hL k).2 h)]
  have hg : ∀ k, ¬ Anc rs e k → getr rs' k = if k = r.parent then some { p with carved := qsub p.carved (qone r.whole), kids := p.kids.filter (· ≠ e) } else getr rs k := fun k h => by
    rw [hg, if_neg fun h' => h ((hL k).1 h')]
  -- what stands here stood there
  have hb : ∀ k s', getr rs' k = some s' → ¬ Anc rs e k ∧ ∃ s, getr rs k = some s ∧ s'.serial = s.serial ∧ s'.parent = s.parent ∧ s'.whole = s.whole ∧ (∀ j, j ∈ s'.kids ↔ j ∈ s.kids ∧ j ≠ e) ∧ s'.kids.Sublist s.kids ∧
      ((k = r.parent ∧ s' = { p with carved := qsub p.carved (qone r.whole), kids := p.kids.filter (· ≠ e) }) ∨ (k ≠ r.parent ∧ s' = s)) := by
    intro k s' h
    by_cases hna : Anc rs e k
    · rw [hgn k hna] at h; cases h
    · rw [hg k hna] at h
      refine ⟨hna, ?_⟩
      split at h
      · rename_i hkp
        cases h
        exact ⟨p, by rw [hkp]; exact hp, rfl, rfl, rfl, fun j => by simp, List.filter_sublist, .inl ⟨hkp, rfl⟩⟩
      · rename_i hkp
        refine ⟨s', h, rfl, rfl, rfl, fun j => ⟨fun hj => ⟨hj, ?_⟩, fun hj => hj.1⟩, List.Sublist.refl _, .inr ⟨hkp, rfl⟩⟩
        rintro rfl
        obtain ⟨s2, hs2, hp2, _⟩ := t.kid k s' j h hj
        rw [hr] at hs2; cases hs2
        exact hkp hp2.symm
  have hf : ∀ k s, getr rs k = some s → ¬ Anc rs e k → ∃ s', getr rs' k = some s' ∧ s'.serial = s.serial ∧ s'.parent = s.parent ∧ s'.whole = s.whole ∧ (∀ j, j ∈ s.kids → j ≠ e → j ∈ s'.kids) := by
    intro k s h hna
    rw [hg k hna]
    by_cases hkp : k = r.parent
    · rw [if_pos hkp]
      rw [hkp, hp] at h; cases h
      exact ⟨_, rfl, rfl, rfl, rfl, fun j h1 h2 => by simp [h1, h2]⟩
    · rw [if_neg hkp]
      exact ⟨s, h, rfl, rfl, rfl, fun j h1 _ => h1⟩
  -- a child that stays does not lie below e
  have hkid : ∀ k s j, getr rs k = some s → ¬ Anc rs e k → j ∈ s.kids → j ≠ e → ¬ Anc rs e j := by
    intro k s j hk hna hj hje ha
    obtain ⟨s2, hs2, hp2, _⟩ := t.kid k s j hk hj
    cases ha with
    | refl => exact hje rfl
    | step hg' hx ht =>
      rw [hs2] at hg'; cases hg'
      rw [hp2] at ht; exact hna ht
  have hser : ∀ k, ¬ Anc rs e k → serOf rs' k = serOf rs k := by
    intro k hk
    unfold serOf
    rw [hg k hk]
    split
    · rename_i h1; rw [h1, hp]; rfl
    · rfl
  have hwh : ∀ k, ¬ Anc rs e k → wholeOf rs' k = wholeOf rs k := by
    intro k hk
    unfold wholeOf
    rw [hg k hk]
    split
    · rename_i h1; rw [h1, hp]; rfl
    · rfl
  constructor
  · exact hlen
  · obtain ⟨r0, h1, h2⟩ := t.root
    have hn0 : ¬ Anc rs e 0 := by
      intro h
      cases h with
      | refl => exact h0 rfl
      | step _ hx _ => exact hx rfl
    obtain ⟨s', a, _, b, _⟩ := hf 0 r0 h1 hn0
    exact ⟨s', a, by rw [b]; exact h2⟩
  · intro k s' h
    obtain ⟨_, s, a, b, _⟩ := hb k s' h
    rw [b]; exact t.ser k s a
  · intro k s' h
    obtain ⟨_, s, a, b, c, d, _, _, h1 | h1⟩ := hb k s' h
    · rw [h1.2]
      have h3 := t.carvedLe hr h0 hp
      obtain ⟨g1, g2, g3, g4⟩ := t.ok _ p hp
      obtain ⟨g5, _⟩ := t.ok _ r hr
      unfold RecOk
      unfold qgood qle qone qsub qadd at *; dsimp only at *; omega
    · rw [h1.2]; exact t.ok k s a
  · intro k s' h hk0
    obtain ⟨hna, s, a, b, c, d, _, _⟩ := hb k s' h
    obtain ⟨q, h1, h2, h3⟩ := t.up k s a hk0
    have hke : k ≠ e := by rintro rfl; exact hna .refl
    have hpa : ¬ Anc rs e s.parent := fun h => hna (.step a hk0 h)
    obtain ⟨q', i1, i2, i3, i4, i5⟩ := hf s.parent q h1 hpa
    exact ⟨q', by rw [c]; exact i1, i5 k h2 hke, by rw [i2, b]; exact h3⟩
  · intro k s' j h hj
    obtain ⟨hna, s, a, b, c, d, f, _⟩ := hb k s' h
    obtain ⟨hj1, hj2⟩ := (f j).1 hj
    obtain ⟨q, h1, h2, h3⟩ := t.kid k s j a hj1
    obtain ⟨q', i1, i2, i3, _⟩ := hf j q h1 (hkid k s j a hna hj1 hj2)
    exact ⟨q', i1, by rw [i3]; exact h2, h3⟩
  · intro k s' h
    obtain ⟨hna, s, a, b, c, d, f, sub, _⟩ := hb k s' h
    exact (t.nd k s a).sublist sub
  · intro k s' h
    obtain ⟨hna, s, a, b, c, d, f, sub, _⟩ := hb k s' h
    refine List.Pairwise.imp_of_mem ?_ ((t.sorted k s a).sublist sub)
    intro x y hx hy hxy
    obtain ⟨x1, x2⟩ := (f x).1 hx
    obtain ⟨y1, y2⟩ := (f y).1 hy
    rw [hser x (hkid k s x a hna x1 x2), hser y (hkid k s y a hna y1 y2)]; exact hxy
  · intro k k' s q h h' hq
    obtain ⟨_, s1, a, b, _⟩ := hb k s h
    obtain ⟨_, q1, a', b', _⟩ := hb k' q h'
    exact t.dist k k' s1 q1 a a' (by rw [← b, ← b']; exact hq)
  · intro k s' h
    obtain ⟨hna, s, a, b, c, d, f, sub, h1⟩ := hb k s' h
    have old : s'.kids.map (fun k => qone (wholeOf rs' k)) = s'.kids.map fun k => qone (wholeOf rs k) := by
      refine List.map_congr_left fun x hx => ?_
      obtain ⟨x1, x2⟩ := (f x).1 hx
      rw [hwh x (hkid k s x a hna x1 x2)]
    rw [old]
    rcases h1 with h1 | h1
    · rw [h1.2]
      dsimp only
      obtain ⟨p', hp', hm, _⟩ := t.up e r hr h0
      rw [hp] at hp'; cases hp'
      rw [qsum_filter (f := fun k => qone (wholeOf rs k)) (t.nd _ p hp) hm, ← t.carved _ p hp]
      simp [wholeOf, hr]
    · rw [h1.2]; exact t.carved k s a

theorem TreeOk.destroyF (t : TreeOk rs last) (e : Int) : TreeOk (Proofs.Ytffcilmllebdmaa.destroyF rs e).2 last := by
  unfold Proofs.Ytffcilmllebdmaa.destroyF
  cases hr : getr rs e with
  | none => exact t
  | some r =>
    dsimp only
    by_cases h0 : e = 0
    · rw [if_pos h0]; exact t
    · rw [if_neg h0]
      cases hp : getr rs r.parent with
      | none => exact t
      | some p => exact t.destroy hr h0 hp

theorem TreeOk.createF (t : TreeOk rs last) (e serial : Int) (q : Qt) : TreeOk (Proofs.Ytffcilmllebdmaa.createF rs last e serial q).2.2 (Proofs.Ytffcilmllebdmaa.createF rs last e serial q).2.1 := by
  unfold Proofs.Ytffcilmllebdmaa.createF
  cases hp : getr rs e with
  | none => exact t
  | some p =>
    dsimp only
    split
    · exact t
    · rename_i h1
      split
      · exact t
      · rename_i h2
        cases hf : freeOf rs with
        | none => exact t
        | some n =>
          dsimp only
          have hq : qgood q := Decidable.byContradiction fun h => h1 (.inl h)
          have hs : last < serial := by
            by_cases h : serial ≤ last
            · exact absurd (.inr (.inl h)) h1
            · omega
          exact t.create hp hq hs (Decidable.byContradiction fun h => h2 h) hf
end
end Go.Proofs.Ytffcilmllebdmaa
