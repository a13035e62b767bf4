/- Create keeps the tree. -/
import Derived.Test.YtffcilmllebdmaaM4
namespace Go.Proofs.Ytffcilmllebdmaa
open Go.Am
set_option linter.unusedVariables false
set_option linter.unusedSimpArgs false

theorem freeOf_some {rs : List (Option Rec)} {n : Nat} (h : freeOf rs = some n) : n < rs.length ∧ getr rs n = none := by
  unfold freeOf at h
  rw [List.findIdx?_eq_some_iff_getElem] at h
  obtain ⟨h1, h2, _⟩ := h
  refine ⟨h1, ?_⟩
  unfold getr
  rw [if_pos (by omega), Int.toNat_natCast, List.getElem?_eq_getElem h1]
  cases hx : rs[n] with
  | none => rfl
  | some r => rw [hx] at h2; cases h2

theorem qsum_append : ∀ (l m : List Qt), qsum (l ++ m) = qadd (qsum l) (qsum m)
  | [], m => by simp [qsum, qadd]
  | a :: l, m => by
    simp only [List.cons_append, qsum, qsum_append l m, qadd]
    simp; omega

section
variable {rs : List (Option Rec)} {last : Int}

theorem TreeOk.create (t : TreeOk rs last) {e serial : Int} {q : Qt} {p : Rec} {n : Nat} (hp : getr rs e = some p) (hq : qgood q) (hs : last < serial) (hl : qle (qone q) (qleft p)) (hf : freeOf rs = some n) :
    TreeOk ((rs.set n (some (newRec serial e q))).set e.toNat (some { p with carved := qadd p.carved (qone q), kids := p.kids ++ [(n : Int)] })) serial := by
  obtain ⟨hn, hfree⟩ := freeOf_some hf
  have hne : (n : Int) ≠ e := by rintro h; rw [h, hp] at hfree; cases hfree
  have hel := getr_lt hp
  have hg : ∀ k, getr ((rs.set n (some (newRec serial e q))).set e.toNat (some { p with carved := qadd p.carved (qone q), kids := p.kids ++ [(n : Int)] })) k =
      if k = e then some { p with carved := qadd p.carved (qone q), kids := p.kids ++ [(n : Int)] } else if k = n then some (newRec serial e q) else getr rs k := by
    intro k
    have h1 := getr_set (rs := rs.set n (some (newRec serial e q))) hel.1 (by simpa using hel.2) (some { p with carved := qadd p.carved (qone q), kids := p.kids ++ [(n : Int)] }) k
    have h2 := getr_set (rs := rs) (e := (n : Int)) (by omega) (by omega) (some (newRec serial e q)) k
    rw [Int.toNat_natCast] at h2
    rw [h1, h2]
  generalize hrs : (rs.set n (some (newRec serial e q))).set e.toNat (some { p with carved := qadd p.carved (qone q), kids := p.kids ++ [(n : Int)] }) = rs' at hg ⊢
  have hlen : rs'.length = 16 := by rw [← hrs]; simpa using t.len
  have hfw : ∀ k s, getr rs k = some s → ∃ s', getr rs' k = some s' ∧ s'.serial = s.serial ∧ s'.parent = s.parent ∧ (∀ j ∈ s.kids, j ∈ s'.kids) ∧ s'.whole = s.whole := by
    intro k s h
    rw [hg]
    by_cases hke : k = e
    · rw [if_pos hke]
      rw [hke, hp] at h; cases h
      exact ⟨_, rfl, rfl, rfl, fun j hj => List.mem_append_left _ hj, rfl⟩
    · rw [if_neg hke, if_neg (by rintro h'; rw [h', hfree] at h; cases h)]
      exact ⟨s, h, rfl, rfl, fun _ h => h, rfl⟩
  -- what stands at k now
  have hbw : ∀ k s', getr rs' k = some s' → (k = e ∧ s' = { p with carved := qadd p.carved (qone q), kids := p.kids ++ [(n : Int)] }) ∨ (k = n ∧ s' = newRec serial e q) ∨ (k ≠ e ∧ k ≠ n ∧ getr rs k = some s') := by
    intro k s' h
    rw [hg] at h
    split at h
    · rename_i h1; exact .inl ⟨h1, by cases h; rfl⟩
    · split at h
      · rename_i h2; exact .inr (.inl ⟨h2, by cases h; rfl⟩)
      · rename_i h1 h2; exact .inr (.inr ⟨h1, h2, h⟩)
  have hser : ∀ k : Int, k ≠ (n : Int) → serOf rs' k = serOf rs k := by
    intro k hk
    unfold serOf
    rw [hg]
    by_cases hke : k = e
    · rw [if_pos hke, hke, hp]; rfl
    · rw [if_neg hke, if_neg hk]
  have hsern : serOf rs' n = serial := by unfold serOf; rw [hg, if_neg hne, if_pos rfl]; rfl
  have hwh : ∀ k : Int, k ≠ (n : Int) → wholeOf rs' k = wholeOf rs k := by
    intro k hk
    unfold wholeOf
    rw [hg]
    by_cases hke : k = e
    · rw [if_pos hke, hke, hp]; rfl
    · rw [if_neg hke, if_neg hk]
  have hwn : wholeOf rs' n = q := by unfold wholeOf; rw [hg, if_neg hne, if_pos rfl]; rfl
  have hkn : ∀ k s, getr rs k = some s → ∀ j ∈ s.kids, j ≠ n := by
    intro k s h j hj h1
    obtain ⟨x, hx, _⟩ := t.kid k s j h hj
    rw [h1, hfree] at hx; cases hx
  have hpok := t.ok e p hp
  have hle : ∀ k s, getr rs k = some s → s.serial ≤ last := fun k s h => t.ser k s h
  obtain ⟨r0, hr0, hr0p⟩ := t.root
  have hn0 : (n : Int) ≠ 0 := by rintro h; rw [h, hr0] at hfree; cases hfree
  constructor
  · exact hlen
  · obtain ⟨s', a, _, b, _⟩ := hfw 0 r0 hr0
    exact ⟨s', a, by rw [b]; exact hr0p⟩
  · intro k s' h
    rcases hbw k s' h with ⟨_, rfl⟩ | ⟨_, rfl⟩ | ⟨_, _, h'⟩
    · have := t.ser e p hp; dsimp only; omega
    · simp only [newRec]; omega
    · have := t.ser k s' h'; omega
  · intro k s' h
    rcases hbw k s' h with ⟨_, rfl⟩ | ⟨_, rfl⟩ | ⟨_, _, h'⟩
    · obtain ⟨h1, h2, h3, h4⟩ := hpok
      unfold RecOk
      unfold qgood qle qone qleft qsub qadd at *; dsimp only at *; omega
    · unfold RecOk newRec
      unfold qgood qle qadd at *; dsimp only at *; omega
    · exact t.ok k s' h'
  · intro k s' h h0
    rcases hbw k s' h with ⟨rfl, rfl⟩ | ⟨rfl, rfl⟩ | ⟨_, _, h'⟩
    · obtain ⟨pp, h1, h2, h3⟩ := t.up k p hp h0
      obtain ⟨p', i1, i2, _, i4, _⟩ := hfw _ pp h1
      exact ⟨p', i1, i4 _ h2, by rw [i2]; exact h3⟩
    · refine ⟨{ p with carved := qadd p.carved (qone q), kids := p.kids ++ [(n : Int)] }, ?_, by simp, ?_⟩
      · show getr rs' e = _
        rw [hg, if_pos rfl]
      · have := hle e p hp; simp only [newRec]; omega
    · obtain ⟨pp, h1, h2, h3⟩ := t.up k s' h' h0
      obtain ⟨p', i1, i2, _, i4, _⟩ := hfw _ pp h1
      exact ⟨p', i1, i4 _ h2, by rw [i2]; exact h3⟩
  · intro k s' j h hj
    rcases hbw k s' h with ⟨rfl, rfl⟩ | ⟨rfl, rfl⟩ | ⟨_, _, h'⟩
    · rcases List.mem_append.1 hj with hj | hj
      · obtain ⟨x, h1, h2, h3⟩ := t.kid k p j hp hj
        obtain ⟨x', i1, _, i3, _⟩ := hfw j x h1
        exact ⟨x', i1, by rw [i3]; exact h2, h3⟩
      · have : j = n := by simpa using hj
        subst this
        exact ⟨newRec serial k q, by rw [hg, if_neg hne, if_pos rfl], rfl, hn0⟩
    · simp [newRec] at hj
    · obtain ⟨x, h1, h2, h3⟩ := t.kid k s' j h' hj
      obtain ⟨x', i1, _, i3, _⟩ := hfw j x h1
      exact ⟨x', i1, by rw [i3]; exact h2, h3⟩
  · intro k s' h
    rcases hbw k s' h with ⟨_, rfl⟩ | ⟨_, rfl⟩ | ⟨_, _, h'⟩
    · refine List.nodup_append.2 ⟨t.nd e p hp, by simp, ?_⟩
      intro a ha b hb
      have : b = n := by simpa using hb
      rw [this]
      exact hkn e p hp a ha
    · simp [newRec]
    · exact t.nd k s' h'
  · intro k s' h
    have old : ∀ k s, getr rs k = some s → s.kids.Pairwise fun a b => serOf rs' a < serOf rs' b := by
      intro k s h
      refine List.Pairwise.imp_of_mem ?_ (t.sorted k s h)
      intro a b ha hb hab
      rw [hser a (hkn k s h a ha), hser b (hkn k s h b hb)]; exact hab
    rcases hbw k s' h with ⟨_, rfl⟩ | ⟨_, rfl⟩ | ⟨_, _, h'⟩
    · refine List.pairwise_append.2 ⟨old e p hp, by simp, ?_⟩
      intro a ha b hb
      have : b = n := by simpa using hb
      rw [this, hsern, hser a (hkn e p hp a ha)]
      obtain ⟨x, hx, _⟩ := t.kid e p a hp ha
      have := hle a x hx
      unfold serOf; rw [hx]; simp only [Option.elim]; omega
    · simp [newRec]
    · exact old k s' h'
  · intro k k' s q' h h' hq'
    rcases hbw k s h with ⟨rfl, rfl⟩ | ⟨rfl, rfl⟩ | ⟨_, _, g⟩ <;> rcases hbw k' q' h' with ⟨rfl, rfl⟩ | ⟨rfl, rfl⟩ | ⟨_, _, g'⟩
    · rfl
    · have := hle _ p hp; simp only [newRec] at hq'; omega
    · exact t.dist _ _ p q' hp g' hq'
    · have := hle _ p hp; simp only [newRec] at hq'; omega
    · rfl
    · have := hle _ q' g'; simp only [newRec] at hq'; omega
    · exact t.dist _ _ s p g hp hq'
    · have := hle _ s g; simp only [newRec] at hq'; omega
    · exact t.dist _ _ s q' g g' hq'
  · intro k s' h
    have old : ∀ k s, getr rs k = some s → s.kids.map (fun k => qone (wholeOf rs' k)) = s.kids.map fun k => qone (wholeOf rs k) := by
      intro k s h
      refine List.map_congr_left fun a ha => ?_
      rw [hwh a (hkn k s h a ha)]
    rcases hbw k s' h with ⟨_, rfl⟩ | ⟨_, rfl⟩ | ⟨_, _, h'⟩
    · dsimp only
      rw [List.map_append, qsum_append, old e p hp, ← t.carved e p hp]
      simp [qsum, qadd, hwn]
    · simp [newRec, qsum]
    · rw [old k s' h']; exact t.carved k s' h'
end
end Go.Proofs.Ytffcilmllebdmaa
