/- Steps that leave the tree's shape. -/
import Derived.Test.YtffcilmllebdmaaM3
namespace Go.Proofs.Ytffcilmllebdmaa
open Go.Am
set_option linter.unusedVariables false
set_option linter.unusedSimpArgs false

theorem getr_set {rs : List (Option Rec)} {e : Int} (h0 : 0 ≤ e) (h1 : e < rs.length) (v : Option Rec) (k : Int) : getr (rs.set e.toNat v) k = if k = e then v else getr rs k := by
  unfold getr
  by_cases hk : 0 ≤ k
  · rw [if_pos hk, if_pos hk]
    by_cases hke : k = e
    · subst hke
      rw [if_pos rfl, List.getElem?_set_self (by omega)]; rfl
    · rw [if_neg hke, List.getElem?_set, if_neg (by omega)]
  · rw [if_neg hk, if_neg hk, if_neg (by omega)]

section
variable {rs : List (Option Rec)} {last : Int}

theorem TreeOk.setSame (t : TreeOk rs last) {e : Int} {r r' : Rec} (hr : getr rs e = some r) (hs : r'.serial = r.serial) (hp : r'.parent = r.parent) (hk : r'.kids = r.kids) (hw : r'.whole = r.whole) (hc : r'.carved = r.carved) (hok : RecOk r') : TreeOk (rs.set e.toNat (some r')) last := by
  have hl := getr_lt hr
  have hg : ∀ k, getr (rs.set e.toNat (some r')) k = if k = e then some r' else getr rs k := getr_set hl.1 hl.2 _
  -- each record there has a like one here
  have hb : ∀ k s', getr (rs.set e.toNat (some r')) k = some s' → ∃ s, getr rs k = some s ∧ s'.serial = s.serial ∧ s'.parent = s.parent ∧ s'.kids = s.kids ∧ s'.whole = s.whole ∧ s'.carved = s.carved ∧ RecOk s' := by
    intro k s' h
    rw [hg] at h
    split at h
    · rename_i hke
      cases h; subst hke
      exact ⟨r, hr, hs, hp, hk, hw, hc, hok⟩
    · exact ⟨s', h, rfl, rfl, rfl, rfl, rfl, t.ok k s' h⟩
  have hf : ∀ k s, getr rs k = some s → ∃ s', getr (rs.set e.toNat (some r')) k = some s' ∧ s'.serial = s.serial ∧ s'.parent = s.parent ∧ s'.kids = s.kids ∧ s'.whole = s.whole := by
    intro k s h
    rw [hg]
    by_cases hke : k = e
    · subst hke
      rw [hr] at h; cases h
      exact ⟨r', by rw [if_pos rfl], hs, hp, hk, hw⟩
    · exact ⟨s, by rw [if_neg hke]; exact h, rfl, rfl, rfl, rfl⟩
  have hser : ∀ k, serOf (rs.set e.toNat (some r')) k = serOf rs k := by
    intro k
    unfold serOf
    rw [hg]
    split
    · rename_i hke; subst hke; rw [hr]; exact hs
    · rfl
  have hwh : ∀ k, wholeOf (rs.set e.toNat (some r')) k = wholeOf rs k := by
    intro k
    unfold wholeOf
    rw [hg]
    split
    · rename_i hke; subst hke; rw [hr]; exact hw
    · rfl
  constructor
  · simpa using t.len
  · obtain ⟨r0, h1, h2⟩ := t.root
    obtain ⟨s', a, _, b, _⟩ := hf 0 r0 h1
    exact ⟨s', a, by rw [b]; exact h2⟩
  · intro k s' h
    obtain ⟨s, a, b, _⟩ := hb k s' h
    rw [b]; exact t.ser k s a
  · intro k s' h
    obtain ⟨s, a, b, c, d, e1, f, g⟩ := hb k s' h
    exact g
  · intro k s' h h0
    obtain ⟨s, a, b, c, d, e1, f, g⟩ := hb k s' h
    obtain ⟨p, h1, h2, h3⟩ := t.up k s a h0
    obtain ⟨p', i1, i2, i3, i4, i5⟩ := hf s.parent p h1
    exact ⟨p', by rw [c]; exact i1, by rw [i4]; exact h2, by rw [i2, b]; exact h3⟩
  · intro k s' j h hj
    obtain ⟨s, a, b, c, d, e1, f, g⟩ := hb k s' h
    rw [d] at hj
    obtain ⟨q, h1, h2, h3⟩ := t.kid k s j a hj
    obtain ⟨q', i1, i2, i3, i4, i5⟩ := hf j q h1
    exact ⟨q', i1, by rw [i3]; exact h2, h3⟩
  · intro k s' h
    obtain ⟨s, a, b, c, d, e1, f, g⟩ := hb k s' h
    rw [d]; exact t.nd k s a
  · intro k s' h
    obtain ⟨s, a, b, c, d, e1, f, g⟩ := hb k s' h
    rw [d]
    have := t.sorted k s a
    simpa only [hser] using this
  · intro k k' s' q' h h' hq
    obtain ⟨s, a, b, _⟩ := hb k s' h
    obtain ⟨q, a', b', _⟩ := hb k' q' h'
    exact t.dist k k' s q a a' (by rw [← b, ← b']; exact hq)
  · intro k s' h
    obtain ⟨s, a, b, c, d, e1, f, g⟩ := hb k s' h
    rw [f, d]
    simp only [hwh]
    exact t.carved k s a

/-- A step on one record that keeps what the tree hangs on. -/
def Mild (f : Rec → Int × Rec) : Prop := ∀ r, RecOk r → (f r).2.serial = r.serial ∧ (f r).2.parent = r.parent ∧ (f r).2.kids = r.kids ∧ (f r).2.whole = r.whole ∧ (f r).2.carved = r.carved ∧ RecOk (f r).2

theorem TreeOk.onRec (t : TreeOk rs last) {f : Rec → Int × Rec} (hf : Mild f) (e : Int) : TreeOk (Proofs.Ytffcilmllebdmaa.onRec rs e f).2 last := by
  unfold Proofs.Ytffcilmllebdmaa.onRec
  cases hr : getr rs e with
  | none => exact t
  | some r =>
    obtain ⟨h1, h2, h3, h4, h5, h6⟩ := hf r (t.ok e r hr)
    exact t.setSame hr h1 h2 h3 h4 h5 h6

theorem mild_of (f : Rec → Int × Rec) (h : ∀ r, (f r).2.serial = r.serial ∧ (f r).2.parent = r.parent ∧ (f r).2.kids = r.kids ∧ (f r).2.whole = r.whole ∧ (f r).2.carved = r.carved ∧ (f r).2.paid = r.paid) : Mild f := by
  intro r hr
  obtain ⟨h1, h2, h3, h4, h5, h6⟩ := h r
  refine ⟨h1, h2, h3, h4, h5, ?_⟩
  unfold RecOk at *
  rw [h4, h5, h6]; exact hr

theorem mild_bits (n : Int) : Mild fun r => if 0 ≤ n ∧ n ≤ 4294967295 then (0, { r with bits := n }) else (1, r) := mild_of _ fun r => by split <;> exact ⟨rfl, rfl, rfl, rfl, rfl, rfl⟩
theorem mild_regs (q : Rg) : Mild fun r => (0, { r with regs := q }) := mild_of _ fun r => ⟨rfl, rfl, rfl, rfl, rfl, rfl⟩
theorem mild_freeze (on : Bool) : Mild fun r => (0, { r with frozen := on }) := mild_of _ fun r => ⟨rfl, rfl, rfl, rfl, rfl, rfl⟩
theorem mild_wait : Mild fun r => (0, waitRec r) := mild_of _ fun r => by unfold waitRec; split <;> exact ⟨rfl, rfl, rfl, rfl, rfl, rfl⟩
theorem mild_state (s c : Int) : Mild (stateRec s c) := mild_of _ fun r => by unfold stateRec; split <;> exact ⟨rfl, rfl, rfl, rfl, rfl, rfl⟩
theorem mild_notify (n : Int) : Mild (notifyRec n) := mild_of _ fun r => by
  unfold notifyRec
  split
  · split <;> exact ⟨rfl, rfl, rfl, rfl, rfl, rfl⟩
  · exact ⟨rfl, rfl, rfl, rfl, rfl, rfl⟩
theorem mild_pay (q : Qt) : Mild (payRec q) := fun r hr => ⟨by unfold payRec; split <;> (try split) <;> rfl, by unfold payRec; split <;> (try split) <;> rfl, payRec_kids q r, by unfold payRec; split <;> (try split) <;> rfl, by unfold payRec; split <;> (try split) <;> rfl, hr.pay q⟩
theorem mild_refund (q : Qt) : Mild (refundRec q) := fun r hr => ⟨by unfold refundRec; split <;> rfl, by unfold refundRec; split <;> rfl, refundRec_kids q r, by unfold refundRec; split <;> rfl, by unfold refundRec; split <;> rfl, hr.refund q⟩
end
end Go.Proofs.Ytffcilmllebdmaa

namespace Go.Proofs.Ytffcilmllebdmaa
open Go.Am
set_option linter.unusedVariables false
set_option linter.unusedSimpArgs false

theorem freeOf_some {rs : List (Option Rec)} {n : Nat} (h : freeOf rs = some n) : n < rs.length ∧ getr rs n = none := by
  unfold freeOf at h
  rw [List.findIdx?_eq_some_iff_getElem] at h
  obtain ⟨h1, h2, _⟩ := h
  refine ⟨h1, ?_⟩
  unfold getr
  rw [if_pos (by omega), Int.toNat_natCast, List.getElem?_eq_getElem h1]
  cases hx : rs[n] with
  | none => rfl
  | some r => rw [hx] at h2; cases h2

theorem qsum_append : ∀ (l m : List Qt), qsum (l ++ m) = qadd (qsum l) (qsum m)
  | [], m => by simp [qsum, qadd]
  | a :: l, m => by
    simp only [List.cons_append, qsum, qsum_append l m, qadd]
    simp; omega

section
variable {rs : List (Option Rec)} {last : Int}

theorem TreeOk.create (t : TreeOk rs last) {e serial : Int} {q : Qt} {p : Rec} {n : Nat} (hp : getr rs e = some p) (hq : qgood q) (hs : last < serial) (hl : qle (qone q) (qleft p)) (hf : freeOf rs = some n) :
    TreeOk ((rs.set n (some (newRec serial e q))).set e.toNat (some { p with carved := qadd p.carved (qone q), kids := p.kids ++ [(n : Int)] })) serial := by
  obtain ⟨hn, hfree⟩ := freeOf_some hf
  have hne : (n : Int) ≠ e := by rintro h; rw [h, hp] at hfree; cases hfree
  have hel := getr_lt hp
  have hg : ∀ k, getr ((rs.set n (some (newRec serial e q))).set e.toNat (some { p with carved := qadd p.carved (qone q), kids := p.kids ++ [(n : Int)] })) k =
      if k = e then some { p with carved := qadd p.carved (qone q), kids := p.kids ++ [(n : Int)] } else if k = n then some (newRec serial e q) else getr rs k := by
    intro k
    have h1 := getr_set (rs := rs.set n (some (newRec serial e q))) hel.1 (by simpa using hel.2) (some { p with carved := qadd p.carved (qone q), kids := p.kids ++ [(n : Int)] }) k
    have h2 := getr_set (rs := rs) (e := (n : Int)) (by omega) (by omega) (some (newRec serial e q)) k
    rw [Int.toNat_natCast] at h2
    rw [h1, h2]
  generalize hrs : (rs.set n (some (newRec serial e q))).set e.toNat (some { p with carved := qadd p.carved (qone q), kids := p.kids ++ [(n : Int)] }) = rs' at hg ⊢
  have hlen : rs'.length = 16 := by rw [← hrs]; simpa using t.len
  have hfw : ∀ k s, getr rs k = some s → ∃ s', getr rs' k = some s' ∧ s'.serial = s.serial ∧ s'.parent = s.parent ∧ (∀ j ∈ s.kids, j ∈ s'.kids) ∧ s'.whole = s.whole := by
    intro k s h
    rw [hg]
    by_cases hke : k = e
    · rw [if_pos hke]
      rw [hke, hp] at h; cases h
      exact ⟨_, rfl, rfl, rfl, fun j hj => List.mem_append_left _ hj, rfl⟩
    · rw [if_neg hke, if_neg (by rintro h'; rw [h', hfree] at h; cases h)]
      exact ⟨s, h, rfl, rfl, fun _ h => h, rfl⟩
  -- what stands at k now
  have hbw : ∀ k s', getr rs' k = some s' → (k = e ∧ s' = { p with carved := qadd p.carved (qone q), kids := p.kids ++ [(n : Int)] }) ∨ (k = n ∧ s' = newRec serial e q) ∨ (k ≠ e ∧ k ≠ n ∧ getr rs k = some s') := by
    intro k s' h
    rw [hg] at h
    split at h
    · rename_i h1; exact .inl ⟨h1, by cases h; rfl⟩
    · split at h
      · rename_i h2; exact .inr (.inl ⟨h2, by cases h; rfl⟩)
      · rename_i h1 h2; exact .inr (.inr ⟨h1, h2, h⟩)
  have hser : ∀ k : Int, k ≠ (n : Int) → serOf rs' k = serOf rs k := by
    intro k hk
    unfold serOf
    rw [hg]
    by_cases hke : k = e
    · rw [if_pos hke, hke, hp]; rfl
    · rw [if_neg hke, if_neg hk]
  have hsern : serOf rs' n = serial := by unfold serOf; rw [hg, if_neg hne, if_pos rfl]; rfl
  have hwh : ∀ k : Int, k ≠ (n : Int) → wholeOf rs' k = wholeOf rs k := by
    intro k hk
    unfold wholeOf
    rw [hg]
    by_cases hke : k = e
    · rw [if_pos hke, hke, hp]; rfl
    · rw [if_neg hke, if_neg hk]
  have hwn : wholeOf rs' n = q := by unfold wholeOf; rw [hg, if_neg hne, if_pos rfl]; rfl
  have hkn : ∀ k s, getr rs k = some s → ∀ j ∈ s.kids, j ≠ n := by
    intro k s h j hj h1
    obtain ⟨x, hx, _⟩ := t.kid k s j h hj
    rw [h1, hfree] at hx; cases hx
  have hpok := t.ok e p hp
  have hle : ∀ k s, getr rs k = some s → s.serial ≤ last := fun k s h => t.ser k s h
  obtain ⟨r0, hr0, hr0p⟩ := t.root
  have hn0 : (n : Int) ≠ 0 := by rintro h; rw [h, hr0] at hfree; cases hfree
  constructor
  · exact hlen
  · obtain ⟨s', a, _, b, _⟩ := hfw 0 r0 hr0
    exact ⟨s', a, by rw [b]; exact hr0p⟩
  · intro k s' h
    rcases hbw k s' h with ⟨_, rfl⟩ | ⟨_, rfl⟩ | ⟨_, _, h'⟩
    · have := t.ser e p hp; dsimp only; omega
    · simp only [newRec]; omega
    · have := t.ser k s' h'; omega
  · intro k s' h
    rcases hbw k s' h with ⟨_, rfl⟩ | ⟨_, rfl⟩ | ⟨_, _, h'⟩
    · obtain ⟨h1, h2, h3, h4⟩ := hpok
      unfold RecOk
      unfold qgood qle qone qleft qsub qadd at *; dsimp only at *; omega
    · unfold RecOk newRec
      unfold qgood qle qadd at *; dsimp only at *; omega
    · exact t.ok k s' h'
  · intro k s' h h0
    rcases hbw k s' h with ⟨rfl, rfl⟩ | ⟨rfl, rfl⟩ | ⟨_, _, h'⟩
    · obtain ⟨pp, h1, h2, h3⟩ := t.up k p hp h0
      obtain ⟨p', i1, i2, _, i4, _⟩ := hfw _ pp h1
      exact ⟨p', i1, i4 _ h2, by rw [i2]; exact h3⟩
    · refine ⟨{ p with carved := qadd p.carved (qone q), kids := p.kids ++ [(n : Int)] }, ?_, by simp, ?_⟩
      · show getr rs' e = _
        rw [hg, if_pos rfl]
      · have := hle e p hp; simp only [newRec]; omega
    · obtain ⟨pp, h1, h2, h3⟩ := t.up k s' h' h0
      obtain ⟨p', i1, i2, _, i4, _⟩ := hfw _ pp h1
      exact ⟨p', i1, i4 _ h2, by rw [i2]; exact h3⟩
  · intro k s' j h hj
    rcases hbw k s' h with ⟨rfl, rfl⟩ | ⟨rfl, rfl⟩ | ⟨_, _, h'⟩
    · rcases List.mem_append.1 hj with hj | hj
      · obtain ⟨x, h1, h2, h3⟩ := t.kid k p j hp hj
        obtain ⟨x', i1, _, i3, _⟩ := hfw j x h1
        exact ⟨x', i1, by rw [i3]; exact h2, h3⟩
      · have : j = n := by simpa using hj
        subst this
        exact ⟨newRec serial k q, by rw [hg, if_neg hne, if_pos rfl], rfl, hn0⟩
    · simp [newRec] at hj
    · obtain ⟨x, h1, h2, h3⟩ := t.kid k s' j h' hj
      obtain ⟨x', i1, _, i3, _⟩ := hfw j x h1
      exact ⟨x', i1, by rw [i3]; exact h2, h3⟩
  · intro k s' h
    rcases hbw k s' h with ⟨_, rfl⟩ | ⟨_, rfl⟩ | ⟨_, _, h'⟩
    · refine List.nodup_append.2 ⟨t.nd e p hp, by simp, ?_⟩
      intro a ha b hb
      have : b = n := by simpa using hb
      rw [this]
      exact hkn e p hp a ha
    · simp [newRec]
    · exact t.nd k s' h'
  · intro k s' h
    have old : ∀ k s, getr rs k = some s → s.kids.Pairwise fun a b => serOf rs' a < serOf rs' b := by
      intro k s h
      refine List.Pairwise.imp_of_mem ?_ (t.sorted k s h)
      intro a b ha hb hab
      rw [hser a (hkn k s h a ha), hser b (hkn k s h b hb)]; exact hab
    rcases hbw k s' h with ⟨_, rfl⟩ | ⟨_, rfl⟩ | ⟨_, _, h'⟩
    · refine List.pairwise_append.2 ⟨old e p hp, by simp, ?_⟩
      intro a ha b hb
      have : b = n := by simpa using hb
      rw [this, hsern, hser a (hkn e p hp a ha)]
      obtain ⟨x, hx, _⟩ := t.kid e p a hp ha
      have := hle a x hx
      unfold serOf; rw [hx]; simp only [Option.elim]; omega
    · simp [newRec]
    · exact old k s' h'
  · intro k k' s q' h h' hq'
    rcases hbw k s h with ⟨rfl, rfl⟩ | ⟨rfl, rfl⟩ | ⟨_, _, g⟩ <;> rcases hbw k' q' h' with ⟨rfl, rfl⟩ | ⟨rfl, rfl⟩ | ⟨_, _, g'⟩
    · rfl
    · have := hle _ p hp; simp only [newRec] at hq'; omega
    · exact t.dist _ _ p q' hp g' hq'
    · have := hle _ p hp; simp only [newRec] at hq'; omega
    · rfl
    · have := hle _ q' g'; simp only [newRec] at hq'; omega
    · exact t.dist _ _ s p g hp hq'
    · have := hle _ s g; simp only [newRec] at hq'; omega
    · exact t.dist _ _ s q' g g' hq'
  · intro k s' h
    have old : ∀ k s, getr rs k = some s → s.kids.map (fun k => qone (wholeOf rs' k)) = s.kids.map fun k => qone (wholeOf rs k) := by
      intro k s h
      refine List.map_congr_left fun a ha => ?_
      rw [hwh a (hkn k s h a ha)]
    rcases hbw k s' h with ⟨_, rfl⟩ | ⟨_, rfl⟩ | ⟨_, _, h'⟩
    · dsimp only
      rw [List.map_append, qsum_append, old e p hp, ← t.carved e p hp]
      simp [qsum, qadd, hwn]
    · simp [newRec, qsum]
    · rw [old k s' h']; exact t.carved k s' h'
end
end Go.Proofs.Ytffcilmllebdmaa

namespace Go.Proofs.Ytffcilmllebdmaa
open Go.Am
set_option linter.unusedVariables false
set_option linter.unusedSimpArgs false

theorem dropAll_length : ∀ (l : List Int) (x : List (Option Rec)), (dropAll x l).length = x.length
  | [], x => rfl
  | a :: l, x => by
    have := dropAll_length l (x.set a.toNat none)
    simp only [List.length_set] at this; exact this

theorem getr_dropAll : ∀ (l : List Int) (rs : List (Option Rec)), (∀ k ∈ l, 0 ≤ k ∧ k < rs.length) → ∀ k, getr (dropAll rs l) k = if k ∈ l then none else getr rs k
  | [], rs, _, k => by simp [dropAll]
  | a :: l, rs, h, k => by
    have ha := h a (List.mem_cons_self ..)
    have ih := getr_dropAll l (rs.set a.toNat none) (fun x hx => by have := h x (List.mem_cons_of_mem _ hx); simpa using this) k
    have e1 : dropAll rs (a :: l) = dropAll (rs.set a.toNat none) l := rfl
    rw [e1, ih, getr_set ha.1 ha.2]
    by_cases h1 : k ∈ l
    · simp [h1]
    · by_cases h2 : k = a
      · simp [h2]
      · simp [h1, h2]

section
variable {rs : List (Option Rec)} {last : Int}

theorem mem_pre (t : TreeOk rs last) {e : Int} {r : Rec} (hr : getr rs e = some r) (k : Int) : k ∈ pre 16 rs e ↔ Anc rs e k :=
  ⟨pre_anc t 16 e k, anc_pre t 16 e k (t.deep16 hr)⟩

/-- The records behind a Destroy. -/
theorem getr_destroy (t : TreeOk rs last) {e : Int} {r p : Rec} (hr : getr rs e = some r) (h0 : e ≠ 0) (hp : getr rs r.parent = some p) (k : Int) :
    getr (dropAll (rs.set r.parent.toNat (some { p with carved := qsub p.carved (qone r.whole), kids := p.kids.filter (· ≠ e) })) (pre 16 rs e)) k =
      if k ∈ pre 16 rs e then none else if k = r.parent then some { p with carved := qsub p.carved (qone r.whole), kids := p.kids.filter (· ≠ e) } else getr rs k := by
  have hpl := getr_lt hp
  rw [getr_dropAll, getr_set hpl.1 hpl.2]
  intro x hx
  obtain ⟨s, hs⟩ := Option.isSome_iff_exists.1 (t.preLive hr x hx)
  have := getr_lt hs
  simpa using this

theorem parent_out (t : TreeOk rs last) {e : Int} {r p : Rec} (hr : getr rs e = some r) (h0 : e ≠ 0) (hp : getr rs r.parent = some p) : r.parent ∉ pre 16 rs e := by
  intro h
  obtain ⟨p', hp', hm, _⟩ := t.up e r hr h0
  rw [hp] at hp'; cases hp'
  exact not_above t hp hm ((mem_pre t hr _).1 h)

theorem TreeOk.destroy (t : TreeOk rs last) {e : Int} {r p : Rec} (hr : getr rs e = some r) (h0 : e ≠ 0) (hp : getr rs r.parent = some p) :
    TreeOk (dropAll (rs.set r.parent.toNat (some { p with carved := qsub p.carved (qone r.whole), kids := p.kids.filter (· ≠ e) })) (pre 16 rs e)) last := by
  have hg := getr_destroy t hr h0 hp
  have hlen : (dropAll (rs.set r.parent.toNat (some { p with carved := qsub p.carved (qone r.whole), kids := p.kids.filter (· ≠ e) })) (pre 16 rs e)).length = 16 := by
    rw [dropAll_length]; simpa using t.len
  generalize dropAll (rs.set r.parent.toNat (some { p with carved := qsub p.carved (qone r.whole), kids := p.kids.filter (· ≠ e) })) (pre 16 rs e) = rs' at hg hlen ⊢
  have hL : ∀ k, k ∈ pre 16 rs e ↔ Anc rs e k := mem_pre t hr
  have hpo := parent_out t hr h0 hp
  simp only [hL] at hpo
  have hgn : ∀ k, Anc rs e k → getr rs' k = none := fun k h => by rw [hg, if_pos ((hL k).2 h)]
  have hg : ∀ k, ¬ Anc rs e k → getr rs' k = if k = r.parent then some { p with carved := qsub p.carved (qone r.whole), kids := p.kids.filter (· ≠ e) } else getr rs k := fun k h => by
    rw [hg, if_neg fun h' => h ((hL k).1 h')]
  -- what stands here stood there
  have hb : ∀ k s', getr rs' k = some s' → ¬ Anc rs e k ∧ ∃ s, getr rs k = some s ∧ s'.serial = s.serial ∧ s'.parent = s.parent ∧ s'.whole = s.whole ∧ (∀ j, j ∈ s'.kids ↔ j ∈ s.kids ∧ j ≠ e) ∧ s'.kids.Sublist s.kids ∧
      ((k = r.parent ∧ s' = { p with carved := qsub p.carved (qone r.whole), kids := p.kids.filter (· ≠ e) }) ∨ (k ≠ r.parent ∧ s' = s)) := by
    intro k s' h
    by_cases hna : Anc rs e k
    · rw [hgn k hna] at h; cases h
    · rw [hg k hna] at h
      refine ⟨hna, ?_⟩
      split at h
      · rename_i hkp
        cases h
        exact ⟨p, by rw [hkp]; exact hp, rfl, rfl, rfl, fun j => by simp, List.filter_sublist, .inl ⟨hkp, rfl⟩⟩
      · rename_i hkp
        refine ⟨s', h, rfl, rfl, rfl, fun j => ⟨fun hj => ⟨hj, ?_⟩, fun hj => hj.1⟩, List.Sublist.refl _, .inr ⟨hkp, rfl⟩⟩
        rintro rfl
        obtain ⟨s2, hs2, hp2, _⟩ := t.kid k s' j h hj
        rw [hr] at hs2; cases hs2
        exact hkp hp2.symm
  have hf : ∀ k s, getr rs k = some s → ¬ Anc rs e k → ∃ s', getr rs' k = some s' ∧ s'.serial = s.serial ∧ s'.parent = s.parent ∧ s'.whole = s.whole ∧ (∀ j, j ∈ s.kids → j ≠ e → j ∈ s'.kids) := by
    intro k s h hna
    rw [hg k hna]
    by_cases hkp : k = r.parent
    · rw [if_pos hkp]
      rw [hkp, hp] at h; cases h
      exact ⟨_, rfl, rfl, rfl, rfl, fun j h1 h2 => by simp [h1, h2]⟩
    · rw [if_neg hkp]
      exact ⟨s, h, rfl, rfl, rfl, fun j h1 _ => h1⟩
  -- a child that stays does not lie below e
  have hkid : ∀ k s j, getr rs k = some s → ¬ Anc rs e k → j ∈ s.kids → j ≠ e → ¬ Anc rs e j := by
    intro k s j hk hna hj hje ha
    obtain ⟨s2, hs2, hp2, _⟩ := t.kid k s j hk hj
    cases ha with
    | refl => exact hje rfl
    | step hg' hx ht =>
      rw [hs2] at hg'; cases hg'
      rw [hp2] at ht; exact hna ht
  have hser : ∀ k, ¬ Anc rs e k → serOf rs' k = serOf rs k := by
    intro k hk
    unfold serOf
    rw [hg k hk]
    split
    · rename_i h1; rw [h1, hp]; rfl
    · rfl
  have hwh : ∀ k, ¬ Anc rs e k → wholeOf rs' k = wholeOf rs k := by
    intro k hk
    unfold wholeOf
    rw [hg k hk]
    split
    · rename_i h1; rw [h1, hp]; rfl
    · rfl
  constructor
  · exact hlen
  · obtain ⟨r0, h1, h2⟩ := t.root
    have hn0 : ¬ Anc rs e 0 := by
      intro h
      cases h with
      | refl => exact h0 rfl
      | step _ hx _ => exact hx rfl
    obtain ⟨s', a, _, b, _⟩ := hf 0 r0 h1 hn0
    exact ⟨s', a, by rw [b]; exact h2⟩
  · intro k s' h
    obtain ⟨_, s, a, b, _⟩ := hb k s' h
    rw [b]; exact t.ser k s a
  · intro k s' h
    obtain ⟨_, s, a, b, c, d, _, _, h1 | h1⟩ := hb k s' h
    · rw [h1.2]
      have h3 := t.carvedLe hr h0 hp
      obtain ⟨g1, g2, g3, g4⟩ := t.ok _ p hp
      obtain ⟨g5, _⟩ := t.ok _ r hr
      unfold RecOk
      unfold qgood qle qone qsub qadd at *; dsimp only at *; omega
    · rw [h1.2]; exact t.ok k s a
  · intro k s' h hk0
    obtain ⟨hna, s, a, b, c, d, _, _⟩ := hb k s' h
    obtain ⟨q, h1, h2, h3⟩ := t.up k s a hk0
    have hke : k ≠ e := by rintro rfl; exact hna .refl
    have hpa : ¬ Anc rs e s.parent := fun h => hna (.step a hk0 h)
    obtain ⟨q', i1, i2, i3, i4, i5⟩ := hf s.parent q h1 hpa
    exact ⟨q', by rw [c]; exact i1, i5 k h2 hke, by rw [i2, b]; exact h3⟩
  · intro k s' j h hj
    obtain ⟨hna, s, a, b, c, d, f, _⟩ := hb k s' h
    obtain ⟨hj1, hj2⟩ := (f j).1 hj
    obtain ⟨q, h1, h2, h3⟩ := t.kid k s j a hj1
    obtain ⟨q', i1, i2, i3, _⟩ := hf j q h1 (hkid k s j a hna hj1 hj2)
    exact ⟨q', i1, by rw [i3]; exact h2, h3⟩
  · intro k s' h
    obtain ⟨hna, s, a, b, c, d, f, sub, _⟩ := hb k s' h
    exact (t.nd k s a).sublist sub
  · intro k s' h
    obtain ⟨hna, s, a, b, c, d, f, sub, _⟩ := hb k s' h
    refine List.Pairwise.imp_of_mem ?_ ((t.sorted k s a).sublist sub)
    intro x y hx hy hxy
    obtain ⟨x1, x2⟩ := (f x).1 hx
    obtain ⟨y1, y2⟩ := (f y).1 hy
    rw [hser x (hkid k s x a hna x1 x2), hser y (hkid k s y a hna y1 y2)]; exact hxy
  · intro k k' s q h h' hq
    obtain ⟨_, s1, a, b, _⟩ := hb k s h
    obtain ⟨_, q1, a', b', _⟩ := hb k' q h'
    exact t.dist k k' s1 q1 a a' (by rw [← b, ← b']; exact hq)
  · intro k s' h
    obtain ⟨hna, s, a, b, c, d, f, sub, h1⟩ := hb k s' h
    have old : s'.kids.map (fun k => qone (wholeOf rs' k)) = s'.kids.map fun k => qone (wholeOf rs k) := by
      refine List.map_congr_left fun x hx => ?_
      obtain ⟨x1, x2⟩ := (f x).1 hx
      rw [hwh x (hkid k s x a hna x1 x2)]
    rw [old]
    rcases h1 with h1 | h1
    · rw [h1.2]
      dsimp only
      obtain ⟨p', hp', hm, _⟩ := t.up e r hr h0
      rw [hp] at hp'; cases hp'
      rw [qsum_filter (f := fun k => qone (wholeOf rs k)) (t.nd _ p hp) hm, ← t.carved _ p hp]
      simp [wholeOf, hr]
    · rw [h1.2]; exact t.carved k s a

theorem TreeOk.destroyF (t : TreeOk rs last) (e : Int) : TreeOk (Proofs.Ytffcilmllebdmaa.destroyF rs e).2 last := by
  unfold Proofs.Ytffcilmllebdmaa.destroyF
  cases hr : getr rs e with
  | none => exact t
  | some r =>
    dsimp only
    by_cases h0 : e = 0
    · rw [if_pos h0]; exact t
    · rw [if_neg h0]
      cases hp : getr rs r.parent with
      | none => exact t
      | some p => exact t.destroy hr h0 hp

theorem TreeOk.createF (t : TreeOk rs last) (e serial : Int) (q : Qt) : TreeOk (Proofs.Ytffcilmllebdmaa.createF rs last e serial q).2.2 (Proofs.Ytffcilmllebdmaa.createF rs last e serial q).2.1 := by
  unfold Proofs.Ytffcilmllebdmaa.createF
  cases hp : getr rs e with
  | none => exact t
  | some p =>
    dsimp only
    split
    · exact t
    · rename_i h1
      split
      · exact t
      · rename_i h2
        cases hf : freeOf rs with
        | none => exact t
        | some n =>
          dsimp only
          have hq : qgood q := Decidable.byContradiction fun h => h1 (.inl h)
          have hs : last < serial := by
            by_cases h : serial ≤ last
            · exact absurd (.inr (.inl h)) h1
            · omega
          exact t.create hp hq hs (Decidable.byContradiction fun h => h2 h) hf
end
end Go.Proofs.Ytffcilmllebdmaa
