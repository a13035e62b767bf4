/- Steps that leave the tree's shape. -/
import Derived.Test.YtffcilmllebdmaaM3
namespace Go.Proofs.Ytffcilmllebdmaa
open Go.Am
set_option linter.unusedVariables false
set_option linter.unusedSimpArgs false

theorem getr_set {rs : List (Option Rec)} {e : Int} (h0 : 0 ≤ e) (h1 : e < rs.length) (v : Option Rec) (k : Int) : getr (rs.set e.toNat v) k = if k = e then v else getr rs k := by
  unfold getr
  by_cases hk : 0 ≤ k
  · rw [if_pos hk, if_pos hk]
    by_cases hke : k = e
    · subst hke
      rw [if_pos rfl, List.getElem?_set_self (by omega)]; rfl
    · rw [if_neg hke, List.getElem?_set, if_neg (by omega)]
  · rw [if_neg hk, if_neg hk, if_neg (by omega)]

section
variable {rs : List (Option Rec)} {last : Int}

theorem TreeOk.setSame (t : TreeOk rs last) {e : Int} {r r' : Rec} (hr : getr rs e = some r) (hs : r'.serial = r.serial) (hp : r'.parent = r.parent) (hk : r'.kids = r.kids) (hw : r'.whole = r.whole) (hc : r'.carved = r.carved) (hok : RecOk r') : TreeOk (rs.set e.toNat (some r')) last := by
  have hl := getr_lt hr
  have hg : ∀ k, getr (rs.set e.toNat (some r')) k = if k = e then some r' else getr rs k := getr_set hl.1 hl.2 _
  -- each record there has a like one here
  have hb : ∀ k s', getr (rs.set e.toNat (some r')) k = some s' → ∃ s, getr rs k = some s ∧ s'.serial = s.serial ∧ s'.parent = s.parent ∧ s'.kids = s.kids ∧ s'.whole = s.whole ∧ s'.carved = s.carved ∧ RecOk s' := by
    intro k s' h
    rw [hg] at h
    split at h
    · rename_i hke
      cases h; subst hke
      exact ⟨r, hr, hs, hp, hk, hw, hc, hok⟩
    · exact ⟨s', h, rfl, rfl, rfl, rfl, rfl, t.ok k s' h⟩
  have hf : ∀ k s, getr rs k = some s → ∃ s', getr (rs.set e.toNat (some r')) k = some s' ∧ s'.serial = s.serial ∧ s'.parent = s.parent ∧ s'.kids = s.kids ∧ s'.whole = s.whole := by
    intro k s h
    rw [hg]
    by_cases hke : k = e
    · subst hke
      rw [hr] at h; cases h
      exact ⟨r', by rw [if_pos rfl], hs, hp, hk, hw⟩
    · exact ⟨s, by rw [if_neg hke]; exact h, rfl, rfl, rfl, rfl⟩
  have hser : ∀ k, serOf (rs.set e.toNat (some r')) k = serOf rs k := by
    intro k
    unfold serOf
    rw [hg]
    split
    · rename_i hke; subst hke; rw [hr]; exact hs
    · rfl
  have hwh : ∀ k, wholeOf (rs.set e.toNat (some r')) k = wholeOf rs k := by
    intro k
    unfold wholeOf
    rw [hg]
    split
    · rename_i hke; subst hke; rw [hr]; exact hw
    · rfl
  constructor
  · simpa using t.len
  · obtain ⟨r0, h1, h2⟩ := t.root
    obtain ⟨s', a, _, b, _⟩ := hf 0 r0 h1
    exact ⟨s', a, by rw [b]; exact h2⟩
  · intro k s' h
    obtain ⟨s, a, b, _⟩ := hb k s' h
    rw [b]; exact t.ser k s a
  · intro k s' h
    obtain ⟨s, a, b, c, d, e1, f, g⟩ := hb k s' h
    exact g
  · intro k s' h h0
    obtain ⟨s, a, b, c, d, e1, f, g⟩ := hb k s' h
    obtain ⟨p, h1, h2, h3⟩ := t.up k s a h0
    obtain ⟨p', i1, i2, i3, i4, i5⟩ := hf s.parent p h1
    exact ⟨p', by rw [c]; exact i1, by rw [i4]; exact h2, by rw [i2, b]; exact h3⟩
  · intro k s' j h hj
    obtain ⟨s, a, b, c, d, e1, f, g⟩ := hb k s' h
    rw [d] at hj
    obtain ⟨q, h1, h2, h3⟩ := t.kid k s j a hj
    obtain ⟨q', i1, i2, i3, i4, i5⟩ := hf j q h1
    exact ⟨q', i1, by rw [i3]; exact h2, h3⟩
  · intro k s' h
    obtain ⟨s, a, b, c, d, e1, f, g⟩ := hb k s' h
    rw [d]; exact t.nd k s a
  · intro k s' h
    obtain ⟨s, a, b, c, d, e1, f, g⟩ := hb k s' h
    rw [d]
    have := t.sorted k s a
    simpa only [hser] using this
  · intro k k' s' q' h h' hq
    obtain ⟨s, a, b, _⟩ := hb k s' h
    obtain ⟨q, a', b', _⟩ := hb k' q' h'
    exact t.dist k k' s q a a' (by rw [← b, ← b']; exact hq)
  · intro k s' h
    obtain ⟨s, a, b, c, d, e1, f, g⟩ := hb k s' h
    rw [f, d]
    simp only [hwh]
    exact t.carved k s a

/-- A step on one record that keeps what the tree hangs on. -/
def Mild (f : Rec → Int × Rec) : Prop := ∀ r, RecOk r → (f r).2.serial = r.serial ∧ (f r).2.parent = r.parent ∧ (f r).2.kids = r.kids ∧ (f r).2.whole = r.whole ∧ (f r).2.carved = r.carved ∧ RecOk (f r).2

theorem TreeOk.onRec (t : TreeOk rs last) {f : Rec → Int × Rec} (hf : Mild f) (e : Int) : TreeOk (Proofs.Ytffcilmllebdmaa.onRec rs e f).2 last := by
  unfold Proofs.Ytffcilmllebdmaa.onRec
  cases hr : getr rs e with
  | none => exact t
  | some r =>
    obtain ⟨h1, h2, h3, h4, h5, h6⟩ := hf r (t.ok e r hr)
    exact t.setSame hr h1 h2 h3 h4 h5 h6

theorem mild_of (f : Rec → Int × Rec) (h : ∀ r, (f r).2.serial = r.serial ∧ (f r).2.parent = r.parent ∧ (f r).2.kids = r.kids ∧ (f r).2.whole = r.whole ∧ (f r).2.carved = r.carved ∧ (f r).2.paid = r.paid) : Mild f := by
  intro r hr
  obtain ⟨h1, h2, h3, h4, h5, h6⟩ := h r
  refine ⟨h1, h2, h3, h4, h5, ?_⟩
  unfold RecOk at *
  rw [h4, h5, h6]; exact hr

theorem mild_bits (n : Int) : Mild fun r => if 0 ≤ n ∧ n ≤ 4294967295 then (0, { r with bits := n }) else (1, r) := mild_of _ fun r => by split <;> exact ⟨rfl, rfl, rfl, rfl, rfl, rfl⟩
theorem mild_regs (q : Rg) : Mild fun r => (0, { r with regs := q }) := mild_of _ fun r => ⟨rfl, rfl, rfl, rfl, rfl, rfl⟩
theorem mild_freeze (on : Bool) : Mild fun r => (0, { r with frozen := on }) := mild_of _ fun r => ⟨rfl, rfl, rfl, rfl, rfl, rfl⟩
theorem mild_wait : Mild fun r => (0, waitRec r) := mild_of _ fun r => by unfold waitRec; split <;> exact ⟨rfl, rfl, rfl, rfl, rfl, rfl⟩
theorem mild_state (s c : Int) : Mild (stateRec s c) := mild_of _ fun r => by unfold stateRec; split <;> exact ⟨rfl, rfl, rfl, rfl, rfl, rfl⟩
theorem mild_notify (n : Int) : Mild (notifyRec n) := mild_of _ fun r => by
  unfold notifyRec
  split
  · split <;> exact ⟨rfl, rfl, rfl, rfl, rfl, rfl⟩
  · exact ⟨rfl, rfl, rfl, rfl, rfl, rfl⟩
theorem mild_pay (q : Qt) : Mild (payRec q) := fun r hr => ⟨by unfold payRec; split <;> (try split) <;> rfl, by unfold payRec; split <;> (try split) <;> rfl, payRec_kids q r, by unfold payRec; split <;> (try split) <;> rfl, by unfold payRec; split <;> (try split) <;> rfl, hr.pay q⟩
theorem mild_refund (q : Qt) : Mild (refundRec q) := fun r hr => ⟨by unfold refundRec; split <;> rfl, by unfold refundRec; split <;> rfl, refundRec_kids q r, by unfold refundRec; split <;> rfl, by unfold refundRec; split <;> rfl, hr.refund q⟩
end
end Go.Proofs.Ytffcilmllebdmaa
