/- What the statements begin with is a tree; freezing. -/
import Derived.Test.YtffcilmllebdmaaM6
import Derived.Test.YtffcilmllebdmaaE17
namespace Go.Proofs.Ytffcilmllebdmaa
open Go.Am
set_option linter.unusedVariables false
set_option linter.unusedSimpArgs false

def rsNew (serial : Int) (q : Qt) : List (Option Rec) := some (newRec serial (-1) q) :: List.replicate 15 none

theorem getr_new {serial : Int} {q : Qt} {e : Int} {r : Rec} (h : getr (rsNew serial q) e = some r) : e = 0 ∧ r = newRec serial (-1) q := by
  unfold getr at h
  split at h
  · rename_i h0
    rcases Nat.eq_zero_or_pos e.toNat with h1 | h1
    · rw [h1] at h
      simp [rsNew] at h
      exact ⟨by omega, h.symm⟩
    · obtain ⟨m, hm⟩ : ∃ m, e.toNat = m + 1 := ⟨e.toNat - 1, by omega⟩
      rw [hm] at h
      simp only [rsNew, List.getElem?_cons_succ, List.getElem?_replicate] at h
      split at h <;> simp at h
  · cases h

theorem tree_new (serial : Int) (q : Qt) (hq : qgood q) : TreeOk (rsNew serial q) serial := by
  constructor
  · rfl
  · exact ⟨_, rfl, rfl⟩
  · intro e r h
    obtain ⟨_, rfl⟩ := getr_new h
    exact Int.le_refl _
  · intro e r h
    obtain ⟨_, rfl⟩ := getr_new h
    unfold RecOk newRec
    unfold qgood qle qadd at *; dsimp only at *; omega
  · intro e r h h0
    exact absurd (getr_new h).1 h0
  · intro e r k h hk
    obtain ⟨_, rfl⟩ := getr_new h
    simp [newRec] at hk
  · intro e r h
    obtain ⟨_, rfl⟩ := getr_new h
    simp [newRec]
  · intro e r h
    obtain ⟨_, rfl⟩ := getr_new h
    simp [newRec]
  · intro e e' r r' h h' _
    rw [(getr_new h).1, (getr_new h').1]
  · intro e r h
    obtain ⟨_, rfl⟩ := getr_new h
    rfl

theorem tree_B : TreeOk rsB 3 := by
  have h0 : TreeOk rs0 1 := tree_new 1 ⟨40, 24, 8⟩ (by decide)
  have h1 := h0.createF 0 2 ⟨20, 7, 3⟩
  rw [rsA_eq] at h1
  have h2 := TreeOk.createF (rs := rsA) (last := 2) h1 1 3 ⟨6, 2, 1⟩
  rw [rsB_eq] at h2
  exact h2

theorem lives_B : livesOf rsB = livesTo 3 := by rw [rsB_val]; rfl

theorem TreeOk.step {rs : List (Option Rec)} {last : Int} (t : TreeOk rs last) (o : Op) : TreeOk (stepF rs last o).1 (stepF rs last o).2 := by
  unfold stepF
  split
  · exact t.createF _ _ _
  split
  · exact t.destroyF _
  split
  · exact t.onRec (mild_pay _) _
  split
  · exact t.onRec (mild_refund _) _
  split
  · exact t.onRec (mild_regs _) _
  split
  · exact t.onRec (mild_state _ _) _
  split
  · exact t.onRec (mild_bits _) _
  split
  · exact t.onRec (mild_notify _) _
  split
  · exact t.onRec mild_wait _
  split
  · exact t.onRec (mild_freeze _) _
  · exact t

section
variable {rs : List (Option Rec)} {last : Int}

theorem flag_clear (t : TreeOk rs last) : ∀ (n : Nat) (e : Int) (r : Rec), getr rs e = some r → rs.countP (below r.serial) < n → flagF (n + 1) rs e = !clear n rs e
  | 0, e, r, _, h => by omega
  | n + 1, e, r, hr, h => by
    rw [flagF_some (getr_lt hr).1 hr, clear_succ hr]
    by_cases h0 : e = 0
    · obtain ⟨r0, h1, h2⟩ := t.root
      rw [h0, h1] at hr; cases hr
      rw [h2, flagF_neg (by omega)]
      have hn : getr rs (-1) = none := by unfold getr; rw [if_neg (by omega)]
      rw [(Up.none hn).1]
      cases r.frozen <;> rfl
    · obtain ⟨p, hp, _, hs⟩ := t.up e r hr h0
      have : rs.countP (below p.serial) < rs.countP (below r.serial) := countP_lt (fun x hx => by
        cases x with
        | none => simp [below] at hx
        | some y => simp [below] at hx ⊢; omega) ⟨some p, getr_mem hp, by simp [below, hs], by simp [below]⟩
      rw [flag_clear t n r.parent p hp (by omega)]
      cases r.frozen <;> simp

theorem flag16 (t : TreeOk rs last) {e : Int} {r : Rec} (hr : getr rs e = some r) : flagF 17 rs e = !clear 16 rs e :=
  flag_clear t 16 e r hr (by
    have : rs.countP (below r.serial) < rs.countP (fun _ => true) := countP_lt (fun _ _ => rfl) ⟨some r, getr_mem hr, rfl, by simp [below]⟩
    simp [t.len] at this
    exact this)

def froze (rs : List (Option Rec)) (e : Int) (on : Bool) : List (Option Rec) := (onRec rs e fun r => (0, { r with frozen := on })).2

theorem getr_froze (e : Int) (on : Bool) (k : Int) : getr (froze rs e on) k = if k = e then (getr rs k).map fun r => { r with frozen := on } else getr rs k := by
  unfold froze onRec
  cases hr : getr rs e with
  | none =>
    dsimp only
    split
    · rename_i h; rw [h, hr]; rfl
    · rfl
  | some r =>
    dsimp only
    have hl := getr_lt hr
    rw [getr_set hl.1 hl.2]
    split
    · rename_i h; rw [h, hr]; rfl
    · rfl

theorem clear_froze (e : Int) : ∀ (n : Nat) (k : Int), clear n (froze (froze rs e false) e true) k = (clear n (froze rs e false) k && !insideF n (froze (froze rs e false) e true) e k)
  | 0, k => rfl
  | n + 1, k => by
    cases hr : getr rs k with
    | none =>
      have h1 : getr (froze rs e false) k = none := by rw [getr_froze, hr]; split <;> rfl
      have h2 : getr (froze (froze rs e false) e true) k = none := by rw [getr_froze, h1]; split <;> rfl
      rw [(Up.none h1).1, (Up.none h2).1, (Up.none h2).2]; rfl
    | some r =>
      by_cases hk : k = e
      · have h1 : getr (froze rs e false) k = some { r with frozen := false } := by rw [getr_froze, if_pos hk, hr]; rfl
        have h2 : getr (froze (froze rs e false) e true) k = some { r with frozen := true } := by rw [getr_froze, if_pos hk, h1]; rfl
        rw [clear_succ h2, insideF_succ h2, hk]
        simp
      · have h1 : getr (froze rs e false) k = some r := by rw [getr_froze, if_neg hk, hr]
        have h2 : getr (froze (froze rs e false) e true) k = some r := by rw [getr_froze, if_neg hk, h1]
        rw [clear_succ h2, insideF_succ h2, clear_succ h1, clear_froze e n r.parent]
        simp [hk]
        cases r.frozen <;> simp

/-- Freezing e stops its tree and nothing else. -/
theorem runs_froze (e k : Int) : runsF (froze (froze rs e false) e true) k = (runsF (froze rs e false) k && !((getr (froze (froze rs e false) e true) e).isSome && insideF 16 (froze (froze rs e false) e true) e k)) := by
  cases he : getr rs e with
  | none =>
    have h1 : froze rs e false = rs := by unfold froze onRec; rw [he]
    have h2 : froze rs e true = rs := by unfold froze onRec; rw [he]
    rw [h1, h2, he]; simp
  | some r0 =>
    have hs : (getr (froze (froze rs e false) e true) e).isSome = true := by
      rw [getr_froze, if_pos rfl, getr_froze, if_pos rfl, he]; rfl
    rw [hs, Bool.true_and]
    cases hr : getr rs k with
    | none =>
      have h1 : getr (froze rs e false) k = none := by rw [getr_froze, hr]; split <;> rfl
      have h2 : getr (froze (froze rs e false) e true) k = none := by rw [getr_froze, h1]; split <;> rfl
      simp [runsF, h1, h2]
    | some r =>
      have h1 : ∃ a, getr (froze rs e false) k = some a ∧ a.state = r.state := by rw [getr_froze, hr]; split <;> exact ⟨_, rfl, rfl⟩
      obtain ⟨a, h1, ha⟩ := h1
      have h2 : ∃ b, getr (froze (froze rs e false) e true) k = some b ∧ b.state = r.state := by rw [getr_froze, h1]; split <;> exact ⟨_, rfl, ha⟩
      obtain ⟨b, h2, hb⟩ := h2
      simp only [runsF, h1, h2, ha, hb, clear_froze]
      rw [Bool.and_assoc]

theorem thaw_again (e : Int) : froze (froze (froze rs e false) e true) e false = froze rs e false := by
  unfold froze onRec
  cases he : getr rs e with
  | none => simp [he]
  | some r =>
    have hl := getr_lt he
    have g1 : getr (rs.set e.toNat (some { r with frozen := false })) e = some { r with frozen := false } := by rw [getr_set hl.1 hl.2, if_pos rfl]
    simp only [g1]
    have g2 : getr ((rs.set e.toNat (some { r with frozen := false })).set e.toNat (some { r with frozen := true })) e = some { r with frozen := true } := by rw [getr_set hl.1 (by simpa using hl.2), if_pos rfl]
    simp only [g2]
    simp

theorem TreeOk.froze (t : TreeOk rs last) (e : Int) (on : Bool) : TreeOk (Proofs.Ytffcilmllebdmaa.froze rs e on) last := t.onRec (mild_freeze on) e
end
end Go.Proofs.Ytffcilmllebdmaa
