/- The tree of environments, with no program in sight. -/
import Derived.Test.YtffcilmllebdmaaE13
namespace Go.Proofs.Ytffcilmllebdmaa
open Go.Am
set_option linter.unusedVariables false
set_option linter.unusedSimpArgs false

def serOf (rs : List (Option Rec)) (k : Int) : Int := (getr rs k).elim 0 (·.serial)
def wholeOf (rs : List (Option Rec)) (k : Int) : Qt := (getr rs k).elim ⟨0, 0, 0⟩ (·.whole)
def qsum : List Qt → Qt
  | [] => ⟨0, 0, 0⟩
  | q :: l => qadd q (qsum l)

structure TreeOk (rs : List (Option Rec)) (last : Int) : Prop where
  len : rs.length = 16
  root : ∃ r, getr rs 0 = some r ∧ r.parent = -1
  ser : ∀ e r, getr rs e = some r → r.serial ≤ last
  ok : ∀ e r, getr rs e = some r → RecOk r
  up : ∀ e r, getr rs e = some r → e ≠ 0 → ∃ p, getr rs r.parent = some p ∧ e ∈ p.kids ∧ p.serial < r.serial
  kid : ∀ e r k, getr rs e = some r → k ∈ r.kids → ∃ s, getr rs k = some s ∧ s.parent = e ∧ k ≠ 0
  nd : ∀ e r, getr rs e = some r → r.kids.Nodup
  sorted : ∀ e r, getr rs e = some r → r.kids.Pairwise fun a b => serOf rs a < serOf rs b
  dist : ∀ e e' r r', getr rs e = some r → getr rs e' = some r' → r.serial = r'.serial → e = e'
  carved : ∀ e r, getr rs e = some r → r.carved = qsum (r.kids.map fun k => qone (wholeOf rs k))

theorem getr_lt {rs : List (Option Rec)} {e : Int} {r : Rec} (h : getr rs e = some r) : 0 ≤ e ∧ e < rs.length := by
  unfold getr at h
  split at h
  · rename_i h0
    refine ⟨h0, ?_⟩
    by_cases h1 : e.toNat < rs.length
    · omega
    · rw [List.getElem?_eq_none (by omega)] at h; cases h
  · cases h

theorem getr_mem {rs : List (Option Rec)} {e : Int} {r : Rec} (h : getr rs e = some r) : some r ∈ rs := by
  unfold getr at h
  split at h
  · cases h2 : rs[e.toNat]? with
    | none => rw [h2] at h; cases h
    | some x => rw [h2] at h; simp at h; subst h; exact List.mem_of_getElem? h2
  · cases h

theorem countP_lt {α : Type} {p q : α → Bool} : ∀ {l : List α}, (∀ x, p x = true → q x = true) → (∃ x ∈ l, q x = true ∧ p x = false) → l.countP p < l.countP q
  | [], _, ⟨x, hx, _⟩ => by cases hx
  | a :: l, hpq, ⟨x, hx, h1, h2⟩ => by
    have hle : l.countP p ≤ l.countP q := List.countP_mono_left fun x _ h => hpq x h
    rcases List.mem_cons.1 hx with rfl | hx
    · simp [List.countP_cons, h1, h2]; omega
    · have := countP_lt (l := l) hpq ⟨x, hx, h1, h2⟩
      simp only [List.countP_cons]
      by_cases hp : p a = true
      · simp [hp, hpq a hp]; exact this
      · by_cases hq : q a = true
        · simp [hp, hq]; omega
        · simp [hp, hq]; exact this

def below (s : Int) (o : Option Rec) : Bool := o.any fun r => decide (r.serial < s)
def above (s : Int) (o : Option Rec) : Bool := o.any fun r => decide (s < r.serial)

theorem TreeOk.up_ok {rs : List (Option Rec)} {last : Int} (t : TreeOk rs last) : ∀ (n : Nat) (e : Int), (∀ r, getr rs e = some r → rs.countP (below r.serial) < n) → Up n rs e
  | 0, e, h => by
    cases hr : getr rs e with
    | none => simpa [Up] using hr
    | some r => exact absurd (h r hr) (by omega)
  | n + 1, e, h => by
    cases hr : getr rs e with
    | none => simp [Up, hr]
    | some r =>
      simp only [Up, hr]
      by_cases h0 : e = 0
      · obtain ⟨r0, h1, h2⟩ := t.root
        rw [h0, h1] at hr; cases hr
        rw [h2]
        refine t.up_ok n (-1) fun r hr => ?_
        have := (getr_lt hr).1; omega
      · obtain ⟨p, hp, _, hs⟩ := t.up e r hr h0
        refine t.up_ok n r.parent fun q hq => ?_
        rw [hp] at hq; cases hq
        have h1 := h r hr
        have : rs.countP (below p.serial) < rs.countP (below r.serial) := countP_lt (fun x hx => by
          cases x with
          | none => simp [below] at hx
          | some y => simp [below] at hx ⊢; omega) ⟨some p, getr_mem hp, by simp [below, hs], by simp [below]⟩
        omega

theorem TreeOk.up16 {rs : List (Option Rec)} {last : Int} (t : TreeOk rs last) (e : Int) : Up 16 rs e :=
  t.up_ok 16 e fun r hr => by
    have : rs.countP (below r.serial) < rs.countP (fun _ => true) := countP_lt (fun _ _ => rfl) ⟨some r, getr_mem hr, rfl, by simp [below]⟩
    simp [t.len] at this
    exact this

theorem TreeOk.deep_ok {rs : List (Option Rec)} {last : Int} (t : TreeOk rs last) : ∀ (n : Nat) (e : Int) (r : Rec), getr rs e = some r → rs.countP (above r.serial) < n → Deep n rs e
  | 0, e, r, _, h => by omega
  | n + 1, e, r, hr, h => by
    refine ⟨r, hr, fun k hk => ?_⟩
    obtain ⟨s, hs, hpar, hk0⟩ := t.kid e r k hr hk
    obtain ⟨p, hp, _, hlt⟩ := t.up k s hs hk0
    rw [hpar, hr] at hp; cases hp
    refine t.deep_ok n k s hs ?_
    have : rs.countP (above s.serial) < rs.countP (above r.serial) := countP_lt (fun x hx => by
      cases x with
      | none => simp [above] at hx
      | some y => simp [above] at hx ⊢; omega) ⟨some s, getr_mem hs, by simp [above, hlt], by simp [above]⟩
    omega

theorem TreeOk.deep16 {rs : List (Option Rec)} {last : Int} (t : TreeOk rs last) {e : Int} {r : Rec} (hr : getr rs e = some r) : Deep 16 rs e :=
  t.deep_ok 16 e r hr (by
    have : rs.countP (above r.serial) < rs.countP (fun _ => true) := countP_lt (fun _ _ => rfl) ⟨some r, getr_mem hr, rfl, by simp [above]⟩
    simp [t.len] at this
    exact this)
end Go.Proofs.Ytffcilmllebdmaa
