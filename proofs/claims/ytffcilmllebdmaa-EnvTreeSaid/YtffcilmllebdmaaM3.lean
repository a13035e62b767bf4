/- What a step keeps. -/
import Derived.Test.YtffcilmllebdmaaM2
namespace Go.Proofs.Ytffcilmllebdmaa
open Go.Am
set_option linter.unusedVariables false
set_option linter.unusedSimpArgs false

theorem pigeon : ∀ (n : Nat) (l : List Int), l.Nodup → (∀ x ∈ l, 0 ≤ x ∧ x < n) → l.length ≤ n
  | 0, l, _, h => by
    cases l with
    | nil => simp
    | cons a l => have := h a (List.mem_cons_self ..); omega
  | n + 1, l, hn, h => by
    have h1 := pigeon n (l.erase (n : Int)) (hn.erase _) (fun x hx => by
      have hm := (hn.mem_erase_iff).1 hx
      have := h x hm.2
      omega)
    rw [List.length_erase] at h1
    split at h1 <;> omega

section
variable {rs : List (Option Rec)} {last : Int}

theorem TreeOk.kids16 (t : TreeOk rs last) {e : Int} {r : Rec} (hr : getr rs e = some r) : r.kids.length ≤ 16 :=
  pigeon 16 r.kids (t.nd e r hr) fun k hk => by
    obtain ⟨s, hs, _⟩ := t.kid e r k hr hk
    have := getr_lt hs
    rw [t.len] at this; exact this

theorem TreeOk.preLive (t : TreeOk rs last) {e : Int} {r : Rec} (hr : getr rs e = some r) : ∀ k ∈ pre 16 rs e, (getr rs k).isSome = true :=
  fun k hk => (pre_anc t 16 e k hk).live (by rw [hr]; rfl)

theorem TreeOk.pre16 (t : TreeOk rs last) {e : Int} {r : Rec} (hr : getr rs e = some r) : (pre 16 rs e).length ≤ 16 :=
  pigeon 16 _ (pre_nodup t 16 e) fun k hk => by
    obtain ⟨s, hs⟩ := Option.isSome_iff_exists.1 (t.preLive hr k hk)
    have := getr_lt hs
    rw [t.len] at this; exact this

theorem qsum_ge {l : List Qt} (h : ∀ q ∈ l, 0 ≤ q.f ∧ 0 ≤ q.e ∧ 0 ≤ q.x) : 0 ≤ (qsum l).f ∧ 0 ≤ (qsum l).e ∧ 0 ≤ (qsum l).x := by
  induction l with
  | nil => simp [qsum]
  | cons a l ih =>
    have h1 := h a (List.mem_cons_self ..)
    have h2 := ih fun q hq => h q (List.mem_cons_of_mem _ hq)
    simp only [qsum, qadd]; omega

theorem qsum_filter {f : Int → Qt} {e : Int} : ∀ {l : List Int}, l.Nodup → e ∈ l → qsum ((l.filter (· ≠ e)).map f) = qsub (qsum (l.map f)) (f e)
  | [], _, h => by cases h
  | a :: l, hn, h => by
    have hn' := List.nodup_cons.1 hn
    by_cases hae : a = e
    · subst hae
      have hf : (a :: l).filter (· ≠ a) = l := by
        rw [List.filter_cons_of_neg (by simp)]
        apply List.filter_eq_self.2
        intro x hx
        simp; intro e; exact hn'.1 (e ▸ hx)
      rw [hf]
      simp [qsum, qadd, qsub]
      cases hq : qsum (l.map f)
      simp; omega
    · have hm : e ∈ l := (List.mem_cons.1 h).resolve_left (fun h => hae h.symm)
      have ih := qsum_filter (f := f) hn'.2 hm
      rw [List.filter_cons_of_pos (by simpa using hae)]
      simp only [List.map_cons, qsum, ih, qadd, qsub]
      simp; omega

theorem qsum_mem {f : Int → Qt} {e : Int} {l : List Int} (hn : l.Nodup) (he : e ∈ l) (h : ∀ k ∈ l, 0 ≤ (f k).f ∧ 0 ≤ (f k).e ∧ 0 ≤ (f k).x) : qle (f e) (qsum (l.map f)) := by
  have h1 := qsum_filter (f := f) hn he
  have h2 := qsum_ge (l := (l.filter (· ≠ e)).map f) (by
    intro q hq
    obtain ⟨k, hk, rfl⟩ := List.mem_map.1 hq
    exact h k (List.mem_filter.1 hk).1)
  rw [h1] at h2
  simp only [qsub, qle] at *
  omega

theorem TreeOk.wholePos (t : TreeOk rs last) (k : Int) : 0 ≤ (qone (wholeOf rs k)).f ∧ 0 ≤ (qone (wholeOf rs k)).e ∧ 0 ≤ (qone (wholeOf rs k)).x := by
  unfold wholeOf
  cases hr : getr rs k with
  | none => simp [qone]
  | some r =>
    obtain ⟨h1, _⟩ := t.ok k r hr
    unfold qgood at h1
    simp only [Option.elim, qone]; omega

/-- A child's part lies within what its parent has carved. -/
theorem TreeOk.carvedLe (t : TreeOk rs last) {e : Int} {r p : Rec} (hr : getr rs e = some r) (h0 : e ≠ 0) (hp : getr rs r.parent = some p) : qle (qone r.whole) p.carved := by
  obtain ⟨p', hp', hm, _⟩ := t.up e r hr h0
  rw [hp] at hp'; cases hp'
  have := qsum_mem (f := fun k => qone (wholeOf rs k)) (t.nd _ p hp) hm (fun k _ => t.wholePos k)
  rw [t.carved _ p hp]
  simpa [wholeOf, hr] using this

theorem TreeOk.canEnd (t : TreeOk rs last) {e : Int} {r : Rec} (hr : getr rs e = some r) (h0 : e ≠ 0) : CanEnd rs e where
  kids := fun e r h => t.kids16 h
  deep := t.deep16 hr
  len := Nat.le_trans (t.pre16 hr) (by omega)
  nd := pre_nodup t 16 e
  live := t.preLive hr
  par := by
    intro r' hr' _
    rw [hr] at hr'; cases hr'
    obtain ⟨p, hp, hm, hs⟩ := t.up e r hr h0
    have hle := t.carvedLe hr h0 hp
    obtain ⟨_, _, h3, _⟩ := t.ok _ p hp
    obtain ⟨h4, _⟩ := t.ok _ r hr
    refine ⟨p, hp, ?_, ?_, ?_⟩
    · intro e1; rw [e1, hr] at hp; cases hp; omega
    · unfold qgood qle qone at *; refine ⟨?_, ?_, ?_⟩ <;> simp only [qsub, in64] <;> dsimp only at * <;> omega
    · unfold qgood at *; refine ⟨?_, ?_, ?_⟩ <;> simp only [qone, in64] <;> omega
end
end Go.Proofs.Ytffcilmllebdmaa
