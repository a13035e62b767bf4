/- Who lies below whom. -/
import Derived.Test.YtffcilmllebdmaaM1
namespace Go.Proofs.Ytffcilmllebdmaa
open Go.Am
set_option linter.unusedVariables false
set_option linter.unusedSimpArgs false

/-- x is a or lies below it. -/
inductive Anc (rs : List (Option Rec)) (a : Int) : Int → Prop
  | refl : Anc rs a a
  | step {x : Int} {s : Rec} (h : getr rs x = some s) (hx : x ≠ 0) (t : Anc rs a s.parent) : Anc rs a x

theorem Anc.order {rs : List (Option Rec)} {a b x : Int} (h1 : Anc rs a x) (h2 : Anc rs b x) : Anc rs a b ∨ Anc rs b a := by
  induction h1 with
  | refl => exact .inr h2
  | step hg hx t ih =>
    cases h2 with
    | refl => exact .inl (.step hg hx t)
    | step hg' hx' t' =>
      rw [hg] at hg'; cases hg'
      exact ih t'

theorem Anc.trans {rs : List (Option Rec)} {a b x : Int} (h1 : Anc rs a b) (h2 : Anc rs b x) : Anc rs a x := by
  induction h2 with
  | refl => exact h1
  | step hg hx t ih => exact .step hg hx ih

section
variable {rs : List (Option Rec)} {last : Int}

theorem Anc.ser (t : TreeOk rs last) {a x : Int} {r s : Rec} (h : Anc rs a x) (hr : getr rs a = some r) (hs : getr rs x = some s) : a = x ∨ r.serial < s.serial := by
  induction h generalizing s with
  | refl => exact .inl rfl
  | @step x s' hg hx ht ih =>
    rw [hg] at hs; cases hs
    obtain ⟨p, hp, _, hlt⟩ := t.up x s' hg hx
    rcases ih hp with e | h
    · rw [← e, hr] at hp; cases hp; exact .inr hlt
    · exact .inr (by omega)

theorem Anc.live {a x : Int} (h : Anc rs a x) (ha : (getr rs a).isSome = true) : (getr rs x).isSome = true := by
  cases h with
  | refl => exact ha
  | step hg _ _ => rw [hg]; rfl

theorem pre_anc (t : TreeOk rs last) : ∀ (n : Nat) (e : Int) (x : Int), x ∈ pre n rs e → Anc rs e x
  | 0, e, x, h => by simp [pre] at h
  | n + 1, e, x, h => by
    simp only [pre] at h
    rcases List.mem_cons.1 h with rfl | h
    · exact .refl
    · cases hr : getr rs e with
      | none => rw [hr] at h; simp at h
      | some r =>
        rw [hr] at h
        simp only [List.mem_flatMap] at h
        obtain ⟨k, hk, hx⟩ := h
        obtain ⟨s, hs, hpar, hk0⟩ := t.kid e r k hr hk
        have := pre_anc t n k x hx
        exact Anc.trans (.step hs hk0 (by rw [hpar]; exact .refl)) this

theorem pre_self (n : Nat) (rs : List (Option Rec)) (e : Int) : e ∈ pre (n + 1) rs e := by simp [pre]

theorem anc_pre (t : TreeOk rs last) : ∀ (n : Nat) (e x : Int), Deep n rs e → Anc rs e x → x ∈ pre n rs e
  | 0, e, x, hd, _ => hd.elim
  | n + 1, e, x, hd, h => by
    obtain ⟨r, hr, hk⟩ := hd
    simp only [pre, hr]
    by_cases hex : x = e
    · subst hex; exact List.mem_cons_self ..
    · refine List.mem_cons_of_mem _ ?_
      have key : ∃ k ∈ r.kids, Anc rs k x := by
        induction h with
        | refl => exact absurd rfl hex
        | @step x s hg hx ht ih =>
          by_cases hp : s.parent = e
          · obtain ⟨p, hp1, hmem, _⟩ := t.up x s hg hx
            rw [hp, hr] at hp1; cases hp1
            exact ⟨x, hmem, .refl⟩
          · obtain ⟨k, hk1, hk2⟩ := ih hp
            exact ⟨k, hk1, .step hg hx hk2⟩
      obtain ⟨k, hk1, hk2⟩ := key
      exact List.mem_flatMap.2 ⟨k, hk1, anc_pre t n k x (hk k hk1) hk2⟩

/-- Two children of one are not below one another. -/
theorem apart (t : TreeOk rs last) {e k1 k2 : Int} {r : Rec} (hr : getr rs e = some r) (h1 : k1 ∈ r.kids) (h2 : k2 ∈ r.kids) (h : Anc rs k1 k2) : k1 = k2 := by
  cases h with
  | refl => rfl
  | step hg hx ht =>
    obtain ⟨s2, hs2, hp2, _⟩ := t.kid e r k2 hr h2
    rw [hs2] at hg; cases hg
    rw [hp2] at ht
    obtain ⟨s1, hs1, hp1, h10⟩ := t.kid e r k1 hr h1
    obtain ⟨p, hp, _, hlt⟩ := t.up k1 s1 hs1 h10
    rw [hp1, hr] at hp; cases hp
    rcases ht.ser t hs1 hr with e1 | h3
    · rw [e1, hr] at hs1; cases hs1; omega
    · omega

theorem not_above (t : TreeOk rs last) {e k : Int} {r : Rec} (hr : getr rs e = some r) (h1 : k ∈ r.kids) : ¬ Anc rs k e := by
  intro h
  obtain ⟨s1, hs1, hp1, h10⟩ := t.kid e r k hr h1
  obtain ⟨p, hp, _, hlt⟩ := t.up k s1 hs1 h10
  rw [hp1, hr] at hp; cases hp
  rcases h.ser t hs1 hr with e1 | h3
  · rw [e1, hr] at hs1; cases hs1; omega
  · omega

theorem nodup_flatMap {α β : Type} {f : α → List β} : ∀ {l : List α}, l.Nodup → (∀ a ∈ l, (f a).Nodup) → (∀ a ∈ l, ∀ b ∈ l, a ≠ b → ∀ x, x ∈ f a → x ∉ f b) → (l.flatMap f).Nodup
  | [], _, _, _ => by simp
  | a :: l, hn, h1, h2 => by
    have hn' := List.nodup_cons.1 hn
    rw [List.flatMap_cons, List.nodup_append]
    refine ⟨h1 a (List.mem_cons_self ..), nodup_flatMap hn'.2 (fun b hb => h1 b (List.mem_cons_of_mem _ hb)) (fun b hb c hc => h2 b (List.mem_cons_of_mem _ hb) c (List.mem_cons_of_mem _ hc)), ?_⟩
    intro x hx y hy hxy
    subst hxy
    obtain ⟨b, hb, hxb⟩ := List.mem_flatMap.1 hy
    exact h2 a (List.mem_cons_self ..) b (List.mem_cons_of_mem _ hb) (fun e => hn'.1 (e ▸ hb)) x hx hxb

theorem pre_nodup (t : TreeOk rs last) : ∀ (n : Nat) (e : Int), (pre n rs e).Nodup
  | 0, e => by simp [pre]
  | n + 1, e => by
    simp only [pre]
    cases hr : getr rs e with
    | none => simp
    | some r =>
      dsimp only
      refine List.nodup_cons.2 ⟨?_, nodup_flatMap (t.nd e r hr) (fun k _ => pre_nodup t n k) ?_⟩
      · intro h
        obtain ⟨k, hk, hx⟩ := List.mem_flatMap.1 h
        exact not_above t hr hk (pre_anc t n k e hx)
      · intro a ha b hb hab x hx hx'
        rcases (pre_anc t n a x hx).order (pre_anc t n b x hx') with h | h
        · exact hab (apart t hr ha hb h)
        · exact hab (apart t hr hb ha h).symm
end
end Go.Proofs.Ytffcilmllebdmaa
