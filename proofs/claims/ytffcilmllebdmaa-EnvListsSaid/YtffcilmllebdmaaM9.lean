/- The walk of 0 shows all that live, once. -/
import Derived.Test.YtffcilmllebdmaaM7
import Derived.Test.YtffcilmllebdmaaE24
namespace Go.Proofs.Ytffcilmllebdmaa
open Go.Am
set_option linter.unusedVariables false
set_option linter.unusedSimpArgs false

theorem flatMap_congr' {α β : Type} {f g : α → List β} : ∀ {l : List α}, (∀ a ∈ l, f a = g a) → l.flatMap f = l.flatMap g
  | [], _ => rfl
  | a :: l, h => by rw [List.flatMap_cons, List.flatMap_cons, h a (List.mem_cons_self ..), flatMap_congr' fun b hb => h b (List.mem_cons_of_mem _ hb)]

theorem pre_stable {rs : List (Option Rec)} : ∀ (n : Nat) (e : Int), Deep n rs e → pre (n + 1) rs e = pre n rs e
  | 0, e, h => h.elim
  | n + 1, e, ⟨r, hr, hk⟩ => by
    have h1 : pre (n + 1 + 1) rs e = e :: r.kids.flatMap (pre (n + 1) rs) := by simp only [pre, hr]
    have h2 : pre (n + 1) rs e = e :: r.kids.flatMap (pre n rs) := by simp only [pre, hr]
    rw [h1, h2, flatMap_congr' fun k hk' => pre_stable n k (hk k hk')]

theorem nodup_len_le : ∀ {l m : List Int}, l.Nodup → (∀ x ∈ l, x ∈ m) → l.length ≤ m.length
  | [], m, _, _ => Nat.zero_le _
  | x :: l, m, hn, h => by
    have hn' := List.nodup_cons.1 hn
    have hx := h x (List.mem_cons_self ..)
    have h1 := nodup_len_le (l := l) (m := m.erase x) hn'.2 fun y hy => by
      have : y ≠ x := fun e => hn'.1 (e ▸ hy)
      exact (List.mem_erase_of_ne this).2 (h y (List.mem_cons_of_mem _ hy))
    rw [List.length_erase_of_mem hx] at h1
    have := List.length_pos_of_mem hx
    simp only [List.length_cons]; omega

theorem countF_nodup : ∀ {l : List Int} {e : Int}, l.Nodup → countF l e = if e ∈ l then 1 else 0
  | [], e, _ => rfl
  | x :: l, e, hn => by
    have hn' := List.nodup_cons.1 hn
    have ih := countF_nodup (l := l) (e := e) hn'.2
    unfold countF at *
    rw [List.countP_cons, ih]
    by_cases hx : x = e
    · subst hx
      simp [hn'.1]
    · have : ¬ e = x := fun h => hx h.symm
      simp [hx, this]

section
variable {rs : List (Option Rec)} {last : Int}

theorem tree_cons (t : TreeOk rs last) {e : Int} {r : Rec} (hr : getr rs e = some r) : treeF rs e = e :: r.kids.flatMap (treeF rs) := by
  have h1 : pre 16 rs e = e :: r.kids.flatMap (pre 15 rs) := by simp only [pre, hr]
  obtain ⟨r', hr', hk⟩ := t.deep16 hr
  rw [hr] at hr'; cases hr'
  have h2 : treeF rs e = pre 16 rs e := by simp only [treeF, hr]
  rw [h2, h1]
  congr 1
  refine flatMap_congr' fun k hk' => ?_
  obtain ⟨s, hs, _⟩ := t.kid e r k hr hk'
  simp only [treeF, hs]
  exact (pre_stable 15 k (hk k hk')).symm

theorem inside_anc (t : TreeOk rs last) (root : Int) : ∀ (n : Nat) (x : Int) (s : Rec), getr rs x = some s → rs.countP (below s.serial) < n → (insideF n rs root x = true ↔ Anc rs root x)
  | 0, x, s, _, h => by omega
  | n + 1, x, s, hs, h => by
    rw [insideF_succ hs]
    by_cases hx : x = root
    · subst hx; simp; exact .refl
    · rw [decide_eq_false hx, Bool.false_or]
      by_cases h0 : x = 0
      · obtain ⟨r0, h1, h2⟩ := t.root
        rw [h0, h1] at hs; cases hs
        have hn : getr rs (-1) = none := by unfold getr; rw [if_neg (by omega)]
        rw [h2, (Up.none hn).2]
        constructor
        · intro h; cases h
        · intro h
          cases h with
          | refl => exact absurd rfl hx
          | step _ hx' _ => exact absurd h0 hx'
      · obtain ⟨p, hp, _, hlt⟩ := t.up x s hs h0
        have hlt2 : rs.countP (below p.serial) < rs.countP (below s.serial) := countP_lt (fun y hy => by
          cases y with
          | none => simp [below] at hy
          | some z => simp [below] at hy ⊢; omega) ⟨some p, getr_mem hp, by simp [below, hlt], by simp [below]⟩
        rw [inside_anc t root n s.parent p hp (by omega)]
        constructor
        · intro h; exact .step hs h0 h
        · intro h
          cases h with
          | refl => exact absurd rfl hx
          | step hg _ ht => rw [hs] at hg; cases hg; exact ht

theorem inside16 (t : TreeOk rs last) (root : Int) {x : Int} {s : Rec} (hs : getr rs x = some s) : insideF 16 rs root x = true ↔ Anc rs root x :=
  inside_anc t root 16 x s hs (by
    have : rs.countP (below s.serial) < rs.countP (fun _ => true) := countP_lt (fun _ _ => rfl) ⟨some s, getr_mem hs, rfl, by simp [below]⟩
    simp [t.len] at this
    exact this)

theorem root_all (t : TreeOk rs last) : ∀ (n : Nat) (x : Int) (s : Rec), getr rs x = some s → rs.countP (below s.serial) < n → Anc rs 0 x
  | 0, x, s, _, h => by omega
  | n + 1, x, s, hs, h => by
    by_cases h0 : x = 0
    · subst h0; exact .refl
    · obtain ⟨p, hp, _, hlt⟩ := t.up x s hs h0
      have hlt2 : rs.countP (below p.serial) < rs.countP (below s.serial) := countP_lt (fun y hy => by
        cases y with
        | none => simp [below] at hy
        | some z => simp [below] at hy ⊢; omega) ⟨some p, getr_mem hp, by simp [below, hlt], by simp [below]⟩
      exact .step hs h0 (root_all t n s.parent p hp (by omega))

theorem mem_tree0 (t : TreeOk rs last) (x : Int) : x ∈ treeF rs 0 ↔ (getr rs x).isSome = true := by
  obtain ⟨r0, h1, h2⟩ := t.root
  have h3 : treeF rs 0 = pre 16 rs 0 := by simp only [treeF, h1]
  rw [h3, mem_pre t h1]
  constructor
  · intro h; exact h.live (by rw [h1]; rfl)
  · intro h
    obtain ⟨s, hs⟩ := Option.isSome_iff_exists.1 h
    exact root_all t _ x s hs (Nat.lt_succ_self _)

theorem tree_nodup (t : TreeOk rs last) (e : Int) : (treeF rs e).Nodup := by
  unfold treeF
  cases getr rs e with
  | none => simp
  | some r => exact pre_nodup t 16 e

theorem tree_len (t : TreeOk rs last) (e : Int) : (treeF rs e).length ≤ 16 := by
  cases hr : getr rs e with
  | none => simp [treeF, hr]
  | some r => simp only [treeF, hr]; exact t.pre16 hr

theorem mem_liveTo {ps : List (Option Nat)} (h : Alike ps rs) (hl : rs.length = 16) (x : Int) : x ∈ liveTo ps 16 ↔ (getr rs x).isSome = true := by
  unfold liveTo
  rw [List.mem_map]
  constructor
  · rintro ⟨j, hj, rfl⟩
    rw [← h.getp]
    exact (List.mem_filter.1 hj).2
  · intro hx
    obtain ⟨s, hs⟩ := Option.isSome_iff_exists.1 hx
    have hlt := getr_lt hs
    refine ⟨x.toNat, List.mem_filter.2 ⟨by simp; omega, ?_⟩, by omega⟩
    rw [h.getp, show ((x.toNat : Nat) : Int) = x by omega]
    exact hx

theorem liveTo_nodup (ps : List (Option Nat)) (i : Nat) : (liveTo ps i).Nodup := by
  unfold liveTo
  refine List.Pairwise.map _ (fun a b hab => ?_) (List.Pairwise.filter _ List.nodup_range)
  intro h
  exact hab (by omega)

theorem live_tree_len {ps : List (Option Nat)} (t : TreeOk rs last) (h : Alike ps rs) : (treeF rs 0).length = (liveTo ps 16).length := by
  apply Nat.le_antisymm
  · exact nodup_len_le (tree_nodup t 0) fun x hx => (mem_liveTo h t.len x).2 ((mem_tree0 t x).1 hx)
  · exact nodup_len_le (liveTo_nodup ps 16) fun x hx => (mem_tree0 t x).2 ((mem_liveTo h t.len x).1 hx)

theorem liveTo_split (ps : List (Option Nat)) : ∀ (n i : Nat), ∃ m, liveTo ps (i + n) = liveTo ps i ++ m
  | 0, i => ⟨[], by simp⟩
  | n + 1, i => by
    obtain ⟨m, hm⟩ := liveTo_split ps n i
    cases hp : getp ps ((i + n : Nat) : Int) with
    | none => exact ⟨m, by rw [show i + (n + 1) = i + n + 1 by omega, ← liveTo_skip hp, hm]⟩
    | some b => exact ⟨m ++ [((i + n : Nat) : Int)], by rw [show i + (n + 1) = i + n + 1 by omega, liveTo_take hp, hm, List.append_assoc]⟩

theorem liveTo_at {ps : List (Option Nat)} {e : Nat} {b : Nat} (he : e < 16) (hp : getp ps e = some b) : (liveTo ps 16)[(liveTo ps e).length]? = some (e : Int) := by
  obtain ⟨m, hm⟩ := liveTo_split ps (16 - (e + 1)) (e + 1)
  rw [show e + 1 + (16 - (e + 1)) = 16 by omega, liveTo_take hp] at hm
  rw [hm, List.append_assoc, List.getElem?_append_right (Nat.le_refl _)]
  simp

/-- The walk of e, part by part. -/
theorem tree_at (t : TreeOk rs last) {e : Int} {r : Rec} (hr : getr rs e = some r) {i : Nat} (hi : i < r.kids.length) : (treeF rs e).length = 1 + ((r.kids.take i).flatMap (treeF rs)).length + (treeF rs r.kids[i]).length + ((r.kids.drop (i + 1)).flatMap (treeF rs)).length ∧
    ∀ j, j < (treeF rs r.kids[i]).length → (treeF rs e)[1 + ((r.kids.take i).flatMap (treeF rs)).length + j]? = (treeF rs r.kids[i])[j]? := by
  have h1 : r.kids = r.kids.take i ++ r.kids[i] :: r.kids.drop (i + 1) := by rw [List.getElem_cons_drop, List.take_append_drop]
  have h2 : r.kids.flatMap (treeF rs) = (r.kids.take i).flatMap (treeF rs) ++ (treeF rs r.kids[i] ++ (r.kids.drop (i + 1)).flatMap (treeF rs)) := by
    conv => lhs; rw [h1]
    rw [List.flatMap_append, List.flatMap_cons]
  rw [tree_cons t hr, h2]
  refine ⟨by simp only [List.length_cons, List.length_append]; omega, fun j hj => ?_⟩
  rw [show 1 + ((r.kids.take i).flatMap (treeF rs)).length + j = ((r.kids.take i).flatMap (treeF rs)).length + j + 1 by omega, List.getElem?_cons_succ, List.getElem?_append_right (by omega), Nat.add_sub_cancel_left, List.getElem?_append_left hj]

theorem mem_tree (t : TreeOk rs last) {e : Int} {r : Rec} (hr : getr rs e = some r) (x : Int) : x ∈ treeF rs e ↔ Anc rs e x := by
  simp only [treeF, hr]; exact mem_pre t hr x

/-- What lies in a child's tree lies inside, and e not inside of it. -/
theorem kid_inside (t : TreeOk rs last) {e k x : Int} {r : Rec} (hr : getr rs e = some r) (hk : k ∈ r.kids) (hx : x ∈ treeF rs k) :
    (getr rs x).isSome = true ∧ insideF 16 rs e x = true ∧ insideF 16 rs x e = false := by
  obtain ⟨s, hs, hp, hk0⟩ := t.kid e r k hr hk
  have ha := (mem_tree t hs x).1 hx
  have hl : (getr rs x).isSome = true := ha.live (by rw [hs]; rfl)
  obtain ⟨y, hy⟩ := Option.isSome_iff_exists.1 hl
  have hek : Anc rs e k := .step hs hk0 (by rw [hp]; exact .refl)
  have hex := hek.trans ha
  refine ⟨hl, (inside16 t e hy).2 hex, ?_⟩
  cases hin : insideF 16 rs x e with
  | false => rfl
  | true =>
    have hxe := (inside16 t x hr).1 hin
    exact absurd (ha.trans hxe) (not_above t hr hk)

/-- The children's serials rise, above the parent's. -/
theorem kid_serial (t : TreeOk rs last) {e : Int} {r : Rec} (hr : getr rs e = some r) {i : Nat} (hi : i < r.kids.length) : ∃ s, getr rs r.kids[i] = some s ∧ s.parent = e ∧
    (if h : i = 0 then r.serial else serOf rs (r.kids[i - 1]'(by omega))) < s.serial ∧ serOf rs r.kids[i] = s.serial := by
  obtain ⟨s, hs, hp, hk0⟩ := t.kid e r r.kids[i] hr (List.getElem_mem hi)
  refine ⟨s, hs, hp, ?_, by unfold serOf; rw [hs]; rfl⟩
  split
  · obtain ⟨p, hp', _, hlt⟩ := t.up _ s hs hk0
    rw [hp, hr] at hp'; cases hp'; exact hlt
  · have h2 := List.pairwise_iff_getElem.1 (t.sorted e r hr) (i - 1) i (by omega) hi (by omega)
    have h3 : serOf rs r.kids[i] = s.serial := by unfold serOf; rw [hs]; rfl
    rw [h3] at h2; exact h2
end
end Go.Proofs.Ytffcilmllebdmaa
