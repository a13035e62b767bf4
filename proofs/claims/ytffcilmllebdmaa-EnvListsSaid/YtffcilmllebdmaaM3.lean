/- The tree of environments, with no program in sight. -/
import Derived.Test.YtffcilmllebdmaaE13
namespace Go.Proofs.Ytffcilmllebdmaa
open Go.Am
set_option linter.unusedVariables false
set_option linter.unusedSimpArgs false

def serOf (rs : List (Option Rec)) (k : Int) : Int := (getr rs k).elim 0 (·.serial)
def wholeOf (rs : List (Option Rec)) (k : Int) : Qt := (getr rs k).elim ⟨0, 0, 0⟩ (·.whole)
def qsum : List Qt → Qt
  | [] => ⟨0, 0, 0⟩
  | q :: l => qadd q (qsum l)

structure TreeOk (rs : List (Option Rec)) (last : Int) : Prop where
  len : rs.length = 16
  root : ∃ r, getr rs 0 = some r ∧ r.parent = -1
  ser : ∀ e r, getr rs e = some r → r.serial ≤ last
  ok : ∀ e r, getr rs e = some r → RecOk r
  up : ∀ e r, getr rs e = some r → e ≠ 0 → ∃ p, getr rs r.parent = some p ∧ e ∈ p.kids ∧ p.serial < r.serial
  kid : ∀ e r k, getr rs e = some r → k ∈ r.kids → ∃ s, getr rs k = some s ∧ s.parent = e ∧ k ≠ 0
  nd : ∀ e r, getr rs e = some r → r.kids.Nodup
  sorted : ∀ e r, getr rs e = some r → r.kids.Pairwise fun a b => serOf rs a < serOf rs b
  dist : ∀ e e' r r', getr rs e = some r → getr rs e' = some r' → r.serial = r'.serial → e = e'
  carved : ∀ e r, getr rs e = some r → r.carved = qsum (r.kids.map fun k => qone (wholeOf rs k))

theorem getr_lt {rs : List (Option Rec)} {e : Int} {r : Rec} (h : getr rs e = some r) : 0 ≤ e ∧ e < rs.length := by
  unfold getr at h
  split at h
  · rename_i h0
    refine ⟨h0, ?_⟩
    by_cases h1 : e.toNat < rs.length
    · omega
    · rw [List.getElem?_eq_none (by omega)] at h; cases h
  · cases h

theorem getr_mem {rs : List (Option Rec)} {e : Int} {r : Rec} (h : getr rs e = some r) : some r ∈ rs := by
  unfold getr at h
  split at h
  · cases h2 : rs[e.toNat]? with
    | none => rw [h2] at h; cases h
    | some x => rw [h2] at h; simp at h; subst h; exact List.mem_of_getElem? h2
  · cases h

theorem countP_lt {α : Type} {p q : α → Bool} : ∀ {l : List α}, (∀ x, p x = true → q x = true) → (∃ x ∈ l, q x = true ∧ p x = false) → l.countP p < l.countP q
  | [], _, ⟨x, hx, _⟩ => by cases hx
  | a :: l, hpq, ⟨x, hx, h1, h2⟩ => by
    have hle : l.countP p ≤ l.countP q := List.countP_mono_left fun x _ h => hpq x h
    rcases List.mem_cons.1 hx with rfl | hx
    · simp [List.countP_cons, h1, h2]; omega
    · have := countP_lt (l := l) hpq ⟨x, hx, h1, h2⟩
      simp only [List.countP_cons]
      by_cases hp : p a = true
      · simp [hp, hpq a hp]; exact this
      · by_cases hq : q a = true
        · simp [hp, hq]; omega
        · simp [hp, hq]; exact this

def below (s : Int) (o : Option Rec) : Bool := o.any fun r => decide (r.serial < s)
def above (s : Int) (o : Option Rec) : Bool := o.any fun r => decide (s < r.serial)

theorem TreeOk.up_ok {rs : List (Option Rec)} {last : Int} (t : TreeOk rs last) : ∀ (n : Nat) (e : Int), (∀ r, getr rs e = some r → rs.countP (below r.serial) < n) → Up n rs e
  | 0, e, h => by
    cases hr : getr rs e with
    | none => simpa [Up] using hr
    | some r => exact absurd (h r hr) (by omega)
  | n + 1, e, h => by
    cases hr : getr rs e with
    | none => simp [Up, hr]
    | some r =>
      simp only [Up, hr]
      by_cases h0 : e = 0
      · obtain ⟨r0, h1, h2⟩ := t.root
        rw [h0, h1] at hr; cases hr
        rw [h2]
        refine t.up_ok n (-1) fun r hr => ?_
        have := (getr_lt hr).1; omega
      · obtain ⟨p, hp, _, hs⟩ := t.up e r hr h0
        refine t.up_ok n r.parent fun q hq => ?_
        rw [hp] at hq; cases hq
        have h1 := h r hr
        have : rs.countP (below p.serial) < rs.countP (below r.serial) := countP_lt (fun x hx => by
          cases x with
          | none => simp [below] at hx
          | some y => simp [below] at hx ⊢; omega) ⟨some p, getr_mem hp, by simp [below, hs], by simp [below]⟩
        omega

theorem TreeOk.up16 {rs : List (Option Rec)} {last : Int} (t : TreeOk rs last) (e : Int) : Up 16 rs e :=
  t.up_ok 16 e fun r hr => by
    have : rs.countP (below r.serial) < rs.countP (fun _ => true) := countP_lt (fun _ _ => rfl) ⟨some r, getr_mem hr, rfl, by simp [below]⟩
    simp [t.len] at this
    exact this

theorem TreeOk.deep_ok {rs : List (Option Rec)} {last : Int} (t : TreeOk rs last) : ∀ (n : Nat) (e : Int) (r : Rec), getr rs e = some r → rs.countP (above r.serial) < n → Deep n rs e
  | 0, e, r, _, h => by omega
  | n + 1, e, r, hr, h => by
    refine ⟨r, hr, fun k hk => ?_⟩
    obtain ⟨s, hs, hpar, hk0⟩ := t.kid e r k hr hk
    obtain ⟨p, hp, _, hlt⟩ := t.up k s hs hk0
    rw [hpar, hr] at hp; cases hp
    refine t.deep_ok n k s hs ?_
    have : rs.countP (above s.serial) < rs.countP (above r.serial) := countP_lt (fun x hx => by
      cases x with
      | none => simp [above] at hx
      | some y => simp [above] at hx ⊢; omega) ⟨some s, getr_mem hs, by simp [above, hlt], by simp [above]⟩
    omega

theorem TreeOk.deep16 {rs : List (Option Rec)} {last : Int} (t : TreeOk rs last) {e : Int} {r : Rec} (hr : getr rs e = some r) : Deep 16 rs e :=
  t.deep_ok 16 e r hr (by
    have : rs.countP (above r.serial) < rs.countP (fun _ => true) := countP_lt (fun _ _ => rfl) ⟨some r, getr_mem hr, rfl, by simp [above]⟩
    simp [t.len] at this
    exact this)
end Go.Proofs.Ytffcilmllebdmaa

namespace Go.Proofs.Ytffcilmllebdmaa
open Go.Am
set_option linter.unusedVariables false
set_option linter.unusedSimpArgs false

/-- x is a or lies below it. -/
inductive Anc (rs : List (Option Rec)) (a : Int) : Int → Prop
  | refl : Anc rs a a
  | step {x : Int} {s : Rec} (h : getr rs x = some s) (hx : x ≠ 0) (t : Anc rs a s.parent) : Anc rs a x

theorem Anc.order {rs : List (Option Rec)} {a b x : Int} (h1 : Anc rs a x) (h2 : Anc rs b x) : Anc rs a b ∨ Anc rs b a := by
  induction h1 with
  | refl => exact .inr h2
  | step hg hx t ih =>
    cases h2 with
    | refl => exact .inl (.step hg hx t)
    | step hg' hx' t' =>
      rw [hg] at hg'; cases hg'
      exact ih t'

theorem Anc.trans {rs : List (Option Rec)} {a b x : Int} (h1 : Anc rs a b) (h2 : Anc rs b x) : Anc rs a x := by
  induction h2 with
  | refl => exact h1
  | step hg hx t ih => exact .step hg hx ih

section
variable {rs : List (Option Rec)} {last : Int}

theorem Anc.ser (t : TreeOk rs last) {a x : Int} {r s : Rec} (h : Anc rs a x) (hr : getr rs a = some r) (hs : getr rs x = some s) : a = x ∨ r.serial < s.serial := by
  induction h generalizing s with
  | refl => exact .inl rfl
  | @step x s' hg hx ht ih =>
    rw [hg] at hs; cases hs
    obtain ⟨p, hp, _, hlt⟩ := t.up x s' hg hx
    rcases ih hp with e | h
    · rw [← e, hr] at hp; cases hp; exact .inr hlt
    · exact .inr (by omega)

theorem Anc.live {a x : Int} (h : Anc rs a x) (ha : (getr rs a).isSome = true) : (getr rs x).isSome = true := by
  cases h with
  | refl => exact ha
  | step hg _ _ => rw [hg]; rfl

theorem pre_anc (t : TreeOk rs last) : ∀ (n : Nat) (e : Int) (x : Int), x ∈ pre n rs e → Anc rs e x
  | 0, e, x, h => by simp [pre] at h
  | n + 1, e, x, h => by
    simp only [pre] at h
    rcases List.mem_cons.1 h with rfl | h
    · exact .refl
    · cases hr : getr rs e with
      | none => rw [hr] at h; simp at h
      | some r =>
        rw [hr] at h
        simp only [List.mem_flatMap] at h
        obtain ⟨k, hk, hx⟩ := h
        obtain ⟨s, hs, hpar, hk0⟩ := t.kid e r k hr hk
        have := pre_anc t n k x hx
        exact Anc.trans (.step hs hk0 (by rw [hpar]; exact .refl)) this

theorem pre_self (n : Nat) (rs : List (Option Rec)) (e : Int) : e ∈ pre (n + 1) rs e := by simp [pre]

theorem anc_pre (t : TreeOk rs last) : ∀ (n : Nat) (e x : Int), Deep n rs e → Anc rs e x → x ∈ pre n rs e
  | 0, e, x, hd, _ => hd.elim
  | n + 1, e, x, hd, h => by
    obtain ⟨r, hr, hk⟩ := hd
    simp only [pre, hr]
    by_cases hex : x = e
    · subst hex; exact List.mem_cons_self ..
    · refine List.mem_cons_of_mem _ ?_
      have key : ∃ k ∈ r.kids, Anc rs k x := by
        induction h with
        | refl => exact absurd rfl hex
        | @step x s hg hx ht ih =>
          by_cases hp : s.parent = e
          · obtain ⟨p, hp1, hmem, _⟩ := t.up x s hg hx
            rw [hp, hr] at hp1; cases hp1
            exact ⟨x, hmem, .refl⟩
          · obtain ⟨k, hk1, hk2⟩ := ih hp
            exact ⟨k, hk1, .step hg hx hk2⟩
      obtain ⟨k, hk1, hk2⟩ := key
      exact List.mem_flatMap.2 ⟨k, hk1, anc_pre t n k x (hk k hk1) hk2⟩

/-- Two children of one are not below one another. -/
theorem apart (t : TreeOk rs last) {e k1 k2 : Int} {r : Rec} (hr : getr rs e = some r) (h1 : k1 ∈ r.kids) (h2 : k2 ∈ r.kids) (h : Anc rs k1 k2) : k1 = k2 := by
  cases h with
  | refl => rfl
  | step hg hx ht =>
    obtain ⟨s2, hs2, hp2, _⟩ := t.kid e r k2 hr h2
    rw [hs2] at hg; cases hg
    rw [hp2] at ht
    obtain ⟨s1, hs1, hp1, h10⟩ := t.kid e r k1 hr h1
    obtain ⟨p, hp, _, hlt⟩ := t.up k1 s1 hs1 h10
    rw [hp1, hr] at hp; cases hp
    rcases ht.ser t hs1 hr with e1 | h3
    · rw [e1, hr] at hs1; cases hs1; omega
    · omega

theorem not_above (t : TreeOk rs last) {e k : Int} {r : Rec} (hr : getr rs e = some r) (h1 : k ∈ r.kids) : ¬ Anc rs k e := by
  intro h
  obtain ⟨s1, hs1, hp1, h10⟩ := t.kid e r k hr h1
  obtain ⟨p, hp, _, hlt⟩ := t.up k s1 hs1 h10
  rw [hp1, hr] at hp; cases hp
  rcases h.ser t hs1 hr with e1 | h3
  · rw [e1, hr] at hs1; cases hs1; omega
  · omega

theorem nodup_flatMap {α β : Type} {f : α → List β} : ∀ {l : List α}, l.Nodup → (∀ a ∈ l, (f a).Nodup) → (∀ a ∈ l, ∀ b ∈ l, a ≠ b → ∀ x, x ∈ f a → x ∉ f b) → (l.flatMap f).Nodup
  | [], _, _, _ => by simp
  | a :: l, hn, h1, h2 => by
    have hn' := List.nodup_cons.1 hn
    rw [List.flatMap_cons, List.nodup_append]
    refine ⟨h1 a (List.mem_cons_self ..), nodup_flatMap hn'.2 (fun b hb => h1 b (List.mem_cons_of_mem _ hb)) (fun b hb c hc => h2 b (List.mem_cons_of_mem _ hb) c (List.mem_cons_of_mem _ hc)), ?_⟩
    intro x hx y hy hxy
    subst hxy
    obtain ⟨b, hb, hxb⟩ := List.mem_flatMap.1 hy
    exact h2 a (List.mem_cons_self ..) b (List.mem_cons_of_mem _ hb) (fun e => hn'.1 (e ▸ hb)) x hx hxb

theorem pre_nodup (t : TreeOk rs last) : ∀ (n : Nat) (e : Int), (pre n rs e).Nodup
  | 0, e => by simp [pre]
  | n + 1, e => by
    simp only [pre]
    cases hr : getr rs e with
    | none => simp
    | some r =>
      dsimp only
      refine List.nodup_cons.2 ⟨?_, nodup_flatMap (t.nd e r hr) (fun k _ => pre_nodup t n k) ?_⟩
      · intro h
        obtain ⟨k, hk, hx⟩ := List.mem_flatMap.1 h
        exact not_above t hr hk (pre_anc t n k e hx)
      · intro a ha b hb hab x hx hx'
        rcases (pre_anc t n a x hx).order (pre_anc t n b x hx') with h | h
        · exact hab (apart t hr ha hb h)
        · exact hab (apart t hr hb ha h).symm
end
end Go.Proofs.Ytffcilmllebdmaa

namespace Go.Proofs.Ytffcilmllebdmaa
open Go.Am
set_option linter.unusedVariables false
set_option linter.unusedSimpArgs false

theorem pigeon : ∀ (n : Nat) (l : List Int), l.Nodup → (∀ x ∈ l, 0 ≤ x ∧ x < n) → l.length ≤ n
  | 0, l, _, h => by
    cases l with
    | nil => simp
    | cons a l => have := h a (List.mem_cons_self ..); omega
  | n + 1, l, hn, h => by
    have h1 := pigeon n (l.erase (n : Int)) (hn.erase _) (fun x hx => by
      have hm := (hn.mem_erase_iff).1 hx
      have := h x hm.2
      omega)
    rw [List.length_erase] at h1
    split at h1 <;> omega

section
variable {rs : List (Option Rec)} {last : Int}

theorem TreeOk.kids16 (t : TreeOk rs last) {e : Int} {r : Rec} (hr : getr rs e = some r) : r.kids.length ≤ 16 :=
  pigeon 16 r.kids (t.nd e r hr) fun k hk => by
    obtain ⟨s, hs, _⟩ := t.kid e r k hr hk
    have := getr_lt hs
    rw [t.len] at this; exact this

theorem TreeOk.preLive (t : TreeOk rs last) {e : Int} {r : Rec} (hr : getr rs e = some r) : ∀ k ∈ pre 16 rs e, (getr rs k).isSome = true :=
  fun k hk => (pre_anc t 16 e k hk).live (by rw [hr]; rfl)

theorem TreeOk.pre16 (t : TreeOk rs last) {e : Int} {r : Rec} (hr : getr rs e = some r) : (pre 16 rs e).length ≤ 16 :=
  pigeon 16 _ (pre_nodup t 16 e) fun k hk => by
    obtain ⟨s, hs⟩ := Option.isSome_iff_exists.1 (t.preLive hr k hk)
    have := getr_lt hs
    rw [t.len] at this; exact this

theorem qsum_ge {l : List Qt} (h : ∀ q ∈ l, 0 ≤ q.f ∧ 0 ≤ q.e ∧ 0 ≤ q.x) : 0 ≤ (qsum l).f ∧ 0 ≤ (qsum l).e ∧ 0 ≤ (qsum l).x := by
  induction l with
  | nil => simp [qsum]
  | cons a l ih =>
    have h1 := h a (List.mem_cons_self ..)
    have h2 := ih fun q hq => h q (List.mem_cons_of_mem _ hq)
    simp only [qsum, qadd]; omega

theorem qsum_filter {f : Int → Qt} {e : Int} : ∀ {l : List Int}, l.Nodup → e ∈ l → qsum ((l.filter (· ≠ e)).map f) = qsub (qsum (l.map f)) (f e)
  | [], _, h => by cases h
  | a :: l, hn, h => by
    have hn' := List.nodup_cons.1 hn
    by_cases hae : a = e
    · subst hae
      have hf : (a :: l).filter (· ≠ a) = l := by
        rw [List.filter_cons_of_neg (by simp)]
        apply List.filter_eq_self.2
        intro x hx
        simp; intro e; exact hn'.1 (e ▸ hx)
      rw [hf]
      simp [qsum, qadd, qsub]
      cases hq : qsum (l.map f)
      simp; omega
    · have hm : e ∈ l := (List.mem_cons.1 h).resolve_left (fun h => hae h.symm)
      have ih := qsum_filter (f := f) hn'.2 hm
      rw [List.filter_cons_of_pos (by simpa using hae)]
      simp only [List.map_cons, qsum, ih, qadd, qsub]
      simp; omega

theorem qsum_mem {f : Int → Qt} {e : Int} {l : List Int} (hn : l.Nodup) (he : e ∈ l) (h : ∀ k ∈ l, 0 ≤ (f k).f ∧ 0 ≤ (f k).e ∧ 0 ≤ (f k).x) : qle (f e) (qsum (l.map f)) := by
  have h1 := qsum_filter (f := f) hn he
  have h2 := qsum_ge (l := (l.filter (· ≠ e)).map f) (by
    intro q hq
    obtain ⟨k, hk, rfl⟩ := List.mem_map.1 hq
    exact h k (List.mem_filter.1 hk).1)
  rw [h1] at h2
  simp only [qsub, qle] at *
  omega

theorem TreeOk.wholePos (t : TreeOk rs last) (k : Int) : 0 ≤ (qone (wholeOf rs k)).f ∧ 0 ≤ (qone (wholeOf rs k)).e ∧ 0 ≤ (qone (wholeOf rs k)).x := by
  unfold wholeOf
  cases hr : getr rs k with
  | none => simp [qone]
  | some r =>
    obtain ⟨h1, _⟩ := t.ok k r hr
    unfold qgood at h1
    simp only [Option.elim, qone]; omega

/-- A child's part lies within what its parent has carved. -/
theorem TreeOk.carvedLe (t : TreeOk rs last) {e : Int} {r p : Rec} (hr : getr rs e = some r) (h0 : e ≠ 0) (hp : getr rs r.parent = some p) : qle (qone r.whole) p.carved := by
  obtain ⟨p', hp', hm, _⟩ := t.up e r hr h0
  rw [hp] at hp'; cases hp'
  have := qsum_mem (f := fun k => qone (wholeOf rs k)) (t.nd _ p hp) hm (fun k _ => t.wholePos k)
  rw [t.carved _ p hp]
  simpa [wholeOf, hr] using this

theorem TreeOk.canEnd (t : TreeOk rs last) {e : Int} {r : Rec} (hr : getr rs e = some r) (h0 : e ≠ 0) : CanEnd rs e where
  kids := fun e r h => t.kids16 h
  deep := t.deep16 hr
  len := Nat.le_trans (t.pre16 hr) (by omega)
  nd := pre_nodup t 16 e
  live := t.preLive hr
  par := by
    intro r' hr' _
    rw [hr] at hr'; cases hr'
    obtain ⟨p, hp, hm, hs⟩ := t.up e r hr h0
    have hle := t.carvedLe hr h0 hp
    obtain ⟨_, _, h3, _⟩ := t.ok _ p hp
    obtain ⟨h4, _⟩ := t.ok _ r hr
    refine ⟨p, hp, ?_, ?_, ?_⟩
    · intro e1; rw [e1, hr] at hp; cases hp; omega
    · unfold qgood qle qone at *; refine ⟨?_, ?_, ?_⟩ <;> simp only [qsub, in64] <;> dsimp only at * <;> omega
    · unfold qgood at *; refine ⟨?_, ?_, ?_⟩ <;> simp only [qone, in64] <;> omega
end
end Go.Proofs.Ytffcilmllebdmaa
