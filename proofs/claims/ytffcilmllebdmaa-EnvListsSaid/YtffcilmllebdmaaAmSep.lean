/- A small separation logic over the model's heap: partial heaps, lists of assertions, what a world satisfies. -/
import Derived.Calls
namespace Go.Am

/-- A part of a heap. -/
abbrev Hp := Nat → Option Obj

def Hp.add (h g : Hp) : Hp := fun b => (h b).or (g b)
def Hp.none : Hp := fun _ => Option.none
def Disj (h g : Hp) : Prop := ∀ b, h b = Option.none ∨ g b = Option.none
def Hp.sub (h : Hp) (w : World) : Prop := ∀ b o, h b = some o → w.heap[b]? = some o

/-- What lies beside: a part of a heap, and the world's other sides. -/
structure Fr where
  hp : Hp
  os : Os
  out : Array (Nat × ByteArray)
def Fr.add (r : Hp) (g : Fr) : Fr := ⟨r.add g.hp, g.os, g.out⟩
def Fr.sub (g : Fr) (w : World) : Prop := g.hp.sub w ∧ w.os = g.os ∧ w.output = g.out

theorem Disj.symm {h g : Hp} (d : Disj h g) : Disj g h := fun b => (d b).symm
theorem Hp.add_comm {h g : Hp} (d : Disj h g) : h.add g = g.add h := by
  funext b; have := d b; unfold Hp.add; rcases this with e | e <;> rw [e] <;> simp
theorem Hp.add_assoc (a b c : Hp) : (a.add b).add c = a.add (b.add c) := by
  funext x; unfold Hp.add; cases a x <;> simp
theorem Hp.none_add (h : Hp) : Hp.none.add h = h := by funext b; simp [Hp.add, Hp.none]
theorem Hp.add_none (h : Hp) : h.add Hp.none = h := by funext b; simp [Hp.add, Hp.none]
theorem Disj.none_left (h : Hp) : Disj Hp.none h := fun _ => .inl rfl
theorem Disj.none_right (h : Hp) : Disj h Hp.none := fun _ => .inr rfl
theorem disj_add_left {a b c : Hp} : Disj (a.add b) c ↔ Disj a c ∧ Disj b c := by
  constructor
  · intro h
    refine ⟨fun x => ?_, fun x => ?_⟩ <;> rcases h x with e | e <;> simp_all [Hp.add]
  · rintro ⟨h1, h2⟩ x
    rcases h1 x with e | e <;> rcases h2 x with e' | e' <;> simp_all [Hp.add]
theorem disj_add_right {a b c : Hp} : Disj a (b.add c) ↔ Disj a b ∧ Disj a c :=
  ⟨fun h => ⟨(disj_add_left.1 h.symm).1.symm, (disj_add_left.1 h.symm).2.symm⟩, fun h => (disj_add_left.2 ⟨h.1.symm, h.2.symm⟩).symm⟩
theorem Hp.sub_add {h g : Hp} {w : World} (d : Disj h g) : (h.add g).sub w ↔ h.sub w ∧ g.sub w := by
  constructor
  · intro s
    refine ⟨fun b o e => s b o (by simp [Hp.add, e]), fun b o e => s b o ?_⟩
    rcases d b with e' | e'
    · simp [Hp.add, e, e']
    · rw [e'] at e; cases e
  · rintro ⟨s1, s2⟩ b o e
    unfold Hp.add at e
    cases hb : h b with
    | none => rw [hb] at e; simp at e; exact s2 b o e
    | some o' => rw [hb] at e; simp at e; exact s1 b o (by rw [hb, e])

/-- An assertion on a part of a heap. -/
abbrev HProp := Hp → Prop

/-- Just one block. -/
def blk (b : Nat) (o : Obj) : HProp := fun h => h = fun x => if x = b then some o else Option.none
/-- A fact, and no block. -/
def fact (p : Prop) : HProp := fun h => p ∧ h = Hp.none
/-- Just this part. -/
def just (g : Hp) : HProp := fun h => h = g

/-- Several assertions side by side. -/
def Star : List HProp → Hp → Prop
  | [], h => h = Hp.none
  | p :: ps, h => ∃ h1 h2, Disj h1 h2 ∧ h = h1.add h2 ∧ p h1 ∧ Star ps h2

/-- One assertion out of several. -/
def sep (l : List HProp) : HProp := Star l
/-- For some x. -/
def ex {α : Type} (p : α → HProp) : HProp := fun h => ∃ x, p x h

theorem star_cons_swap {p q : HProp} {l : List HProp} {h : Hp} (s : Star (p :: q :: l) h) : Star (q :: p :: l) h := by
  obtain ⟨h1, h2, d, rfl, hp, h3, h4, d', rfl, hq, hl⟩ := s
  have d1 := disj_add_right.1 d
  refine ⟨h3, h1.add h4, disj_add_right.2 ⟨d1.1.symm, d'⟩, ?_, hq, h1, h4, d1.2, rfl, hp, hl⟩
  rw [← Hp.add_assoc, Hp.add_comm d1.1, Hp.add_assoc]

theorem star_perm {l l' : List HProp} (hp : l.Perm l') : ∀ {h : Hp}, Star l h → Star l' h := by
  induction hp with
  | nil => exact fun s => s
  | cons x _ ih => rintro h ⟨h1, h2, d, e, a, b⟩; exact ⟨h1, h2, d, e, a, ih b⟩
  | swap x y l => exact fun s => star_cons_swap s
  | trans _ _ ih1 ih2 => exact fun s => ih2 (ih1 s)

theorem star_append {l l' : List HProp} {h : Hp} : Star (l ++ l') h ↔ ∃ h1 h2, Disj h1 h2 ∧ h = h1.add h2 ∧ Star l h1 ∧ Star l' h2 := by
  induction l generalizing h with
  | nil =>
    constructor
    · intro s; exact ⟨Hp.none, h, .none_left _, (Hp.none_add _).symm, rfl, s⟩
    · rintro ⟨h1, h2, _, rfl, rfl, s⟩; rw [Hp.none_add]; exact s
  | cons p l ih =>
    constructor
    · rintro ⟨h1, h2, d, rfl, hp, s⟩
      obtain ⟨h3, h4, d', rfl, s1, s2⟩ := ih.1 s
      have dd := disj_add_right.1 d
      exact ⟨h1.add h3, h4, disj_add_left.2 ⟨dd.2, d'⟩, (Hp.add_assoc _ _ _).symm, ⟨h1, h3, dd.1, rfl, hp, s1⟩, s2⟩
    · rintro ⟨h1, h2, d, rfl, ⟨h3, h4, d', rfl, hp, s1⟩, s2⟩
      have dd := disj_add_left.1 d
      exact ⟨h3, h4.add h2, disj_add_right.2 ⟨d', dd.1⟩, Hp.add_assoc _ _ _, hp, ih.2 ⟨h4, h2, dd.2, rfl, s1, s2⟩⟩

/-- The world holds what the list says, and beside it just the part g (and whatever else). -/
def Sat (H : List HProp) (g : Fr) (w : World) : Prop := ∃ h, Star H h ∧ Disj h g.hp ∧ h.sub w ∧ g.sub w

theorem Sat.perm {H H' : List HProp} {g : Fr} {w : World} (s : Sat H g w) (hp : H.Perm H') : Sat H' g w :=
  let ⟨h, a, b⟩ := s; ⟨h, star_perm hp a, b⟩

/-- Taking a part of what is held out of sight. -/
theorem Sat.split {H R : List HProp} {g : Fr} {w : World} (s : Sat (H ++ R) g w) : ∃ r, Star R r ∧ Disj r g.hp ∧ Sat H (Fr.add r g) w := by
  obtain ⟨h, a, d, s1, s2⟩ := s
  obtain ⟨h1, h2, d', rfl, a1, a2⟩ := star_append.1 a
  have dd := disj_add_left.1 d
  have ss := (Hp.sub_add d').1 s1
  exact ⟨h2, a2, dd.2, h1, a1, disj_add_right.2 ⟨d', dd.1⟩, ss.1, ⟨(Hp.sub_add dd.2).2 ⟨ss.2, s2.1⟩, s2.2⟩⟩

theorem Sat.join {H R : List HProp} {g : Fr} {r : Hp} {w : World} (a : Star R r) (d : Disj r g.hp) (s : Sat H (Fr.add r g) w) : Sat (H ++ R) g w := by
  obtain ⟨h, a1, d1, s1, s2⟩ := s
  have dd := disj_add_right.1 d1
  have ss := (Hp.sub_add d).1 s2.1
  exact ⟨h.add r, star_append.2 ⟨h, r, dd.1, rfl, a1, a⟩, disj_add_left.2 ⟨dd.2, d⟩, (Hp.sub_add dd.1).2 ⟨s1, ss.1⟩, ss.2, s2.2⟩

theorem Sat.tail {p : HProp} {H : List HProp} {g : Fr} {w : World} (s : Sat (p :: H) g w) : Sat H g w := by
  obtain ⟨h, ⟨h1, h2, d, rfl, _, a⟩, d', s1, s2⟩ := s
  exact ⟨h2, a, (disj_add_left.1 d').2, ((Hp.sub_add d).1 s1).2, s2⟩

theorem Sat.drop {H R : List HProp} {g : Fr} {w : World} (s : Sat (H ++ R) g w) : Sat H g w := by
  obtain ⟨h, a, d, s1, s2⟩ := s
  obtain ⟨h1, h2, d', rfl, a1, a2⟩ := star_append.1 a
  exact ⟨h1, a1, (disj_add_left.1 d).1, ((Hp.sub_add d').1 s1).1, s2⟩

/-- What one element says may be said otherwise. -/
theorem Sat.head {p q : HProp} {H : List HProp} {g : Fr} {w : World} (s : Sat (p :: H) g w) (pq : ∀ h, p h → q h) : Sat (q :: H) g w := by
  obtain ⟨h, ⟨h1, h2, d, rfl, a1, a⟩, r⟩ := s
  exact ⟨_, ⟨h1, h2, d, rfl, pq _ a1, a⟩, r⟩

theorem Sat.ex {α : Type} {p : α → HProp} {H : List HProp} {g : Fr} {w : World} (s : Sat (Am.ex p :: H) g w) : ∃ x, Sat (p x :: H) g w := by
  obtain ⟨h, ⟨h1, h2, d, rfl, ⟨x, a1⟩, a⟩, r⟩ := s
  exact ⟨x, _, ⟨h1, h2, d, rfl, a1, a⟩, r⟩

theorem Sat.unex {α : Type} {p : α → HProp} {H : List HProp} {g : Fr} {w : World} (x : α) (s : Sat (p x :: H) g w) : Sat (Am.ex p :: H) g w :=
  s.head fun _ a => ⟨x, a⟩

theorem Sat.fact {p : Prop} {H : List HProp} {g : Fr} {w : World} (s : Sat (Am.fact p :: H) g w) : p ∧ Sat H g w := by
  have t := s.tail
  obtain ⟨h, ⟨h1, h2, d, rfl, a1, a⟩, r⟩ := s
  exact ⟨a1.1, t⟩

theorem Sat.unfact {p : Prop} {H : List HProp} {g : Fr} {w : World} (hp : p) (s : Sat H g w) : Sat (Am.fact p :: H) g w := by
  obtain ⟨h, a, r⟩ := s
  exact ⟨h, ⟨Hp.none, h, .none_left _, (Hp.none_add _).symm, ⟨hp, rfl⟩, a⟩, r⟩

theorem Sat.sep {l : List HProp} {H : List HProp} {g : Fr} {w : World} : Sat (Am.sep l :: H) g w ↔ Sat (l ++ H) g w := by
  constructor
  · rintro ⟨h, ⟨h1, h2, d, rfl, a1, a⟩, r⟩
    exact ⟨_, star_append.2 ⟨h1, h2, d, rfl, a1, a⟩, r⟩
  · rintro ⟨h, a, r⟩
    obtain ⟨h1, h2, d, rfl, a1, a2⟩ := star_append.1 a
    exact ⟨_, ⟨h1, h2, d, rfl, a1, a2⟩, r⟩

/-! ### One block -/

theorem Sat.heap {b : Nat} {o : Obj} {H : List HProp} {g : Fr} {w : World} (s : Sat (blk b o :: H) g w) : w.heap[b]? = some o := by
  obtain ⟨h, ⟨h1, h2, d, rfl, rfl, a⟩, d', s1, s2⟩ := s
  exact s1 b o (by simp [Hp.add])

theorem Sat.cell {b : Nat} {c : Array Value} {T : TypeId} {f : Nat × Nat} {H : List HProp} {g : Fr} {w : World} (s : Sat (blk b (.cells c T f) :: H) g w) (i : Nat) :
    w.cell? ⟨b, i, .none⟩ = c[i]? := by
  have := s.heap
  simp [World.cell?, this]

theorem Sat.frozen {b : Nat} {c : Array Value} {T : TypeId} {H : List HProp} {g : Fr} {w : World} (s : Sat (blk b (.cells c T) :: H) g w) (i : Nat) :
    w.frozen? ⟨b, i, .none⟩ = false := by
  have := s.heap
  simp [World.frozen?, this]

theorem Sat.lt {b : Nat} {o : Obj} {H : List HProp} {g : Fr} {w : World} (s : Sat (blk b o :: H) g w) : b < w.heap.size := by
  have := s.heap
  by_cases h : b < w.heap.size
  · exact h
  · rw [Array.getElem?_eq_none (by omega)] at this; cases this

/-- The heap behind a change of block b alone. -/
theorem Sat.change {b : Nat} {o o' : Obj} {H : List HProp} {g : Fr} {w w' : World} (s : Sat (blk b o :: H) g w)
    (hb : w'.heap[b]? = some o') (hx : ∀ x, x ≠ b → w'.heap[x]? = w.heap[x]?) (ho : w'.os = w.os := by rfl) (hu : w'.output = w.output := by rfl) : Sat (blk b o' :: H) g w' := by
  obtain ⟨h, ⟨h1, h2, d, rfl, rfl, a⟩, d', s1, s2⟩ := s
  have dd := disj_add_left.1 d'
  have ss := (Hp.sub_add d).1 s1
  have nb : ∀ (k : Hp), Disj (fun x => if x = b then some o else .none) k → k b = .none := fun k dk => by
    rcases dk b with e | e
    · simp at e
    · exact e
  have dn : ∀ (k : Hp), Disj (fun x => if x = b then some o else .none) k → Disj (fun x => if x = b then some o' else .none) k := fun k dk x => by
    by_cases e : x = b
    · subst e; exact .inr (nb k dk)
    · exact .inl (by simp [e])
  have sn : ∀ (k : Hp), Disj (fun x => if x = b then some o else .none) k → k.sub w → k.sub w' := fun k dk sk x y e => by
    have : x ≠ b := fun e' => by subst e'; rw [nb k dk] at e; cases e
    rw [hx x this]; exact sk x y e
  refine ⟨_, ⟨fun x => if x = b then some o' else .none, h2, dn _ d, rfl, rfl, a⟩, disj_add_left.2 ⟨dn _ dd.1, dd.2⟩, ?_, sn _ dd.1 s2.1, ho.trans s2.2.1, hu.trans s2.2.2⟩
  refine (Hp.sub_add (dn _ d)).2 ⟨fun x y e => ?_, sn _ d ss.2⟩
  by_cases ex : x = b
  · subst ex; simp at e; rw [hb, e]
  · simp [ex] at e

theorem Sat.setCell {b : Nat} {c : Array Value} {T : TypeId} {f : Nat × Nat} {H : List HProp} {g : Fr} {w : World} (s : Sat (blk b (.cells c T f) :: H) g w) (i : Nat) (v : Value) :
    Sat (blk b (.cells (c.setIfInBounds i v) T f) :: H) g (w.setCell ⟨b, i, .none⟩ v) := by
  have hh := s.heap
  refine s.change ?_ fun x hx => ?_
  · simp [World.setCell, Array.getElem?_modify, hh]
  · simp [World.setCell, Array.getElem?_modify, Ne.symm hx]

theorem Sat.new {H : List HProp} {g : Fr} {w : World} (s : Sat H g w) (o : Obj) : Sat (blk w.heap.size o :: H) g { w with heap := w.heap.push o } := by
  obtain ⟨h, a, d, s1, s2⟩ := s
  have lt : ∀ (k : Hp), k.sub w → k w.heap.size = .none := fun k sk => by
    cases e : k w.heap.size with
    | none => rfl
    | some o' => have := sk _ _ e; simp at this
  have sn : ∀ (k : Hp), k.sub w → k.sub { w with heap := w.heap.push o } := fun k sk x y e => by
    have := sk x y e
    have hl : x < w.heap.size := by
      by_cases h : x < w.heap.size
      · exact h
      · rw [Array.getElem?_eq_none (by omega)] at this; cases this
    simp [Array.getElem?_push, Nat.ne_of_lt hl, this]
  have dn : ∀ (k : Hp), k.sub w → Disj (fun x => if x = w.heap.size then some o else .none) k := fun k sk x => by
    by_cases e : x = w.heap.size
    · subst e; exact .inr (lt k sk)
    · exact .inl (by simp [e])
  refine ⟨_, ⟨_, h, dn h s1, rfl, rfl, a⟩, disj_add_left.2 ⟨dn g.hp s2.1, d⟩, (Hp.sub_add (dn h s1)).2 ⟨fun x y e => ?_, sn h s1⟩, sn g.hp s2.1, s2.2⟩
  by_cases ex : x = w.heap.size
  · subst ex; simp at e; simp [e]
  · simp [ex] at e

/-- Only the heap matters. -/
theorem Sat.of_heap {H : List HProp} {g : Fr} {w w' : World} (s : Sat H g w) (e : w'.heap = w.heap) (ho : w'.os = w.os := by rfl) (hu : w'.output = w.output := by rfl) : Sat H g w' := by
  obtain ⟨h, a, d, s1, s2⟩ := s
  exact ⟨h, a, d, fun b o x => by rw [e]; exact s1 b o x, fun b o x => by rw [e]; exact s2.1 b o x, ho.trans s2.2.1, hu.trans s2.2.2⟩

theorem Sat.distinct {b b' : Nat} {o o' : Obj} {H : List HProp} {g : Fr} {w : World} (s : Sat (blk b o :: blk b' o' :: H) g w) : b ≠ b' := by
  rintro rfl
  obtain ⟨h, ⟨h1, h2, d, rfl, rfl, h3, h4, d2, rfl, rfl, a⟩, _⟩ := s
  have := d b
  simp [Hp.add] at this

/-- A part that is kept apart keeps what it says. -/
theorem Sat.keeps {H : List HProp} {g : Fr} {w : World} (s : Sat H g w) {b : Nat} {o : Obj} (h : g.hp b = some o) : w.heap[b]? = some o :=
  let ⟨_, _, _, _, s2⟩ := s; s2.1 b o h
theorem Sat.os {H : List HProp} {g : Fr} {w : World} (s : Sat H g w) : w.os = g.os ∧ w.output = g.out :=
  let ⟨_, _, _, _, s2⟩ := s; s2.2

end Go.Am
