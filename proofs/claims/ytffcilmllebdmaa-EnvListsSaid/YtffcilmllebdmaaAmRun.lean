/- What a frame comes to, told with a known part of its temporaries and a separated part of the heap: the judgements and their rules. -/
import Derived.Test.YtffcilmllebdmaaAmSep
import Derived.OwnWalk
namespace Go.Am

theorem nat_beq_ne {a b : Nat} (h : a ≠ b) : Nat.beq a b = false := by
  cases e : Nat.beq a b with
  | false => rfl
  | true => exact absurd (Nat.eq_of_beq_eq_true e) h

/-! ### The temporaries that are known -/

abbrev Env := List (Nat × Value)

def Env.get : Env → Nat → Option Value
  | [], _ => none
  | (k, v) :: r, t => bif Nat.beq k t then some v else Env.get r t

structure Knows (n : Nat) (e : Env) (tmps : Array Value) : Prop where
  size : tmps.size = n
  at_ : ∀ t v, e.get t = some v → tmps[t]? = some v

theorem Knows.put {n : Nat} {e : Env} {tmps : Array Value} (k : Knows n e tmps) {d : Nat} (hd : Nat.blt d n = true) (v : Value) :
    Knows n ((d, v) :: e) (tmps.setIfInBounds d v) := by
  have hd : d < n := by simpa [Nat.blt_eq] using hd
  refine ⟨by simp [k.size], fun t x h => ?_⟩
  simp only [Env.get] at h
  by_cases e' : d = t
  · subst e'
    simp at h
    simp [k.size, hd, h]
  · simp [nat_beq_ne e', e'] at h
    rw [Array.getElem?_setIfInBounds_ne e']
    exact k.at_ t x h

/-- Knowing less. -/
def Env.le (e e' : Env) : Prop := ∀ t v, e.get t = some v → e'.get t = some v

theorem Knows.le {n : Nat} {e e' : Env} {tmps : Array Value} (k : Knows n e' tmps) (h : e.le e') : Knows n e tmps :=
  ⟨k.size, fun t v x => k.at_ t v (h t v x)⟩

theorem Env.le_nil (e : Env) : Env.le [] e := fun _ _ h => by cases h
theorem Env.le_cons {e e' : Env} {t : Nat} {v : Value} (h : e'.get t = some v) (r : Env.le e e') : Env.le ((t, v) :: e) e' := by
  intro t' v' h'
  simp only [Env.get] at h'
  by_cases e1 : t = t'
  · subst e1; simp at h'; rw [h, h']
  · simp [nat_beq_ne e1] at h'; exact r _ _ h'
theorem Env.le_refl (e : Env) : Env.le e e := fun _ _ h => h

def ev (e : Env) : Operand → Option Value
  | .tmp t => e.get t
  | .const v => some v
  | .global g => some (.pointer (some ⟨g, 0, none⟩))
  | .func f => some (.func (.func f) #[] #[])

def Tells (e : Env) (ρ : Operand → Value) : Prop := ∀ x v, ev e x = some v → ρ x = v

/-! ### Frames -/

structure Ctx where
  fn : FuncId
  n : Nat
  round : Option Nat

def marked (r : Nat) : Deferred := { target := .collected r, args := #[] }

def Ctx.fr (c : Ctx) (tmps : Array Value) (ds : List Nat) (todo : List Item) : Frame :=
  { fn := c.fn, tmps, todo, defers := ds.map marked, mode := .run, kind := .normal, roundOf := c.round }

theorem Ctx.fr_eval (c : Ctx) (tmps : Array Value) (ds : List Nat) (todo : List Item) (x : Operand) :
    (c.fr tmps ds todo).eval x = match x with | .tmp t => tmps.getD t undef | .const v => v | .global g => .pointer (some ⟨g, 0, none⟩) | .func f => .func (.func f) #[] #[] := by
  cases x <;> rfl

theorem Knows.tells {c : Ctx} {e : Env} {tmps : Array Value} (k : Knows c.n e tmps) (ds : List Nat) (todo : List Item) : Tells e (c.fr tmps ds todo).eval := by
  intro x v h
  rw [Ctx.fr_eval]
  cases x with
  | tmp t => have := k.at_ t v h; simp [Array.getD_eq_getD_getElem?, this]
  | const v => simpa [ev] using h
  | global g => simpa [ev] using h
  | func f => simpa [ev] using h

/-- Where a frame comes to: a function's frame to its return; a round's frame to its caller, with the answer. -/
def Ends (P : Program) (c : Ctx) (fr : Frame) (cs : List Frame) (w : World) (post : Value → World → Prop) : Prop :=
  match c.round with
  | none => ∃ v w' fr', post v w' ∧ Steps P (lone fr cs w) (lone fr' cs w') ∧ fr'.fn = c.fn ∧ fr'.leaving P w' (.returned v)
  | some _ => ∀ c1 rest, cs = c1 :: rest → ∃ v w', post v w' ∧ Steps P (lone fr cs w) (lone (c1.finish v) rest w')

theorem Ends.steps {P : Program} {c : Ctx} {fr fr' : Frame} {cs : List Frame} {w w' : World} {post : Value → World → Prop}
    (h : Steps P (lone fr cs w) (lone fr' cs w')) (e : Ends P c fr' cs w' post) : Ends P c fr cs w post := by
  unfold Ends at *
  cases hr : c.round with
  | none =>
    rw [hr] at e
    obtain ⟨v, w1, f1, a, b, d⟩ := e
    exact ⟨v, w1, f1, a, h.trans b, d⟩
  | some l =>
    rw [hr] at e
    intro c1 rest hc
    obtain ⟨v, w1, a, b⟩ := e c1 rest hc
    exact ⟨v, w1, a, h.trans b⟩

theorem Ends.mono {P : Program} {c : Ctx} {fr : Frame} {cs : List Frame} {w : World} {post post' : Value → World → Prop}
    (e : Ends P c fr cs w post) (h : ∀ v w, post v w → post' v w) : Ends P c fr cs w post' := by
  unfold Ends at *
  cases hr : c.round with
  | none =>
    rw [hr] at e
    obtain ⟨v, w1, f1, a, b, d⟩ := e
    exact ⟨v, w1, f1, h _ _ a, b, d⟩
  | some l =>
    rw [hr] at e
    intro c1 rest hc
    obtain ⟨v, w1, a, b⟩ := e c1 rest hc
    exact ⟨v, w1, h _ _ a, b⟩

/-- What is still to do. -/
inductive It where
  | code (c : Code)
  | ops (all : Array Oper) (l : List Oper)
  | blk (id : Nat)
  | lp (body : Code)
  | begin
  | endRF (l : Nat)

def It.den : It → Item → Prop
  | .code c, i => i = .code c
  | .ops all l, i => ∃ is : List Nat, i = .inRegion all is ∧ is.map (fun j => all[j]?) = l.map some
  | .blk id, i => i = .inBlock id
  | .lp body, i => i = .inLoop body
  | .begin, i => i = .beginRound
  | .endRF l, i => i = .endRangeFunc l

def Den : List It → List Item → Prop
  | [], [] => True
  | t :: ts, i :: is => t.den i ∧ Den ts is
  | _, _ => False

theorem Den.cons {t : It} {ts : List It} {is : List Item} (h : Den (t :: ts) is) : ∃ i is', is = i :: is' ∧ t.den i ∧ Den ts is' := by
  cases is with
  | nil => exact h.elim
  | cons i is => exact ⟨i, is, rfl, h⟩

theorem Den.nil {is : List Item} (h : Den [] is) : is = [] := by
  cases is with
  | nil => rfl
  | cons i is => exact h.elim

abbrev Post := Value → List HProp → Prop

/-- THE JUDGEMENT: from here on the frame comes to an answer v with a heap H' as Q says; what lies beside stays as it is. -/
def G (P : Program) (c : Ctx) (ds : List Nat) (todo : List It) (e : Env) (H : List HProp) (Q : Post) : Prop :=
  ∀ (g : Fr) (tmps : Array Value) (w : World) (cs : List Frame) (is : List Item), Knows c.n e tmps → Sat H g w → Den todo is →
    Ends P c (c.fr tmps ds is) cs w (fun v w' => ∃ H', Q v H' ∧ Sat H' g w')

/-- The same, where the operation o is next and is to be carried out. -/
def GR (P : Program) (c : Ctx) (ds : List Nat) (all : Array Oper) (o : Oper) (l : List Oper) (k : List It) (e : Env) (H : List HProp) (Q : Post) : Prop :=
  ∀ (g : Fr) (tmps : Array Value) (w : World) (cs : List Frame) (i : Nat) (is : List Nat) (ks : List Item), Knows c.n e tmps → Sat H g w → all[i]? = some o →
    is.map (fun j => all[j]?) = l.map some → Den k ks → Region.wanted o (yielded all tmps) = true →
    Ends P c (c.fr tmps ds (.inRegion all (i :: is) :: ks)) cs w (fun v w' => ∃ H', Q v H' ∧ Sat H' g w')

section rules
variable {P : Program} {c : Ctx} {ds : List Nat} {k : List It} {e : Env} {H : List HProp} {Q : Post}

theorem G.mono {Q' : Post} {todo : List It} (h : G P c ds todo e H Q) (hq : ∀ v H, Q v H → Q' v H) : G P c ds todo e H Q' :=
  fun g tmps w cs is a b d => (h g tmps w cs is a b d).mono fun v w' ⟨H', q, s⟩ => ⟨H', hq _ _ q, s⟩

/-- Knowing less of the temporaries. -/
theorem G.forget {todo : List It} (e' : Env) (le : e'.le e) (h : G P c ds todo e' H Q) : G P c ds todo e H Q :=
  fun g tmps w cs is a b d => h g tmps w cs is (a.le le) b d

/-- The heap said in another way. -/
theorem G.conv {todo : List It} {H' : List HProp} (hh : ∀ g w, Sat H g w → Sat H' g w) (h : G P c ds todo e H' Q) : G P c ds todo e H Q :=
  fun g tmps w cs is a b d => h g tmps w cs is a (hh g w b) d

theorem G.convEx {α : Type} {todo : List It} {H' : α → List HProp} (hh : ∀ g w, Sat H g w → ∃ x, Sat (H' x) g w) (h : ∀ x, G P c ds todo e (H' x) Q) : G P c ds todo e H Q :=
  fun g tmps w cs is a b d => let ⟨x, s⟩ := hh g w b; h x g tmps w cs is a s d

theorem G.fact {p : Prop} {todo : List It} (hh : ∀ g w, Sat H g w → p) (h : p → G P c ds todo e H Q) : G P c ds todo e H Q :=
  fun g tmps w cs is a b d => h (hh g w b) g tmps w cs is a b d

section steps
variable {tmps : Array Value} {cs : List Frame} {w : World} {is : List Item}
theorem st_skip : step P (lone (c.fr tmps ds (.code .skip :: is)) cs w) = .next (lone (c.fr tmps ds is) cs w) := step_lone_go (by simp [stepG, stepG.exec, Ctx.fr])
theorem st_blk {id : Nat} : step P (lone (c.fr tmps ds (.inBlock id :: is)) cs w) = .next (lone (c.fr tmps ds is) cs w) := step_lone_go (by simp [stepG, stepG.exec, Ctx.fr])
theorem st_seq {x y : Code} : step P (lone (c.fr tmps ds (.code (.seq x y) :: is)) cs w) = .next (lone (c.fr tmps ds (.code x :: .code y :: is)) cs w) := step_lone_go (by simp [stepG, stepG.exec, Ctx.fr])
theorem st_block {id : Nat} {x : Code} : step P (lone (c.fr tmps ds (.code (.block id x) :: is)) cs w) = .next (lone (c.fr tmps ds (.code x :: .inBlock id :: is)) cs w) := step_lone_go (by simp [stepG, stepG.exec, Ctx.fr])
theorem st_loop {x : Code} : step P (lone (c.fr tmps ds (.code (.loop x) :: is)) cs w) = .next (lone (c.fr tmps ds (.code x :: .inLoop x :: is)) cs w) := step_lone_go (by simp [stepG, stepG.exec, Ctx.fr])
theorem st_lp {x : Code} : step P (lone (c.fr tmps ds (.inLoop x :: is)) cs w) = .next (lone (c.fr tmps ds (.code x :: .inLoop x :: is)) cs w) := step_lone_go (by simp [stepG, stepG.exec, Ctx.fr])
theorem st_cond {x y : Code} {b : Operand} {t : Bool} (he : (c.fr tmps ds (.code (.cond b x y) :: is)).eval b = .bool t) :
    step P (lone (c.fr tmps ds (.code (.cond b x y) :: is)) cs w) = .next (lone (c.fr tmps ds (.code (if t then x else y) :: is)) cs w) :=
  step_lone_go (by simp only [Ctx.fr] at *; simp [stepG, stepG.exec, he])
theorem st_exit {id : Nat} {is' : List Item} (he : exitTo id is = some is') : step P (lone (c.fr tmps ds (.code (.exit id) :: is)) cs w) = .next (lone (c.fr tmps ds is') cs w) :=
  step_lone_go (by simp [stepG, stepG.exec, Ctx.fr, he])
theorem st_region {id : Nat} {all : Array Oper} : step P (lone (c.fr tmps ds (.code (.region id all false) :: is)) cs w) = .next (lone (c.fr tmps ds (.inRegion all (List.range all.size) :: is)) cs w) :=
  step_lone_go (by simp [stepG, stepG.exec, Ctx.fr])
theorem st_nil {all : Array Oper} : step P (lone (c.fr tmps ds (.inRegion all [] :: is)) cs w) = .next (lone (c.fr tmps ds is) cs w) := step_lone_go (by simp [stepG, stepG.exec, Ctx.fr])
end steps

theorem G.skip (h : G P c ds k e H Q) : G P c ds (.code .skip :: k) e H Q := by
  intro g tmps w cs is a b d
  obtain ⟨i, is', rfl, rfl, d'⟩ := d.cons
  exact Ends.steps (.one st_skip) (h g tmps w cs is' a b d')

theorem G.blk {id : Nat} (h : G P c ds k e H Q) : G P c ds (.blk id :: k) e H Q := by
  intro g tmps w cs is a b d
  obtain ⟨i, is', rfl, rfl, d'⟩ := d.cons
  exact Ends.steps (.one st_blk) (h g tmps w cs is' a b d')

theorem G.seq {x y : Code} (h : G P c ds (.code x :: .code y :: k) e H Q) : G P c ds (.code (.seq x y) :: k) e H Q := by
  intro g tmps w cs is a b d
  obtain ⟨i, is', rfl, rfl, d'⟩ := d.cons
  exact Ends.steps (.one st_seq) (h g tmps w cs (.code x :: .code y :: is') a b ⟨rfl, rfl, d'⟩)

theorem G.block {id : Nat} {x : Code} (h : G P c ds (.code x :: .blk id :: k) e H Q) : G P c ds (.code (.block id x) :: k) e H Q := by
  intro g tmps w cs is a b d
  obtain ⟨i, is', rfl, rfl, d'⟩ := d.cons
  exact Ends.steps (.one st_block) (h g tmps w cs (.code x :: .inBlock id :: is') a b ⟨rfl, rfl, d'⟩)

theorem G.loop {x : Code} (h : G P c ds (.code x :: .lp x :: k) e H Q) : G P c ds (.code (.loop x) :: k) e H Q := by
  intro g tmps w cs is a b d
  obtain ⟨i, is', rfl, rfl, d'⟩ := d.cons
  exact Ends.steps (.one st_loop) (h g tmps w cs (.code x :: .inLoop x :: is') a b ⟨rfl, rfl, d'⟩)

theorem G.lp {x : Code} (h : G P c ds (.code x :: .lp x :: k) e H Q) : G P c ds (.lp x :: k) e H Q := by
  intro g tmps w cs is a b d
  obtain ⟨i, is', rfl, rfl, d'⟩ := d.cons
  exact Ends.steps (.one st_lp) (h g tmps w cs (.code x :: .inLoop x :: is') a b ⟨rfl, rfl, d'⟩)

/-- A loop is as its next round. -/
theorem G.loop_lp {x : Code} (h : G P c ds (.lp x :: k) e H Q) : G P c ds (.code (.loop x) :: k) e H Q := by
  refine G.loop fun g tmps w cs is a b d => ?_
  obtain ⟨i1, is1, rfl, rfl, d1⟩ := d.cons
  obtain ⟨i2, is2, rfl, rfl, d2⟩ := d1.cons
  have this := h g tmps w cs (.inLoop x :: is2) a b ⟨rfl, d2⟩
  have hs : step P (lone (c.fr tmps ds (.inLoop x :: is2)) cs w) = .next (lone (c.fr tmps ds (.code x :: .inLoop x :: is2)) cs w) := st_lp
  have back : ∀ {m}, Steps P (lone (c.fr tmps ds (.inLoop x :: is2)) cs w) m →
      m ≠ (lone (c.fr tmps ds (.inLoop x :: is2)) cs w) → Steps P (lone (c.fr tmps ds (.code x :: .inLoop x :: is2)) cs w) m := by
    rintro m ⟨n, hn⟩ hne
    cases n with
    | zero => simp only [runN, Stepped.next.injEq] at hn; exact absurd hn.symm hne
    | succ n => simp only [runN, hs] at hn; exact ⟨n, hn⟩
  unfold Ends at *
  cases hr : c.round with
  | none =>
    rw [hr] at this
    obtain ⟨v, w1, f1, a1, b1, d1, d2⟩ := this
    refine ⟨v, w1, f1, a1, back b1 ?_, d1, d2⟩
    intro hc
    have e1 : (lone f1 cs w1).gs = (lone (c.fr tmps ds (.inLoop x :: is2)) cs w).gs := congrArg Machine.gs hc
    have e2 : f1 = c.fr tmps ds (.inLoop x :: is2) := by
      simp only [lone, Array.mk.injEq, List.cons.injEq, Goroutine.mk.injEq] at e1
      exact e1.1.1
    have hm := d2.1
    rw [e2] at hm
    cases hm
  | some l =>
    rw [hr] at this
    intro c1 rest hcs
    obtain ⟨v, w1, a1, b1⟩ := this c1 rest hcs
    refine ⟨v, w1, a1, back b1 ?_⟩
    intro hc
    have e1 : (lone (c1.finish v) rest w1).gs = (lone (c.fr tmps ds (.inLoop x :: is2)) cs w).gs := congrArg Machine.gs hc
    have e2 : rest = cs := by
      simp only [lone, Array.mk.injEq, List.cons.injEq, Goroutine.mk.injEq] at e1
      exact e1.1.2.1
    rw [hcs] at e2
    have := congrArg List.length e2
    simp at this

theorem G.cond {x y : Code} {b : Operand} {t : Bool} (hb : ev e b = some (.bool t)) (h1 : t = true → G P c ds (.code x :: k) e H Q) (h2 : t = false → G P c ds (.code y :: k) e H Q) :
    G P c ds (.code (.cond b x y) :: k) e H Q := by
  intro g tmps w cs is a s d
  obtain ⟨i, is', rfl, rfl, d'⟩ := d.cons
  have he := a.tells ds (.code (.cond b x y) :: is') b _ hb
  refine Ends.steps (.one (st_cond he)) ?_
  cases t with
  | true => exact h1 rfl g tmps w cs (.code x :: is') a s ⟨rfl, d'⟩
  | false => exact h2 rfl g tmps w cs (.code y :: is') a s ⟨rfl, d'⟩

theorem G.cond_t {x y : Code} {b : Operand} {t : Bool} (hb : ev e b = some (.bool t)) (ht : t = true) (h : G P c ds (.code x :: k) e H Q) : G P c ds (.code (.cond b x y) :: k) e H Q :=
  G.cond hb (fun _ => h) (fun h' => by rw [ht] at h'; cases h')
theorem G.cond_f {x y : Code} {b : Operand} {t : Bool} (hb : ev e b = some (.bool t)) (ht : t = false) (h : G P c ds (.code y :: k) e H Q) : G P c ds (.code (.cond b x y) :: k) e H Q :=
  G.cond hb (fun h' => by rw [ht] at h'; cases h') (fun _ => h)

def exitIt (id : Nat) : List It → Option (List It)
  | [] => none
  | .blk id' :: k => bif Nat.beq id' id then some k else exitIt id k
  | _ :: k => exitIt id k

theorem exitIt_den {id : Nat} : ∀ {ts : List It} {is : List Item}, Den ts is → (∀ ts', exitIt id ts = some ts' → ∃ is', exitTo id is = some is' ∧ Den ts' is') ∧ (exitIt id ts = none → exitTo id is = none)
  | [], is, d => by
    obtain rfl := d.nil
    exact ⟨fun _ h => (by cases h), fun _ => rfl⟩
  | t :: ts, is, d => by
    obtain ⟨i, is, rfl, d1, d2⟩ := d.cons
    have ih := exitIt_den (id := id) d2
    cases t with
    | blk id' =>
      obtain rfl := d1
      by_cases hid : id' = id
      · subst hid; simp only [exitIt, exitTo, beq_self_eq_true, if_true, Nat.beq_refl, cond_true]
        exact ⟨fun ts' h => by cases h; exact ⟨is, rfl, d2⟩, fun h => by cases h⟩
      · have h2 : (id' == id) = false := by simp [hid]
        simp only [exitIt, exitTo, h2, nat_beq_ne hid, cond_false]
        exact ih
    | code c => obtain rfl := d1; exact ih
    | ops all l => obtain ⟨is', rfl, _⟩ := d1; exact ih
    | lp b => obtain rfl := d1; exact ih
    | begin => obtain rfl := d1; exact ih
    | endRF l => obtain rfl := d1; exact ih

theorem G.exit {id : Nat} {k' : List It} (hk : exitIt id k = some k') (h : G P c ds k' e H Q) : G P c ds (.code (.exit id) :: k) e H Q := by
  intro g tmps w cs is a b d
  obtain ⟨i, is1, rfl, rfl, d1⟩ := d.cons
  obtain ⟨is', he, d'⟩ := (exitIt_den d1).1 _ hk
  exact Ends.steps (.one (st_exit he)) (h g tmps w cs is' a b d')

theorem G.region {id : Nat} {all : List Oper} (h : G P c ds (.ops all.toArray all :: k) e H Q) : G P c ds (.code (.region id all.toArray false) :: k) e H Q := by
  intro g tmps w cs is a b d
  obtain ⟨i, is1, rfl, rfl, d1⟩ := d.cons
  refine Ends.steps (.one st_region) (h g tmps w cs (.inRegion all.toArray (List.range all.toArray.size) :: is1) a b ⟨⟨_, rfl, ?_⟩, d1⟩)
  apply List.ext_getElem?
  intro j
  by_cases hj : j < all.length
  · simp [hj]
  · rw [List.getElem?_eq_none (by simp; omega), List.getElem?_eq_none (by simp; omega)]

theorem G.nil {all : Array Oper} (h : G P c ds k e H Q) : G P c ds (.ops all [] :: k) e H Q := by
  intro g tmps w cs is a b d
  obtain ⟨i, is1, rfl, ⟨is', rfl, hi⟩, d1⟩ := d.cons
  obtain rfl : is' = [] := by simpa using hi
  exact Ends.steps (.one st_nil) (h g tmps w cs is1 a b d1)

theorem G.take {all : Array Oper} {o : Oper} {l : List Oper} (hg : o.guard = none) (h : GR P c ds all o l k e H Q) : G P c ds (.ops all (o :: l) :: k) e H Q := by
  intro g tmps w cs is a b d
  obtain ⟨i, is1, rfl, ⟨is', rfl, hi⟩, d1⟩ := d.cons
  cases is' with
  | nil => simp at hi
  | cons j is' =>
    simp only [List.map_cons, List.cons.injEq] at hi
    exact h g tmps w cs j is' is1 a b hi.1 hi.2 d1 (by simp [Region.wanted, hg])

theorem yielded_of {all : Array Oper} {tmps : Array Value} {n : Nat} (a : Knows n e tmps) {j t : Nat} {x : Value} (hj : (all[j]?).bind (·.dst) = some t) (hx : e.get t = some x) :
    yielded all tmps j = match x with | .bool b => some b | _ => none := by
  simp only [yielded, hj, Option.bind_some, a.at_ t x hx]
  cases x <;> rfl

theorem G.take_yes {all : Array Oper} {o : Oper} {l : List Oper} {j t : Nat} {want b : Bool} (hg : o.guard = some (j, want)) (hj : (all[j]?).bind (·.dst) = some t) (hx : e.get t = some (.bool b)) (hb : b = want)
    (h : GR P c ds all o l k e H Q) : G P c ds (.ops all (o :: l) :: k) e H Q := by
  intro g tmps w cs is a s d
  obtain ⟨i, is1, rfl, ⟨is', rfl, hi⟩, d1⟩ := d.cons
  cases is' with
  | nil => simp at hi
  | cons j' is' =>
    simp only [List.map_cons, List.cons.injEq] at hi
    exact h g tmps w cs j' is' is1 a s hi.1 hi.2 d1 (by simp [Region.wanted, hg, yielded_of a hj hx, hb])

def putE (d : Option Nat) (v : Value) (e : Env) : Env := match d with | some d => (d, v) :: e | none => e
def dstOk (d : Option Nat) (n : Nat) : Bool := match d with | some d => Nat.blt d n | none => true

def setT (d : Option Nat) (v : Value) (tmps : Array Value) : Array Value := match d with | some d => tmps.setIfInBounds d v | none => tmps

theorem finish_fr {all : Array Oper} {o : Oper} {j : Nat} {is : List Nat} {ks : List Item} {tmps : Array Value} {v : Value} (hj : all[j]? = some o) :
    (c.fr tmps ds (.inRegion all (j :: is) :: ks)).finish v = c.fr (setT o.dst v tmps) ds (.inRegion all is :: ks) := by
  simp only [Ctx.fr, Frame.finish, hj, Option.bind_some, setT]
  cases o.dst <;> rfl

theorem Knows.puts {n : Nat} {tmps : Array Value} (a : Knows n e tmps) {d : Option Nat} (hd : dstOk d n = true) (v : Value) :
    Knows n (putE d v e) (setT d v tmps) := by
  cases d with
  | none => exact a
  | some d => exact a.put hd v

theorem G.take_no {all : Array Oper} {o : Oper} {l : List Oper} {j t : Nat} {want : Bool} {x : Value} (hg : o.guard = some (j, want)) (hj : (all[j]?).bind (·.dst) = some t) (hx : e.get t = some x)
    (hb : x = undef ∨ ∃ b, x = .bool b ∧ b = !want) (hd : dstOk o.dst c.n = true) (h : G P c ds (.ops all l :: k) (putE o.dst undef e) H Q) : G P c ds (.ops all (o :: l) :: k) e H Q := by
  intro g tmps w cs is a s d
  obtain ⟨i, is1, rfl, ⟨is', rfl, hi⟩, d1⟩ := d.cons
  cases is' with
  | nil => simp at hi
  | cons j' is' =>
    simp only [List.map_cons, List.cons.injEq] at hi
    have hw : Region.wanted o (yielded all tmps) = false := by
      have := yielded_of a hj hx
      rcases hb with rfl | ⟨b, rfl, rfl⟩
      · simp [Region.wanted, hg, this, undef]
      · simp [Region.wanted, hg, this]
    have hs : step P (lone (c.fr tmps ds (.inRegion all (j' :: is') :: is1)) cs w) = .next (lone ((c.fr tmps ds (.inRegion all (j' :: is') :: is1)).finish undef) cs w) :=
      step_lone_go (by simp [stepG, stepG.exec, Ctx.fr, hi.1, hw])
    rw [finish_fr hi.1] at hs
    exact Ends.steps (.one hs) (h g _ w cs (.inRegion all is' :: is1) (a.puts hd undef) s ⟨⟨is', rfl, hi.2⟩, d1⟩)

/-- A guard that says no. -/
theorem G.take_n {all : Array Oper} {op : Op} {d : Nat} {ty : TypeId} {pos : String} {af : Array Edge} {l : List Oper} {j t : Nat} {want : Bool} {x : Value} (hj : (all[j]?).bind (·.dst) = some t) (hx : e.get t = some x)
    (hb : x = undef ∨ ∃ b, x = .bool b ∧ b = !want) (hd : Nat.blt d c.n = true) (h : G P c ds (.ops all l :: k) ((d, undef) :: e) H Q) : G P c ds (.ops all (⟨some d, op, ty, pos, af, some (j, want)⟩ :: l) :: k) e H Q :=
  G.take_no rfl hj hx hb hd h

/-- A guard that is not known: both ways. -/
theorem G.take_split {all : Array Oper} {o : Oper} {l : List Oper} {j t : Nat} {want b : Bool} (hg : o.guard = some (j, want)) (hj : (all[j]?).bind (·.dst) = some t) (hx : e.get t = some (.bool b))
    (h1 : b = want → G P c ds (.ops all (o :: l) :: k) e H Q) (h2 : b = !want → G P c ds (.ops all (o :: l) :: k) e H Q) : G P c ds (.ops all (o :: l) :: k) e H Q := by
  by_cases h : b = want
  · exact h1 h
  · exact h2 (by cases b <;> cases want <;> simp_all)

/-- The ways through a piece of code meet: what is known behind it is E x. -/
theorem G.cut {α : Type} {todo k' : List It} (E : α → Env) (Hf : α → List HProp) (x : α) (h1 : ∀ Q', (∀ y, y = x → G P c ds k' (E y) (Hf y) Q') → G P c ds todo e H Q') (h2 : G P c ds k' (E x) (Hf x) Q) : G P c ds todo e H Q :=
  h1 Q fun y hy => by rw [hy]; exact h2

/-! ### An operation -/

/-- What becomes of an operation whose run is r. -/
def OpOut (P : Program) (post : Value → World → Prop) : Result Next → Prop
  | .ok (.value v) w' => post v w'
  | .ok .skip w' => post undef w'
  | .ok (.enter f args) w' => Calls P f args w' fun en w'' => ∃ v, en = .returned v ∧ post v w''
  | .ok (.round l f tmps asg body) w' => ∀ fr cs, ∃ v w'', post v w'' ∧ Steps P (lone (Frame.round l f tmps asg body .normal) (fr :: cs) w') (lone (fr.finish v) cs w'')
  | _ => False

/-- An operation s, run where H holds, gives a value and a heap as Q says. -/
def OpRun (P : Program) (s : Sem Next) (H : List HProp) (Q : Post) : Prop :=
  ∀ g w, Sat H g w → OpOut P (fun v w' => ∃ H', Q v H' ∧ Sat H' g w') (s.run P w)

theorem OpOut.mono {r : Result Next} {post post' : Value → World → Prop} (h : OpOut P post r) (hp : ∀ v w, post v w → post' v w) : OpOut P post' r := by
  unfold OpOut at *
  split at h
  · exact hp _ _ h
  · exact hp _ _ h
  · exact h.mono fun en w'' ⟨v, a, b⟩ => ⟨v, a, hp _ _ b⟩
  · exact fun fr cs => let ⟨v, w'', a, b⟩ := h fr cs; ⟨v, w'', hp _ _ a, b⟩
  · exact h.elim

theorem OpRun.mono {s : Sem Next} {Q Q' : Post} (h : OpRun P s H Q) (hq : ∀ v H, Q v H → Q' v H) : OpRun P s H Q' :=
  fun g w a => (h g w a).mono fun _ _ ⟨H', q, b⟩ => ⟨H', hq _ _ q, b⟩

/-- Beside what the operation takes, more may lie. -/
theorem OpRun.frame {s : Sem Next} {R : List HProp} (h : OpRun P s H Q) : OpRun P s (H ++ R) fun v H' => ∃ H1, Q v H1 ∧ H' = H1 ++ R := by
  intro g w a
  obtain ⟨r, ar, d, a1⟩ := a.split
  refine (h _ w a1).mono fun v w' ⟨H', q, b⟩ => ⟨_, ⟨H', q, rfl⟩, Sat.join ar d b⟩

theorem apply_steps' {fr0 fr : Frame} {cs : List Frame} {w0 w : World} {s : Sem Next} {post : Value → World → Prop} (hk : fr.kind = .normal) (ht : ∀ d b r sv k, fr.todo ≠ .call d b r sv :: k)
    (hstep : (stepG P true { frame := fr0, callers := cs, status := .running, dying := none } w0).bare = (stepG.apply P true fr cs none s w).bare) (out : OpOut P post (s.run P w)) :
    ∃ v w', post v w' ∧ Steps P (lone fr0 cs w0) (lone (fr.finish v) cs w') := by
  unfold OpOut at out
  split at out
  · rename_i v w' hr
    exact ⟨v, w', out, .one (step_lone_go (by rw [hstep]; simp [stepG.apply, hr]))⟩
  · rename_i w' hr
    exact ⟨undef, w', out, .one (step_lone_go (by rw [hstep]; simp [stepG.apply, hr]))⟩
  · rename_i f args w' hr
    obtain ⟨en, w'', fr', ⟨v, rfl, hp⟩, hsteps, _, hleave⟩ := out (fr :: cs)
    have henter : step P (lone fr0 cs w0) = .next (lone (Frame.enter P f args .normal) (fr :: cs) w') :=
      step_lone_go (by
        rw [hstep]; simp only [stepG.apply, if_true, Sem.runT_eq, hr, GStep.bare_after, GStep.bare_go]
        congr 3
        split
        · rename_i h; exact absurd h (ht _ _ _ _ _)
        · rfl)
    exact ⟨v, w'', hp, .head henter (hsteps.trans (.one (step_leave_returned hleave)))⟩
  · rename_i l f tmps asg body w' hr
    obtain ⟨v, w'', hp, hsteps⟩ := out fr cs
    have henter : step P (lone fr0 cs w0) = .next (lone (Frame.round l f tmps asg body .normal) (fr :: cs) w') :=
      step_lone_go (by rw [hstep]; simp [stepG.apply, hr])
    exact ⟨v, w'', hp, .head henter hsteps⟩
  · exact out.elim

theorem apply_steps {fr : Frame} {cs : List Frame} {w : World} {s : Sem Next} {post : Value → World → Prop} (hk : fr.kind = .normal) (ht : ∀ d b r sv k, fr.todo ≠ .call d b r sv :: k)
    (hstep : stepG P true { frame := fr, callers := cs, status := .running, dying := none } w = stepG.apply P true fr cs none s w) (out : OpOut P post (s.run P w)) :
    ∃ v w', post v w' ∧ Steps P (lone fr cs w) (lone (fr.finish v) cs w') := apply_steps' hk ht (by rw [hstep]) out

def notDefer : Op → Bool
  | .defer _ => false
  | _ => true

theorem GR.op {all : Array Oper} {o : Oper} {l : List Oper} {Qo : Post} (hnd : notDefer o.op = true) (hd : dstOk o.dst c.n = true)
    (hop : ∀ ρ, Tells e ρ → OpRun P (execOp ρ o) H Qo) (h : ∀ v H', Qo v H' → G P c ds (.ops all l :: k) (putE o.dst v e) H' Q) : GR P c ds all o l k e H Q := by
  intro g tmps w cs i is ks a s hi hl d hw
  have hstep : stepG P true { frame := c.fr tmps ds (.inRegion all (i :: is) :: ks), callers := cs, status := .running, dying := none } w =
      stepG.apply P true (c.fr tmps ds (.inRegion all (i :: is) :: ks)) cs none (execOp (c.fr tmps ds (.inRegion all (i :: is) :: ks)).eval o) w := by
    have ho : (c.fr tmps ds (.inRegion all (i :: is) :: ks)).oper? = some o := by simp [Frame.oper?, Ctx.fr, hi]
    have h1 : stepG P true { frame := c.fr tmps ds (.inRegion all (i :: is) :: ks), callers := cs, status := .running, dying := none } w =
        stepG.oper P true (c.fr tmps ds (.inRegion all (i :: is) :: ks)) cs none w := by
      simp [stepG, stepG.exec, Ctx.fr, hi, hw]
    rw [h1]
    simp only [stepG.oper, ho]
    split
    · rename_i hop'
      rw [hop'] at hnd; cases hnd
    · rfl
  obtain ⟨v, w', ⟨H', q, s'⟩, hs⟩ := apply_steps rfl (by intros; simp [Ctx.fr]) hstep (hop _ (a.tells ds _) g w s)
  rw [finish_fr hi] at hs
  exact Ends.steps hs (h v H' q g _ w' cs (.inRegion all is :: ks) (a.puts hd v) s' ⟨⟨is, rfl, hl⟩, d⟩)

/-! ### The frame's end -/

def resVal (e : Env) : List ResultVar → Option (List Value)
  | [] => some []
  | .tmp t :: r => match e.get t, resVal e r with | some v, some vs => some (v :: vs) | _, _ => none
  | .cell _ _ :: _ => none

def packRes : List Value → Value
  | [v] => v
  | vs => .tuple vs.toArray

theorem getD_of {tmps : Array Value} {n t : Nat} {v : Value} (a : Knows n e tmps) (h : e.get t = some v) : tmps.getD t undef = v := by
  have := a.at_ t v h
  simp [Array.getD_eq_getD_getElem?, this]

theorem results_run {vs : List Value} {tmps : Array Value} {n : Nat} (a : Knows n e tmps) (w : World) (fn : Func) {rs : List ResultVar} (hr : fn.results = rs.toArray) (h : resVal e rs = some vs) (hl : rs.length ≤ 3) :
    (results fn tmps).run P w = .ok (packRes vs) w := by
  have sub : ∀ {t : Nat} {v : Value}, e.get t = some v → tmps.getD t undef = v := getD_of a
  have inv : ∀ {r : ResultVar} {rs : List ResultVar} {vs : List Value}, resVal e (r :: rs) = some vs → ∃ t v vs', r = .tmp t ∧ e.get t = some v ∧ resVal e rs = some vs' ∧ vs = v :: vs' := by
    intro r rs vs h
    cases r with
    | cell a t => simp [resVal] at h
    | tmp t =>
      simp only [resVal] at h
      split at h
      · rename_i v vs' hv hvs; cases h; exact ⟨t, v, vs', rfl, hv, hvs, rfl⟩
      · cases h
  rcases rs with _ | ⟨r1, _ | ⟨r2, _ | ⟨r3, _ | ⟨r4, rs⟩⟩⟩⟩
  · simp [resVal] at h; subst h; exact results_none hr tmps P w
  · obtain ⟨t1, v1, vs1, rfl, g1, h1, rfl⟩ := inv h
    simp [resVal] at h1; subst h1
    rw [results_tmp hr, sub g1]; rfl
  · obtain ⟨t1, v1, vs1, rfl, g1, h1, rfl⟩ := inv h
    obtain ⟨t2, v2, vs2, rfl, g2, h2, rfl⟩ := inv h1
    simp [resVal] at h2; subst h2
    rw [results_tmp2 hr, sub g1, sub g2]; rfl
  · obtain ⟨t1, v1, vs1, rfl, g1, h1, rfl⟩ := inv h
    obtain ⟨t2, v2, vs2, rfl, g2, h2, rfl⟩ := inv h1
    obtain ⟨t3, v3, vs3, rfl, g3, h3, rfl⟩ := inv h2
    simp [resVal] at h3; subst h3
    rw [results_tmp3 hr, sub g1, sub g2, sub g3]; rfl
  · simp at hl

/-- A function's frame is at its end. -/
theorem ends_none {fn : Func} {tmps : Array Value} {w : World} {cs : List Frame} {todo : List Item} {v : Value} {g : Fr} (hr : c.round = none) (hf : P.funcs[c.fn]? = some fn) (hres : (results fn tmps).run P w = .ok v w)
    (hs : Steps P (lone (c.fr tmps [] todo) cs w) (lone { c.fr tmps [] todo with mode := .returning } cs w)) (q : Q v H) (s : Sat H g w) :
    Ends P c (c.fr tmps [] todo) cs w (fun v w' => ∃ H', Q v H' ∧ Sat H' g w') := by
  unfold Ends
  rw [hr]
  exact ⟨v, w, _, ⟨H, q, s⟩, hs, rfl, rfl, rfl, rfl, fn, hf, hres⟩

theorem st_ret {tmps : Array Value} {cs : List Frame} {w : World} {is : List Item} (hr : c.round = none) :
    step P (lone (c.fr tmps ds (.code .ret :: is)) cs w) = .next (lone { c.fr tmps ds (.code .ret :: is) with mode := .returning } cs w) :=
  step_lone_go (by simp [stepG, stepG.exec, Ctx.fr, hr])
theorem st_end {tmps : Array Value} {cs : List Frame} {w : World} (hr : c.round = none) :
    step P (lone (c.fr tmps ds []) cs w) = .next (lone { c.fr tmps ds [] with mode := .returning } cs w) :=
  step_lone_go (by simp [stepG, stepG.exec, Ctx.fr, hr])

theorem G.ret {fn : Func} {rs : List ResultVar} {vs : List Value} (hr : c.round = none) (hf : P.funcs[c.fn]? = some fn) (hrs : fn.results = rs.toArray) (hl : Nat.ble rs.length 3 = true) (hv : resVal e rs = some vs) (q : Q (packRes vs) H) :
    G P c [] (.code .ret :: k) e H Q := by
  intro g tmps w cs is a s d
  obtain ⟨i, is1, rfl, rfl, d1⟩ := d.cons
  exact ends_none hr hf (results_run a w fn hrs hv (by simpa using hl)) (.one (st_ret hr)) q s

theorem G.end {fn : Func} {rs : List ResultVar} {vs : List Value} (hr : c.round = none) (hf : P.funcs[c.fn]? = some fn) (hrs : fn.results = rs.toArray) (hl : Nat.ble rs.length 3 = true) (hv : resVal e rs = some vs) (q : Q (packRes vs) H) :
    G P c [] [] e H Q := by
  intro g tmps w cs is a s d
  obtain rfl := d.nil
  exact ends_none hr hf (results_run a w fn hrs hv (by simpa using hl)) (.one (st_end hr)) q s

/-! ### A function -/

/-- Called with args where H holds, function f returns v with a heap as Q says; what lies beside stays as it is. -/
def Fun (P : Program) (f : FuncId) (args : List Value) (H : List HProp) (Q : Post) : Prop :=
  ∀ g w, Sat H g w → Calls P f args.toArray w fun en w' => ∃ v, en = .returned v ∧ ∃ H', Q v H' ∧ Sat H' g w'

theorem Fun.mono {f : FuncId} {args : List Value} {Q' : Post} (h : Fun P f args H Q) (hq : ∀ v H, Q v H → Q' v H) : Fun P f args H Q' :=
  fun g w s => (h g w s).mono fun _ _ ⟨v, a, H', q, b⟩ => ⟨v, a, H', hq _ _ q, b⟩

theorem Fun.conv {f : FuncId} {args : List Value} {H' : List HProp} (hh : ∀ g w, Sat H g w → Sat H' g w) (h : Fun P f args H' Q) : Fun P f args H Q :=
  fun g w s => h g w (hh g w s)

theorem Fun.convEx {α : Type} {f : FuncId} {args : List Value} {H' : α → List HProp} (hh : ∀ g w, Sat H g w → ∃ x, Sat (H' x) g w) (h : ∀ x, Fun P f args (H' x) Q) : Fun P f args H Q :=
  fun g w s => let ⟨x, s'⟩ := hh g w s; h x g w s'

theorem Fun.fact {p : Prop} {f : FuncId} {args : List Value} (hh : ∀ g w, Sat H g w → p) (h : p → Fun P f args H Q) : Fun P f args H Q :=
  fun g w s => h (hh g w s) g w s

theorem Fun.frame {f : FuncId} {args : List Value} {R : List HProp} (h : Fun P f args H Q) : Fun P f args (H ++ R) fun v H' => ∃ H1, Q v H1 ∧ H' = H1 ++ R := by
  intro g w a
  obtain ⟨r, ar, d, a1⟩ := a.split
  exact (h _ w a1).mono fun _ _ ⟨v, e, H', q, b⟩ => ⟨v, e, _, ⟨H', q, rfl⟩, Sat.join ar d b⟩

/-- The first temporaries are the arguments. -/
def argEnv : Nat → List Value → Env
  | _, [] => []
  | i, v :: vs => (i, v) :: argEnv (i + 1) vs

theorem argEnv_get : ∀ (vs : List Value) (i t : Nat) (v : Value), (argEnv i vs).get t = some v → i ≤ t ∧ vs[t - i]? = some v
  | [], _, _, _, h => by cases h
  | x :: vs, i, t, v, h => by
    simp only [argEnv, Env.get] at h
    by_cases e1 : i = t
    · subst e1; simp at h; simp [h]
    · simp [nat_beq_ne e1] at h
      obtain ⟨h1, h2⟩ := argEnv_get vs (i + 1) t v h
      refine ⟨by omega, ?_⟩
      rw [show t - i = (t - (i + 1)) + 1 by omega]
      simpa using h2

theorem Fun.enter {f : FuncId} {fn : Func} {n : Nat} {body : Code} {args : List Value} (hf : P.funcs[f]? = some fn) (hn : fn.ntmps = n) (hb : fn.body = some body) (hl : Nat.ble args.length n = true)
    (h : G P ⟨f, n, none⟩ [] [.code body] (argEnv 0 args) H Q) : Fun P f args H Q := by
  intro g w s cs
  have hl : args.length ≤ n := by simpa using hl
  have henter : Frame.enter P f args.toArray .normal = (⟨f, n, none⟩ : Ctx).fr (args.toArray ++ Array.replicate (n - args.length) undef) [] [.code body] := by
    simp [Frame.enter, Ctx.fr, hf, hb, hn]
  have hk : Knows n (argEnv 0 args) (args.toArray ++ Array.replicate (n - args.length) undef) := by
    refine ⟨by simp; omega, fun t v ht => ?_⟩
    obtain ⟨_, h2⟩ := argEnv_get args 0 t v ht
    have hlt : t < args.length := by
      by_cases hh : t < args.length
      · exact hh
      · rw [List.getElem?_eq_none (by omega)] at h2; cases h2
    rw [Array.getElem?_append_left (by simpa using hlt)]
    simpa using h2
  have := h g _ w cs [.code body] hk s ⟨rfl, trivial⟩
  rw [← henter] at this
  obtain ⟨v, w', fr', hp, hs, hfn, hlv⟩ := this
  exact ⟨.returned v, w', fr', ⟨v, rfl, hp⟩, hs, hfn, hlv⟩

/-- Inside a function the order of the arguments' boxes does not matter: the heap may be turned. -/
theorem G.perm {todo : List It} {H' : List HProp} (hp : H.Perm H') (h : G P c ds todo e H' Q) : G P c ds todo e H Q :=
  h.conv fun _ _ s => s.perm hp

end rules
end Go.Am
