/- Assertions that hide some names; lists made by append; the ways in and out of them. -/
import Derived.Test.YtffcilmllebdmaaAmDraw
namespace Go.Am

/-- For some x with p x: the chunks l x. -/
def Pk {α : Type} (p : α → Prop) (l : α → List HProp) : HProp := ex fun x => sep (fact (p x) :: l x)

section
variable {α : Type} {p : α → Prop} {l : α → List HProp} {H : List HProp} {g : Fr} {w : World}

theorem Pk.open (s : Sat (Pk p l :: H) g w) : ∃ x, p x ∧ Sat (l x ++ H) g w := by
  obtain ⟨x, s⟩ := s.ex
  have s := Sat.sep.1 s
  exact ⟨x, s.fact⟩

theorem Pk.close (x : α) (hp : p x) (s : Sat (l x ++ H) g w) : Sat (Pk p l :: H) g w :=
  Sat.unex x (Sat.sep.2 (Sat.unfact hp s))

/-- The chunk q is among H; R: the others. -/
class SelH (H : List HProp) (q : HProp) (R : outParam (List HProp)) : Prop where
  sel : H.Perm (q :: R)
instance SelH.here (H : List HProp) (q : HProp) : SelH (q :: H) q H := ⟨.refl _⟩
instance (priority := low) SelH.there (H : List HProp) (x q : HProp) (R : List HProp) [h : SelH H q R] : SelH (x :: H) q (x :: R) :=
  ⟨(List.Perm.cons x h.sel).trans (.swap _ _ _)⟩

/-- All of L are among H; R: the others. -/
class Takes (L H : List HProp) (R : outParam (List HProp)) : Prop where
  takes : H.Perm (L ++ R)
instance Takes.nil (H : List HProp) : Takes [] H H := ⟨.refl _⟩
instance Takes.cons (q : HProp) (L H R R' : List HProp) [h1 : SelH H q R] [h2 : Takes L R R'] : Takes (q :: L) H R' :=
  ⟨h1.sel.trans (List.Perm.cons q h2.takes)⟩
end

section rules
variable {P : Program} {c : Ctx} {ds : List Nat} {todo : List It} {e : Env} {H R : List HProp} {Q : Post}

/-- A chunk that hides names is opened. -/
theorem G.open {α : Type} {p : α → Prop} {l : α → List HProp} (q : HProp) (hq : q = Pk p l) [h : SelH H q R] (k : ∀ x, p x → G P c ds todo e (l x ++ R) Q) : G P c ds todo e H Q := by
  subst hq
  intro g tmps w cs is a s d
  obtain ⟨x, hx, s'⟩ := Pk.open (s.perm h.sel)
  exact k x hx g tmps w cs is a s' d

theorem Fun.open {α : Type} {p : α → Prop} {l : α → List HProp} {f : FuncId} {args : List Value} (q : HProp) (hq : q = Pk p l) [h : SelH H q R] (k : ∀ x, p x → Fun P f args (l x ++ R) Q) : Fun P f args H Q := by
  subst hq
  intro g w s
  obtain ⟨x, hx, s'⟩ := Pk.open (s.perm h.sel)
  exact k x hx g w s'

/-- The chunks that q hides are put together. -/
theorem G.close {α : Type} {p : α → Prop} {l : α → List HProp} (q : HProp) (hq : q = Pk p l) (x : α) (hx : p x) {L : List HProp} (hL : L = l x) [h : Takes L H R] (k : G P c ds todo e (q :: R) Q) : G P c ds todo e H Q := by
  subst hq hL
  exact k.conv fun g w s => Pk.close x hx (s.perm h.takes)

theorem G.sel (q : HProp) [h : SelH H q R] (k : G P c ds todo e (q :: R) Q) : G P c ds todo e H Q := k.perm h.sel

/-- Letting a chunk go. -/
theorem G.drop (q : HProp) [h : SelH H q R] (k : G P c ds todo e R Q) : G P c ds todo e H Q :=
  k.conv fun _ _ s => (s.perm h.sel).tail

theorem G.tail {q : HProp} (k : G P c ds todo e H Q) : G P c ds todo e (q :: H) Q := k.conv fun _ _ s => s.tail

/-- A loop: E x is known and Hf x is held at the head of each round, with x as I says; the measure falls. -/
theorem G.loopI {α : Type} {k : List It} {body : Code} (E : α → Env) (Hf : α → List HProp) (I : α → Prop) (μ : α → Nat) (x0 : α) (h0 : I x0) (le : (E x0).le e) (hH : H = Hf x0)
    (round : ∀ x, I x → (∀ y, I y → μ y < μ x → G P c ds (.lp body :: k) (E y) (Hf y) Q) → G P c ds (.code body :: .lp body :: k) (E x) (Hf x) Q) : G P c ds (.code (.loop body) :: k) e H Q := by
  subst hH
  refine G.loop_lp (G.forget (E x0) le ?_)
  have key : ∀ n x, μ x = n → I x → G P c ds (.lp body :: k) (E x) (Hf x) Q := by
    intro n
    induction n using Nat.strongRecOn with
    | _ n ih =>
      intro x hn hx
      exact G.lp (round x hx fun y hy hlt => ih (μ y) (hn ▸ hlt) y rfl hy)
  exact key _ x0 rfl h0

/-- Just this answer, and just this behind it. -/
def Ret (v : Value) (H : List HProp) : Post := fun v' H' => v' = v ∧ H' = H

variable {all : Array Oper} {l : List Oper} {k : List It} {d : Nat} {ty : TypeId} {pos : String} {af : Array Edge} {gu : Option (Nat × Bool)}

theorem R.callD {f : FuncId} {args : List Operand} {ts : Array TypeId} {vs : List Value} {fn : Func} {body : Code} {Hp R H1 : List HProp} {v : Value} (hf : P.funcs[f]? = some fn) (hb : fn.body = some body) (hn : fn.name ≠ "runtime.NumGoroutine")
    (ha : evList e args = some vs) (hd : Nat.blt d c.n = true) (spec : Fun P f vs Hp (Ret v H1)) [hp : Takes Hp H R] (h : G P c ds (.ops all l :: k) ((d, v) :: e) (H1 ++ R) Q) :
    GR P c ds all ⟨some d, .call ⟨.value (.func f), args.toArray, ts⟩, ty, pos, af, gu⟩ l k e H Q :=
  Am.R.call hf hb hn ha hd spec hp.takes (by rintro _ _ ⟨rfl, rfl⟩; exact h)

theorem R.callD0 {f : FuncId} {args : List Operand} {ts : Array TypeId} {vs : List Value} {fn : Func} {body : Code} {Hp R H1 : List HProp} {v : Value} (hf : P.funcs[f]? = some fn) (hb : fn.body = some body) (hn : fn.name ≠ "runtime.NumGoroutine")
    (ha : evList e args = some vs) (spec : Fun P f vs Hp (Ret v H1)) [hp : Takes Hp H R] (h : G P c ds (.ops all l :: k) e (H1 ++ R) Q) :
    GR P c ds all ⟨none, .call ⟨.value (.func f), args.toArray, ts⟩, ty, pos, af, gu⟩ l k e H Q :=
  Am.R.call0 hf hb hn ha spec hp.takes (by rintro _ _ ⟨rfl, rfl⟩; exact h)

/-- A call that only looks, by its contract. -/
theorem Ok.callD {f : FuncId} {args : List Operand} {ts : Array TypeId} {vs : List Value} {fn : Func} {body : Code} {dst : Option Nat} {Hp R : List HProp} {v : Value} (hf : P.funcs[f]? = some fn) (hb : fn.body = some body) (hn : fn.name ≠ "runtime.NumGoroutine")
    (ha : evList e args = some vs) (spec : Fun P f vs Hp (Ret v Hp)) [hp : Takes Hp H R] : Ok P e ⟨dst, .call ⟨.value (.func f), args.toArray, ts⟩, ty, pos, af, gu⟩ H v :=
  Ok.call hf hb hn ha spec (fun _ _ h => h) hp.takes

end rules
end Go.Am
