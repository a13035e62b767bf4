/- Drawn regions, more: operations with guards. -/
import Derived.Test.YtffcilmllebdmaaAmOld
namespace Go.Am
section
variable {P : Program} {all : Array Oper} {c : Ctx} {ds : List Nat} {k : List It} {Q : Post} {l : List (Tg × Oper)} {e : Env} {H : List HProp}
variable {d : Nat} {ty : TypeId} {pos : String} {af : Array Edge} {op : Op} {v : Value} {j t : Nat} {want b : Bool}

theorem EVS.oky (hj : (all[j]?).bind (·.dst) = some t) (hx : e.get t = some (.bool b)) (hb : b = want) (h1 : Ok P e ⟨some d, op, ty, pos, af, some (j, want)⟩ H v) (h : EVS P c ds all k Q l ((d, v) :: e) H) :
    EVS P c ds all k Q ((.look, ⟨some d, op, ty, pos, af, some (j, want)⟩) :: l) e H := by
  simp only [EVS]; exact .inl ⟨.inr ⟨j, want, t, rfl, hj, by rw [hx, hb]⟩, v, h1, h⟩
theorem EVS.pury (hj : (all[j]?).bind (·.dst) = some t) (hx : e.get t = some (.bool b)) (hb : b = want) (h1 : ∀ H', Ok P e ⟨some d, op, ty, pos, af, some (j, want)⟩ H' v) (h : EVS P c ds all k Q l ((d, v) :: e) H) :
    EVS P c ds all k Q ((.pur, ⟨some d, op, ty, pos, af, some (j, want)⟩) :: l) e H := by
  simp only [EVS]; exact .inl ⟨.inr ⟨j, want, t, rfl, hj, by rw [hx, hb]⟩, v, h1, h⟩
theorem EVS.noT {tg : Tg} {x : Value} (hj : (all[j]?).bind (·.dst) = some t) (hx : e.get t = some x) (hb : x = undef ∨ ∃ b, x = .bool b ∧ b = !want) (h : EVS P c ds all k Q l ((d, undef) :: e) H) :
    EVS P c ds all k Q ((tg, ⟨some d, op, ty, pos, af, some (j, want)⟩) :: l) e H := by
  have hno : No all e (⟨some d, op, ty, pos, af, some (j, want)⟩ : Oper) := ⟨j, want, t, x, rfl, hj, hx, hb.imp id fun ⟨b, e1, e2⟩ => by rw [e1, e2]⟩
  cases tg <;> (simp only [EVS]; exact .inr ⟨hno, h⟩)
theorem EVS.noT0 {tg : Tg} {x : Value} (hj : (all[j]?).bind (·.dst) = some t) (hx : e.get t = some x) (hb : x = undef ∨ ∃ b, x = .bool b ∧ b = !want) (h : EVS P c ds all k Q l e H) :
    EVS P c ds all k Q ((tg, ⟨none, op, ty, pos, af, some (j, want)⟩) :: l) e H := by
  have hno : No all e (⟨none, op, ty, pos, af, some (j, want)⟩ : Oper) := ⟨j, want, t, x, rfl, hj, hx, hb.imp id fun ⟨b, e1, e2⟩ => by rw [e1, e2]⟩
  cases tg <;> (simp only [EVS]; exact .inr ⟨hno, h⟩)
theorem EVS.split {o : Oper} {tg : Tg} (hg : o.guard = some (j, want)) (hj : (all[j]?).bind (·.dst) = some t) (hx : e.get t = some (.bool b)) (h1 : b = want → EVS P c ds all k Q ((tg, o) :: l) e H) (h2 : b = !want → EVS P c ds all k Q ((tg, o) :: l) e H) :
    EVS P c ds all k Q ((tg, o) :: l) e H := by
  by_cases h : b = want
  · exact h1 h
  · exact h2 (by cases b <;> cases want <;> simp_all)

/-- An act with a guard that says yes. -/
theorem EVS.m_opy {dst : Option Nat} {Qo : Post} (hj : (all[j]?).bind (·.dst) = some t) (hx : e.get t = some (.bool b)) (hb : b = want) (h1 : ∀ ρ, Tells e ρ → OpRun P (execOp ρ ⟨dst, op, ty, pos, af, some (j, want)⟩) H Qo) (h : ∀ v H', Qo v H' → EVS P c ds all k Q l (putE dst v e) H') :
    EVS P c ds all k Q ((.act, ⟨dst, op, ty, pos, af, some (j, want)⟩) :: l) e H := by
  simp only [EVS]
  exact .inl ⟨.inr ⟨j, want, t, rfl, hj, by rw [hx, hb]⟩, Qo, h1, h⟩
theorem EVS.m_oky (hj : (all[j]?).bind (·.dst) = some t) (hx : e.get t = some (.bool b)) (hb : b = want) (h1 : Ok P e ⟨some d, op, ty, pos, af, some (j, want)⟩ H v) (h : EVS P c ds all k Q l ((d, v) :: e) H) : EVS P c ds all k Q ((.act, ⟨some d, op, ty, pos, af, some (j, want)⟩) :: l) e H :=
  EVS.m_opy hj hx hb h1 (by rintro _ _ ⟨rfl, rfl⟩; exact h)
theorem EVS.m_alloc {T : TypeId} {v : Value} {vs : List Value} [hz : TZero P T v] (hv : v.cells = vs.toArray)
    (h : ∀ b, EVS P c ds all k Q l ((d, .pointer (some ⟨b, 0, none⟩)) :: e) (cb b vs T :: H)) : EVS P c ds all k Q ((.new, ⟨some d, .alloc T, ty, pos, af, none⟩) :: l) e H := by
  simp only [EVS]
  refine .inl ⟨.inl rfl, fun v H' => ∃ b, v = .pointer (some ⟨b, 0, none⟩) ∧ H' = cb b vs T :: H, fun ρ hρ g w s => ?_, fun v H' ⟨b, _, e2⟩ => ⟨[cb b vs T], by rw [e2]; exact .refl _⟩, fun v H' ⟨b, e1, e2⟩ => by rw [e1, e2]; exact h b⟩
  have : (execOp ρ ⟨some d, .alloc T, ty, pos, af, none⟩).run P w = .ok (.value (.pointer (some ⟨w.heap.size, 0, none⟩))) { w with heap := w.heap.push (.cells vs.toArray T) } := by
    simp [execOp, Instr.alloc, run_zeroValue_of hz, newVar, newRow, newObj, Sem.run, hv]
  rw [this]
  exact ⟨_, ⟨_, rfl, rfl⟩, s.new _⟩

/-! ### Struct and array values held equal -/
end
end Go.Am
