/- The operations, one rule each. -/
import Derived.Test.YtffcilmllebdmaaAmRun
import Derived.WalkKit
namespace Go.Am

/-! ### What the program's tables say of a type -/

class TCell (P : Program) (t : TypeId) : Prop where
  cell : (P.info? t).map (·.size) = some 1 ∧ (match P.underlying t with | some (.struct _) | some (.array ..) | none => false | _ => true) = true
class TAgg (P : Program) (t : TypeId) (n : outParam Nat) : Prop where
  agg : (P.info? t).map (·.size) = some n ∧ (match P.underlying t with | some (.struct _) | some (.array ..) => true | _ => false) = true
class TFld (P : Program) (t : TypeId) (f : Nat) (off : outParam Nat) : Prop where
  fld : (match P.underlying t with | some (.struct fs) => (fs[f]?).bind (fun x => match P.info? x.type with | some i => if i.size = 0 then none else some x.offset | none => none) | _ => none) = some off
class TPart (P : Program) (t : TypeId) (f : Nat) (off n : outParam Nat) (agg : outParam Bool) : Prop where
  part : (match P.underlying t with | some (.struct fs) => (fs[f]?).bind (fun x => (P.info? x.type).bind fun i => (P.underlying x.type).map fun d => (x.offset, i.size, match d with | .struct _ | .array .. => true | _ => false)) | _ => none) = some (off, n, agg)
class TSl (P : Program) (t : TypeId) (el : outParam TypeId) (n bytes : outParam Nat) : Prop where
  sl : P.underlying t = some (.slice el) ∧ (P.info? el).map (fun i => (i.size, i.bytes)) = some (n, bytes)
class TArr (P : Program) (t : TypeId) (len : outParam Nat) (el : outParam TypeId) (n : outParam Nat) : Prop where
  arr : P.underlying t = some (.array len el) ∧ (P.info? el).map (·.size) = some n
class TZero (P : Program) (t : TypeId) (z : outParam Value) : Prop where
  zero : (P.info? t).bind (·.zero) = some z
class TUnd (P : Program) (t : TypeId) (d : outParam TypeDesc) : Prop where
  und : P.underlying t = some d

section
variable {P : Program} {w : World}

theorem run_underlying_of {t : TypeId} {d : TypeDesc} (h : P.underlying t = some d) : (underlying t).run P w = .ok d w := by
  simp [underlying, program, Sem.run, h]
theorem run_typeInfo_of {t : TypeId} {i : TypeInfo} (h : P.info? t = some i) : (typeInfo t).run P w = .ok i w := by
  simp [typeInfo, program, Sem.run, h]
theorem run_sizeOf_of {t : TypeId} {n : Nat} (h : (P.info? t).map (·.size) = some n) : (sizeOf t).run P w = .ok n w := by
  cases hi : P.info? t with
  | none => simp [hi] at h
  | some i => simp [hi] at h; simp [sizeOf, run_typeInfo_of hi, h]
theorem run_isAgg_cell {t : TypeId} (h : TCell P t) : (isAgg t).run P w = .ok false w := by
  have h2 := h.cell.2
  cases hu : P.underlying t with
  | none => simp [hu] at h2
  | some d => simp only [isAgg, Sem.run_bind, run_underlying_of hu, Result.andThen_ok]; rw [hu] at h2; cases d <;> simp_all
theorem run_isAgg_agg {t : TypeId} {n : Nat} (h : TAgg P t n) : (isAgg t).run P w = .ok true w := by
  have h2 := h.agg.2
  cases hu : P.underlying t with
  | none => simp [hu] at h2
  | some d => simp only [isAgg, Sem.run_bind, run_underlying_of hu, Result.andThen_ok]; rw [hu] at h2; cases d <;> simp_all
theorem run_zeroValue_of {t : TypeId} {z : Value} (h : TZero P t z) : (zeroValue t).run P w = .ok z w := by
  have := h.zero
  cases hi : P.info? t with
  | none => simp [hi] at this
  | some i => simp [hi] at this; simp [zeroValue, run_typeInfo_of hi, this]
end

/-! ### Blocks of cells -/

/-- Block b has these cells, of type T, and any of them may be written. -/
def cb (b : Nat) (l : List Value) (T : TypeId) : HProp := blk b (.cells l.toArray T)

/-- Block b is among what is held; u: what is held if its cells are others. -/
class SelC (H : List HProp) (b : Nat) (l : outParam (List Value)) (T : outParam TypeId) (u : outParam (List Value → List HProp)) : Prop where
  sel : ∃ R, H.Perm (cb b l T :: R) ∧ ∀ l', (u l').Perm (cb b l' T :: R)
instance SelC.here (H : List HProp) (b : Nat) (l : List Value) (T : TypeId) : SelC (cb b l T :: H) b l T (fun l' => cb b l' T :: H) := ⟨⟨H, .refl _, fun _ => .refl _⟩⟩
instance (priority := low) SelC.there (H : List HProp) (x : HProp) (b : Nat) (l : List Value) (T : TypeId) (u : List Value → List HProp) [h : SelC H b l T u] : SelC (x :: H) b l T (fun l' => x :: u l') := by
  obtain ⟨R, h1, h2⟩ := h.sel
  exact ⟨⟨x :: R, (List.Perm.cons x h1).trans (.swap _ _ _), fun l' => (List.Perm.cons x (h2 l')).trans (.swap _ _ _)⟩⟩

/-- Any block. -/
class SelO (H : List HProp) (b : Nat) (o : outParam Obj) (u : outParam (Obj → List HProp)) : Prop where
  sel : ∃ R, H.Perm (blk b o :: R) ∧ ∀ o', (u o').Perm (blk b o' :: R)
instance SelO.here (H : List HProp) (b : Nat) (o : Obj) : SelO (blk b o :: H) b o (fun o' => blk b o' :: H) := ⟨⟨H, .refl _, fun _ => .refl _⟩⟩
instance (priority := low) SelO.there (H : List HProp) (x : HProp) (b : Nat) (o : Obj) (u : Obj → List HProp) [h : SelO H b o u] : SelO (x :: H) b o (fun o' => x :: u o') := by
  obtain ⟨R, h1, h2⟩ := h.sel
  exact ⟨⟨x :: R, (List.Perm.cons x h1).trans (.swap _ _ _), fun o' => (List.Perm.cons x (h2 o')).trans (.swap _ _ _)⟩⟩

section cells
variable {H : List HProp} {b : Nat} {l : List Value} {T : TypeId} {u : List Value → List HProp} {g : Fr} {w : World}

theorem SelC.cell (hs : SelC H b l T u) (s : Sat H g w) (i : Nat) : w.cell? ⟨b, i, none⟩ = l[i]? := by
  obtain ⟨R, h1, _⟩ := hs.sel
  have := (s.perm h1).cell i
  simpa using this

theorem SelC.heap (hs : SelC H b l T u) (s : Sat H g w) : w.heap[b]? = some (.cells l.toArray T) := by
  obtain ⟨R, h1, _⟩ := hs.sel
  exact (s.perm h1).heap

theorem SelC.set (hs : SelC H b l T u) (s : Sat H g w) (i : Nat) (v : Value) : Sat (u (l.set i v)) g (w.setCell ⟨b, i, none⟩ v) := by
  obtain ⟨R, h1, h2⟩ := hs.sel
  have := (s.perm h1).setCell i v
  have e : (l.toArray.setIfInBounds i v) = (l.set i v).toArray := by simp
  rw [e] at this
  exact this.perm (h2 _).symm

theorem SelC.row (hs : SelC H b l T u) (s : Sat H g w) (l' : List Value) : Sat (u l') g (w.setRow b l'.toArray) := by
  obtain ⟨R, h1, h2⟩ := hs.sel
  have hh := (s.perm h1).heap
  refine Sat.perm ((s.perm h1).change (o' := .cells l'.toArray T) ?_ fun x hx => ?_) (h2 _).symm
  · simp [World.setRow, Array.getElem?_modify, hh]
  · simp [World.setRow, Array.getElem?_modify, Ne.symm hx]

end cells

/-- Some cells in the midst of others. -/
def setSeg (l : List Value) (i : Nat) (vs : List Value) : List Value := l.take i ++ vs ++ l.drop (i + vs.length)

def plainCells : List Value → Bool
  | [] => true
  | .agg _ :: _ => false
  | .tuple _ :: _ => false
  | _ :: l => plainCells l

theorem plainCells_one {l : List Value} (h : plainCells l = true) : ∀ v ∈ l, v.oneCell' = true := by
  induction l with
  | nil => intro v hv; cases hv
  | cons x l ih =>
    intro v hv
    cases x <;> simp only [plainCells] at h <;> first | (cases h; done) | (rcases List.mem_cons.1 hv with rfl | hv <;> first | rfl | exact ih h v hv)

section rules
variable {P : Program} {c : Ctx} {ds : List Nat} {all : Array Oper} {l : List Oper} {k : List It} {e : Env} {H : List HProp} {Q : Post}
variable {d : Nat} {ty : TypeId} {pos : String} {af : Array Edge} {gu : Option (Nat × Bool)}

/-- The operation gives just v and leaves what is held as it is. -/
def Ok (P : Program) (e : Env) (o : Oper) (H : List HProp) (v : Value) : Prop := ∀ ρ, Tells e ρ → OpRun P (execOp ρ o) H fun v' H' => v' = v ∧ H' = H

theorem Ok.val {o : Oper} {v : Value} (hrun : ∀ ρ, Tells e ρ → ∀ g w, Sat H g w → (execOp ρ o).run P w = .ok (.value v) w) : Ok P e o H v :=
  fun ρ hρ g w s => by rw [hrun ρ hρ g w s]; exact ⟨H, ⟨rfl, rfl⟩, s⟩

theorem GR.ok {op : Op} {d : Nat} {ty : TypeId} {pos : String} {af : Array Edge} {gu : Option (Nat × Bool)} {v : Value} (h1 : Ok P e ⟨some d, op, ty, pos, af, gu⟩ H v) (hnd : notDefer op = true) (hd : Nat.blt d c.n = true) (h : G P c ds (.ops all l :: k) ((d, v) :: e) H Q) : GR P c ds all ⟨some d, op, ty, pos, af, gu⟩ l k e H Q :=
  GR.op hnd hd h1 (by rintro _ _ ⟨rfl, rfl⟩; exact h)

/-- An operation that gives v and leaves the world as it is. -/
theorem GR.val {o : Oper} {v : Value} (hnd : notDefer o.op = true) (hd : dstOk o.dst c.n = true)
    (hrun : ∀ ρ, Tells e ρ → ∀ g w, Sat H g w → (execOp ρ o).run P w = .ok (.value v) w) (h : G P c ds (.ops all l :: k) (putE o.dst v e) H Q) : GR P c ds all o l k e H Q :=
  GR.op (Qo := fun v' H' => v' = v ∧ H' = H) hnd hd (fun ρ hρ g w s => by rw [hrun ρ hρ g w s]; exact ⟨H, ⟨rfl, rfl⟩, s⟩) (by rintro _ _ ⟨rfl, rfl⟩; exact h)

/-- An operation that makes a block. -/
theorem GR.mk {o : Oper} {ob : Obj} {f : Nat → Value} (hnd : notDefer o.op = true) (hd : dstOk o.dst c.n = true)
    (hrun : ∀ ρ, Tells e ρ → ∀ g w, Sat H g w → (execOp ρ o).run P w = .ok (.value (f w.heap.size)) { w with heap := w.heap.push ob })
    (h : ∀ b, G P c ds (.ops all l :: k) (putE o.dst (f b) e) (blk b ob :: H) Q) : GR P c ds all o l k e H Q :=
  GR.op (Qo := fun v' H' => ∃ b, v' = f b ∧ H' = blk b ob :: H) hnd hd (fun ρ hρ g w s => by rw [hrun ρ hρ g w s]; exact ⟨_, ⟨_, rfl, rfl⟩, s.new ob⟩) (by rintro _ _ ⟨b, rfl, rfl⟩; exact h b)

theorem Ok.move {x : Operand} {v : Value} (hx : ev e x = some v) : Ok P e ⟨some d, .move x, ty, pos, af, gu⟩ H (v) :=
  Ok.val (fun ρ hρ g w _ => by simp [execOp, hρ x v hx])

theorem Ok.assign {x : Operand} {v : Value} (hx : ev e x = some v) : Ok P e ⟨some d, .assign x, ty, pos, af, gu⟩ H (v) :=
  Ok.val (fun ρ hρ g w _ => by simp [execOp, hρ x v hx])

/-- pick: where the second is not known (its guard said no) the first decides. -/
theorem Ok.pick_t {x a y : Operand} {t : Bool} {v : Value} (hx : ev e x = some (.bool t)) (ht : t = true) (ha : ev e a = some v) : Ok P e ⟨some d, .pick x a y, ty, pos, af, gu⟩ H (v) :=
  Ok.val (fun ρ hρ g w _ => by simp [execOp, hρ x _ hx, hρ a v ha, asBool, ht])

theorem Ok.pick_f {x a y : Operand} {t : Bool} {v : Value} (hx : ev e x = some (.bool t)) (ht : t = false) (hy : ev e y = some v) : Ok P e ⟨some d, .pick x a y, ty, pos, af, gu⟩ H (v) :=
  Ok.val (fun ρ hρ g w _ => by simp [execOp, hρ x _ hx, hρ y v hy, asBool, ht])

theorem Ok.extract {x : Operand} {vs : List Value} {i : Nat} {v : Value} (hx : ev e x = some (.tuple vs.toArray)) (hi : vs[i]? = some v) : Ok P e ⟨some d, .extract x i, ty, pos, af, gu⟩ H (v) :=
  Ok.val (fun ρ hρ g w _ => by simp [execOp, hρ x _ hx, Instr.extract, hi])

theorem Ok.nilCheck {x : Operand} {a : Addr} (hx : ev e x = some (.pointer (some a))) : Ok P e ⟨some d, .nilCheck x, ty, pos, af, gu⟩ H (.pointer (some a)) :=
  Ok.val (fun ρ hρ g w _ => by simp [execOp, hρ x _ hx])

theorem R.box {T : TypeId} {x : Operand} {v : Value} {vs : List Value} (hx : ev e x = some v) (hv : v.cells = vs.toArray) (hd : Nat.blt d c.n = true)
    (h : ∀ b, G P c ds (.ops all l :: k) ((d, .pointer (some ⟨b, 0, none⟩)) :: e) (cb b vs T :: H) Q) : GR P c ds all ⟨some d, .box T x, ty, pos, af, gu⟩ l k e H Q :=
  GR.mk (f := fun b => .pointer (some ⟨b, 0, none⟩)) (ob := .cells vs.toArray T) rfl hd (fun ρ hρ g w _ => by simp [execOp, hρ x _ hx, Instr.box, newVar, newRow, newObj, Sem.run, hv]) h

theorem R.alloc {T : TypeId} {v : Value} {vs : List Value} [hz : TZero P T v] (hv : v.cells = vs.toArray) (hd : Nat.blt d c.n = true)
    (h : ∀ b, G P c ds (.ops all l :: k) ((d, .pointer (some ⟨b, 0, none⟩)) :: e) (cb b vs T :: H) Q) : GR P c ds all ⟨some d, .alloc T, ty, pos, af, gu⟩ l k e H Q :=
  GR.mk (f := fun b => .pointer (some ⟨b, 0, none⟩)) (ob := .cells vs.toArray T) rfl hd (fun ρ hρ g w _ => by simp [execOp, Instr.alloc, run_zeroValue_of hz, newVar, newRow, newObj, Sem.run, hv]) h

theorem Ok.load {T : TypeId} {x : Operand} {b o : Nat} {ls : List Value} {T' : TypeId} {u : List Value → List HProp} {v : Value} [hc : TCell P T] (hx : ev e x = some (.pointer (some ⟨b, o, none⟩)))
    [hs : SelC H b ls T' u] (hv : ls[o]? = some v) : Ok P e ⟨some d, .load T x, ty, pos, af, gu⟩ H (v) :=
  Ok.val (fun ρ hρ g w s => by
    have := hs.cell s o
    simp [execOp, hρ x _ hx, Instr.loadAt, Instr.sureAddr, loadVar, run_isAgg_cell hc, load, Sem.run, this, hv])

/-- The cells of a struct or an array. -/
theorem Ok.loadA {T : TypeId} {x : Operand} {b o n : Nat} {ls : List Value} {T' : TypeId} {u : List Value → List HProp} {vs : List Value} [hc : TAgg P T n] (hx : ev e x = some (.pointer (some ⟨b, o, none⟩)))
    [hs : SelC H b ls T' u] (hv : (ls.drop o).take n = vs) (hn : Nat.ble (o + n) ls.length = true) : Ok P e ⟨some d, .load T x, ty, pos, af, gu⟩ H (.agg vs.toArray) :=
  Ok.val (fun ρ hρ g w s => by
    have hn : o + n ≤ ls.length := by simpa using hn
    have hl : vs.length = n := by subst hv; simp; omega
    have := run_loadCells_list (P := P) w ⟨b, o, none⟩ vs (fun j v hj => by
      rw [Addr.add_lit, hs.cell s]
      have hjn : j < n := by
        by_cases hh : j < n
        · exact hh
        · rw [List.getElem?_eq_none (by omega)] at hj; cases hj
      subst hv
      rw [List.getElem?_take, List.getElem?_drop] at hj
      simpa [hjn] using hj)
    rw [hl] at this
    simp [execOp, hρ x _ hx, Instr.loadAt, Instr.sureAddr, loadVar, run_isAgg_agg hc, run_sizeOf_of hc.agg.1, this])

theorem oneCell_cells {v : Value} (h : v.oneCell' = true) : v.cells = #[v] := by cases v <;> first | rfl | cases h

theorem op_store {T : TypeId} {x y : Operand} {b o : Nat} {ls : List Value} {T' : TypeId} {u : List Value → List HProp} {v : Value} {dst : Option Nat} [hc : TCell P T] (hx : ev e x = some (.pointer (some ⟨b, o, none⟩))) (hy : ev e y = some v)
    [hs : SelC H b ls T' u] (hv : plainCells [v] = true) (ho : Nat.blt o ls.length = true) :
    ∀ ρ, Tells e ρ → OpRun P (execOp ρ ⟨dst, .store T x y, ty, pos, af, gu⟩) H fun _ H' => H' = u (ls.set o v) := by
  intro ρ hρ g w s
  have ho : o < ls.length := by simpa [Nat.blt_eq] using ho
  have h1 : v.oneCell' = true := plainCells_one hv v (by simp)
  have hcell := hs.cell s o
  have hh := hs.heap s
  have hf : w.frozen? ⟨b, o, none⟩ = false := by simp [World.frozen?, hh]
  rw [List.getElem?_eq_getElem ho] at hcell
  have hst : (Go.store (⟨b, o, none⟩ : Addr) v).run P w = Result.ok () (w.setCell ⟨b, o, none⟩ v) := by
    rw [run_store P w _ v _ h1, hcell]; simp [hf]
  have : (execOp ρ ⟨dst, .store T x y, ty, pos, af, gu⟩).run P w = .ok .skip (w.setCell ⟨b, o, none⟩ v) := by
    simp [execOp, hρ x _ hx, hρ y _ hy, Instr.storeAt, Instr.sureAddr, storeVar, run_sizeOf_of hc.cell.1, oneCell_cells h1, storeCells, Addr.add_zero', hst]
  rw [this]
  exact ⟨_, rfl, hs.set s o v⟩

theorem op_storeA {T : TypeId} {x y : Operand} {b o n : Nat} {ls : List Value} {T' : TypeId} {u : List Value → List HProp} {vs : List Value} {dst : Option Nat} [hc : TAgg P T n] (hx : ev e x = some (.pointer (some ⟨b, o, none⟩))) (hy : ev e y = some (.agg vs.toArray))
    [hs : SelC H b ls T' u] (hv : plainCells vs = true) (hn : vs.length = n) (ho : Nat.ble (o + n) ls.length = true) :
    ∀ ρ, Tells e ρ → OpRun P (execOp ρ ⟨dst, .store T x y, ty, pos, af, gu⟩) H fun _ H' => H' = u (setSeg ls o vs) := by
  intro ρ hρ g w s
  have ho : o + n ≤ ls.length := by simpa using ho
  have hh := hs.heap s
  have := run_storeCells_at (P := P) b o T' vs 0 ls.toArray w hh (by simp; omega) (plainCells_one hv)
  simp only [Nat.add_zero] at this
  have : (execOp ρ ⟨dst, .store T x y, ty, pos, af, gu⟩).run P w = .ok .skip (w.setRow b (setSeg ls o vs).toArray) := by
    have e1 : (setSeg ls o vs).toArray = (ls.toArray.toList.take o ++ vs ++ ls.toArray.toList.drop (o + vs.length)).toArray := rfl
    simp only [execOp, hρ x _ hx, hρ y _ hy, Instr.storeAt, Instr.sureAddr, storeVar, Value.cells, Sem.run_bind, Sem.run_pure, Result.andThen_ok, run_sizeOf_of hc.agg.1, e1]
    simp only [List.size_toArray, hn, ne_eq, not_true, if_false, this, Result.andThen_ok]
  rw [this]
  exact ⟨_, rfl, hs.row s _⟩

theorem R.store {T : TypeId} {x y : Operand} {b o : Nat} {ls : List Value} {T' : TypeId} {u : List Value → List HProp} {v : Value} [hc : TCell P T] (hx : ev e x = some (.pointer (some ⟨b, o, none⟩))) (hy : ev e y = some v)
    [hs : SelC H b ls T' u] (hv : plainCells [v] = true) (ho : Nat.blt o ls.length = true) (h : G P c ds (.ops all l :: k) e (u (ls.set o v)) Q) :
    GR P c ds all ⟨none, .store T x y, ty, pos, af, gu⟩ l k e H Q :=
  GR.op rfl rfl (op_store hx hy hv ho) (by rintro v' _ rfl; exact h)

theorem R.storeA {T : TypeId} {x y : Operand} {b o n : Nat} {ls : List Value} {T' : TypeId} {u : List Value → List HProp} {vs : List Value} [hc : TAgg P T n] (hx : ev e x = some (.pointer (some ⟨b, o, none⟩))) (hy : ev e y = some (.agg vs.toArray))
    [hs : SelC H b ls T' u] (hv : plainCells vs = true) (hn : vs.length = n) (ho : Nat.ble (o + n) ls.length = true) (h : G P c ds (.ops all l :: k) e (u (setSeg ls o vs)) Q) :
    GR P c ds all ⟨none, .store T x y, ty, pos, af, gu⟩ l k e H Q :=
  GR.op rfl rfl (op_storeA hx hy hv hn ho) (by rintro v' _ rfl; exact h)

theorem Ok.fieldAddr {S : TypeId} {x : Operand} {b o f fo : Nat} [hf : TFld P S f fo] (hx : ev e x = some (.pointer (some ⟨b, o, none⟩))) : Ok P e ⟨some d, .fieldAddr S x f, ty, pos, af, gu⟩ H (.pointer (some ⟨b, o + fo, none⟩)) :=
  Ok.val (fun ρ hρ g w _ => by
    have := hf.fld
    split at this
    · rename_i fs hu
      cases hfs : fs[f]? with
      | none => simp [hfs] at this
      | some x' =>
        simp only [hfs, Option.bind_some] at this
        split at this
        · rename_i i hi
          split at this
          · cases this
          · rename_i hz
            cases this
            have hsz : (P.info? x'.type).map (·.size) = some i.size := by simp [hi]
            simp [execOp, hρ x _ hx, Instr.fieldAt, Instr.sureAddr, run_underlying_of hu, hfs, fieldPlace, run_sizeOf_of hsz, hz, Addr.add_lit]
        · cases this
    · cases this)

theorem Ok.field {S : TypeId} {x : Operand} {f fo n : Nat} {vs : List Value} {v : Value} [hf : TPart P S f fo n false] (hx : ev e x = some (.agg vs.toArray)) (hv : vs[fo]? = some v) : Ok P e ⟨some d, .field S x f, ty, pos, af, gu⟩ H (v) :=
  Ok.val (fun ρ hρ g w _ => by
    have := hf.part
    split at this
    · rename_i fs hu
      cases hfs : fs[f]? with
      | none => simp [hfs] at this
      | some x' =>
        simp only [hfs, Option.bind_some] at this
        cases hi : P.info? x'.type with
        | none => simp [hi] at this
        | some i =>
          cases hd' : P.underlying x'.type with
          | none => simp [hi, hd'] at this
          | some dd =>
            simp only [hi, hd', Option.bind_some, Option.map_some, Option.some.injEq, Prod.mk.injEq] at this
            obtain ⟨e1, _, e3⟩ := this
            have ha : (isAgg x'.type).run P w = .ok false w := by
              simp only [isAgg, Sem.run_bind, run_underlying_of hd', Result.andThen_ok]; cases dd <;> simp_all
            simp [execOp, hρ x _ hx, Instr.field, asAgg, run_underlying_of hu, hfs, part, ha, e1, hv]
    · cases this)

theorem Ok.fieldA {S : TypeId} {x : Operand} {f fo n : Nat} {vs ws : List Value} [hf : TPart P S f fo n true] (hx : ev e x = some (.agg vs.toArray)) (hv : (vs.drop fo).take n = ws) : Ok P e ⟨some d, .field S x f, ty, pos, af, gu⟩ H (.agg ws.toArray) :=
  Ok.val (fun ρ hρ g w _ => by
    have := hf.part
    split at this
    · rename_i fs hu
      cases hfs : fs[f]? with
      | none => simp [hfs] at this
      | some x' =>
        simp only [hfs, Option.bind_some] at this
        cases hi : P.info? x'.type with
        | none => simp [hi] at this
        | some i =>
          cases hd' : P.underlying x'.type with
          | none => simp [hi, hd'] at this
          | some dd =>
            simp only [hi, hd', Option.bind_some, Option.map_some, Option.some.injEq, Prod.mk.injEq] at this
            obtain ⟨e1, e2, e3⟩ := this
            have ha : (isAgg x'.type).run P w = .ok true w := by
              simp only [isAgg, Sem.run_bind, run_underlying_of hd', Result.andThen_ok]; cases dd <;> simp_all
            have hsz : (P.info? x'.type).map (·.size) = some n := by simp [hi, e2]
            have he : vs.toArray.extract fo (fo + n) = ws.toArray := by subst hv; simp [List.extract_eq_take_drop]
            simp only [execOp, hρ x _ hx, Instr.field, asAgg, Sem.run_bind, Sem.run_pure, run_underlying_of hu, Result.andThen_ok, hfs, part, ha, e1, run_sizeOf_of hsz, he, if_true]
    · cases this)

theorem Ok.indexAddr {T : TypeId} {x y : Operand} {b o len cap n bytes : Nat} {el : TypeId} {kk : IntKind} {i : Int} [ht : TSl P T el n bytes] (hx : ev e x = some (.slice (some ⟨b, o, none⟩) len cap)) (hy : ev e y = some (.int kk i)) (h0 : 0 ≤ i ∧ i < (len : Int)) : Ok P e ⟨some d, .indexAddr T x y, ty, pos, af, gu⟩ H (.pointer (some ⟨b, o + i.toNat * n, none⟩)) :=
  Ok.val (fun ρ hρ g w _ => by
    have hsz : (P.info? el).map (·.size) = some n := by
      have := ht.sl.2
      cases hi : P.info? el with
      | none => simp [hi] at this
      | some i => simp [hi] at this; simp [this.1]
    simp [execOp, hρ x _ hx, hρ y _ hy, Instr.indexAt, asIntOf, run_underlying_of ht.sl.1, h0, run_sizeOf_of hsz, Addr.add_lit])

theorem Ok.indexAddrA {T : TypeId} {x y : Operand} {b o len n : Nat} {el : TypeId} {kk : IntKind} {i : Int} [ht : TArr P T len el n] (hx : ev e x = some (.pointer (some ⟨b, o, none⟩))) (hy : ev e y = some (.int kk i)) (h0 : 0 ≤ i ∧ i < (len : Int)) : Ok P e ⟨some d, .indexAddr T x y, ty, pos, af, gu⟩ H (.pointer (some ⟨b, o + i.toNat * n, none⟩)) :=
  Ok.val (fun ρ hρ g w _ => by
    simp [execOp, hρ x _ hx, hρ y _ hy, Instr.indexAt, Instr.sureAddr, asIntOf, run_underlying_of ht.arr.1, h0, run_sizeOf_of ht.arr.2, Addr.add_lit])

/-! arithmetic -/
section
variable {w : World}
theorem run_equal_bool {T : TypeId} {a b : Bool} (h : P.underlying T = some .bool) : (Op.equal T (.bool a) (.bool b)).run P w = .ok (a == b) w := by
  have : ∀ n, (Op.equalIn (n + 1) T (.bool a) (.bool b)).run P w = .ok (a == b) w := fun n => by simp [Op.equalIn, run_underlying_of h]
  exact this 9999
theorem run_equal_nil {T el : TypeId} {a : Option Addr} (h : P.underlying T = some (.pointer el)) : (Op.equal T (.pointer a) (.pointer none)).run P w = .ok a.isNone w := by
  have : ∀ n, (Op.equalIn (n + 1) T (.pointer a) (.pointer none)).run P w = .ok a.isNone w := fun n => by cases a <;> simp [Op.equalIn, run_underlying_of h]
  exact this 9999
end
theorem Ok.add {T T2 : TypeId} {x y : Operand} {kk : IntKind} {a b : Int} (hx : ev e x = some (.int kk a)) (hy : ev e y = some (.int kk b)) : Ok P e ⟨some d, .binOp .add T x y T2, ty, pos, af, gu⟩ H (.int kk (kk.wrap (a + b))) :=
  Ok.val (fun ρ hρ g w _ => by simp [execOp, hρ x _ hx, hρ y _ hy, eqGuard, binOp, Op.intArith])

theorem Ok.add' {T T2 : TypeId} {x y : Operand} {kk : IntKind} {a b : Int} (hx : ev e x = some (.int kk a)) (hy : ev e y = some (.int kk b)) (hw : kk.wrap (a + b) = a + b) : Ok P e ⟨some d, .binOp .add T x y T2, ty, pos, af, gu⟩ H (.int kk (a + b)) := by
  have := Ok.add (P := P) (H := H) (d := d) (ty := ty) (pos := pos) (af := af) (gu := gu) (T := T) (T2 := T2) hx hy
  rwa [hw] at this
theorem Ok.sub {T T2 : TypeId} {x y : Operand} {kk : IntKind} {a b : Int} (hx : ev e x = some (.int kk a)) (hy : ev e y = some (.int kk b)) : Ok P e ⟨some d, .binOp .sub T x y T2, ty, pos, af, gu⟩ H (.int kk (kk.wrap (a - b))) :=
  Ok.val (fun ρ hρ g w _ => by simp [execOp, hρ x _ hx, hρ y _ hy, eqGuard, binOp, Op.intArith])

theorem Ok.sub' {T T2 : TypeId} {x y : Operand} {kk : IntKind} {a b : Int} (hx : ev e x = some (.int kk a)) (hy : ev e y = some (.int kk b)) (hw : kk.wrap (a - b) = a - b) : Ok P e ⟨some d, .binOp .sub T x y T2, ty, pos, af, gu⟩ H (.int kk (a - b)) := by
  have := Ok.sub (P := P) (H := H) (d := d) (ty := ty) (pos := pos) (af := af) (gu := gu) (T := T) (T2 := T2) hx hy
  rwa [hw] at this
theorem Ok.mul {T T2 : TypeId} {x y : Operand} {kk : IntKind} {a b : Int} (hx : ev e x = some (.int kk a)) (hy : ev e y = some (.int kk b)) : Ok P e ⟨some d, .binOp .mul T x y T2, ty, pos, af, gu⟩ H (.int kk (kk.wrap (a * b))) :=
  Ok.val (fun ρ hρ g w _ => by simp [execOp, hρ x _ hx, hρ y _ hy, eqGuard, binOp, Op.intArith])

theorem Ok.lss {T T2 : TypeId} {x y : Operand} {kk : IntKind} {a b : Int} (hx : ev e x = some (.int kk a)) (hy : ev e y = some (.int kk b)) : Ok P e ⟨some d, .binOp .lss T x y T2, ty, pos, af, gu⟩ H (.bool (decide (a < b))) :=
  Ok.val (fun ρ hρ g w _ => by simp [execOp, hρ x _ hx, hρ y _ hy, eqGuard, binOp, Op.intCmp])

theorem Ok.leq {T T2 : TypeId} {x y : Operand} {kk : IntKind} {a b : Int} (hx : ev e x = some (.int kk a)) (hy : ev e y = some (.int kk b)) : Ok P e ⟨some d, .binOp .leq T x y T2, ty, pos, af, gu⟩ H (.bool (decide (a ≤ b))) :=
  Ok.val (fun ρ hρ g w _ => by simp [execOp, hρ x _ hx, hρ y _ hy, eqGuard, binOp, Op.intCmp])

theorem Ok.gtr {T T2 : TypeId} {x y : Operand} {kk : IntKind} {a b : Int} (hx : ev e x = some (.int kk a)) (hy : ev e y = some (.int kk b)) : Ok P e ⟨some d, .binOp .gtr T x y T2, ty, pos, af, gu⟩ H (.bool (decide (b < a))) :=
  Ok.val (fun ρ hρ g w _ => by simp [execOp, hρ x _ hx, hρ y _ hy, eqGuard, binOp, Op.intCmp])

theorem Ok.geq {T T2 : TypeId} {x y : Operand} {kk : IntKind} {a b : Int} (hx : ev e x = some (.int kk a)) (hy : ev e y = some (.int kk b)) : Ok P e ⟨some d, .binOp .geq T x y T2, ty, pos, af, gu⟩ H (.bool (decide (b ≤ a))) :=
  Ok.val (fun ρ hρ g w _ => by simp [execOp, hρ x _ hx, hρ y _ hy, eqGuard, binOp, Op.intCmp])

theorem Ok.eql {T T2 : TypeId} {x y : Operand} {kk : IntKind} {a b : Int} (hx : ev e x = some (.int kk a)) (hy : ev e y = some (.int kk b)) : Ok P e ⟨some d, .binOp .eql T x y T2, ty, pos, af, gu⟩ H (.bool (decide (a = b))) :=
  Ok.val (fun ρ hρ g w _ => by
    have : (a == b) = decide (a = b) := by by_cases hh : a = b <;> simp [hh]
    simp [execOp, hρ x _ hx, hρ y _ hy, eqGuard, binOp, Op.intCmp, this])

theorem Ok.neq {T T2 : TypeId} {x y : Operand} {kk : IntKind} {a b : Int} (hx : ev e x = some (.int kk a)) (hy : ev e y = some (.int kk b)) : Ok P e ⟨some d, .binOp .neq T x y T2, ty, pos, af, gu⟩ H (.bool (decide (a ≠ b))) :=
  Ok.val (fun ρ hρ g w _ => by
    have : (a != b) = decide (a ≠ b) := by by_cases hh : a = b <;> simp [hh]
    simp [execOp, hρ x _ hx, hρ y _ hy, eqGuard, binOp, Op.intCmp, this])

theorem Ok.not {T : TypeId} {x : Operand} {a : Bool} (hx : ev e x = some (.bool a)) : Ok P e ⟨some d, .unOp .not T x, ty, pos, af, gu⟩ H (.bool (!a)) :=
  Ok.val (fun ρ hρ g w _ => by simp [execOp, hρ x _ hx, Op.unary])

theorem Ok.neg {T : TypeId} {x : Operand} {kk : IntKind} {a : Int} (hx : ev e x = some (.int kk a)) : Ok P e ⟨some d, .unOp .neg T x, ty, pos, af, gu⟩ H (.int kk (kk.wrap (0 - a))) :=
  Ok.val (fun ρ hρ g w _ => by simp [execOp, hρ x _ hx, Op.unary, Op.intArith])

theorem Ok.eqlB {T T2 : TypeId} {x y : Operand} {a b : Bool} [ht : TUnd P T .bool] (hx : ev e x = some (.bool a)) (hy : ev e y = some (.bool b)) : Ok P e ⟨some d, .binOp .eql T x y T2, ty, pos, af, gu⟩ H (.bool (decide (a = b))) :=
  Ok.val (fun ρ hρ g w _ => by
    have : (a == b) = decide (a = b) := by cases a <;> cases b <;> rfl
    simp [execOp, hρ x _ hx, hρ y _ hy, eqGuard, binOp, run_equal_bool ht.und, this])

theorem Ok.neqB {T T2 : TypeId} {x y : Operand} {a b : Bool} [ht : TUnd P T .bool] (hx : ev e x = some (.bool a)) (hy : ev e y = some (.bool b)) : Ok P e ⟨some d, .binOp .neq T x y T2, ty, pos, af, gu⟩ H (.bool (decide (a ≠ b))) :=
  Ok.val (fun ρ hρ g w _ => by
    have : (a == b) = decide (a = b) := by cases a <;> cases b <;> rfl
    simp [execOp, hρ x _ hx, hρ y _ hy, eqGuard, binOp, run_equal_bool ht.und, this])

/-- A pointer against nil. -/
theorem Ok.eqlNil {T T2 el : TypeId} {x y : Operand} {a : Option Addr} [ht : TUnd P T (.pointer el)] (hx : ev e x = some (.pointer a)) (hy : ev e y = some (.pointer none)) : Ok P e ⟨some d, .binOp .eql T x y T2, ty, pos, af, gu⟩ H (.bool a.isNone) :=
  Ok.val (fun ρ hρ g w _ => by
    simp [execOp, hρ x _ hx, hρ y _ hy, eqGuard, binOp, run_equal_nil ht.und])

theorem Ok.neqNil {T T2 el : TypeId} {x y : Operand} {a : Option Addr} [ht : TUnd P T (.pointer el)] (hx : ev e x = some (.pointer a)) (hy : ev e y = some (.pointer none)) : Ok P e ⟨some d, .binOp .neq T x y T2, ty, pos, af, gu⟩ H (.bool a.isSome) :=
  Ok.val (fun ρ hρ g w _ => by
    simp [execOp, hρ x _ hx, hρ y _ hy, eqGuard, binOp, run_equal_nil ht.und])

theorem Ok.conv {S T : TypeId} {x : Operand} {kk k2 : IntKind} {dd : TypeDesc} {a : Int} [hs : TUnd P S dd] [ht : TUnd P T (.int k2)] (hx : ev e x = some (.int kk a)) : Ok P e ⟨some d, .convert S T x, ty, pos, af, gu⟩ H (.int k2 (k2.wrap a)) :=
  Ok.val (fun ρ hρ g w _ => by
    simp [execOp, hρ x _ hx, convert, run_underlying_of hs.und, run_underlying_of ht.und, Conv.intToInt])

/-! builtins -/
def evList (e : Env) : List Operand → Option (List Value)
  | [] => some []
  | x :: xs => match ev e x, evList e xs with | some v, some vs => some (v :: vs) | _, _ => none

theorem Tells.list {ρ : Operand → Value} (hρ : Tells e ρ) : ∀ {xs : List Operand} {vs : List Value}, evList e xs = some vs → xs.map ρ = vs
  | [], vs, h => by simp [evList] at h; simp [h]
  | x :: xs, vs, h => by
    simp only [evList] at h
    split at h
    · rename_i v vs' hv hvs
      cases h
      simp [hρ x v hv, hρ.list hvs]
    · cases h

theorem Ok.lenS {T el : TypeId} {n bytes : Nat} {x : Operand} {a : Option Addr} {len cap : Nat} [ht : TSl P T el n bytes] (hx : ev e x = some (.slice a len cap)) : Ok P e ⟨some d, .call ⟨.builtin .len, #[x], #[T]⟩, ty, pos, af, gu⟩ H (.int .i64 len) :=
  Ok.val (fun ρ hρ g w _ => by
    simp [execOp, resolve, invoke, builtin, Builtin.len_, hρ x _ hx, run_underlying_of ht.sl.1, goInt])

theorem Ok.max2 {x y : Operand} {ts : Array TypeId} {kk : IntKind} {a b : Int} (hx : ev e x = some (.int kk a)) (hy : ev e y = some (.int kk b)) : Ok P e ⟨some d, .call ⟨.builtin .max, #[x, y], ts⟩, ty, pos, af, gu⟩ H (.int kk (max a b)) :=
  Ok.val (fun ρ hρ g w _ => by
    have : (if b > a then b else a) = max a b := by omega
    simp [execOp, resolve, invoke, builtin, Builtin.max_, Builtin.max2, hρ x _ hx, hρ y _ hy, this])

theorem Ok.min2 {x y : Operand} {ts : Array TypeId} {kk : IntKind} {a b : Int} (hx : ev e x = some (.int kk a)) (hy : ev e y = some (.int kk b)) : Ok P e ⟨some d, .call ⟨.builtin .min, #[x, y], ts⟩, ty, pos, af, gu⟩ H (.int kk (min a b)) :=
  Ok.val (fun ρ hρ g w _ => by
    have : (if b < a then b else a) = min a b := by omega
    simp [execOp, resolve, invoke, builtin, Builtin.min_, Builtin.min2, hρ x _ hx, hρ y _ hy, this])

theorem Ok.max3 {x y z : Operand} {ts : Array TypeId} {kk : IntKind} {a b b3 : Int} (hx : ev e x = some (.int kk a)) (hy : ev e y = some (.int kk b)) (hz : ev e z = some (.int kk b3)) : Ok P e ⟨some d, .call ⟨.builtin .max, #[x, y, z], ts⟩, ty, pos, af, gu⟩ H (.int kk (max (max a b) b3)) :=
  Ok.val (fun ρ hρ g w _ => by
    have : (if b > a then b else a) = max a b := by omega
    have h2 : (if b3 > max a b then b3 else max a b) = max (max a b) b3 := by omega
    simp [execOp, resolve, invoke, builtin, Builtin.max_, Builtin.max2, hρ x _ hx, hρ y _ hy, hρ z _ hz, this, h2])

theorem Ok.min3 {x y z : Operand} {ts : Array TypeId} {kk : IntKind} {a b b3 : Int} (hx : ev e x = some (.int kk a)) (hy : ev e y = some (.int kk b)) (hz : ev e z = some (.int kk b3)) : Ok P e ⟨some d, .call ⟨.builtin .min, #[x, y, z], ts⟩, ty, pos, af, gu⟩ H (.int kk (min (min a b) b3)) :=
  Ok.val (fun ρ hρ g w _ => by
    have : (if b < a then b else a) = min a b := by omega
    have h2 : (if b3 < min a b then b3 else min a b) = min (min a b) b3 := by omega
    simp [execOp, resolve, invoke, builtin, Builtin.min_, Builtin.min2, hρ x _ hx, hρ y _ hy, hρ z _ hz, this, h2])

/-! the many that only reckon: one law -/
def okBin (op : BinOp) (x y : Option Value) : Option Value :=
  match op, x, y with
  | .lss, some (.int k a), some (.int k' b) => if k = k' then some (.bool (decide (a < b))) else none
  | .leq, some (.int k a), some (.int k' b) => if k = k' then some (.bool (decide (a ≤ b))) else none
  | .gtr, some (.int k a), some (.int k' b) => if k = k' then some (.bool (decide (b < a))) else none
  | .geq, some (.int k a), some (.int k' b) => if k = k' then some (.bool (decide (b ≤ a))) else none
  | .eql, some (.int k a), some (.int k' b) => if k = k' then some (.bool (decide (a = b))) else none
  | .neq, some (.int k a), some (.int k' b) => if k = k' then some (.bool (decide (a ≠ b))) else none
  | _, _, _ => none

def okNth : List Value → Nat → Option Value
  | [], _ => none
  | v :: _, 0 => some v
  | _ :: l, n + 1 => okNth l n

theorem okNth_eq : ∀ (l : List Value) (n : Nat), okNth l n = l[n]?
  | [], _ => by simp [okNth]
  | _ :: _, 0 => rfl
  | _ :: l, n + 1 => by simp [okNth, okNth_eq l n]

def okVal (e : Env) : Op → Option Value
  | .move x | .assign x => ev e x
  | .binOp op _ x y _ => okBin op (ev e x) (ev e y)
  | .unOp .not _ x => match ev e x with | some (.bool b) => some (.bool (!b)) | _ => none
  | .nilCheck x => match ev e x with | some (.pointer (some a)) => some (.pointer (some a)) | _ => none
  | .extract x i => match ev e x with | some (.tuple ⟨vs⟩) => okNth vs i | _ => none
  | _ => none

theorem Ok.pure {op : Op} {v : Value} (h : okVal e op = some v) : Ok P e ⟨some d, op, ty, pos, af, gu⟩ H v := by
  unfold okVal at h
  split at h
  · exact Ok.move h
  · exact Ok.assign h
  · unfold okBin at h
    split at h
    · split at h
      · rename_i hk; subst hk; cases h; exact Ok.lss ‹_› ‹_›
      · cases h
    · split at h
      · rename_i hk; subst hk; cases h; exact Ok.leq ‹_› ‹_›
      · cases h
    · split at h
      · rename_i hk; subst hk; cases h; exact Ok.gtr ‹_› ‹_›
      · cases h
    · split at h
      · rename_i hk; subst hk; cases h; exact Ok.geq ‹_› ‹_›
      · cases h
    · split at h
      · rename_i hk; subst hk; cases h; exact Ok.eql ‹_› ‹_›
      · cases h
    · split at h
      · rename_i hk; subst hk; cases h; exact Ok.neq ‹_› ‹_›
      · cases h
    · cases h
  · split at h
    · cases h; exact Ok.not ‹_›
    · cases h
  · split at h
    · cases h; exact Ok.nilCheck ‹_›
    · cases h
  · split at h
    · rename_i vs hx
      rw [okNth_eq] at h
      exact Ok.extract (vs := vs) hx h
    · cases h
  · cases h

/-! values -/
theorem Ok.makeFunc {fn : Fn} {first cap : List Operand} {vs ws : List Value} (h1 : evList e first = some vs) (h2 : evList e cap = some ws) : Ok P e ⟨some d, .makeFunc fn first.toArray cap.toArray, ty, pos, af, gu⟩ H (.func fn vs.toArray ws.toArray) :=
  Ok.val (fun ρ hρ g w _ => by simp [execOp, Instr.makeFunc, hρ.list h1, hρ.list h2])

/-- A value made of parts, told whole. -/
theorem Ok.build {T : TypeId} {parts : Array (Nat × Operand)} {pv : List (Nat × Value)} {v : Value} (hp : evList e (parts.toList.map (·.2)) = some (pv.map (·.2))) (hi : parts.toList.map (·.1) = pv.map (·.1))
    (hb : ∀ w, (Instr.build T pv.toArray).run P w = .ok v w) : Ok P e ⟨some d, .build T parts, ty, pos, af, gu⟩ H (v) :=
  Ok.val (fun ρ hρ g w _ => by
    have : (parts.map fun (i, x) => (i, ρ x)) = pv.toArray := by
      have h1 := hρ.list hp
      obtain ⟨pl, rfl⟩ : ∃ pl, parts = List.toArray pl := ⟨parts.toList, by simp⟩
      simp only [List.map_toArray] at *
      congr 1
      clear hb hp
      induction pl generalizing pv with
      | nil => cases pv <;> simp_all
      | cons p pl ih =>
        cases pv with
        | nil => simp at hi
        | cons q pv =>
          simp only [List.map_cons, List.cons.injEq, List.map_map] at *
          refine ⟨Prod.ext hi.1 h1.1, ih hi.2 ?_⟩
          simpa using h1.2
    simp [execOp, this, hb w])

/-- A call of a named function. -/
theorem R.call {f : FuncId} {args : List Operand} {ts : Array TypeId} {vs : List Value} {fn : Func} {body : Code} {Hp R : List HProp} {Qf : Post} (hf : P.funcs[f]? = some fn) (hb : fn.body = some body) (hn : fn.name ≠ "runtime.NumGoroutine")
    (ha : evList e args = some vs) (hd : Nat.blt d c.n = true) (spec : Fun P f vs Hp Qf) (hp : H.Perm (Hp ++ R)) (h : ∀ v H', Qf v H' → G P c ds (.ops all l :: k) ((d, v) :: e) (H' ++ R) Q) :
    GR P c ds all ⟨some d, .call ⟨.value (.func f), args.toArray, ts⟩, ty, pos, af, gu⟩ l k e H Q := by
  refine GR.op (Qo := fun v H' => ∃ H1, Qf v H1 ∧ H' = H1 ++ R) rfl hd (fun ρ hρ g w s => ?_) (by rintro v _ ⟨H1, q, rfl⟩; exact h v H1 q)
  have hfun : ρ (.func f) = .func (.func f) #[] #[] := hρ (.func f) _ rfl
  have : (execOp ρ ⟨some d, .call ⟨.value (.func f), args.toArray, ts⟩, ty, pos, af, gu⟩).run P w = .ok (.enter f vs.toArray) w := by
    simp [execOp, resolve, Deferred.ofValue, hfun, invoke, callFunc, program, Sem.run, hf, hn, hb, hρ.list ha]
  rw [this]
  exact (spec.frame g w (s.perm hp)).mono fun _ _ ⟨v, e1, H', q, b⟩ => ⟨v, e1, H', q, b⟩

theorem R.call0 {f : FuncId} {args : List Operand} {ts : Array TypeId} {vs : List Value} {fn : Func} {body : Code} {Hp R : List HProp} {Qf : Post} (hf : P.funcs[f]? = some fn) (hb : fn.body = some body) (hn : fn.name ≠ "runtime.NumGoroutine")
    (ha : evList e args = some vs) (spec : Fun P f vs Hp Qf) (hp : H.Perm (Hp ++ R)) (h : ∀ v H', Qf v H' → G P c ds (.ops all l :: k) e (H' ++ R) Q) :
    GR P c ds all ⟨none, .call ⟨.value (.func f), args.toArray, ts⟩, ty, pos, af, gu⟩ l k e H Q := by
  refine GR.op (Qo := fun v H' => ∃ H1, Qf v H1 ∧ H' = H1 ++ R) rfl rfl (fun ρ hρ g w s => ?_) (by rintro v _ ⟨H1, q, rfl⟩; exact h v H1 q)
  have hfun : ρ (.func f) = .func (.func f) #[] #[] := hρ (.func f) _ rfl
  have : (execOp ρ ⟨none, .call ⟨.value (.func f), args.toArray, ts⟩, ty, pos, af, gu⟩).run P w = .ok (.enter f vs.toArray) w := by
    simp [execOp, resolve, Deferred.ofValue, hfun, invoke, callFunc, program, Sem.run, hf, hn, hb, hρ.list ha]
  rw [this]
  exact (spec.frame g w (s.perm hp)).mono fun _ _ ⟨v, e1, H', q, b⟩ => ⟨v, e1, H', q, b⟩

/-- A call that only looks. -/
theorem Ok.call {f : FuncId} {args : List Operand} {ts : Array TypeId} {vs : List Value} {fn : Func} {body : Code} {dst : Option Nat} {Hp R : List HProp} {Qf : Post} {v : Value} (hf : P.funcs[f]? = some fn) (hb : fn.body = some body) (hn : fn.name ≠ "runtime.NumGoroutine")
    (ha : evList e args = some vs) (spec : Fun P f vs Hp Qf) (hq : ∀ v' H', Qf v' H' → v' = v ∧ H' = Hp) (hp : H.Perm (Hp ++ R)) :
    Ok P e ⟨dst, .call ⟨.value (.func f), args.toArray, ts⟩, ty, pos, af, gu⟩ H v := by
  intro ρ hρ g w s
  have hfun : ρ (.func f) = .func (.func f) #[] #[] := hρ (.func f) _ rfl
  have : (execOp ρ ⟨dst, .call ⟨.value (.func f), args.toArray, ts⟩, ty, pos, af, gu⟩).run P w = .ok (.enter f vs.toArray) w := by
    simp [execOp, resolve, Deferred.ofValue, hfun, invoke, callFunc, program, Sem.run, hf, hn, hb, hρ.list ha]
  rw [this]
  refine (spec.frame g w (s.perm hp)).mono fun _ _ ⟨v', e1, H', ⟨H1, q, e2⟩, b⟩ => ⟨v', e1, H, ⟨(hq _ _ q).1, rfl⟩, ?_⟩
  rw [e2, (hq _ _ q).2] at b
  exact b.perm hp.symm

/-- A call of a function value. -/
theorem R.callv {x : Operand} {f : FuncId} {args : List Operand} {first cap : List Value} {ts : Array TypeId} {vs : List Value} {fn : Func} {body : Code} {Hp R : List HProp} {Qf : Post} (hx : ev e x = some (.func (.func f) first.toArray cap.toArray))
    (hf : P.funcs[f]? = some fn) (hb : fn.body = some body) (hn : fn.name ≠ "runtime.NumGoroutine")
    (ha : evList e args = some vs) (hd : Nat.blt d c.n = true) (spec : Fun P f (first ++ vs ++ cap) Hp Qf) (hp : H.Perm (Hp ++ R)) (h : ∀ v H', Qf v H' → G P c ds (.ops all l :: k) ((d, v) :: e) (H' ++ R) Q) :
    GR P c ds all ⟨some d, .call ⟨.value x, args.toArray, ts⟩, ty, pos, af, gu⟩ l k e H Q := by
  refine GR.op (Qo := fun v H' => ∃ H1, Qf v H1 ∧ H' = H1 ++ R) rfl hd (fun ρ hρ g w s => ?_) (by rintro v _ ⟨H1, q, rfl⟩; exact h v H1 q)
  have hfun := hρ x _ hx
  have : (execOp ρ ⟨some d, .call ⟨.value x, args.toArray, ts⟩, ty, pos, af, gu⟩).run P w = .ok (.enter f (first ++ vs ++ cap).toArray) w := by
    simp [execOp, resolve, Deferred.ofValue, hfun, invoke, callFunc, program, Sem.run, hf, hn, hb, hρ.list ha]
  rw [this]
  exact (spec.frame g w (s.perm hp)).mono fun _ _ ⟨v, e1, H', q, b⟩ => ⟨v, e1, H', q, b⟩


theorem R.callv0 {x : Operand} {f : FuncId} {args : List Operand} {first cap : List Value} {ts : Array TypeId} {vs : List Value} {fn : Func} {body : Code} {Hp R : List HProp} {Qf : Post} (hx : ev e x = some (.func (.func f) first.toArray cap.toArray))
    (hf : P.funcs[f]? = some fn) (hb : fn.body = some body) (hn : fn.name ≠ "runtime.NumGoroutine")
    (ha : evList e args = some vs) (spec : Fun P f (first ++ vs ++ cap) Hp Qf) (hp : H.Perm (Hp ++ R)) (h : ∀ v H', Qf v H' → G P c ds (.ops all l :: k) e (H' ++ R) Q) :
    GR P c ds all ⟨none, .call ⟨.value x, args.toArray, ts⟩, ty, pos, af, gu⟩ l k e H Q := by
  refine GR.op (Qo := fun v H' => ∃ H1, Qf v H1 ∧ H' = H1 ++ R) rfl rfl (fun ρ hρ g w s => ?_) (by rintro v _ ⟨H1, q, rfl⟩; exact h v H1 q)
  have hfun := hρ x _ hx
  have : (execOp ρ ⟨none, .call ⟨.value x, args.toArray, ts⟩, ty, pos, af, gu⟩).run P w = .ok (.enter f (first ++ vs ++ cap).toArray) w := by
    simp [execOp, resolve, Deferred.ofValue, hfun, invoke, callFunc, program, Sem.run, hf, hn, hb, hρ.list ha]
  rw [this]
  exact (spec.frame g w (s.perm hp)).mono fun _ _ ⟨v, e1, H', q, b⟩ => ⟨v, e1, H', q, b⟩


/-! results that lie in boxes -/
inductive Res (P : Program) (e : Env) (H : List HProp) : List ResultVar → List Value → Prop
  | nil : Res P e H [] []
  | tmp {t : Nat} {v : Value} {rs : List ResultVar} {vs : List Value} (h : e.get t = some v) (r : Res P e H rs vs) : Res P e H (.tmp t :: rs) (v :: vs)
  | cellA {a : Nat} {T T' : TypeId} {b o n : Nat} {ls ws : List Value} {u : List Value → List HProp} {rs : List ResultVar} {vs : List Value} [hc : TAgg P T n] (h : e.get a = some (.pointer (some ⟨b, o, none⟩))) [hs : SelC H b ls T' u] (hv : (ls.drop o).take n = ws) (hn : Nat.ble (o + n) ls.length = true) (r : Res P e H rs vs) :
      Res P e H (.cell a T :: rs) (.agg ws.toArray :: vs)
  | cell {a : Nat} {T T' : TypeId} {b o : Nat} {ls : List Value} {v : Value} {u : List Value → List HProp} {rs : List ResultVar} {vs : List Value} [hc : TCell P T] (h : e.get a = some (.pointer (some ⟨b, o, none⟩))) [hs : SelC H b ls T' u] (hv : ls[o]? = some v) (r : Res P e H rs vs) :
      Res P e H (.cell a T :: rs) (v :: vs)

theorem run_loadA {H : List HProp} {g : Fr} {w : World} {b o n : Nat} {ls vs : List Value} {T' : TypeId} {u : List Value → List HProp} (hs : SelC H b ls T' u) (s : Sat H g w) (hv : (ls.drop o).take n = vs) (hn : o + n ≤ ls.length) :
    (loadCells ⟨b, o, none⟩ n).run P w = .ok vs.toArray w := by
  have hl : vs.length = n := by subst hv; simp; omega
  have := run_loadCells_list (P := P) w ⟨b, o, none⟩ vs (fun j v hj => by
    rw [Addr.add_lit, hs.cell s]
    have hjn : j < n := by
      by_cases hh : j < n
      · exact hh
      · rw [List.getElem?_eq_none (by omega)] at hj; cases hj
    subst hv
    rw [List.getElem?_take, List.getElem?_drop] at hj
    simpa [hjn] using hj)
  rwa [hl] at this

def resF (tmps : Array Value) : ResultVar → Sem Value
  | .tmp t => pure (tmps.getD t undef)
  | .cell a t => do loadVar t (← asAddr (tmps.getD a undef))

theorem Res.run {rs : List ResultVar} {vs : List Value} {tmps : Array Value} {n : Nat} {g : Fr} {w : World} (a : Knows n e tmps) (s : Sat H g w) (r : Res P e H rs vs) :
    (rs.mapM (m := Sem) (resF tmps)).run P w = .ok vs w := by
  induction r with
  | nil => rfl
  | @tmp t v rs vs h r ih =>
    have e1 : (resF tmps (.tmp t)).run P w = .ok v w := by simp only [resF, getD_of a h]; rfl
    simp [List.mapM_cons, ih, e1]
  | @cellA a' T T' b o n' ls ws u rs vs hc h hs hv hn r ih =>
    have e2 := run_loadA (P := P) hs s hv (by simpa using hn)
    have e1 : (resF tmps (.cell a' T)).run P w = .ok (.agg ws.toArray) w := by simp only [resF, getD_of a h]; simp [asAddr, loadVar, run_isAgg_agg hc, run_sizeOf_of hc.agg.1, e2]
    simp [List.mapM_cons, ih, e1]
  | @cell a' T T' b o ls v u rs vs hc h hs hv r ih =>
    have this := hs.cell s o
    have e1 : (resF tmps (.cell a' T)).run P w = .ok v w := by simp only [resF, getD_of a h]; simp [asAddr, loadVar, run_isAgg_cell hc, load, Sem.run, this, hv]
    simp [List.mapM_cons, ih, e1]

theorem results_run' {rs : List ResultVar} {vs : List Value} {tmps : Array Value} {n : Nat} {g : Fr} {w : World} (a : Knows n e tmps) (s : Sat H g w) (fn : Func) (hr : fn.results = rs.toArray) (r : Res P e H rs vs) :
    (results fn tmps).run P w = .ok (packRes vs) w := by
  have := r.run a s
  have e1 : results fn tmps = (do let vs ← fn.results.mapM (resF tmps); pure (if h : vs.size = 1 then vs[0] else .tuple vs)) := rfl
  rw [e1, hr, List.mapM_toArray]
  simp only [Sem.run_bind, Sem.run_map, this, Result.andThen_ok]
  rcases vs with _ | ⟨v, _ | ⟨v2, vs⟩⟩ <;> rfl

theorem G.ret' {fn : Func} {rs : List ResultVar} {vs : List Value} (hr : c.round = none) (hf : P.funcs[c.fn]? = some fn) (hrs : fn.results = rs.toArray) (r : Res P e H rs vs) (q : Q (packRes vs) H) : G P c [] (.code .ret :: k) e H Q := by
  intro g tmps w cs is a s d
  obtain ⟨i, is1, rfl, rfl, d1⟩ := d.cons
  exact ends_none hr hf (results_run' a s fn hrs r) (.one (st_ret hr)) q s

/-- At the return some of what is held may be let go. -/
theorem G.let {todo : List It} {H' R : List HProp} (hp : H.Perm (H' ++ R)) (h : G P c ds todo e H' Q) : G P c ds todo e H Q :=
  h.conv fun _ _ s => (s.perm hp).drop

end rules
end Go.Am
