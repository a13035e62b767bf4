/- More operations: values made of parts, bits, quotients. -/
import Derived.Test.YtffcilmllebdmaaAmRange
import Derived.Test.YtffcilmllebdmaaAmDrawS
import Derived.Test.YtffcilmllebdmaaAmList
import Derived.Laws.Tables
import Derived.Laws.MakeOwn
namespace Go.Am

/-- Where the parts of a struct lie. -/
class TPl (P : Program) (t : TypeId) (pl : outParam (List (Nat × Nat))) : Prop where
  pl : (match P.underlying t with | some (.struct fs) => fs.toList.mapM (fun f => (P.info? f.type).map fun i => (f.offset, i.size)) | _ => none) = some pl

def fillL (pl : List (Nat × Nat)) : List Value → List (Nat × Value) → List Value
  | zs, [] => zs
  | zs, (i, v) :: l => match pl[i]? with
    | some (off, _) => fillL pl (setSeg zs off v.cells.toList) l
    | none => zs
def fillOk (pl : List (Nat × Nat)) (n : Nat) : List (Nat × Value) → Bool
  | [] => true
  | (i, v) :: l => match pl[i]? with
    | some (off, size) => Nat.beq v.cells.size size && Nat.ble (off + v.cells.size) n && fillOk pl n l
    | none => false

theorem zip_set (vs : List Value) : ∀ (l : List Value) (off : Nat) (k : Nat), off + k + vs.length ≤ l.length →
    ((vs.zipIdx k).foldl (fun (cs : Array Value) (x : Value × Nat) => cs.setIfInBounds (off + x.2) x.1) l.toArray) = (setSeg l (off + k) vs).toArray := by
  induction vs with
  | nil => intro l off k _; simp [setSeg, List.take_append_drop]
  | cons v vs ih =>
    intro l off k h
    simp only [List.zipIdx_cons, List.foldl_cons]
    simp only [List.length_cons] at h
    have e : (l.toArray.setIfInBounds (off + k) v) = (l.set (off + k) v).toArray := by simp
    rw [e, ih (l.set (off + k) v) off (k + 1) (by simp; omega)]
    congr 1
    obtain ⟨A, x, B, hl, hA⟩ : ∃ A x B, l = A ++ x :: B ∧ A.length = off + k :=
      ⟨l.take (off + k), l[off + k]'(by omega), l.drop (off + k + 1), by rw [List.getElem_cons_drop, List.take_append_drop], by simp; omega⟩
    subst hl
    have e1 : (A ++ x :: B).set (off + k) v = (A ++ [v]) ++ B := by
      rw [← hA]; simp
    have t1 : ((A ++ [v]) ++ B).take (off + (k + 1)) = A ++ [v] := by
      rw [List.take_append_of_le_length (by simp; omega), List.take_of_length_le (by simp; omega)]
    have t2 : (A ++ x :: B).take (off + k) = A := by
      rw [List.take_append_of_le_length (by omega), List.take_of_length_le (by omega)]
    have d1 : ((A ++ [v]) ++ B).drop (off + (k + 1) + vs.length) = B.drop vs.length := by
      rw [List.drop_append, List.drop_of_length_le (by simp; omega)]; simp [hA]; congr 1; omega
    have d2 : (A ++ x :: B).drop (off + k + (v :: vs).length) = B.drop vs.length := by
      rw [List.drop_append, List.drop_of_length_le (by simp; omega)]
      have : off + k + (v :: vs).length - A.length = vs.length + 1 := by simp; omega
      rw [this]; simp
    rw [e1, setSeg, setSeg, t1, t2, d1, d2]
    simp

theorem fill_eq (pl : List (Nat × Nat)) : ∀ (pv : List (Nat × Value)) (zs : List Value), fillOk pl zs.length pv = true → Instr.fill (pl.toArray[·]?) zs.toArray pv = some (fillL pl zs pv).toArray
  | [], zs, _ => rfl
  | (i, v) :: l, zs, h => by
    unfold fillOk at h
    unfold Instr.fill fillL
    cases hp : pl[i]? with
    | none => simp [hp] at h
    | some p =>
      obtain ⟨off, size⟩ := p
      have hp' : pl.toArray[i]? = some (off, size) := by simpa using hp
      simp only [hp, Bool.and_eq_true, Nat.ble_eq] at h
      have h1 := Nat.eq_of_beq_eq_true h.1.1
      have h2 := h.1.2
      simp only [hp', List.size_toArray]
      rw [if_neg (by simp; omega)]
      have e := zip_set v.cells.toList zs off 0 (by simp; omega)
      rw [Nat.add_zero] at e
      have e2 : v.cells.zipIdx.foldl (fun (cs : Array Value) (x : Value × Nat) => cs.setIfInBounds (off + x.2) x.1) zs.toArray = (setSeg zs off v.cells.toList).toArray := by
        rw [← e]
        generalize v.cells = vc
        cases vc; simp
      have hl : (setSeg zs off v.cells.toList).length = zs.length := by simp [setSeg]; omega
      have e3 := fill_eq pl l (setSeg zs off v.cells.toList) (by rw [hl]; exact h.2)
      rw [← e2] at e3
      exact e3

section rules
variable {P : Program} {c : Ctx} {ds : List Nat} {all : Array Oper} {l : List Oper} {k : List It} {e : Env} {H : List HProp} {Q : Post}
variable {d : Nat} {ty : TypeId} {pos : String} {af : Array Edge} {gu : Option (Nat × Bool)}

/-- A struct made of parts. -/
theorem Ok.buildS {T : TypeId} {parts : Array (Nat × Operand)} {vs zs : List Value} {pl : List (Nat × Nat)} [hz : TZero P T (.agg zs.toArray)] [ht : TPl P T pl]
    (hp : evList e (parts.toList.map (·.2)) = some vs) (hok : fillOk pl zs.length ((parts.toList.map (·.1)).zip vs) = true) :
    Ok P e ⟨some d, .build T parts, ty, pos, af, gu⟩ H (.agg (fillL pl zs ((parts.toList.map (·.1)).zip vs)).toArray) := by
  have hlen : vs.length = parts.toList.length := by
    have : ∀ (xs : List Operand) (vs : List Value), evList e xs = some vs → vs.length = xs.length := by
      intro xs
      induction xs with
      | nil => intro vs h; simp [evList] at h; subst h; rfl
      | cons x xs ih =>
        intro vs h
        simp only [evList] at h
        split at h
        · cases h; simp [ih _ (by assumption)]
        · cases h
    simpa using this _ _ hp
  refine Ok.build (pv := (parts.toList.map (·.1)).zip vs) ?_ ?_ ?_
  · rw [hp]; congr 1
    rw [List.map_snd_zip]; rw [List.length_map]; omega
  · rw [List.map_fst_zip]; rw [List.length_map]; omega
  · intro w
    refine run_build w T _ _ ?_
    have h1 := hz.zero
    have h2 := ht.pl
    unfold Program.built
    cases hi : P.info? T with
    | none => simp [hi] at h1
    | some it =>
      cases hu : P.underlying T with
      | none => simp [hu] at h2
      | some dd =>
        cases dd <;> try (simp [hu] at h2; done)
        simp only [hu] at h2
        simp only [hi, Option.bind_some] at h1
        simp only [h1, h2]
        exact fill_eq pl _ zs hok

def zrow (zs : List Value) (m : Nat) : List Value := (List.range m).map fun i => zs.getD (i % zs.length) default
theorem made_zrow (zs : List Value) (m : Nat) : madeCells zs.toArray m = (zrow zs m).toArray := by
  unfold madeCells zrow
  apply Array.ext
  · simp
  · intro i h1 h2
    simp [List.getD_eq_getElem?_getD]

/-- A slice is made. -/
theorem R.makeSlice {T el : TypeId} {n bytes : Nat} {x y : Operand} {kl kc : IntKind} {lv cv : Int} {z : Value} {zs cs : List Value} [ht : TSl P T el n bytes] [hz : TZero P el z] (hx : ev e x = some (.int kl lv)) (hy : ev e y = some (.int kc cv))
    (h0 : 0 ≤ lv ∧ lv ≤ cv) (hb : (bytes : Int) * cv ≤ 281474976710656 ∧ cv ≤ 9223372036854775807) (hzs : z.cells = zs.toArray) (hcs : zrow zs (cv.toNat * n) = cs) (hd : Nat.blt d c.n = true)
    (h : ∀ b, G P c ds (.ops all l :: k) ((d, .slice (some ⟨b, 0, none⟩) lv.toNat cv.toNat) :: e) (cb b cs el :: H) Q) : GR P c ds all ⟨some d, .makeSlice T x y, ty, pos, af, gu⟩ l k e H Q := by
  refine GR.mk (f := fun b => .slice (some ⟨b, 0, none⟩) lv.toNat cv.toNat) (ob := .cells cs.toArray el) rfl hd (fun ρ hρ g w _ => ?_) h
  have h1 := ht.sl.2
  have h2 := hz.zero
  cases hi : P.info? el with
  | none => simp [hi] at h1
  | some i =>
    simp only [hi, Option.map_some, Option.some.injEq, Prod.mk.injEq] at h1
    simp only [hi, Option.bind_some] at h2
    have := run_make w T el i z ht.sl.1 hi h2 kl kc lv cv h0.1 h0.2 (by rw [h1.2]; exact hb.1) hb.2
    simp only [execOp, hρ x _ hx, hρ y _ hy, Sem.run_bind, this, Result.andThen_ok, Sem.run_pure, hzs, made_zrow, h1.1, hcs]
    rfl

def orI (k : IntKind) (a b : Int) : Int := k.wrap (BitVec.ofInt k.bits a ||| BitVec.ofInt k.bits b).toNat
def andI (k : IntKind) (a b : Int) : Int := k.wrap (BitVec.ofInt k.bits a &&& BitVec.ofInt k.bits b).toNat
def andNotI (k : IntKind) (a b : Int) : Int := k.wrap (BitVec.ofInt k.bits a &&& ~~~ BitVec.ofInt k.bits b).toNat

theorem Ok.or {T T2 : TypeId} {x y : Operand} {kk : IntKind} {a b : Int} (hx : ev e x = some (.int kk a)) (hy : ev e y = some (.int kk b)) : Ok P e ⟨some d, .binOp .or T x y T2, ty, pos, af, gu⟩ H (.int kk (orI kk a b)) :=
  Ok.val (fun ρ hρ g w _ => by simp [execOp, hρ x _ hx, hρ y _ hy, eqGuard, binOp, Op.intBits, orI])
theorem Ok.and {T T2 : TypeId} {x y : Operand} {kk : IntKind} {a b : Int} (hx : ev e x = some (.int kk a)) (hy : ev e y = some (.int kk b)) : Ok P e ⟨some d, .binOp .and T x y T2, ty, pos, af, gu⟩ H (.int kk (andI kk a b)) :=
  Ok.val (fun ρ hρ g w _ => by simp [execOp, hρ x _ hx, hρ y _ hy, eqGuard, binOp, Op.intBits, andI])
theorem Ok.andNot {T T2 : TypeId} {x y : Operand} {kk : IntKind} {a b : Int} (hx : ev e x = some (.int kk a)) (hy : ev e y = some (.int kk b)) : Ok P e ⟨some d, .binOp .andNot T x y T2, ty, pos, af, gu⟩ H (.int kk (andNotI kk a b)) :=
  Ok.val (fun ρ hρ g w _ => by simp [execOp, hρ x _ hx, hρ y _ hy, eqGuard, binOp, Op.intBits, andNotI])
theorem Ok.quo {T T2 : TypeId} {x y : Operand} {kk : IntKind} {a b : Int} (hx : ev e x = some (.int kk a)) (hy : ev e y = some (.int kk b)) (h0 : b ≠ 0) : Ok P e ⟨some d, .binOp .quo T x y T2, ty, pos, af, gu⟩ H (.int kk (kk.wrap (a.tdiv b))) :=
  Ok.val (fun ρ hρ g w _ => by simp [execOp, hρ x _ hx, hρ y _ hy, eqGuard, binOp, Op.intDiv, h0])
theorem Ok.rem {T T2 : TypeId} {x y : Operand} {kk : IntKind} {a b : Int} (hx : ev e x = some (.int kk a)) (hy : ev e y = some (.int kk b)) (h0 : b ≠ 0) : Ok P e ⟨some d, .binOp .rem T x y T2, ty, pos, af, gu⟩ H (.int kk (a.tmod b)) :=
  Ok.val (fun ρ hρ g w _ => by simp [execOp, hρ x _ hx, hρ y _ hy, eqGuard, binOp, Op.intDiv, h0])

/-- A slice of the call's own whose cells lie in block b is among what is held. -/
class SelS (H : List HProp) (b : Nat) (el : outParam TypeId) (n len cap : outParam Nat) (cs : outParam (List Value)) (u : outParam (List Value → List HProp)) : Prop where
  sel : ∃ R, H.Perm (OwnS el n (.slice (some ⟨b, 0, none⟩) len cap) len cs :: R) ∧ ∀ cs', (u cs').Perm (OwnS el n (.slice (some ⟨b, 0, none⟩) len cap) len cs' :: R)
instance SelS.here (H : List HProp) (b : Nat) (el : TypeId) (n len cap : Nat) (cs : List Value) : SelS (OwnS el n (.slice (some ⟨b, 0, none⟩) len cap) len cs :: H) b el n len cap cs (fun cs' => OwnS el n (.slice (some ⟨b, 0, none⟩) len cap) len cs' :: H) := ⟨⟨H, .refl _, fun _ => .refl _⟩⟩
instance (priority := low) SelS.there (H : List HProp) (x : HProp) (b : Nat) (el : TypeId) (n len cap : Nat) (cs : List Value) (u : List Value → List HProp) [h : SelS H b el n len cap cs u] : SelS (x :: H) b el n len cap cs (fun cs' => x :: u cs') := by
  obtain ⟨R, h1, h2⟩ := h.sel
  exact ⟨⟨x :: R, (List.Perm.cons x h1).trans (.swap _ _ _), fun l' => (List.Perm.cons x (h2 l')).trans (.swap _ _ _)⟩⟩

theorem SelS.cell {b : Nat} {el : TypeId} {n len cap : Nat} {cs : List Value} {u : List Value → List HProp} {g : Fr} {w : World} (h : SelS H b el n len cap cs u) (s : Sat H g w) {i : Nat} {v : Value} (hv : cs[i]? = some v) : w.cell? ⟨b, i, none⟩ = some v := by
  obtain ⟨R, h1, _⟩ := h.sel
  rcases OwnS.open (s.perm h1) with ⟨e, _⟩ | ⟨b', cap', sp, e, _, _, _, s2⟩
  · cases e
  · cases e
    have := s2.cell i
    rw [this]
    have hlt := (List.getElem?_eq_some_iff.1 hv).1
    simp [List.getElem?_append_left hlt, hv]

theorem Ok.loadS {T : TypeId} {x : Operand} {b o : Nat} {el : TypeId} {n len cap : Nat} {cs : List Value} {u : List Value → List HProp} {v : Value} [hc : TCell P T] (hx : ev e x = some (.pointer (some ⟨b, o, none⟩)))
    [hs : SelS H b el n len cap cs u] (hv : cs[o]? = some v) : Ok P e ⟨some d, .load T x, ty, pos, af, gu⟩ H v :=
  Ok.val (fun ρ hρ g w s => by
    have := hs.cell s hv
    simp [execOp, hρ x _ hx, Instr.loadAt, Instr.sureAddr, loadVar, run_isAgg_cell hc, load, Sem.run, this])

/-- A cell of a slice of the call's own is written. -/
theorem R.storeS {T : TypeId} {x y : Operand} {b o : Nat} {el : TypeId} {n len cap : Nat} {cs : List Value} {u : List Value → List HProp} {v : Value} [hc : TCell P T] (hx : ev e x = some (.pointer (some ⟨b, o, none⟩))) (hy : ev e y = some v)
    [hs : SelS H b el n len cap cs u] (hv : plainCells [v] = true) (ho : o < cs.length) (h : G P c ds (.ops all l :: k) e (u (cs.set o v)) Q) :
    GR P c ds all ⟨none, .store T x y, ty, pos, af, gu⟩ l k e H Q := by
  refine GR.op (Qo := fun _ H' => H' = u (cs.set o v)) rfl rfl (fun ρ hρ g w s => ?_) (by rintro v' _ rfl; exact h)
  obtain ⟨R, h1, h2⟩ := hs.sel
  rcases OwnS.open (s.perm h1) with ⟨e, _⟩ | ⟨b', cap', sp, e, l1, l2, l3, s2⟩
  · cases e
  · cases e
    have := op_store (P := P) (H := cb b (cs ++ sp) el :: R) (ty := ty) (pos := pos) (af := af) (gu := gu) (dst := none) (T := T) hx hy hv (by simp [Nat.blt_eq]; omega) ρ hρ g w s2
    refine this.mono fun v' w' ⟨H', e1, s3⟩ => ⟨_, rfl, ?_⟩
    subst e1
    have e2 : (cs ++ sp).set o v = cs.set o v ++ sp := by rw [List.set_append, if_pos ho]
    rw [e2] at s3
    exact (OwnS.close (n := n) (by exact l1) (by simpa using l2) (by simpa using l3) s3).perm (h2 _).symm

/-- A slice of the call's own that is not empty lies in a block. -/
theorem G.formS (v : Value) {todo : List It} {el : TypeId} {n len : Nat} {cs : List Value} {R : List HProp} [h : DelS H v el n len cs R] (hlen : 0 < len) (hk : ∀ b cap, v = .slice (some ⟨b, 0, none⟩) len cap → cs.length = len * n → G P c ds todo e H Q) : G P c ds todo e H Q := by
  intro g tmps w cs' is a s d
  rcases OwnS.open (s.perm h.del) with ⟨_, e, _⟩ | ⟨b, cap, _, hv, _, hcs, _⟩
  · omega
  · exact hk b cap hv hcs g tmps w cs' is a s d

/-- A call, by its contract of whatever form. -/
theorem R.callQ {f : FuncId} {args : List Operand} {ts : Array TypeId} {vs : List Value} {fn : Func} {body : Code} {Hp R : List HProp} {Qf : Post} (hf : P.funcs[f]? = some fn) (hb : fn.body = some body) (hn : fn.name ≠ "runtime.NumGoroutine")
    (ha : evList e args = some vs) (hd : Nat.blt d c.n = true) (spec : Fun P f vs Hp Qf) [hp : Takes Hp H R] (h : ∀ v H', Qf v H' → G P c ds (.ops all l :: k) ((d, v) :: e) (H' ++ R) Q) :
    GR P c ds all ⟨some d, .call ⟨.value (.func f), args.toArray, ts⟩, ty, pos, af, gu⟩ l k e H Q :=
  Am.R.call hf hb hn ha hd spec hp.takes h
theorem R.callQ0 {f : FuncId} {args : List Operand} {ts : Array TypeId} {vs : List Value} {fn : Func} {body : Code} {Hp R : List HProp} {Qf : Post} (hf : P.funcs[f]? = some fn) (hb : fn.body = some body) (hn : fn.name ≠ "runtime.NumGoroutine")
    (ha : evList e args = some vs) (spec : Fun P f vs Hp Qf) [hp : Takes Hp H R] (h : ∀ v H', Qf v H' → G P c ds (.ops all l :: k) e (H' ++ R) Q) :
    GR P c ds all ⟨none, .call ⟨.value (.func f), args.toArray, ts⟩, ty, pos, af, gu⟩ l k e H Q :=
  Am.R.call0 hf hb hn ha spec hp.takes h

theorem EVS.callQ {ol : List (Tg × Oper)} {f : FuncId} {args : List Operand} {ts : Array TypeId} {vs : List Value} {fn : Func} {body : Code} {Hp R : List HProp} {Qf : Post} {dst : Option Nat} (hf : P.funcs[f]? = some fn) (hb : fn.body = some body) (hn : fn.name ≠ "runtime.NumGoroutine")
    (ha : evList e args = some vs) (spec : Fun P f vs Hp Qf) [hp : Takes Hp H R] (h : ∀ v H', Qf v H' → EVS P c ds all k Q ol (putE dst v e) (H' ++ R)) :
    EVS P c ds all k Q ((.act, ⟨dst, .call ⟨.value (.func f), args.toArray, ts⟩, ty, pos, af, none⟩) :: ol) e H :=
  EVS.m_call hf hb hn ha spec hp.takes h

/-- The form of a slice of the call's own. -/
theorem G.form (v : Value) {todo : List It} {el : TypeId} {n len : Nat} {cs : List Value} {R : List HProp} [h : DelS H v el n len cs R] (hk : ∀ a cap, v = .slice a len cap → G P c ds todo e H Q) : G P c ds todo e H Q := by
  intro g tmps w cs' is a s d
  obtain ⟨_, a', cap, hv⟩ := OwnS.len (s.perm h.del)
  exact hk a' cap hv g tmps w cs' is a s d

/-- The cells of block b, said otherwise. -/
theorem G.isC (b : Nat) (ls' : List Value) {todo : List It} {ls : List Value} {T : TypeId} {R : List HProp} [h : DelC H b ls T R] (hl : ls = ls') (k : G P c ds todo e (cb b ls' T :: R) Q) : G P c ds todo e H Q := by
  subst hl
  exact k.conv fun _ _ s => s.perm h.del

/-- A return; of what is held only L is kept. -/
theorem G.retK (L : List HProp) {k : List It} {fn : Func} {rs : List ResultVar} {vs : List Value} {R : List HProp} (hr : c.round = none) (hf : P.funcs[c.fn]? = some fn) (hrs : fn.results = rs.toArray) (r : Res P e H rs vs) [h : Takes L H R] (q : Q (packRes vs) L) : G P c [] (.code .ret :: k) e H Q := by
  intro g tmps w cs is a s d
  obtain ⟨i, is1, rfl, rfl, d1⟩ := d.cons
  exact ends_none hr hf (results_run' a s fn hrs r) (.one (st_ret hr)) q ((s.perm h.takes).drop)
theorem G.endK (L : List HProp) {fn : Func} {rs : List ResultVar} {vs : List Value} {R : List HProp} (hr : c.round = none) (hf : P.funcs[c.fn]? = some fn) (hrs : fn.results = rs.toArray) (r : Res P e H rs vs) [h : Takes L H R] (q : Q (packRes vs) L) : G P c [] [] e H Q := by
  intro g tmps w cs is a s d
  obtain rfl := d.nil
  exact ends_none hr hf (results_run' a s fn hrs r) (.one (st_end hr)) q ((s.perm h.takes).drop)
end rules
end Go.Am
