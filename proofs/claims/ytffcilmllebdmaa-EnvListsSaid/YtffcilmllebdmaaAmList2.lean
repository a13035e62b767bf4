/- Lists, more: appending a whole list, literals, nil; many chunks as one. -/
import Derived.Test.YtffcilmllebdmaaAmW
import Derived.Laws.Cover3
namespace Go.Am
section
variable {P : Program} {c : Ctx} {ds : List Nat} {all : Array Oper} {l : List Oper} {k : List It} {e : Env} {H : List HProp} {Q : Post}
variable {d : Nat} {ty : TypeId} {pos : String} {af : Array Edge} {gu : Option (Nat × Bool)}

/-- append; how what is appended is read stands in hload. -/
theorem op_appendV {T el : TypeId} {n bytes : Nat} {z : Value} {x y : Operand} {a a2 : Option Addr} {len cap m cap2 : Nat} {cs news : List Value} {R : List HProp} [ht : TSl P T el n bytes] [hz : TZero P el z]
    (hx : ev e x = some (.slice a len cap)) (hy : ev e y = some (.slice a2 m cap2)) [hsel : SelH H (OwnS el n (.slice a len cap) len cs) R]
    (hload : ∀ g w, Sat R g w → ∀ W : World, W.heap = w.heap → (Builtin.firstCells n m (.slice a2 m cap2)).run P W = .ok news.toArray W) (hl : news.length = m * n)
    (hzs : z.cells.size = n) (hpl : plainCells news = true) (hbound : (2 * (len + m) + 192) * bytes ≤ 2 ^ 48) (hbd2 : len + m < 2 ^ 62) (hb0 : 0 < bytes) {dst : Option Nat} :
    ∀ ρ, Tells e ρ → OpRun P (execOp ρ ⟨dst, .call ⟨.builtin .append, #[x, y], #[T, T]⟩, ty, pos, af, gu⟩) H fun v H' => ∃ a' cap', v = .slice a' (len + m) cap' ∧ H' = OwnS el n (.slice a' (len + m) cap') (len + m) (cs ++ news) :: R := by
  intro ρ hρ g w s
  have s1 := s.perm hsel.sel
  obtain ⟨r, ar, dj, s2⟩ := Sat.split (H := R) (R := [OwnS el n (.slice a len cap) len cs]) (s1.perm (List.perm_append_comm (l₁ := [OwnS el n (.slice a len cap) len cs]) (l₂ := R)))
  obtain ⟨a', cap', w', hr, s3⟩ := run_append (ty := ty) ht ht hz hzs s1 (a2 := a2) (cap2 := cap2) (m := m) (news := news) (fun W hW => hload _ w s2 W hW) hl hpl hbound hbd2 hb0
  have : (execOp ρ ⟨dst, .call ⟨.builtin .append, #[x, y], #[T, T]⟩, ty, pos, af, gu⟩).run P w = .ok (.value (.slice a' (len + m) cap')) w' := by
    simp [execOp, resolve, invoke, builtin, hρ x _ hx, hρ y _ hy, hr]
  rw [this]
  exact ⟨_, ⟨a', cap', rfl, rfl⟩, s3⟩

theorem R.appendV {T el : TypeId} {n bytes : Nat} {z : Value} {x y : Operand} {a a2 : Option Addr} {len cap m cap2 : Nat} {cs news : List Value} {R : List HProp} [ht : TSl P T el n bytes] [hz : TZero P el z]
    (hx : ev e x = some (.slice a len cap)) (hy : ev e y = some (.slice a2 m cap2)) [hsel : SelH H (OwnS el n (.slice a len cap) len cs) R]
    (hload : ∀ g w, Sat R g w → ∀ W : World, W.heap = w.heap → (Builtin.firstCells n m (.slice a2 m cap2)).run P W = .ok news.toArray W) (hl : news.length = m * n)
    (hzs : z.cells.size = n) (hpl : plainCells news = true) (hbound : (2 * (len + m) + 192) * bytes ≤ 2 ^ 48) (hbd2 : len + m < 2 ^ 62) (hb0 : 0 < bytes) (hd : Nat.blt d c.n = true)
    (h : ∀ a' cap', G P c ds (.ops all l :: k) ((d, .slice a' (len + m) cap') :: e) (OwnS el n (.slice a' (len + m) cap') (len + m) (cs ++ news) :: R) Q) :
    GR P c ds all ⟨some d, .call ⟨.builtin .append, #[x, y], #[T, T]⟩, ty, pos, af, gu⟩ l k e H Q :=
  GR.op (Qo := fun v H' => ∃ a' cap', v = .slice a' (len + m) cap' ∧ H' = OwnS el n (.slice a' (len + m) cap') (len + m) (cs ++ news) :: R) rfl hd (op_appendV hx hy hload hl hzs hpl hbound hbd2 hb0) (by rintro v _ ⟨a', cap', rfl, rfl⟩; exact h a' cap')

theorem load_own {el : TypeId} {n m cap : Nat} {a : Option Addr} {cs : List Value} {R R' : List HProp} {g : Fr} {w : World} [h : SelH R (OwnS el n (.slice a m cap) m cs) R'] (s : Sat R g w) (W : World) (hW : W.heap = w.heap) :
    (Builtin.firstCells n m (.slice a m cap)).run P W = .ok cs.toArray W := by
  rcases OwnS.open (s.perm h.sel) with ⟨e1, e2, e3, s1⟩ | ⟨b, cap', sp, e1, e2, e3, e4, s1⟩
  · simp only [Value.slice.injEq] at e1
    obtain ⟨rfl, _, rfl⟩ := e1
    subst e3; simp [Builtin.firstCells]
  · simp only [Value.slice.injEq] at e1
    obtain ⟨rfl, _, rfl⟩ := e1
    have hh := s1.heap
    rw [← hW] at hh
    simp only [Builtin.firstCells]
    exact run_loadCells_seg hh (by rw [List.drop_zero, ← e3]; simp) (by simp; omega)

/-- append of another slice of the call's own. -/
theorem R.appendS {T el : TypeId} {n bytes : Nat} {z : Value} {x y : Operand} {a a2 : Option Addr} {len cap m cap2 : Nat} {cs news : List Value} {R R' : List HProp} [ht : TSl P T el n bytes] [hz : TZero P el z]
    (hx : ev e x = some (.slice a len cap)) (hy : ev e y = some (.slice a2 m cap2)) [hsel : SelH H (OwnS el n (.slice a len cap) len cs) R] [hs2 : SelH R (OwnS el n (.slice a2 m cap2) m news) R'] (hl : news.length = m * n)
    (hzs : z.cells.size = n) (hpl : plainCells news = true) (hbound : (2 * (len + m) + 192) * bytes ≤ 2 ^ 48) (hbd2 : len + m < 2 ^ 62) (hb0 : 0 < bytes) (hd : Nat.blt d c.n = true)
    (h : ∀ a' cap', G P c ds (.ops all l :: k) ((d, .slice a' (len + m) cap') :: e) (OwnS el n (.slice a' (len + m) cap') (len + m) (cs ++ news) :: R) Q) :
    GR P c ds all ⟨some d, .call ⟨.builtin .append, #[x, y], #[T, T]⟩, ty, pos, af, gu⟩ l k e H Q :=
  Am.R.appendV hx hy (fun _ _ s W hW => load_own (h := hs2) s W hW) hl hzs hpl hbound hbd2 hb0 hd h

/-- append of a slice that came in. -/
theorem R.appendO (W0 : World) {T el : TypeId} {n bytes : Nat} {z : Value} {x y : Operand} {a : Option Addr} {a2 : Addr} {len cap m cap2 : Nat} {cs news : List Value} {R R' : List HProp} [ht : TSl P T el n bytes] [hz : TZero P el z]
    (hx : ev e x = some (.slice a len cap)) (hy : ev e y = some (.slice (some a2) m cap2)) [hsel : SelH H (OwnS el n (.slice a len cap) len cs) R] [hs2 : SelH R (Old W0) R'] (hc : CellsAt W0 a2 news) (hl : news.length = m * n)
    (hzs : z.cells.size = n) (hpl : plainCells news = true) (hbound : (2 * (len + m) + 192) * bytes ≤ 2 ^ 48) (hbd2 : len + m < 2 ^ 62) (hb0 : 0 < bytes) (hd : Nat.blt d c.n = true)
    (h : ∀ a' cap', G P c ds (.ops all l :: k) ((d, .slice a' (len + m) cap') :: e) (OwnS el n (.slice a' (len + m) cap') (len + m) (cs ++ news) :: R) Q) :
    GR P c ds all ⟨some d, .call ⟨.builtin .append, #[x, y], #[T, T]⟩, ty, pos, af, gu⟩ l k e H Q :=
  Am.R.appendV hx hy (fun _ w s W hW => by
    have := run_loadCells_list (P := P) W a2 news (fun j v hj => cell_of_heap (by rw [hW]) (Sat.oldCell s (hc j v hj)))
    rw [hl] at this
    simpa only [Builtin.firstCells] using this) hl hzs hpl hbound hbd2 hb0 hd h

/-- append of nothing. -/
theorem R.append0 {T el : TypeId} {n bytes : Nat} {z : Value} {x y : Operand} {a : Option Addr} {len cap cap2 : Nat} {cs : List Value} {R : List HProp} [ht : TSl P T el n bytes] [hz : TZero P el z]
    (hx : ev e x = some (.slice a len cap)) (hy : ev e y = some (.slice none 0 cap2)) [hsel : SelH H (OwnS el n (.slice a len cap) len cs) R]
    (hzs : z.cells.size = n) (hbound : (2 * len + 192) * bytes ≤ 2 ^ 48) (hbd2 : len < 2 ^ 62) (hb0 : 0 < bytes) (hd : Nat.blt d c.n = true)
    (h : ∀ a' cap', G P c ds (.ops all l :: k) ((d, .slice a' len cap') :: e) (OwnS el n (.slice a' len cap') len cs :: R) Q) :
    GR P c ds all ⟨some d, .call ⟨.builtin .append, #[x, y], #[T, T]⟩, ty, pos, af, gu⟩ l k e H Q :=
  Am.R.appendV (news := []) hx hy (fun _ _ s W hW => by simp [Builtin.firstCells]) (by simp) hzs rfl (by simpa using hbound) (by simpa using hbd2) hb0 hd (fun a' cap' => by simpa using h a' cap')

/-- A literal slice of nothing. -/
theorem R.bs0 {T el : TypeId} {n bytes : Nat} [ht : TSl P T el n bytes] (hd : Nat.blt d c.n = true)
    (h : ∀ b, G P c ds (.ops all l :: k) ((d, .slice (some ⟨b, 0, none⟩) 0 0) :: e) (OwnS el n (.slice (some ⟨b, 0, none⟩) 0 0) 0 [] :: H) Q) : GR P c ds all ⟨some d, .buildSlice T 0 #[], ty, pos, af, gu⟩ l k e H Q := by
  refine GR.mk (f := fun b => .slice (some ⟨b, 0, none⟩) 0 0) (ob := .cells [].toArray el) rfl hd (fun ρ hρ g w _ => ?_) (fun b => G.conv (fun g w s => OwnS.close (n := n) (sp := []) (Nat.le_refl _) (by simp) (by simp) (by simpa [cb] using s)) (h b))
  have hsz : (P.info? el).map (·.size) = some n := by
    have := ht.sl.2
    cases hi : P.info? el with
    | none => simp [hi] at this
    | some i => simp [hi] at this; simp [this.1]
  simp [execOp, Instr.buildSlice, run_underlying_of ht.sl.1, run_sizeOf_of hsz, Instr.fill, newRow, newObj, Sem.run, Array.range_zero']

/-- A literal slice of two elements of one cell each. -/
theorem R.bs2 {T el : TypeId} {bytes : Nat} {x y : Operand} {v1 v2 z : Value} [ht : TSl P T el 1 bytes] [hz : TZero P el z] (hzs : z.cells = #[z]) (hx : ev e x = some v1) (hy : ev e y = some v2) (hv1 : v1.cells = #[v1]) (hv2 : v2.cells = #[v2]) (hd : Nat.blt d c.n = true)
    (h : ∀ b, G P c ds (.ops all l :: k) ((d, .slice (some ⟨b, 0, none⟩) 2 2) :: e) (cb b [v1, v2] el :: H) Q) : GR P c ds all ⟨some d, .buildSlice T 2 #[(0, x), (1, y)], ty, pos, af, gu⟩ l k e H Q := by
  refine GR.mk (f := fun b => .slice (some ⟨b, 0, none⟩) 2 2) (ob := .cells [v1, v2].toArray el) rfl hd (fun ρ hρ g w _ => ?_) h
  have hsz : (P.info? el).map (·.size) = some 1 := by
    have := ht.sl.2
    cases hi : P.info? el with
    | none => simp [hi] at this
    | some i => simp [hi] at this; simp [this.1]
  simp [execOp, hρ x _ hx, hρ y _ hy, Instr.buildSlice, run_underlying_of ht.sl.1, run_sizeOf_of hsz, run_zeroValue_of hz, Instr.fill, hv1, hv2, hzs, newRow, newObj, Sem.run, Array.range_succ, Array.range_zero']

/-- A slice against nil. -/
theorem Ok.eqlNilS {T T2 el : TypeId} {n bytes : Nat} {x y : Operand} {a : Option Addr} {len cap : Nat} [ht : TSl P T el n bytes] (hx : ev e x = some (.slice a len cap)) (hy : ev e y = some (.slice none 0 0)) : Ok P e ⟨some d, .binOp .eql T x y T2, ty, pos, af, gu⟩ H (.bool a.isNone) :=
  Ok.val (fun ρ hρ g w _ => by
    simp [execOp, hρ x _ hx, hρ y _ hy, eqGuard, binOp, run_equal_slice_nil w T el a len cap ht.sl.1])
theorem Ok.neqNilS {T T2 el : TypeId} {n bytes : Nat} {x y : Operand} {a : Option Addr} {len cap : Nat} [ht : TSl P T el n bytes] (hx : ev e x = some (.slice a len cap)) (hy : ev e y = some (.slice none 0 0)) : Ok P e ⟨some d, .binOp .neq T x y T2, ty, pos, af, gu⟩ H (.bool (!a.isNone)) :=
  Ok.val (fun ρ hρ g w _ => by
    simp [execOp, hρ x _ hx, hρ y _ hy, eqGuard, binOp, run_equal_slice_nil w T el a len cap ht.sl.1])
end

section
variable {P : Program} {all : Array Oper} {c : Ctx} {ds : List Nat} {k : List It} {Q : Post} {l : List (Tg × Oper)} {e : Env} {H : List HProp}
variable {d : Nat} {ty : TypeId} {pos : String} {af : Array Edge} {gu : Option (Nat × Bool)}
theorem op_call {f : FuncId} {args : List Operand} {ts : Array TypeId} {vs : List Value} {fn : Func} {body : Code} {Hp R : List HProp} {Qf : Post} {dst : Option Nat} (hf : P.funcs[f]? = some fn) (hb : fn.body = some body) (hn : fn.name ≠ "runtime.NumGoroutine")
    (ha : evList e args = some vs) (spec : Fun P f vs Hp Qf) (hp : H.Perm (Hp ++ R)) :
    ∀ ρ, Tells e ρ → OpRun P (execOp ρ ⟨dst, .call ⟨.value (.func f), args.toArray, ts⟩, ty, pos, af, gu⟩) H fun v H' => ∃ H1, Qf v H1 ∧ H' = H1 ++ R := by
  intro ρ hρ g w s
  have hfun : ρ (.func f) = .func (.func f) #[] #[] := hρ (.func f) _ rfl
  have : (execOp ρ ⟨dst, .call ⟨.value (.func f), args.toArray, ts⟩, ty, pos, af, gu⟩).run P w = .ok (.enter f vs.toArray) w := by
    simp [execOp, resolve, Deferred.ofValue, hfun, invoke, callFunc, program, Sem.run, hf, hn, hb, hρ.list ha]
  rw [this]
  exact (spec.frame g w (s.perm hp)).mono fun _ _ ⟨v, e1, H', q, b⟩ => ⟨v, e1, H', q, b⟩
/-- A call with a guard that says yes. -/
theorem EVS.callQy {j t : Nat} {want b : Bool} {f : FuncId} {args : List Operand} {ts : Array TypeId} {vs : List Value} {fn : Func} {body : Code} {Hp R : List HProp} {Qf : Post} {dst : Option Nat} (hj : (all[j]?).bind (·.dst) = some t) (hx : e.get t = some (.bool b)) (hbw : b = want) (hf : P.funcs[f]? = some fn) (hb : fn.body = some body) (hn : fn.name ≠ "runtime.NumGoroutine")
    (ha : evList e args = some vs) (spec : Fun P f vs Hp Qf) [hp : Takes Hp H R] (h : ∀ v H', Qf v H' → EVS P c ds all k Q l (putE dst v e) (H' ++ R)) :
    EVS P c ds all k Q ((.act, ⟨dst, .call ⟨.value (.func f), args.toArray, ts⟩, ty, pos, af, some (j, want)⟩) :: l) e H :=
  EVS.m_opy hj hx hbw (op_call hf hb hn ha spec hp.takes) (by rintro v _ ⟨H1, q, rfl⟩; exact h v H1 q)
end

/-- A return behind loops over functions; of what is held only L is kept. -/
theorem G.retDK {P : Program} {D : List HProp} {c : Ctx} {ds : List Nat} {k : List It} {e : Env} {H R R' : List HProp} {Q : Post} (L : List HProp) {fn : Func} {rs : List ResultVar} {vs : List Value} (hr : c.round = none) (hf : P.funcs[c.fn]? = some fn) (hrs : fn.results = rs.toArray) (hD : ds.map defB = D) [hp : Takes D H R] (r : Res P e R rs vs) [hk : Takes L R R'] (q : Q (packRes vs) L) :
    G P c ds (.code .ret :: k) e H Q := by
  subst hD
  intro g tmps w cs is a s d
  obtain ⟨i, is1, rfl, rfl, d1⟩ := d.cons
  obtain ⟨w', s1, hs1⟩ := defs_steps (c := c) (P := P) (tmps := tmps) (cs := cs) (todo := .code .ret :: is1) hp.takes s
  unfold Ends
  rw [hr]
  exact ⟨packRes vs, w', _, ⟨L, q, (s1.perm hk.takes).drop⟩, (Steps.one (st_ret hr)).trans hs1, rfl, rfl, rfl, rfl, fn, hf, results_run' a s1 fn hrs r⟩

/-! ### Many chunks as one -/
theorem perm_eraseIdx {ps : List HProp} {j : Nat} (h : j < ps.length) : ps.Perm (ps[j] :: ps.eraseIdx j) := by
  induction ps generalizing j with
  | nil => simp at h
  | cons p ps ih =>
    cases j with
    | zero => simp
    | succ j =>
      simp only [List.length_cons, Nat.add_lt_add_iff_right] at h
      simp only [List.getElem_cons_succ, List.eraseIdx_cons_succ]
      exact (List.Perm.cons p (ih h)).trans (.swap _ _ _)
theorem perm_setIdx {ps : List HProp} {j : Nat} (q : HProp) (h : j < ps.length) : (ps.set j q).Perm (q :: ps.eraseIdx j) := by
  have := perm_eraseIdx (ps := ps.set j q) (j := j) (by simpa using h)
  simpa [List.eraseIdx_set_eq] using this

section
variable {P : Program} {c : Ctx} {ds : List Nat} {todo : List It} {e : Env} {H R : List HProp} {Q : Post}
theorem G.bagOut (ps : List HProp) (j : Nat) [h : SelH H (sep ps) R] (hj : j < ps.length) {q : HProp} (hq : ps[j] = q) (k : G P c ds todo e (q :: sep (ps.eraseIdx j) :: R) Q) : G P c ds todo e H Q := by
  subst hq
  refine k.conv fun g w s => ?_
  have s1 : Sat (ps ++ R) g w := Sat.sep.1 (s.perm h.sel)
  have s2 : Sat (ps.eraseIdx j ++ ps[j] :: R) g w := s1.perm (((perm_eraseIdx hj).append_right R).trans (List.perm_middle (l₁ := ps.eraseIdx j)).symm)
  exact (Sat.sep.2 s2).perm (.swap _ _ _)
theorem G.bagIn (ps : List HProp) (j : Nat) (q : HProp) {R1 R2 : List HProp} [h1 : SelH H q R1] [h2 : SelH R1 (sep (ps.eraseIdx j)) R2] (hj : j < ps.length) (k : G P c ds todo e (sep (ps.set j q) :: R2) Q) : G P c ds todo e H Q := by
  refine k.conv fun g w s => ?_
  have s1 : Sat (q :: sep (ps.eraseIdx j) :: R2) g w := s.perm (h1.sel.trans (List.Perm.cons q h2.sel))
  have s2 : Sat (ps.eraseIdx j ++ q :: R2) g w := Sat.sep.1 (s1.perm (.swap _ _ _))
  exact Sat.sep.2 (s2.perm ((List.perm_middle (l₁ := ps.eraseIdx j)).trans ((perm_setIdx q hj).append_right R2).symm))
theorem G.bagSnoc (ps : List HProp) (q : HProp) {R1 R2 : List HProp} [h1 : SelH H q R1] [h2 : SelH R1 (sep ps) R2] (k : G P c ds todo e (sep (ps ++ [q]) :: R2) Q) : G P c ds todo e H Q := by
  refine k.conv fun g w s => ?_
  have s1 : Sat (q :: sep ps :: R2) g w := s.perm (h1.sel.trans (List.Perm.cons q h2.sel))
  have s2 : Sat (ps ++ q :: R2) g w := Sat.sep.1 (s1.perm (.swap _ _ _))
  exact Sat.sep.2 (by simpa using s2)
/-- The ways through a piece of code meet behind it. -/
theorem G.cutW {x : It} {k : List It} (E' : Env) (H' : List HProp) (h1 : ∀ k' Q', G P c ds k' E' H' Q' → G P c ds (x :: k') e H Q') (h2 : G P c ds k E' H' Q) : G P c ds (x :: k) e H Q := h1 k Q h2
theorem G.cutW2 {x y : It} {k : List It} (E' : Env) (H' : List HProp) (h1 : ∀ k' Q', G P c ds k' E' H' Q' → G P c ds (x :: y :: k') e H Q') (h2 : G P c ds k E' H' Q) : G P c ds (x :: y :: k) e H Q := h1 k Q h2
theorem G.putFact {p : Prop} (hp : p) (k : G P c ds todo e (Am.fact p :: H) Q) : G P c ds todo e H Q := k.conv fun _ _ s => Sat.unfact hp s
theorem G.getFact (p : Prop) [h : SelH H (Am.fact p) R] (k : p → G P c ds todo e R Q) : G P c ds todo e H Q :=
  fun g tmps w cs is a s d => let s' := Sat.fact (s.perm h.sel); k s'.1 g tmps w cs is a s'.2 d
theorem G.bag0 (k : G P c ds todo e (sep [] :: H) Q) : G P c ds todo e H Q := k.conv fun _ _ s => (Sat.sep (l := [])).2 s
end

/-- How long a slice argument is, told by its datum. -/
theorem list_size {T : Type} {enc : TypeId × Value → T} {P : Program} {w : World} {t el : TypeId} {a : Option Addr} {len cap : Nat} {d : DataW T} {ps : List MemPlace} (ht : P.underlying t = some (.slice el))
    (h : DataW.Trod enc P w 0 (fun _ => true) true t (.slice a len cap) d ps) : len = 0 ∨ ∃ elems spare, d = .slice elems spare ∧ elems.length + spare.length = cap ∧ elems.length = len := by
  obtain ⟨fuel, hf⟩ := h
  rcases Deep.open_slice ht hf with ⟨hcs, _⟩ | ⟨ad, len', cap', m, n', D, Pl, hcs, _, hl, hm, hmm, hx, hi⟩
  · simp [Value.cells] at hcs
    exact .inl hcs.2.1
  · simp [Value.cells] at hcs
    obtain ⟨rfl, rfl, rfl⟩ := hcs
    simp only [if_true] at hmm
    subst hmm
    simp only [Prod.mk.injEq] at hx
    exact .inr ⟨_, _, hx.1, by simp; omega, by simp⟩


/-- A row of elements of one form is of its form. -/
theorem typed_row {α : Type} {f : α → List Value} {n : Nat} (hf : ∀ x, (f x).length = n) {l : List (Nat × Sc)} (ht : ∀ x, typedB l (f x) = true) (hb : l.all (fun p => Nat.blt p.1 n) = true) (xs : List α) (rest : List Value) (m : Nat) (hm : m ≤ xs.length) :
    typedB ((List.range m).flatMap fun i => l.map fun x => (i * n + x.1, x.2)) (xs.flatMap f ++ rest) = true := by
  unfold typedB
  rw [List.all_eq_true]
  intro p hp
  obtain ⟨i, hi, hp⟩ := List.mem_flatMap.1 hp
  obtain ⟨q, hq, rfl⟩ := List.mem_map.1 hp
  have hi : i < xs.length := by have := List.mem_range.1 hi; omega
  have hqn : q.1 < n := by simpa [Nat.blt_eq] using (List.all_eq_true.1 hb) q hq
  have h1 := flat_length hf xs
  have h2 : (i + 1) * n ≤ xs.length * n := Nat.mul_le_mul_right n hi
  rw [Nat.add_mul] at h2
  dsimp only
  rw [List.getElem?_append_left (by omega), flat_get hf xs i q.1 hi hqn]
  exact (List.all_eq_true.1 (ht xs[i])) q hq
theorem typed_right {l : List (Nat × Sc)} {A B : List Value} (h : typedB l B = true) : typedB (l.map fun x => (A.length + x.1, x.2)) (A ++ B) = true := by
  unfold typedB at *
  rw [List.all_eq_true] at *
  intro p hp
  obtain ⟨q, hq, rfl⟩ := List.mem_map.1 hp
  dsimp only
  rw [List.getElem?_append_right (by omega), Nat.add_sub_cancel_left]
  exact h q hq
theorem typed_append {l m : List (Nat × Sc)} {xs : List Value} (h1 : typedB l xs = true) (h2 : typedB m xs = true) : typedB (l ++ m) xs = true := by
  unfold typedB at *
  rw [List.all_append, h1, h2]; rfl
theorem eqCells_self {l : List (Nat × Sc)} {xs : List Value} (h : typedB l xs = true) : eqCells l xs xs = true := by
  unfold eqCells typedB at *
  rw [List.all_eq_true] at *
  intro p hp
  exact (leafEq_iff (h p hp) (h p hp)).2 rfl

end Go.Am
