/- A region whose order is open and that writes. Each operation is taken in one order, with a word of how it stands to the others: one that looks at memory comes ahead of every act that is still to come; one that looks at none may come anywhere; an act is forced when its turn comes. -/
import Derived.Test.YtffcilmllebdmaaAmDraw
namespace Go.Am

inductive Tg
  | look | pur | act | new

section
variable {P : Program} {all : Array Oper} {c : Ctx} {ds : List Nat} {k : List It} {Q : Post}

def EVS (P : Program) (c : Ctx) (ds : List Nat) (all : Array Oper) (k : List It) (Q : Post) : List (Tg × Oper) → Env → List HProp → Prop
  | [], e, H => G P c ds (.ops all [] :: k) e H Q
  | (.look, o) :: l, e, H => (Yes all e o ∧ ∃ v, Ok P e o H v ∧ EVS P c ds all k Q l (putE o.dst v e) H) ∨ (No all e o ∧ EVS P c ds all k Q l (putE o.dst undef e) H)
  | (.pur, o) :: l, e, H => (Yes all e o ∧ ∃ v, (∀ H', Ok P e o H' v) ∧ EVS P c ds all k Q l (putE o.dst v e) H) ∨ (No all e o ∧ EVS P c ds all k Q l (putE o.dst undef e) H)
  | (.act, o) :: l, e, H => (Yes all e o ∧ ∃ Qo : Post, (∀ ρ, Tells e ρ → OpRun P (execOp ρ o) H Qo) ∧ ∀ v H', Qo v H' → EVS P c ds all k Q l (putE o.dst v e) H') ∨ (No all e o ∧ EVS P c ds all k Q l (putE o.dst undef e) H)
  | (.new, o) :: l, e, H => (Yes all e o ∧ ∃ Qo : Post, (∀ ρ, Tells e ρ → OpRun P (execOp ρ o) H Qo) ∧ (∀ v H', Qo v H' → Keeps H H') ∧ ∀ v H', Qo v H' → EVS P c ds all k Q l (putE o.dst v e) H') ∨ (No all e o ∧ EVS P c ds all k Q l (putE o.dst undef e) H)

def isAct : Tg → Bool
  | .act => true
  | _ => false
def tagB (all : Array Oper) (n : Nat) : List (Tg × Nat) → Array Bool → Bool
  | [], _ => true
  | (t, i) :: l, listed => (match all[i]? with
      | some o => notDefer o.op && dstOk o.dst n && (match t with
        | .act | .new => Region.ready .any all listed == [i]
        | .look => (Region.ready .any all listed).contains i && (notSelect o.op && freeX all i o (i :: l.map (·.2))) && l.all fun x => !isAct x.1 || waits all all.size x.2 i
        | .pur => (Region.ready .any all listed).contains i && (notSelect o.op && freeX all i o (i :: l.map (·.2))))
      | none => false) && tagB all n l (listed.setIfInBounds i true)
def tagOps (all : Array Oper) : List (Tg × Nat) → Option (List (Tg × Oper))
  | [] => some []
  | (t, i) :: l => match all[i]?, tagOps all l with | some o, some tl => some ((t, o) :: tl) | _, _ => none

theorem tagOps_cons {t : Tg} {i : Nat} {l : List (Tg × Nat)} {tl : List (Tg × Oper)} (h : tagOps all ((t, i) :: l) = some tl) : ∃ o tl', all[i]? = some o ∧ tagOps all l = some tl' ∧ tl = (t, o) :: tl' := by
  simp only [tagOps] at h
  split at h
  · rename_i o l' h1 h2; cases h; exact ⟨o, l', h1, h2, rfl⟩
  · cases h

def drawSB (all : Array Oper) (n : Nat) (l : List (Tg × Nat)) : Bool :=
  let is := l.map (·.2)
  tagB all n l (Array.replicate all.size false) && is.all (· < all.size) && decide is.Nodup && ((List.range all.size).all fun j => is.contains j) && Nat.ble is.length all.size

/-- The places of the acts. -/
def actsOf (l : List (Tg × Nat)) : List Nat := (l.filter fun x => isAct x.1).map (·.2)

theorem EVS.any {st : List Nat} {K : Array Value → List HProp → Prop} {n : Nat} (hK : ∀ e tmps H, Knows n e tmps → G P c ds (.ops all [] :: k) e H Q → K tmps H) :
    ∀ (l : List (Tg × Nat)) (tl : List (Tg × Oper)) (listed : Array Bool) (e : Env) (tmps : Array Value) (H : List HProp), tagOps all l = some tl → tagB all n l listed = true → (∀ i ∈ l.map (·.2), (i ∈ st ↔ i ∈ actsOf l)) →
      (l.map (·.2)).Nodup → Unlisted listed (l.map (·.2)) [] → Closed all listed → Knows n e tmps → EVS P c ds all k Q tl e H → AnyX P all st K l.length listed tmps H := by
  intro l
  induction l with
  | nil =>
    intro tl listed e tmps H hm _ _ _ _ _ a h
    simp only [tagOps, Option.some.injEq] at hm; subst hm
    simp only [EVS] at h
    exact hK e tmps H a h
  | cons x l ih =>
    obtain ⟨t, i⟩ := x
    intro tl listed e tmps H hm hb hst hnd hun hcl a h
    obtain ⟨o, tl', ho, hm', rfl⟩ := tagOps_cons hm
    simp only [tagB, ho, Bool.and_eq_true] at hb
    obtain ⟨⟨⟨hn, hd⟩, ht⟩, hb⟩ := hb
    simp only [List.map_cons] at hnd hun hst
    have hun' := hun.set hnd (by simp) (List.mem_cons_self ..)
    simp only [List.erase_cons_head] at hun'
    have hnd' := (List.nodup_cons.1 hnd)
    have hst' : ∀ j ∈ l.map (·.2), (j ∈ st ↔ j ∈ actsOf l) := by
      intro j hj
      have := hst j (List.mem_cons_of_mem _ hj)
      rw [this]
      have hne : j ≠ i := fun e => hnd'.1 (e ▸ hj)
      cases t <;> simp [actsOf, isAct, hne]
    have hwait : ∀ {j}, (∀ x ∈ l, isAct x.1 = true → waits all all.size x.2 i = true) → j ∈ i :: l.map (·.2) → j ∈ st → j ≠ i → waits all all.size j i = true := by
      intro j hw hj hjs hji
      have hj' : j ∈ l.map (·.2) := (List.mem_cons.1 hj).resolve_left hji
      have := (hst' j hj').1 hjs
      simp only [actsOf, List.mem_map, List.mem_filter] at this
      obtain ⟨x, ⟨hx, hxa⟩, rfl⟩ := this
      exact hw x hx hxa
    cases t with
    | act =>
      simp only [beq_iff_eq] at ht
      refine ⟨by rw [ht]; simp, fun j hj => ?_⟩
      rw [ht] at hj
      obtain rfl : j = i := by simpa using hj
      have hr : j ∈ Region.ready .any all listed := by rw [ht]; simp
      refine ⟨o, ho, hn, ?_⟩
      have hjst : j ∈ st := (hst j (by simp)).2 (by simp [actsOf, isAct])
      simp only [EVS] at h
      rcases h with ⟨hy, Qo, h1, h3⟩ | ⟨hno, h3⟩
      · exact .inl ⟨hy.wanted a, Qo, h1 _ (Tells.tmps a), .inl hjst, fun v H' q => ih tl' _ _ _ H' hm' hb hst' hnd'.2 hun' (hcl.set hr) (a.puts hd v) (h3 v H' q)⟩
      · exact .inr ⟨hno.wanted a, ih tl' _ _ _ H hm' hb hst' hnd'.2 hun' (hcl.set hr) (a.puts hd undef) h3⟩
    | new =>
      simp only [beq_iff_eq] at ht
      refine ⟨by rw [ht]; simp, fun j hj => ?_⟩
      rw [ht] at hj
      obtain rfl : j = i := by simpa using hj
      have hr : j ∈ Region.ready .any all listed := by rw [ht]; simp
      refine ⟨o, ho, hn, ?_⟩
      simp only [EVS] at h
      rcases h with ⟨hy, Qo, h1, h2, h3⟩ | ⟨hno, h3⟩
      · exact .inl ⟨hy.wanted a, Qo, h1 _ (Tells.tmps a), .inr h2, fun v H' q => ih tl' _ _ _ H' hm' hb hst' hnd'.2 hun' (hcl.set hr) (a.puts hd v) (h3 v H' q)⟩
      · exact .inr ⟨hno.wanted a, ih tl' _ _ _ H hm' hb hst' hnd'.2 hun' (hcl.set hr) (a.puts hd undef) h3⟩
    | look =>
      simp only [Bool.and_eq_true] at ht
      obtain ⟨⟨hr, hs, hf⟩, hw⟩ := ht
      have hr : i ∈ Region.ready .any all listed := by simpa using hr
      have hw' : ∀ x ∈ l, isAct x.1 = true → waits all all.size x.2 i = true := by
        intro x hx hxa
        have := List.all_eq_true.1 hw x hx
        simpa [hxa] using this
      have key : ∀ v, QuietX P all o v tmps H → EVS P c ds all k Q tl' (putE o.dst v e) H → AnyX P all st K (l.length + 1) listed tmps H := fun v hq hev =>
        AnyX.first (post := []) (N := all.size) ho hn hs (by simp) (by simp) l.length listed (i :: l.map (·.2)) tmps H hnd (by simp) (by simp) hun hcl hf hr hq (.inl fun j hj hjs hji => hwait hw' hj hjs hji)
          (ih tl' _ _ _ H hm' hb hst' hnd'.2 hun' (hcl.set hr) (a.puts hd v) hev)
      simp only [EVS] at h
      rcases h with ⟨hy, v, h1, h3⟩ | ⟨hno, h3⟩
      · exact key v (.inl ⟨hy.wanted a, h1 _ (Tells.tmps a)⟩) h3
      · exact key undef (.inr ⟨hno.wanted a, rfl⟩) h3
    | pur =>
      simp only [Bool.and_eq_true] at ht
      obtain ⟨hr, hs, hf⟩ := ht
      have hr : i ∈ Region.ready .any all listed := by simpa using hr
      have key : ∀ v, QuietX P all o v tmps H → (∀ H', QuietX P all o v tmps H') → EVS P c ds all k Q tl' (putE o.dst v e) H → AnyX P all st K (l.length + 1) listed tmps H := fun v hq hq' hev =>
        AnyX.first (post := []) (N := all.size) ho hn hs (by simp) (by simp) l.length listed (i :: l.map (·.2)) tmps H hnd (by simp) (by simp) hun hcl hf hr hq (.inr hq')
          (ih tl' _ _ _ H hm' hb hst' hnd'.2 hun' (hcl.set hr) (a.puts hd v) hev)
      simp only [EVS] at h
      rcases h with ⟨hy, v, h1, h3⟩ | ⟨hno, h3⟩
      · exact key v (.inl ⟨hy.wanted a, h1 H _ (Tells.tmps a)⟩) (fun H' => .inl ⟨hy.wanted a, h1 H' _ (Tells.tmps a)⟩) h3
      · exact key undef (.inr ⟨hno.wanted a, rfl⟩) (fun H' => .inr ⟨hno.wanted a, rfl⟩) h3

theorem G.drawS {id : Nat} {l : List Oper} {e : Env} {H : List HProp} (tl : List (Tg × Nat)) {ol : List (Tg × Oper)} (hm : P.follows .mixedOrders = true) (hB : drawSB l.toArray c.n tl = true)
    (hp : tagOps l.toArray tl = some ol) (h : EVS P c ds l.toArray k Q ol e H) : G P c ds (.code (.region id l.toArray true) :: k) e H Q := by
  simp only [drawSB, Bool.and_eq_true, List.all_eq_true, decide_eq_true_eq] at hB
  obtain ⟨⟨⟨⟨b1, b5⟩, b6⟩, b8⟩, b9⟩ := hB
  have hl0 : (tl.map (·.2)).length = tl.length := by simp
  generalize hL : tl.map (·.2) = L at b5 b6 b8 b9 hl0
  intro g tmps w cs is a s d
  obtain ⟨i, is1, rfl, rfl, d1⟩ := d.cons
  have hstep : step P (lone (c.fr tmps ds (.code (.region id l.toArray true) :: is1)) cs w) =
      .next (lone (c.fr tmps ds (.inRegion l.toArray (Region.linearise .any l.toArray (w.tape w.drawn (.order c.fn id))) :: is1)) cs { w with drawn := w.drawn + 1 }) :=
    step_lone_go (by simp [stepG, stepG.exec, Ctx.fr, choose, Sem.run, Question.forced, Question.cut, Region.schedule, hm])
  refine Ends.steps (.one hstep) ?_
  have hsat : Sat H g { w with drawn := w.drawn + 1 } := s.of_heap rfl
  have hK : ∀ e tmps H, Knows c.n e tmps → G P c ds (.ops l.toArray [] :: k) e H Q → EndsAt P c ds l.toArray k Q [] tmps H := by
    intro e tmps H a h g w cs ks s d
    exact h g tmps w cs (.inRegion l.toArray [] :: ks) a s ⟨⟨[], rfl, rfl⟩, d⟩
  have hnone : ∀ j, (Array.replicate l.toArray.size false).getD j true = false ↔ j < l.toArray.size := by
    intro j
    by_cases hj : j < l.toArray.size
    · simp at hj; simp [hj]
    · simp at hj; simp [hj]
  have hcover : ∀ j, j < l.toArray.size → j ∈ L := by
    intro j hj
    have := b8 j (List.mem_range.2 hj)
    simpa [or_assoc] using this
  have hun : Unlisted (Array.replicate l.toArray.size false) L [] := by
    intro j
    rw [hnone j]
    exact ⟨fun hj => .inl (hcover j hj), fun hj => by
      rcases hj with hj | hj
      · exact b5 j hj
      · cases hj⟩
  have hcl : Closed l.toArray (Array.replicate l.toArray.size false) := by
    intro j o ho hj
    exfalso
    rcases Nat.lt_or_ge j l.length with h' | h' <;> simp [h', Nat.not_lt.2 h'] at hj
  have hA := EVS.any (st := actsOf tl) hK tl ol _ e tmps H hp b1 (fun _ _ => Iff.rfl) (by rw [hL]; exact b6) (by rw [hL]; exact hun) hcl a h
  have hsz : ∀ (x : List Nat) (arr : Array Bool), (setAll x arr).size = arr.size := by
    intro x
    induction x with
    | nil => intro arr; rfl
    | cons y x ih => intro arr; simp only [setAll, List.foldl_cons]; have := ih (arr.setIfInBounds y true); simp only [setAll] at this; rw [this]; simp
  have hlast : ∀ j, (setAll L (Array.replicate l.toArray.size false)).getD j true = false ↔ j ∈ ([] : List Nat) := by
    intro j
    rw [setAll_getD, hnone]
    simp only [List.not_mem_nil, iff_false, not_and, Classical.not_not]
    exact hcover j
  have hready : Region.ready .any l.toArray (setAll L (Array.replicate l.toArray.size false)) = [] := by
    apply List.eq_nil_iff_forall_not_mem.2
    intro j hj
    have h1 := (mem_ready.1 hj).1
    exact absurd ((hlast j).1 (by simpa using h1)) (by simp)
  have hsize : L.length ≤ l.toArray.size := Nat.le_of_ble_eq_true b9
  have hE := AnyX.ends (c := c) (ds := ds) (k := k) (Q := Q) (st := actsOf tl) (L0 := setAll L (Array.replicate l.toArray.size false)) (postI := [])
    (fun fuel t _ => by
      cases fuel with
      | zero => simp [Region.linearise.go]
      | succ fuel =>
        simp only [Region.linearise.go]
        change (match (Region.ready .any l.toArray (setAll L (Array.replicate l.toArray.size false)))[t % (Region.ready .any l.toArray (setAll L (Array.replicate l.toArray.size false))).length]? with | some i => _ | none => _) = _
        simp only [hready]
        simp)
    tl.length (Array.replicate l.toArray.size false) L tmps H l.toArray.size (w.tape w.drawn (.order c.fn id)) hl0 b6 (by simp) hun hcl (by rw [hsz]) hlast (by simp at hsize ⊢; omega) (by simp) hA
  exact hE g _ cs is1 hsat d1

section walk
variable {o : Oper} {l : List (Tg × Oper)} {e : Env} {H : List HProp}
variable {d : Nat} {ty : TypeId} {pos : String} {af : Array Edge}

theorem EVS.done (h : G P c ds (.ops all [] :: k) e H Q) : EVS P c ds all k Q [] e H := by simp only [EVS]; exact h
theorem EVS.ok {op : Op} {v : Value} (h1 : Ok P e ⟨some d, op, ty, pos, af, none⟩ H v) (h : EVS P c ds all k Q l ((d, v) :: e) H) : EVS P c ds all k Q ((.look, ⟨some d, op, ty, pos, af, none⟩) :: l) e H := by
  simp only [EVS]; exact .inl ⟨.inl rfl, v, h1, h⟩
theorem EVS.pure {op : Op} {v : Value} (h1 : ∀ H', Ok P e ⟨some d, op, ty, pos, af, none⟩ H' v) (h : EVS P c ds all k Q l ((d, v) :: e) H) : EVS P c ds all k Q ((.pur, ⟨some d, op, ty, pos, af, none⟩) :: l) e H := by
  simp only [EVS]; exact .inl ⟨.inl rfl, v, h1, h⟩
theorem EVS.m_op {op : Op} {dst : Option Nat} {Qo : Post} (h1 : ∀ ρ, Tells e ρ → OpRun P (execOp ρ ⟨dst, op, ty, pos, af, none⟩) H Qo) (h : ∀ v H', Qo v H' → EVS P c ds all k Q l (putE dst v e) H') : EVS P c ds all k Q ((.act, ⟨dst, op, ty, pos, af, none⟩) :: l) e H := by
  simp only [EVS]
  exact .inl ⟨.inl rfl, Qo, h1, h⟩
theorem EVS.m_ok {op : Op} {v : Value} (h1 : Ok P e ⟨some d, op, ty, pos, af, none⟩ H v) (h : EVS P c ds all k Q l ((d, v) :: e) H) : EVS P c ds all k Q ((.act, ⟨some d, op, ty, pos, af, none⟩) :: l) e H :=
  EVS.m_op h1 (by rintro _ _ ⟨rfl, rfl⟩; exact h)
theorem EVS.m_store {T : TypeId} {x y : Operand} {b o : Nat} {ls : List Value} {T' : TypeId} {u : List Value → List HProp} {v : Value} [hc : TCell P T] (hx : ev e x = some (.pointer (some ⟨b, o, none⟩))) (hy : ev e y = some v)
    [hs : SelC H b ls T' u] (hv : plainCells [v] = true) (ho : Nat.blt o ls.length = true) (h : EVS P c ds all k Q l e (u (ls.set o v))) :
    EVS P c ds all k Q ((.act, ⟨none, .store T x y, ty, pos, af, none⟩) :: l) e H :=
  EVS.m_op (op_store hx hy hv ho) (by rintro _ _ rfl; exact h)
theorem EVS.m_storeA {T : TypeId} {x y : Operand} {b o n : Nat} {ls : List Value} {T' : TypeId} {u : List Value → List HProp} {vs : List Value} [hc : TAgg P T n] (hx : ev e x = some (.pointer (some ⟨b, o, none⟩))) (hy : ev e y = some (.agg vs.toArray))
    [hs : SelC H b ls T' u] (hv : plainCells vs = true) (hn : vs.length = n) (ho : Nat.ble (o + n) ls.length = true) (h : EVS P c ds all k Q l e (u (setSeg ls o vs))) :
    EVS P c ds all k Q ((.act, ⟨none, .store T x y, ty, pos, af, none⟩) :: l) e H :=
  EVS.m_op (op_storeA hx hy hv hn ho) (by rintro _ _ rfl; exact h)
theorem EVS.m_box {T : TypeId} {x : Operand} {v : Value} {vs : List Value} (hx : ev e x = some v) (hv : v.cells = vs.toArray)
    (h : ∀ b, EVS P c ds all k Q l ((d, .pointer (some ⟨b, 0, none⟩)) :: e) (cb b vs T :: H)) : EVS P c ds all k Q ((.new, ⟨some d, .box T x, ty, pos, af, none⟩) :: l) e H := by
  simp only [EVS]
  refine .inl ⟨.inl rfl, fun v H' => ∃ b, v = .pointer (some ⟨b, 0, none⟩) ∧ H' = cb b vs T :: H, fun ρ hρ g w s => ?_, fun v H' ⟨b, _, e2⟩ => ⟨[cb b vs T], by rw [e2]; exact .refl _⟩, fun v H' ⟨b, e1, e2⟩ => by rw [e1, e2]; exact h b⟩
  have : (execOp ρ ⟨some d, .box T x, ty, pos, af, none⟩).run P w = .ok (.value (.pointer (some ⟨w.heap.size, 0, none⟩))) { w with heap := w.heap.push (.cells vs.toArray T) } := by
    simp [execOp, hρ x _ hx, Instr.box, newVar, newRow, newObj, Sem.run, hv]
  rw [this]
  exact ⟨_, ⟨_, rfl, rfl⟩, s.new _⟩
/-- A call. -/
theorem EVS.m_call {f : FuncId} {args : List Operand} {ts : Array TypeId} {vs : List Value} {fn : Func} {body : Code} {Hp R : List HProp} {Qf : Post} {dst : Option Nat} (hf : P.funcs[f]? = some fn) (hb : fn.body = some body) (hn : fn.name ≠ "runtime.NumGoroutine")
    (ha : evList e args = some vs) (spec : Fun P f vs Hp Qf) (hp : H.Perm (Hp ++ R)) (h : ∀ v H', Qf v H' → EVS P c ds all k Q l (putE dst v e) (H' ++ R)) :
    EVS P c ds all k Q ((.act, ⟨dst, .call ⟨.value (.func f), args.toArray, ts⟩, ty, pos, af, none⟩) :: l) e H := by
  refine EVS.m_op (Qo := fun v H' => ∃ H1, Qf v H1 ∧ H' = H1 ++ R) (fun ρ hρ g w s => ?_) (by rintro v _ ⟨H1, q, rfl⟩; exact h v H1 q)
  have hfun : ρ (.func f) = .func (.func f) #[] #[] := hρ (.func f) _ rfl
  have : (execOp ρ ⟨dst, .call ⟨.value (.func f), args.toArray, ts⟩, ty, pos, af, none⟩).run P w = .ok (.enter f vs.toArray) w := by
    simp [execOp, resolve, Deferred.ofValue, hfun, invoke, callFunc, program, Sem.run, hf, hn, hb, hρ.list ha]
  rw [this]
  exact (spec.frame g w (s.perm hp)).mono fun _ _ ⟨v, e1, H', q, b⟩ => ⟨v, e1, H', q, b⟩
end walk
end
end Go.Am
