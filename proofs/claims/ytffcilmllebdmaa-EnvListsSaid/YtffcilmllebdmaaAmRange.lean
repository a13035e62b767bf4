/- A loop over a function: the caller's statement, the rounds, the end. -/
import Derived.Test.YtffcilmllebdmaaAmRep
namespace Go.Am

/-- A function value, called. -/
def CallV (P : Program) (f : Value) (args : List Value) (H : List HProp) (Q : Post) : Prop :=
  OpRun P (do let d ← Deferred.ofValue f args.toArray; invoke d.target d.args) H Q

section
variable {P : Program} {c : Ctx} {ds : List Nat} {all : Array Oper} {l : List Oper} {k : List It} {e : Env} {H : List HProp} {Q : Post}
variable {d : Nat} {ty : TypeId} {pos : String} {af : Array Edge} {gu : Option (Nat × Bool)}

theorem CallV.mono {f : Value} {args : List Value} {Q' : Post} (h : CallV P f args H Q) (hq : ∀ v H, Q v H → Q' v H) : CallV P f args H Q' := OpRun.mono h hq

theorem CallV.conv {f : Value} {args : List Value} {H' : List HProp} (hh : ∀ g w, Sat H g w → Sat H' g w) (h : CallV P f args H' Q) : CallV P f args H Q := fun g w s => h g w (hh g w s)

theorem CallV.func {f : FuncId} {fn : Func} {body : Code} {first cap args : List Value} (hf : P.funcs[f]? = some fn) (hb : fn.body = some body) (hn : fn.name ≠ "runtime.NumGoroutine") (h : Fun P f (first ++ args ++ cap) H Q) :
    CallV P (.func (.func f) first.toArray cap.toArray) args H Q := by
  intro g w s
  have : (do let d ← Deferred.ofValue (.func (.func f) first.toArray cap.toArray) args.toArray; invoke d.target d.args : Sem Next).run P w = .ok (.enter f (first ++ args ++ cap).toArray) w := by
    simp [Deferred.ofValue, invoke, callFunc, program, Sem.run, hf, hn, hb]
  rw [this]
  exact h g w s

/-- A call of whatever function value. -/
theorem R.callV {x : Operand} {fv : Value} {args : List Operand} {ts : Array TypeId} {vs : List Value} {Hp R : List HProp} {Qf : Post} (hx : ev e x = some fv) (ha : evList e args = some vs) (hd : Nat.blt d c.n = true)
    (spec : CallV P fv vs Hp Qf) (hp : H.Perm (Hp ++ R)) (h : ∀ v H', Qf v H' → G P c ds (.ops all l :: k) ((d, v) :: e) (H' ++ R) Q) :
    GR P c ds all ⟨some d, .call ⟨.value x, args.toArray, ts⟩, ty, pos, af, gu⟩ l k e H Q := by
  refine GR.op (Qo := fun v H' => ∃ H1, Qf v H1 ∧ H' = H1 ++ R) rfl hd (fun ρ hρ g w s => ?_) (by rintro v _ ⟨H1, q, rfl⟩; exact h v H1 q)
  have : (execOp ρ ⟨some d, .call ⟨.value x, args.toArray, ts⟩, ty, pos, af, gu⟩).run P w = (do let d ← Deferred.ofValue fv vs.toArray; invoke d.target d.args : Sem Next).run P w := by
    simp [execOp, resolve, hρ x _ hx, hρ.list ha]
  rw [this]
  exact OpRun.frame spec g w (s.perm hp)

theorem R.callV0 {x : Operand} {fv : Value} {args : List Operand} {ts : Array TypeId} {vs : List Value} {Hp R : List HProp} {Qf : Post} (hx : ev e x = some fv) (ha : evList e args = some vs)
    (spec : CallV P fv vs Hp Qf) (hp : H.Perm (Hp ++ R)) (h : ∀ v H', Qf v H' → G P c ds (.ops all l :: k) e (H' ++ R) Q) :
    GR P c ds all ⟨none, .call ⟨.value x, args.toArray, ts⟩, ty, pos, af, gu⟩ l k e H Q := by
  refine GR.op (Qo := fun v H' => ∃ H1, Qf v H1 ∧ H' = H1 ++ R) rfl rfl (fun ρ hρ g w s => ?_) (by rintro v _ ⟨H1, q, rfl⟩; exact h v H1 q)
  have : (execOp ρ ⟨none, .call ⟨.value x, args.toArray, ts⟩, ty, pos, af, gu⟩).run P w = (do let d ← Deferred.ofValue fv vs.toArray; invoke d.target d.args : Sem Next).run P w := by
    simp [execOp, resolve, hρ x _ hx, hρ.list ha]
  rw [this]
  exact OpRun.frame spec g w (s.perm hp)

/-- The loop's record. -/
structure Lp where
  fn : FuncId
  tmps : Array Value
  params : Array Tmp
  assign : Code
  body : Code
  defers : Nat

def Lp.obj (L : Lp) (st : LoopState) (pend : Option Code) : Obj :=
  .loop { state := st, pending := pend, fn := L.fn, tmps := L.tmps, params := L.params, assign := L.assign, body := L.body, defers := L.defers }

def loopC (l : Nat) (L : Lp) (st : LoopState) (pend : Option Code) : HProp := blk l (L.obj st pend)

def zipEnv : List Tmp → List Value → Env → Env
  | t :: ts, v :: vs, e => zipEnv ts vs ((t, v) :: e)
  | _, _, e => e

theorem zip_knows {n : Nat} : ∀ (ts : List Tmp) (vs : List Value) (e : Env) (tmps : Array Value), Knows n e tmps → (ts.all (Nat.blt · n)) = true → ts.length = vs.length →
    Knows n (zipEnv ts vs e) ((ts.zip vs).foldl (fun tmps (t, a) => tmps.setIfInBounds t a) tmps)
  | [], _, e, tmps, a, _, _ => by simpa [zipEnv] using a
  | t :: ts, [], _, _, _, _, h => by simp at h
  | t :: ts, v :: vs, e, tmps, a, hb, h => by
    simp only [List.all_cons, Bool.and_eq_true] at hb
    simpa [zipEnv] using zip_knows ts vs _ _ (a.put hb.1 v) hb.2 (by simpa using h)

theorem run_getLoop {lo : Nat} {L : Lp} {st : LoopState} {pend : Option Code} {g : Fr} {w : World} (s : Sat (loopC lo L st pend :: H) g w) :
    (Instr.getLoop lo).run P w = .ok { state := st, pending := pend, fn := L.fn, tmps := L.tmps, params := L.params, assign := L.assign, body := L.body, defers := L.defers } w := by
  have hh := s.heap
  simp [Instr.getLoop, getObj, Sem.run, hh, Lp.obj]

theorem run_setLoop {lo : Nat} {L : Lp} {st st' : LoopState} {pend pend' : Option Code} {g : Fr} {w : World} (s : Sat (loopC lo L st pend :: H) g w) :
    ∃ w', (setObj lo (L.obj st' pend')).run P w = .ok () w' ∧ Sat (loopC lo L st' pend' :: H) g w' := by
  have hh := s.heap
  refine ⟨{ w with heap := w.heap.setIfInBounds lo (L.obj st' pend') }, by simp [setObj, Sem.run, hh, Lp.obj], s.change ?_ fun x hx => ?_⟩
  · have := s.lt
    simp [this]
  · simp [Array.getElem?_setIfInBounds, Ne.symm hx]

/-- One round. -/
theorem CallV.yield {n lo : Nat} {L : Lp} {e0 : Env} {ts : List Tmp} {args : List Value} (ht : L.params = ts.toArray) (hk : Knows n e0 L.tmps) (hb : ts.all (Nat.blt · n) = true) (hl : ts.length = args.length)
    (h : G P ⟨L.fn, n, some lo⟩ [] [.code L.assign, .begin, .code L.body] (zipEnv ts args e0) (loopC lo L .ready none :: H) Q) : CallV P (.func (.yield lo) #[] #[]) args (loopC lo L .ready none :: H) Q := by
  intro g w s
  have hr : (do let d ← Deferred.ofValue (.func (.yield lo) #[] #[]) args.toArray; invoke d.target d.args : Sem Next).run P w =
      .ok (.round lo L.fn ((ts.zip args).foldl (fun tmps (t, a) => tmps.setIfInBounds t a) L.tmps) L.assign L.body) w := by
    have hz : (L.params.zip args.toArray).foldl (fun tmps (x : Tmp × Value) => tmps.setIfInBounds x.1 x.2) L.tmps = (ts.zip args).foldl (fun tmps (x : Tmp × Value) => tmps.setIfInBounds x.1 x.2) L.tmps := by
      rw [ht]; simp
    simp [Deferred.ofValue, invoke, Instr.yield, run_getLoop s, ht, hl, hz]
  rw [hr]
  intro fr cs
  have hkn := zip_knows ts args e0 L.tmps hk hb hl
  have := h g _ w (fr :: cs) [.code L.assign, .beginRound, .code L.body] hkn s ⟨rfl, rfl, rfl, trivial⟩
  exact this fr cs rfl

theorem G.begin {lo : Nat} {L : Lp} {R : List HProp} (hr : c.round = some lo) (hp : H.Perm (loopC lo L .ready none :: R)) (h : G P c ds k e (loopC lo L .busy none :: R) Q) : G P c ds (.begin :: k) e H Q := by
  intro g tmps w cs is a s d
  obtain ⟨i, is1, rfl, rfl, d1⟩ := d.cons
  have s1 := s.perm hp
  obtain ⟨w', h1, s2⟩ := run_setLoop (P := P) (st' := .busy) (pend' := none) s1
  have hrun : (Instr.beginRound lo).run P w = .ok () w' := by
    have e1 : ({ state := .busy, pending := none, fn := L.fn, tmps := L.tmps, params := L.params, assign := L.assign, body := L.body, defers := L.defers } : Loop) = { state := .busy, pending := none, fn := L.fn, tmps := L.tmps, params := L.params, assign := L.assign, body := L.body, defers := L.defers } := rfl
    simp only [Instr.beginRound, Sem.run_bind, run_getLoop s1, Result.andThen_ok]
    rw [show (setObj lo (.loop { state := .busy, pending := none, fn := L.fn, tmps := L.tmps, params := L.params, assign := L.assign, body := L.body, defers := L.defers }) : Sem Unit).run P w = .ok () w' from h1]
    rfl
  have hstep : stepG P true { frame := c.fr tmps ds (.beginRound :: is1), callers := cs, status := .running, dying := none } w =
      stepG.apply P true (c.fr tmps ds (.beginRound :: is1)) cs none (do (c.fr tmps ds (.beginRound :: is1)).roundOf.elim (stuck "beginRound: no round") Instr.beginRound; pure .skip) w := rfl
  obtain ⟨v, w2, q, hs⟩ := apply_steps (P := P) (post := fun v w2 => v = undef ∧ w2 = w') rfl (by intros; simp [Ctx.fr]) hstep (by
    have : (do (c.fr tmps ds (.beginRound :: is1)).roundOf.elim (stuck "beginRound: no round") Instr.beginRound; pure .skip : Sem Next).run P w = .ok .skip w' := by
      simp [Ctx.fr, hr, hrun]
    rw [this]; exact ⟨rfl, rfl⟩)
  obtain ⟨rfl, rfl⟩ := q
  have hf : (c.fr tmps ds (.beginRound :: is1)).finish undef = c.fr tmps ds is1 := rfl
  rw [hf] at hs
  exact Ends.steps hs (h g tmps w2 cs is1 a s2 d1)

theorem run_endRound {lo : Nat} {L : Lp} {st : LoopState} {pend : Option Code} {g : Fr} {w : World} (s : Sat (loopC lo L st pend :: H) g w) (jump : Option Code) :
    ∃ w', (Instr.endRound lo jump).run P w = .ok (.bool jump.isNone) w' ∧ Sat (loopC lo L (if jump.isNone then .ready else .done) jump :: H) g w' := by
  obtain ⟨w', h1, s2⟩ := run_setLoop (P := P) (st' := if jump.isNone then .ready else .done) (pend' := jump) s
  refine ⟨w', ?_, s2⟩
  simp only [Instr.endRound, Sem.run_bind, run_getLoop s, Result.andThen_ok]
  rw [show (setObj lo (.loop { state := if jump.isNone then .ready else .done, pending := jump, fn := L.fn, tmps := L.tmps, params := L.params, assign := L.assign, body := L.body, defers := L.defers }) : Sem Unit).run P w = .ok () w' from h1]
  rfl

/-- The round leaves: by its end (jump: none), a return, a jump to a place outside. -/
theorem ends_round {lo : Nat} {L : Lp} {R : List HProp} {tmps : Array Value} {w : World} {cs : List Frame} {todo : List Item} {g : Fr} {jump : Option Code} (hr : c.round = some lo) (s : Sat (loopC lo L .busy none :: R) g w)
    (hstep : ∀ c1 rest w', (Instr.endRound lo jump).run P w = .ok (.bool jump.isNone) w' → step P (lone (c.fr tmps [] todo) (c1 :: rest) w) = .next (lone (c1.finish (.bool jump.isNone)) rest w'))
    (q : Q (.bool jump.isNone) (loopC lo L (if jump.isNone then .ready else .done) jump :: R)) : Ends P c (c.fr tmps [] todo) cs w (fun v w' => ∃ H', Q v H' ∧ Sat H' g w') := by
  unfold Ends
  rw [hr]
  intro c1 rest hc
  subst hc
  obtain ⟨w', h1, s2⟩ := run_endRound (P := P) s jump
  exact ⟨_, w', ⟨_, q, s2⟩, .one (hstep c1 rest w' h1)⟩

theorem G.rend {lo : Nat} {L : Lp} {R : List HProp} (hr : c.round = some lo) (hp : H.Perm (loopC lo L .busy none :: R)) (q : Q (.bool true) (loopC lo L .ready none :: R)) : G P c [] [] e H Q := by
  intro g tmps w cs is a s d
  obtain rfl := d.nil
  exact ends_round (jump := none) hr (s.perm hp) (fun c1 rest w' h1 => step_lone_go (by simp [stepG, stepG.exec, Ctx.fr, hr, h1, doReturn])) q

theorem G.rret {lo : Nat} {L : Lp} {R : List HProp} (hr : c.round = some lo) (hp : H.Perm (loopC lo L .busy none :: R)) (q : Q (.bool false) (loopC lo L .done (some .ret) :: R)) : G P c [] (.code .ret :: k) e H Q := by
  intro g tmps w cs is a s d
  obtain ⟨i, is1, rfl, rfl, d1⟩ := d.cons
  exact ends_round (jump := some .ret) hr (s.perm hp) (fun c1 rest w' h1 => step_lone_go (by simp [stepG, stepG.exec, Ctx.fr, hr, doReturn, h1])) q

theorem G.rexit {lo id : Nat} {L : Lp} {R : List HProp} (hr : c.round = some lo) (hk : exitIt id k = none) (hp : H.Perm (loopC lo L .busy none :: R)) (q : Q (.bool false) (loopC lo L .done (some (.exit id)) :: R)) : G P c [] (.code (.exit id) :: k) e H Q := by
  intro g tmps w cs is a s d
  obtain ⟨i, is1, rfl, rfl, d1⟩ := d.cons
  have he := (exitIt_den d1).2 hk
  exact ends_round (jump := some (.exit id)) hr (s.perm hp) (fun c1 rest w' h1 => step_lone_go (by simp [stepG, stepG.exec, Ctx.fr, hr, he, doReturn, h1])) q

/-- The statement itself, in a function's own frame. -/
theorem G.rangeFunc {f : Operand} {params : Array Tmp} {assign body : Code} {fv : Value} {Qc : Nat → Nat → Lp → Post} (hr : c.round = none) (hf : ev e f = some fv)
    (call : ∀ lo r tmps, Knows c.n e tmps → CallV P fv [.func (.yield lo) #[] #[]] (loopC lo ⟨c.fn, tmps, params, assign, body, r⟩ .ready none :: Am.blk r (.deferred (some [])) :: H) (Qc lo r ⟨c.fn, tmps, params, assign, body, r⟩))
    (next : ∀ lo r L v H', Qc lo r L v H' → ∃ st pend R, H'.Perm (loopC lo L st pend :: R) ∧ st ≠ .busy ∧ G P c (r :: ds) ((pend.map It.code).toList ++ k) e R Q) : G P c ds (.code (.rangeFunc f params assign body) :: k) e H Q := by
  intro g tmps w cs is a s d
  obtain ⟨i, is1, rfl, rfl, d1⟩ := d.cons
  -- the loop begins
  have s1 := s.new (.deferred (some []))
  have s2 := s1.new ((⟨c.fn, tmps, params, assign, body, w.heap.size⟩ : Lp).obj .ready none)
  have henter : (Instr.enterLoop c.fn tmps params assign body none).run P w = .ok (w.heap.size + 1, [marked w.heap.size]) { w with heap := (w.heap.push (.deferred (some []))).push ((⟨c.fn, tmps, params, assign, body, w.heap.size⟩ : Lp).obj .ready none) } := by
    have hsz : (w.heap.push (.deferred (some []))).size = w.heap.size + 1 := by simp
    rw [← hsz]; rfl
  have hsz : ({ w with heap := w.heap.push (.deferred (some [])) } : World).heap.size = w.heap.size + 1 := by simp
  rw [hsz] at s2
  have hev := a.tells (c := c) (w.heap.size :: ds) (.inRangeFunc (w.heap.size + 1) :: is1) f _ hf
  have hcall := call (w.heap.size + 1) w.heap.size tmps a g _ s2
  -- the call of the iterator
  have hrun : (do let d ← resolve (c.fr tmps (w.heap.size :: ds) (.inRangeFunc (w.heap.size + 1) :: is1)).eval { callee := .value f, args := #[.const (.func (.yield (w.heap.size + 1)) #[] #[])], argTypes := #[] } 0; invoke d.target d.args : Sem Next) =
      (do let d ← Deferred.ofValue fv #[.func (.yield (w.heap.size + 1)) #[] #[]]; invoke d.target d.args) := by
    simp only [resolve, hev]
    simp [Frame.eval]
  have hstep : (stepG P true { frame := c.fr tmps ds (.code (.rangeFunc f params assign body) :: is1), callers := cs, status := .running, dying := none } w).bare =
      (stepG.apply P true (c.fr tmps (w.heap.size :: ds) (.inRangeFunc (w.heap.size + 1) :: is1)) cs none
        (do let d ← resolve (c.fr tmps (w.heap.size :: ds) (.inRangeFunc (w.heap.size + 1) :: is1)).eval { callee := .value f, args := #[.const (.func (.yield (w.heap.size + 1)) #[] #[])], argTypes := #[] } 0; invoke d.target d.args)
        { w with heap := (w.heap.push (.deferred (some []))).push ((⟨c.fn, tmps, params, assign, body, w.heap.size⟩ : Lp).obj .ready none) }).bare := by
    have hro : (c.fr tmps ds (.code (.rangeFunc f params assign body) :: is1)).roundOf = none := hr
    simp only [stepG, stepG.exec, Ctx.fr, hr, Sem.runT_eq, henter, GStep.bare_after]
    rfl
  obtain ⟨v, w3, ⟨H', q, s3⟩, hs⟩ := apply_steps' (P := P) rfl (by intros; simp [Ctx.fr]) hstep (by rw [hrun]; exact hcall)
  have hfin : (c.fr tmps (w.heap.size :: ds) (.inRangeFunc (w.heap.size + 1) :: is1)).finish v = c.fr tmps (w.heap.size :: ds) (.endRangeFunc (w.heap.size + 1) :: is1) := rfl
  rw [hfin] at hs
  refine Ends.steps hs ?_
  obtain ⟨st, pend, R, hp, hst, hG⟩ := next _ _ _ v H' q
  have s4 := s3.perm hp
  obtain ⟨w4, h4, s5⟩ := run_setLoop (P := P) (st' := .exhausted) (pend' := pend) s4
  have hend : (Instr.endLoop (w.heap.size + 1)).run P w3 = .ok pend w4 := by
    simp only [Instr.endLoop, Sem.run_bind, run_getLoop s4, Result.andThen_ok]
    have hb : (st == LoopState.busy) = false := by cases st <;> first | rfl | exact absurd rfl hst
    simp only [hb, Bool.false_eq_true, if_false]
    simp only [Sem.run_bind, Sem.run_pure, Result.andThen_ok]
    rw [show (setObj (w.heap.size + 1) (.loop { state := .exhausted, pending := pend, fn := c.fn, tmps := tmps, params := params, assign := assign, body := body, defers := w.heap.size }) : Sem Unit).run P w3 = .ok () w4 from h4]
    rfl
  have hst2 : step P (lone (c.fr tmps (w.heap.size :: ds) (.endRangeFunc (w.heap.size + 1) :: is1)) cs w3) = .next (lone (c.fr tmps (w.heap.size :: ds) ((pend.map Item.code).toList ++ is1)) cs w4) :=
    step_lone_go (by simp [stepG, stepG.exec, Ctx.fr, hend])
  refine Ends.steps (.one hst2) (hG g tmps w4 cs _ a s5.tail ?_)
  cases pend with
  | none => exact d1
  | some cd => exact ⟨rfl, d1⟩

def defB (r : Nat) : HProp := Am.blk r (.deferred (some []))

/-- At the return the marks are taken up, one by one. -/
theorem defs_steps {tmps : Array Value} {cs : List Frame} {todo : List Item} {g : Fr} {R : List HProp} : ∀ {ds : List Nat} {H : List HProp} {w : World}, H.Perm (ds.map defB ++ R) → Sat H g w →
    ∃ w', Sat R g w' ∧ Steps P (lone { c.fr tmps ds todo with mode := .returning } cs w) (lone { c.fr tmps [] todo with mode := .returning } cs w')
  | [], H, w, hp, s => ⟨w, s.perm hp, .refl _ _⟩
  | r :: ds, H, w, hp, s => by
    have s1 : Sat (Am.blk r (.deferred (some [])) :: (ds.map defB ++ R)) g w := s.perm hp
    have hh := s1.heap
    have hlt := s1.lt
    have s2 : Sat (Am.blk r (.deferred none) :: (ds.map defB ++ R)) g { w with heap := w.heap.setIfInBounds r (.deferred none) } := s1.change (by simp [hlt]) fun x hx => by simp [Array.getElem?_setIfInBounds, Ne.symm hx]
    have htake : (Instr.takeDeferred r).run P w = .ok [] { w with heap := w.heap.setIfInBounds r (.deferred none) } := by
      simp [Instr.takeDeferred, getObj, setObj, Sem.run, hh]
    have hstep : step P (lone { c.fr tmps (r :: ds) todo with mode := .returning } cs w) = .next (lone { c.fr tmps ds todo with mode := .returning } cs { w with heap := w.heap.setIfInBounds r (.deferred none) }) :=
      step_lone_go (by simp [stepG, unwind, Ctx.fr, marked, htake])
    obtain ⟨w', s3, hs⟩ := defs_steps (.refl _) s2.tail
    exact ⟨w', s3, .head hstep hs⟩

theorem ends_defs {fn : Func} {rs : List ResultVar} {vs : List Value} {tmps : Array Value} {w : World} {cs : List Frame} {todo : List Item} {g : Fr} {R : List HProp} (hr : c.round = none) (hf : P.funcs[c.fn]? = some fn) (hrs : fn.results = rs.toArray) (a : Knows c.n e tmps)
    (hp : H.Perm (ds.map defB ++ R)) (r : Res P e R rs vs) (s : Sat H g w) (hs : Steps P (lone (c.fr tmps ds todo) cs w) (lone { c.fr tmps ds todo with mode := .returning } cs w)) (q : Q (packRes vs) R) :
    Ends P c (c.fr tmps ds todo) cs w (fun v w' => ∃ H', Q v H' ∧ Sat H' g w') := by
  obtain ⟨w', s1, hs1⟩ := defs_steps (c := c) (P := P) (tmps := tmps) (cs := cs) (todo := todo) hp s
  unfold Ends
  rw [hr]
  exact ⟨packRes vs, w', _, ⟨R, q, s1⟩, hs.trans hs1, rfl, rfl, rfl, rfl, fn, hf, results_run' a s1 fn hrs r⟩

theorem G.retD {fn : Func} {rs : List ResultVar} {vs : List Value} {R : List HProp} (hr : c.round = none) (hf : P.funcs[c.fn]? = some fn) (hrs : fn.results = rs.toArray) (hp : H.Perm (ds.map defB ++ R)) (r : Res P e R rs vs) (q : Q (packRes vs) R) :
    G P c ds (.code .ret :: k) e H Q := by
  intro g tmps w cs is a s d
  obtain ⟨i, is1, rfl, rfl, d1⟩ := d.cons
  exact ends_defs hr hf hrs a hp r s (.one (st_ret hr)) q

theorem G.endD {fn : Func} {rs : List ResultVar} {vs : List Value} {R : List HProp} (hr : c.round = none) (hf : P.funcs[c.fn]? = some fn) (hrs : fn.results = rs.toArray) (hp : H.Perm (ds.map defB ++ R)) (r : Res P e R rs vs) (q : Q (packRes vs) R) :
    G P c ds [] e H Q := by
  intro g tmps w cs is a s d
  obtain rfl := d.nil
  exact ends_defs hr hf hrs a hp r s (.one (st_end hr)) q

end
end Go.Am
