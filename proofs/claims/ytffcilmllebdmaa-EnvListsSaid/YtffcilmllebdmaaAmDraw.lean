/- A region whose order Go leaves open: operations that only look are taken first, in the order of the text; what makes memory or acts comes behind them; every order comes to the same. -/
import Derived.Test.YtffcilmllebdmaaAmOps
import Derived.Orders
namespace Go.Am

/-- What was held is still held. -/
def Keeps (H H' : List HProp) : Prop := ∃ L, H'.Perm (L ++ H)

theorem Keeps.refl (H : List HProp) : Keeps H H := ⟨[], .refl _⟩
theorem Keeps.trans {H H' H'' : List HProp} (a : Keeps H H') (b : Keeps H' H'') : Keeps H H'' :=
  let ⟨L, p⟩ := a; let ⟨M, q⟩ := b
  ⟨M ++ L, q.trans (by rw [List.append_assoc]; exact List.Perm.append_left M p)⟩

section
variable {P : Program} {all : Array Oper}

def evT (tmps : Array Value) : Operand → Value
  | .tmp t => tmps.getD t undef
  | .const v => v
  | .global g => .pointer (some ⟨g, 0, none⟩)
  | .func f => .func (.func f) #[] #[]

theorem evT_eq (tmps : Array Value) : evT tmps = Act.eval ⟨tmps, []⟩ := by funext x; cases x <;> rfl
theorem setT_eq (d : Option Nat) (v : Value) (tmps : Array Value) : setT d v tmps = ((⟨tmps, []⟩ : Act).put d v).tmps := by cases d <;> rfl

/-- One operation, from exact temporaries. -/
def StepX (P : Program) (all : Array Oper) (st : List Nat) (i : Nat) (tmps : Array Value) (H : List HProp) (K : Array Value → List HProp → Prop) : Prop :=
  ∃ o, all[i]? = some o ∧ notDefer o.op = true ∧
    ((Region.wanted o (yielded all tmps) = true ∧ ∃ Qo : Post, OpRun P (execOp (evT tmps) o) H Qo ∧ (i ∈ st ∨ ∀ v H', Qo v H' → Keeps H H') ∧ ∀ v H', Qo v H' → K (setT o.dst v tmps) H') ∨
     (Region.wanted o (yielded all tmps) = false ∧ K (setT o.dst undef tmps) H))

/-- Whatever order is picked for the next n operations. -/
def AnyX (P : Program) (all : Array Oper) (st : List Nat) (K : Array Value → List HProp → Prop) : Nat → Array Bool → Array Value → List HProp → Prop
  | 0, _, tmps, H => K tmps H
  | n + 1, listed, tmps, H => Region.ready .any all listed ≠ [] ∧ ∀ i ∈ Region.ready .any all listed, StepX P all st i tmps H fun tmps' H' => AnyX P all st K n (listed.setIfInBounds i true) tmps' H'

/-- The operation gives just v there. -/
def QuietX (P : Program) (all : Array Oper) (o : Oper) (v : Value) (tmps : Array Value) (H : List HProp) : Prop :=
  (Region.wanted o (yielded all tmps) = true ∧ OpRun P (execOp (evT tmps) o) H fun v' H' => v' = v ∧ H' = H) ∨ (Region.wanted o (yielded all tmps) = false ∧ v = undef)

theorem QuietX.keeps {o : Oper} {v : Value} {tmps : Array Value} {H H' : List HProp} (q : QuietX P all o v tmps H) (k : Keeps H H') : QuietX P all o v tmps H' := by
  rcases q with ⟨hw, h⟩ | h
  · refine .inl ⟨hw, ?_⟩
    obtain ⟨L, p⟩ := k
    intro g w s
    have s' : Sat (H ++ L) g w := s.perm (p.trans List.perm_append_comm)
    refine (h.frame (R := L) g w s').mono fun v' w' ⟨H1, ⟨H2, ⟨e1, e2⟩, e3⟩, s1⟩ => ⟨H', ⟨e1, rfl⟩, ?_⟩
    subst e2
    rw [e3] at s1
    exact s1.perm (List.perm_append_comm.trans p.symm)
  · exact .inr h

theorem QuietX.step {st : List Nat} {i : Nat} {o : Oper} {v : Value} {tmps : Array Value} {H : List HProp} {K : Array Value → List HProp → Prop} (ho : all[i]? = some o) (hn : notDefer o.op = true) (q : QuietX P all o v tmps H)
    (h : K (setT o.dst v tmps) H) : StepX P all st i tmps H K := by
  refine ⟨o, ho, hn, ?_⟩
  rcases q with ⟨hw, h1⟩ | ⟨hw, rfl⟩
  · exact .inl ⟨hw, _, h1, .inr fun v' H' ⟨_, e⟩ => e ▸ .refl H, fun v' H' ⟨e1, e2⟩ => by rw [e1, e2]; exact h⟩
  · exact .inr ⟨hw, h⟩

def notSelect : Op → Bool
  | .select .. => false
  | _ => true

theorem notSelect_spec {o : Oper} (h : notSelect o.op = true) : ∀ cs b, o.op ≠ .select cs b := fun cs b e => by rw [e] at h; cases h

theorem exec_setT {o : Oper} (hs : notSelect o.op = true) {tmps : Array Value} {d : Option Nat} {v : Value} (h : ∀ x, d = some x → x ∉ o.looksAt all) : execOp (evT (setT d v tmps)) o = execOp (evT tmps) o := by
  rw [setT_eq, evT_eq, evT_eq]
  have := execOp_put (ops := all) o (notSelect_spec hs) ⟨tmps, []⟩ d v h
  rw [← this]
  cases d <;> rfl

theorem wanted_setT {o : Oper} {tmps : Array Value} {d : Option Nat} {v : Value} (h : ∀ x, d = some x → x ∉ o.looksAt all) : Region.wanted o (yielded all (setT d v tmps)) = Region.wanted o (yielded all tmps) := by
  rw [setT_eq]
  exact wanted_put (ops := all) o ⟨tmps, []⟩ d v h

theorem setT_comm {tmps : Array Value} {x y : Option Nat} {v u : Value} (h : ∀ d, x = some d → y ≠ some d) : setT y u (setT x v tmps) = setT x v (setT y u tmps) := by
  cases x with
  | none => rfl
  | some a =>
    cases y with
    | none => rfl
    | some b => exact (Array.setIfInBounds_comm _ _ (fun e => h a rfl (by rw [e])))

theorem QuietX.setT {o : Oper} {v : Value} {tmps : Array Value} {H : List HProp} {d : Option Nat} {u : Value} (hs : notSelect o.op = true) (h : ∀ x, d = some x → x ∉ o.looksAt all) (q : QuietX P all o v tmps H) :
    QuietX P all o v (Am.setT d u tmps) H := by
  unfold QuietX at *
  rw [exec_setT hs h, wanted_setT h]
  exact q

/-- All that binds a listed operation is listed. -/
def Closed (all : Array Oper) (listed : Array Bool) : Prop := ∀ j o, all[j]? = some o → listed.getD j false = true → ∀ e ∈ o.after, Region.binds .any e = true → listed.getD e.on false = true

/-- Does p wait for i, at some removes? -/
def waits (all : Array Oper) : Nat → Nat → Nat → Bool
  | 0, _, _ => false
  | n + 1, p, i => match all[p]? with
    | some o => o.after.any fun e => Region.binds .any e && (e.on == i || waits all n e.on i)
    | none => false

theorem waits_listed {listed : Array Bool} (hc : Closed all listed) : ∀ (n p i : Nat), listed.getD p false = true → waits all n p i = true → listed.getD i false = true := by
  intro n
  induction n with
  | zero => intro p i _ h; simp [waits] at h
  | succ n ih =>
    intro p i hp h
    unfold waits at h
    split at h
    · rename_i o ho
      rw [Array.any_eq_true] at h
      obtain ⟨k, hk, h⟩ := h
      have hm : o.after[k] ∈ o.after := Array.getElem_mem hk
      simp only [Bool.and_eq_true, Bool.or_eq_true, beq_iff_eq] at h
      have hl := hc p o ho hp _ hm h.1
      rcases h.2 with e | e
      · rw [← e]; exact hl
      · exact ih _ _ hl e
    · cases h

theorem ready_waits {listed : Array Bool} (hc : Closed all listed) {n p i : Nat} (hp : p ∈ Region.ready .any all listed) (h : waits all n p i = true) : listed.getD i false = true := by
  obtain ⟨_, o, ho, hall⟩ := mem_ready.1 hp
  cases n with
  | zero => simp [waits] at h
  | succ n =>
    unfold waits at h
    rw [ho] at h
    simp only [Array.any_eq_true] at h
    obtain ⟨k, hk, h⟩ := h
    have hm : o.after[k] ∈ o.after := Array.getElem_mem hk
    simp only [Bool.and_eq_true, Bool.or_eq_true, beq_iff_eq] at h
    have hl := hall _ hm h.1
    rcases h.2 with e | e
    · rw [← e]; exact hl
    · exact waits_listed hc n _ _ hl e

theorem Closed.set {listed : Array Bool} (hc : Closed all listed) {i : Nat} (hi : i ∈ Region.ready .any all listed) : Closed all (listed.setIfInBounds i true) := by
  intro j o ho hj e he hb
  refine getD_set_true ?_
  by_cases hij : i = j
  · subst hij
    obtain ⟨_, o', ho', hall⟩ := mem_ready.1 hi
    rw [ho] at ho'; cases ho'
    exact hall e he hb
  · rw [getD_set_ne false hij] at hj
    exact hc j o ho hj e he hb

/-- What is not listed: the rest, and what comes last. -/
def Unlisted (listed : Array Bool) (rem post : List Nat) : Prop := ∀ j, listed.getD j true = false ↔ j ∈ rem ∨ j ∈ post

theorem Unlisted.set {listed : Array Bool} {rem post : List Nat} (h : Unlisted listed rem post) {i : Nat} (hr : rem.Nodup) (hp : i ∉ post) (hi : i ∈ rem) : Unlisted (listed.setIfInBounds i true) (rem.erase i) post := by
  intro j
  by_cases e : i = j
  · subst e
    have hlt : i < listed.size := by
      have := (h i).2 (.inl hi)
      rcases Nat.lt_or_ge i listed.size with h' | h'
      · exact h'
      · simp [Array.getElem?_eq_none h'] at this
    constructor
    · intro h2; simp [hlt] at h2
    · rintro (h2 | h2)
      · rw [hr.mem_erase_iff] at h2; exact absurd rfl h2.1
      · exact absurd h2 hp
  · rw [getD_set_ne true e, h j, hr.mem_erase_iff]
    constructor
    · rintro (h2 | h2)
      · exact .inl ⟨Ne.symm e, h2⟩
      · exact .inr h2
    · rintro (h2 | h2)
      · exact .inl h2.2
      · exact .inr h2

/-- Taken now, i is in nobody's way. -/
def freeX (all : Array Oper) (i : Nat) (o : Oper) (rem : List Nat) : Bool :=
  rem.all fun j => j == i || match all[j]? with
    | some oj => notSelect oj.op && (oj.after.any (fun e => Region.binds .any e && e.on == i) || o.apart all oj)
    | none => false

theorem AnyX.first {st : List Nat} {K : Array Value → List HProp → Prop} {i : Nat} {oi : Oper} {v : Value} {post : List Nat} {N : Nat} (hi : all[i]? = some oi) (hn : notDefer oi.op = true) (hsi : notSelect oi.op = true) (hip : i ∉ post) (hpost : ∀ p ∈ post, waits all N p i = true) :
    ∀ (n : Nat) (listed : Array Bool) (rem : List Nat) (tmps : Array Value) (H : List HProp), rem.Nodup → rem.length = n + 1 → i ∈ rem → Unlisted listed rem post → Closed all listed → freeX all i oi rem = true →
      i ∈ Region.ready .any all listed → QuietX P all oi v tmps H → ((∀ j ∈ rem, j ∈ st → j ≠ i → waits all N j i = true) ∨ ∀ H', QuietX P all oi v tmps H') → AnyX P all st K n (listed.setIfInBounds i true) (setT oi.dst v tmps) H → AnyX P all st K (n + 1) listed tmps H := by
  intro n
  induction n with
  | zero =>
    intro listed rem tmps H hnd hlen him hun hcl hfree hr hq hst h
    refine ⟨List.ne_nil_of_mem hr, fun j hj => ?_⟩
    have hj1 := (hun j).1 (mem_ready.1 hj).1
    rcases hj1 with hj1 | hj1
    · obtain rfl : j = i := by
        rcases rem with _ | ⟨a, _ | ⟨b, rem⟩⟩ <;> simp at hlen
        simp at hj1 him; omega
      exact hq.step hi hn h
    · have h1 := ready_waits hcl hj (hpost j hj1)
      have h2 := (mem_ready.1 hr).1
      rcases Nat.lt_or_ge i listed.size with h' | h'
      · simp [h'] at h1 h2; rw [h1] at h2; cases h2
      · simp [Array.getElem?_eq_none h'] at h1
  | succ n ih =>
    intro listed rem tmps H hnd hlen him hun hcl hfree hr hq hst h
    refine ⟨List.ne_nil_of_mem hr, fun j hj => ?_⟩
    by_cases hji : j = i
    · subst hji; exact hq.step hi hn h
    have hnl := (mem_ready.1 hr).1
    have notlisted : listed.getD i false = true → False := fun h1 => by
      rcases Nat.lt_or_ge i listed.size with h' | h'
      · simp [h'] at h1 hnl; rw [h1] at hnl; cases hnl
      · simp [Array.getElem?_eq_none h'] at h1
    have hj1 := (hun j).1 (mem_ready.1 hj).1
    have hj1 : j ∈ rem := hj1.resolve_right fun hp => notlisted (ready_waits hcl hj (hpost j hp))
    have hjp : j ∉ post := fun hp => notlisted (ready_waits hcl hj (hpost j hp))
    obtain ⟨oj, hoj, hnj, hstep⟩ := h.2 j (ready_mono hj hji)
    have hfj : notSelect oj.op = true ∧ oi.apart all oj = true := by
      have := List.all_eq_true.1 hfree j hj1
      simp only [hoj, Bool.or_eq_true, beq_iff_eq, hji, false_or, Bool.and_eq_true] at this
      refine ⟨this.1, this.2.resolve_left fun hw => ?_⟩
      rw [Array.any_eq_true] at hw
      obtain ⟨k, hk, hw⟩ := hw
      simp only [Bool.and_eq_true, beq_iff_eq] at hw
      obtain ⟨_, o', ho', hall⟩ := mem_ready.1 hj
      rw [hoj] at ho'; cases ho'
      have := hall _ (Array.getElem_mem hk) hw.1
      rw [hw.2] at this
      exact notlisted this
    obtain ⟨a1, a2, a3⟩ := Oper.apart_spec hfj.2
    have nxt : ∀ u H', QuietX P all oi v tmps H' → AnyX P all st K n ((listed.setIfInBounds i true).setIfInBounds j true) (setT oj.dst u (setT oi.dst v tmps)) H' → AnyX P all st K (n + 1) (listed.setIfInBounds j true) (setT oj.dst u tmps) H' := by
      intro u H' hk hA
      have hm : i ∈ rem.erase j := (hnd.mem_erase_iff).2 ⟨Ne.symm hji, him⟩
      refine ih (listed.setIfInBounds j true) (rem.erase j) _ H' (hnd.erase _) (by rw [List.length_erase_of_mem hj1]; omega) hm (hun.set hnd hjp hj1) (hcl.set hj) ?_ (ready_mono hr (Ne.symm hji))
        (hk.setT hsi a3) ?_ ?_
      · exact List.all_eq_true.2 fun x hx => List.all_eq_true.1 hfree x (List.mem_of_mem_erase hx)
      · rcases hst with hst | hst
        · exact .inl fun x hx => hst x (List.mem_of_mem_erase hx)
        · exact .inr fun H' => (hst H').setT hsi a3
      · rw [Array.setIfInBounds_comm _ _ hji, ← setT_comm (x := oi.dst) (y := oj.dst) (fun d hd => a2 d hd)]
        exact hA
    refine ⟨oj, hoj, hnj, ?_⟩
    rw [exec_setT hfj.1 a1, wanted_setT a1] at hstep
    rcases hstep with ⟨hw, Qo, h1, h2, h3⟩ | ⟨hw, h3⟩
    · refine .inl ⟨hw, Qo, h1, h2, fun u H' q => nxt u H' ?_ (h3 u H' q)⟩
      rcases h2 with h2 | h2
      · rcases hst with hst | hst
        · exact (notlisted (ready_waits hcl hj (hst j hj1 h2 hji))).elim
        · exact hst H'
      · exact hq.keeps (h2 u H' q)
    · exact .inr ⟨hw, nxt undef H hq h3⟩


/-! ### The walk -/

def Yes (all : Array Oper) (e : Env) (o : Oper) : Prop := o.guard = none ∨ ∃ j want t, o.guard = some (j, want) ∧ (all[j]?).bind (·.dst) = some t ∧ e.get t = some (.bool want)
def No (all : Array Oper) (e : Env) (o : Oper) : Prop := ∃ j want t x, o.guard = some (j, want) ∧ (all[j]?).bind (·.dst) = some t ∧ e.get t = some x ∧ (x = undef ∨ x = .bool (!want))

theorem Yes.wanted {e : Env} {o : Oper} {n : Nat} {tmps : Array Value} (k : Knows n e tmps) (h : Yes all e o) : Region.wanted o (yielded all tmps) = true := by
  rcases h with h | ⟨j, want, t, h1, h2, h3⟩
  · simp [Region.wanted, h]
  · simp [Region.wanted, h1, yielded_of k h2 h3]
theorem No.wanted {e : Env} {o : Oper} {n : Nat} {tmps : Array Value} (k : Knows n e tmps) (h : No all e o) : Region.wanted o (yielded all tmps) = false := by
  obtain ⟨j, want, t, x, h1, h2, h3, h4⟩ := h
  rcases h4 with rfl | rfl
  · simp [Region.wanted, h1, yielded_of k h2 h3, undef]
  · simp [Region.wanted, h1, yielded_of k h2 h3]

/-- pre: operations that only look; mid: operations that may make memory; then all goes on behind them. -/
def EV (P : Program) (c : Ctx) (ds : List Nat) (all : Array Oper) (k : List It) (Q : Post) (post : List Oper) : List Oper → List Oper → Env → List HProp → Prop
  | [], [], e, H => G P c ds (.ops all post :: k) e H Q
  | [], o :: mid, e, H => (Yes all e o ∧ ∃ Qo : Post, (∀ ρ, Tells e ρ → OpRun P (execOp ρ o) H Qo) ∧ (∀ v H', Qo v H' → Keeps H H') ∧ ∀ v H', Qo v H' → EV P c ds all k Q post [] mid (putE o.dst v e) H') ∨ (No all e o ∧ EV P c ds all k Q post [] mid (putE o.dst undef e) H)
  | o :: pre, mid, e, H => (Yes all e o ∧ ∃ v, Ok P e o H v ∧ EV P c ds all k Q post pre mid (putE o.dst v e) H) ∨ (No all e o ∧ EV P c ds all k Q post pre mid (putE o.dst undef e) H)

/-- The check on a region: which may come first, which then, which last. -/
def preB (all : Array Oper) (n : Nat) : List Nat → List Nat → Array Bool → Bool
  | [], _, _ => true
  | i :: pre, mid, listed => (Region.ready .any all listed).contains i && (match all[i]? with | some o => notDefer o.op && notSelect o.op && freeX all i o (i :: pre ++ mid) && dstOk o.dst n | none => false) && preB all n pre mid (listed.setIfInBounds i true)
def midB (all : Array Oper) (n : Nat) : List Nat → Array Bool → Bool
  | [], _ => true
  | i :: mid, listed => (Region.ready .any all listed == [i]) && (match all[i]? with | some o => notDefer o.op && dstOk o.dst n | none => false) && midB all n mid (listed.setIfInBounds i true)
def postB (all : Array Oper) : List Nat → Array Bool → Bool
  | [], listed => (Region.ready .any all listed).isEmpty
  | i :: post, listed => (Region.ready .any all listed == [i]) && postB all post (listed.setIfInBounds i true)
def setAll (l : List Nat) (listed : Array Bool) : Array Bool := l.foldl (fun a i => a.setIfInBounds i true) listed

def drawB (all : Array Oper) (n : Nat) (pre mid post : List Nat) : Bool :=
  let none := Array.replicate all.size false
  preB all n pre mid none && midB all n mid (setAll pre none) && postB all post (setAll (pre ++ mid) none) &&
  (List.range all.size == List.range (pre.length + mid.length + post.length)) && (pre ++ mid ++ post).all (· < all.size) && decide (pre ++ mid ++ post).Nodup &&
  ((List.range all.size).all fun j => (pre ++ mid ++ post).contains j) && post.all fun p => (pre ++ mid).all fun i => waits all all.size p i

theorem linearise_post : ∀ (post : List Nat) (listed : Array Bool) (fuel t : Nat), postB all post listed = true → post.length ≤ fuel → Region.linearise.go .any all fuel t listed [] = post := by
  intro post
  induction post with
  | nil =>
    intro listed fuel t h _
    simp only [postB, List.isEmpty_iff] at h
    cases fuel with
    | zero => simp [Region.linearise.go]
    | succ fuel =>
      simp only [Region.linearise.go]
      change (match (Region.ready .any all listed)[t % (Region.ready .any all listed).length]? with | some i => _ | none => _) = _
      simp [h]
  | cons i post ih =>
    intro listed fuel t h hl
    simp only [postB, Bool.and_eq_true, beq_iff_eq] at h
    obtain ⟨fuel, rfl⟩ : ∃ m, fuel = m + 1 := ⟨fuel - 1, by simp at hl; omega⟩
    simp only [Region.linearise.go]
    change (match (Region.ready .any all listed)[t % (Region.ready .any all listed).length]? with | some i => Region.linearise.go .any all fuel (t / (Region.ready .any all listed).length) (listed.setIfInBounds i true) [i] | none => [].reverse) = _
    rw [h.1]
    simp only [List.length_cons, List.length_nil, Nat.zero_add, Nat.mod_one, List.getElem?_cons_zero]
    rw [linearise_go_acc, ih _ _ _ h.2 (by simp at hl; omega)]
    simp

section sound
variable {c : Ctx} {ds : List Nat} {k : List It} {Q : Post}

/-- What is left to do in the region, as indices. -/
def EndsAt (P : Program) (c : Ctx) (ds : List Nat) (all : Array Oper) (k : List It) (Q : Post) (is : List Nat) (tmps : Array Value) (H : List HProp) : Prop :=
  ∀ g w cs ks, Sat H g w → Den k ks → Ends P c (c.fr tmps ds (.inRegion all is :: ks)) cs w (fun v w' => ∃ H', Q v H' ∧ Sat H' g w')

theorem st_no {tmps : Array Value} {cs : List Frame} {w : World} {i : Nat} {is : List Nat} {ks : List Item} {o : Oper} (ho : all[i]? = some o) (hw : Region.wanted o (yielded all tmps) = false) :
    step P (lone (c.fr tmps ds (.inRegion all (i :: is) :: ks)) cs w) = .next (lone (c.fr (setT o.dst undef tmps) ds (.inRegion all is :: ks)) cs w) := by
  have hs : step P (lone (c.fr tmps ds (.inRegion all (i :: is) :: ks)) cs w) = .next (lone ((c.fr tmps ds (.inRegion all (i :: is) :: ks)).finish undef) cs w) :=
    step_lone_go (by simp [stepG, stepG.exec, Ctx.fr, ho, hw])
  rwa [finish_fr ho] at hs

theorem st_yes {tmps : Array Value} {cs : List Frame} {w : World} {i : Nat} {is : List Nat} {ks : List Item} {o : Oper} {H : List HProp} {Qo : Post} {g : Fr} (ho : all[i]? = some o) (hn : notDefer o.op = true) (hw : Region.wanted o (yielded all tmps) = true)
    (hop : OpRun P (execOp (evT tmps) o) H Qo) (s : Sat H g w) :
    ∃ v w', (∃ H', Qo v H' ∧ Sat H' g w') ∧ Steps P (lone (c.fr tmps ds (.inRegion all (i :: is) :: ks)) cs w) (lone (c.fr (setT o.dst v tmps) ds (.inRegion all is :: ks)) cs w') := by
  have hev : (c.fr tmps ds (.inRegion all (i :: is) :: ks)).eval = evT tmps := by funext x; cases x <;> rfl
  have hstep : stepG P true { frame := c.fr tmps ds (.inRegion all (i :: is) :: ks), callers := cs, status := .running, dying := none } w =
      stepG.apply P true (c.fr tmps ds (.inRegion all (i :: is) :: ks)) cs none (execOp (evT tmps) o) w := by
    have hof : (c.fr tmps ds (.inRegion all (i :: is) :: ks)).oper? = some o := by simp [Frame.oper?, Ctx.fr, ho]
    have h1 : stepG P true { frame := c.fr tmps ds (.inRegion all (i :: is) :: ks), callers := cs, status := .running, dying := none } w =
        stepG.oper P true (c.fr tmps ds (.inRegion all (i :: is) :: ks)) cs none w := by
      simp [stepG, stepG.exec, Ctx.fr, ho, hw]
    rw [h1]
    simp only [stepG.oper, hof, hev]
    split
    · rename_i hop'
      rw [hop'] at hn; cases hn
    · rfl
  obtain ⟨v, w', q, hs⟩ := apply_steps rfl (by intros; simp [Ctx.fr]) hstep (hop g w s)
  rw [finish_fr ho] at hs
  exact ⟨v, w', q, hs⟩

theorem AnyX.ends {st : List Nat} {L0 : Array Bool} {postI : List Nat} (hfin : ∀ fuel t, postI.length ≤ fuel → Region.linearise.go .any all fuel t L0 [] = postI) :
    ∀ (n : Nat) (listed : Array Bool) (rem : List Nat) (tmps : Array Value) (H : List HProp) (fuel t : Nat), rem.length = n → rem.Nodup → (∀ i ∈ rem, i ∉ postI) → Unlisted listed rem postI → Closed all listed →
      listed.size = L0.size → (∀ j, L0.getD j true = false ↔ j ∈ postI) → n + postI.length ≤ fuel → (∀ l, Closed all l → ∀ r : List Nat, r ≠ [] → (∀ x ∈ r, x ∈ rem) → Unlisted l r postI → ∀ p ∈ postI, p ∉ Region.ready .any all l) →
      AnyX P all st (EndsAt P c ds all k Q postI) n listed tmps H → EndsAt P c ds all k Q (Region.linearise.go .any all fuel t listed []) tmps H := by
  intro n
  induction n with
  | zero =>
    intro listed rem tmps H fuel t hl _ _ hun _ hsz hL0 hf _ h
    obtain rfl : rem = [] := by cases rem <;> simp_all
    have : listed = L0 := by
      apply Array.ext hsz
      intro j h1 h2
      have a := hun j
      have b := hL0 j
      simp only [List.not_mem_nil, false_or] at a
      have ab := a.trans b.symm
      simp [h1, h2] at ab
      cases e1 : listed[j] <;> cases e2 : L0[j] <;> simp_all
    rw [this, hfin fuel t (by omega)]
    exact h
  | succ n ih =>
    intro listed rem tmps H fuel t hl hnd hrp hun hcl hsz hL0 hf hno h
    obtain ⟨hne, h⟩ := h
    obtain ⟨fuel, rfl⟩ : ∃ m, fuel = m + 1 := ⟨fuel - 1, by omega⟩
    simp only [Region.linearise.go]
    change EndsAt P c ds all k Q (match (Region.ready .any all listed)[t % (Region.ready .any all listed).length]? with | some i => Region.linearise.go .any all fuel (t / (Region.ready .any all listed).length) (listed.setIfInBounds i true) [i] | none => [].reverse) tmps H
    have hlen : 0 < (Region.ready .any all listed).length := List.length_pos_iff.2 hne
    have hlt : t % (Region.ready .any all listed).length < (Region.ready .any all listed).length := Nat.mod_lt _ hlen
    rw [List.getElem?_eq_getElem hlt]
    dsimp only
    have him : (Region.ready .any all listed)[t % (Region.ready .any all listed).length] ∈ Region.ready .any all listed := List.getElem_mem hlt
    generalize (Region.ready .any all listed)[t % (Region.ready .any all listed).length] = i at him ⊢
    generalize t / (Region.ready .any all listed).length = t'
    rw [linearise_go_acc]
    simp only [List.reverse_singleton, List.singleton_append]
    have hremne : rem ≠ [] := by intro e; subst e; simp at hl
    have hi1 : i ∈ rem := by
      rcases (hun i).1 (mem_ready.1 him).1 with h' | h'
      · exact h'
      · exact absurd him (hno listed hcl rem hremne (fun _ hx => hx) hun i h')
    have next' : ∀ tmps' H', AnyX P all st (EndsAt P c ds all k Q postI) n (listed.setIfInBounds i true) tmps' H' → EndsAt P c ds all k Q (Region.linearise.go .any all fuel t' (listed.setIfInBounds i true) []) tmps' H' := by
      intro tmps' H' hA
      refine ih (listed.setIfInBounds i true) (rem.erase i) tmps' H' fuel t' (by rw [List.length_erase_of_mem hi1]; omega) (hnd.erase _) (fun x hx => hrp x (List.mem_of_mem_erase hx)) (hun.set hnd (hrp i hi1) hi1) (hcl.set him) (by simpa using hsz) hL0 (by omega) ?_ hA
      intro l hcl' r hr hsub hun' p hp
      exact hno l hcl' r hr (fun x hx => List.mem_of_mem_erase (hsub x hx)) hun' p hp
    intro g w cs ks s d
    obtain ⟨o, ho, hn, hst⟩ := h i him
    rcases hst with ⟨hw, Qo, h1, _, h3⟩ | ⟨hw, h3⟩
    · obtain ⟨v, w', ⟨H', q, s'⟩, hs⟩ := st_yes (c := c) (ds := ds) (cs := cs) (is := Region.linearise.go .any all fuel t' (listed.setIfInBounds i true) []) (ks := ks) ho hn hw h1 s
      exact Ends.steps hs (next' _ _ (h3 v H' q) g w' cs ks s' d)
    · exact Ends.steps (.one (st_no ho hw)) (next' _ _ h3 g w cs ks s d)


theorem Tells.tmps {e : Env} {tmps : Array Value} {n : Nat} (a : Knows n e tmps) : Tells e (evT tmps) := by
  intro x v h
  cases x with
  | tmp t => have := a.at_ t v h; simp [evT, Array.getD_eq_getD_getElem?, this]
  | const v => simpa [ev, evT] using h
  | global g => simpa [ev, evT] using h
  | func f => simpa [ev, evT] using h

/-- The operations of a region at these places. -/
def opsAt (all : Array Oper) : List Nat → Option (List Oper)
  | [] => some []
  | i :: is => match all[i]?, opsAt all is with | some o, some l => some (o :: l) | _, _ => none

theorem opsAt_cons {i : Nat} {is : List Nat} {l : List Oper} (h : opsAt all (i :: is) = some l) : ∃ o l', all[i]? = some o ∧ opsAt all is = some l' ∧ l = o :: l' := by
  simp only [opsAt] at h
  split at h
  · rename_i o l' h1 h2; cases h; exact ⟨o, l', h1, h2, rfl⟩
  · cases h

theorem opsAt_map : ∀ {is : List Nat} {ol : List Oper}, opsAt all is = some ol → is.map (fun j => all[j]?) = ol.map some
  | [], ol, h => by simp only [opsAt, Option.some.injEq] at h; subst h; rfl
  | i :: is, ol, h => by
    obtain ⟨o, ol', ho, hp', rfl⟩ := opsAt_cons h
    simp only [List.map_cons, ho, List.cons.injEq, true_and]
    exact opsAt_map hp'

theorem EV.mid {st : List Nat} {K : Array Value → List HProp → Prop} {n : Nat} {post : List Oper} (hK : ∀ e tmps H, Knows n e tmps → G P c ds (.ops all post :: k) e H Q → K tmps H) :
    ∀ (mid : List Nat) (ml : List Oper) (listed : Array Bool) (e : Env) (tmps : Array Value) (H : List HProp), opsAt all mid = some ml → midB all n mid listed = true → Knows n e tmps → EV P c ds all k Q post [] ml e H →
      AnyX P all st K mid.length listed tmps H := by
  intro mid
  induction mid with
  | nil =>
    intro ml listed e tmps H hm _ a h
    simp only [opsAt, Option.some.injEq] at hm; subst hm
    simp only [EV] at h
    exact hK e tmps H a h
  | cons i mid ih =>
    intro ml listed e tmps H hm hb a h
    obtain ⟨o, ml', ho, hm', rfl⟩ := opsAt_cons hm
    simp only [midB, ho, Bool.and_eq_true, beq_iff_eq] at hb
    obtain ⟨⟨hr, hn, hd⟩, hb⟩ := hb
    refine ⟨by rw [hr]; simp, fun j hj => ?_⟩
    rw [hr] at hj
    obtain rfl : j = i := by simpa using hj
    refine ⟨o, ho, hn, ?_⟩
    simp only [EV] at h
    rcases h with ⟨hy, Qo, h1, h2, h3⟩ | ⟨hno, h3⟩
    · exact .inl ⟨hy.wanted a, Qo, h1 _ (Tells.tmps a), .inr h2, fun v H' q => ih ml' _ _ _ H' hm' hb (a.puts hd v) (h3 v H' q)⟩
    · exact .inr ⟨hno.wanted a, ih ml' _ _ _ H hm' hb (a.puts hd undef) h3⟩

theorem EV.pre {K : Array Value → List HProp → Prop} {n N : Nat} {post : List Oper} {postI : List Nat} (hK : ∀ e tmps H, Knows n e tmps → G P c ds (.ops all post :: k) e H Q → K tmps H) (mid : List Nat) (ml : List Oper) (hm : opsAt all mid = some ml) :
    ∀ (pre : List Nat) (pl : List Oper) (listed : Array Bool) (e : Env) (tmps : Array Value) (H : List HProp), opsAt all pre = some pl → preB all n pre mid listed = true → midB all n mid (setAll pre listed) = true →
      (pre ++ mid).Nodup → (∀ i ∈ pre ++ mid, i ∉ postI) → Unlisted listed (pre ++ mid) postI → Closed all listed → (∀ p ∈ postI, ∀ i ∈ pre, waits all N p i = true) →
      Knows n e tmps → EV P c ds all k Q post pl ml e H → AnyX P all [] K (pre.length + mid.length) listed tmps H := by
  intro pre
  induction pre with
  | nil =>
    intro pl listed e tmps H hp _ hmb _ _ _ _ _ a h
    simp only [opsAt, Option.some.injEq] at hp; subst hp
    simpa using EV.mid hK mid ml listed e tmps H hm (by simpa [setAll] using hmb) a h
  | cons i pre ih =>
    intro pl listed e tmps H hp hb hmb hnd hip hun hcl hwt a h
    obtain ⟨o, pl', ho, hp', rfl⟩ := opsAt_cons hp
    simp only [preB, ho, Bool.and_eq_true] at hb
    obtain ⟨⟨hr, ⟨⟨hn, hs⟩, hf⟩, hd⟩, hb⟩ := hb
    have hr : i ∈ Region.ready .any all listed := by simpa using hr
    have hnd' := hnd
    simp only [List.cons_append, List.nodup_cons] at hnd'
    have key : ∀ v, QuietX P all o v tmps H → EV P c ds all k Q post pl' ml (putE o.dst v e) H → AnyX P all [] K (pre.length + mid.length + 1) listed tmps H := by
      intro v hq hev
      refine AnyX.first ho hn hs (hip i (by simp)) (fun p hp => hwt p hp i (by simp)) (pre.length + mid.length) listed (i :: pre ++ mid) tmps H hnd (by simp) (by simp) hun hcl hf hr hq (.inl (by simp)) ?_
      refine ih pl' _ _ _ H hp' hb (by simpa [setAll] using hmb) hnd'.2 (fun x hx => hip x (by simp at hx ⊢; exact .inr hx)) ?_ (hcl.set hr) (fun p hp x hx => hwt p hp x (by simp [hx])) (a.puts hd v) hev
      have := hun.set hnd (hip i (by simp)) (by simp)
      simpa using this
    have hl : (i :: pre).length + mid.length = pre.length + mid.length + 1 := by simp; omega
    rw [hl]
    cases ml with
    | nil =>
      simp only [EV] at h
      rcases h with ⟨hy, v, h1, h3⟩ | ⟨hno, h3⟩
      · exact key v (.inl ⟨hy.wanted a, h1 _ (Tells.tmps a)⟩) h3
      · exact key undef (.inr ⟨hno.wanted a, rfl⟩) h3
    | cons m ml =>
      simp only [EV] at h
      rcases h with ⟨hy, v, h1, h3⟩ | ⟨hno, h3⟩
      · exact key v (.inl ⟨hy.wanted a, h1 _ (Tells.tmps a)⟩) h3
      · exact key undef (.inr ⟨hno.wanted a, rfl⟩) h3

theorem setAll_getD (l : List Nat) : ∀ (listed : Array Bool) (j : Nat), (setAll l listed).getD j true = false ↔ listed.getD j true = false ∧ j ∉ l := by
  induction l with
  | nil => intro listed j; simp [setAll]
  | cons i l ih =>
    intro listed j
    have := ih (listed.setIfInBounds i true) j
    simp only [setAll, List.foldl_cons] at this ⊢
    rw [this]
    by_cases e : i = j
    · subst e
      rcases Nat.lt_or_ge i listed.size with h' | h'
      · simp [h']
      · simp [Array.getElem?_eq_none h']
    · rw [getD_set_ne true e]
      simp [Ne.symm e]

theorem G.draw {id : Nat} {l : List Oper} {e : Env} {H : List HProp} (pre mid post : List Nat) {pl ml ol : List Oper} (hm : P.follows .mixedOrders = true) (hB : drawB l.toArray c.n pre mid post = true)
    (hp : opsAt l.toArray pre = some pl) (hmid : opsAt l.toArray mid = some ml) (hpost : opsAt l.toArray post = some ol) (h : EV P c ds l.toArray k Q ol pl ml e H) : G P c ds (.code (.region id l.toArray true) :: k) e H Q := by
  simp only [drawB, Bool.and_eq_true, List.all_eq_true, decide_eq_true_eq, beq_iff_eq] at hB
  obtain ⟨⟨⟨⟨⟨⟨⟨b1, b2⟩, b3⟩, b4⟩, b5⟩, b6⟩, b8⟩, b7⟩ := hB
  have hsize : l.toArray.size = pre.length + mid.length + post.length := by
    have := congrArg List.length b4
    simpa using this
  intro g tmps w cs is a s d
  obtain ⟨i, is1, rfl, rfl, d1⟩ := d.cons
  have hstep : step P (lone (c.fr tmps ds (.code (.region id l.toArray true) :: is1)) cs w) =
      .next (lone (c.fr tmps ds (.inRegion l.toArray (Region.linearise .any l.toArray (w.tape w.drawn (.order c.fn id))) :: is1)) cs { w with drawn := w.drawn + 1 }) :=
    step_lone_go (by simp [stepG, stepG.exec, Ctx.fr, choose, Sem.run, Question.forced, Question.cut, Region.schedule, hm])
  refine Ends.steps (.one hstep) ?_
  have hsat : Sat H g { w with drawn := w.drawn + 1 } := s.of_heap rfl
  have hK : ∀ e tmps H, Knows c.n e tmps → G P c ds (.ops l.toArray ol :: k) e H Q → EndsAt P c ds l.toArray k Q post tmps H := by
    intro e tmps H a h g w cs ks s d
    refine h g tmps w cs (.inRegion l.toArray post :: ks) a s ⟨⟨post, rfl, ?_⟩, d⟩
    exact opsAt_map hpost
  have hnone : ∀ j, (Array.replicate l.toArray.size false).getD j true = false ↔ j < l.toArray.size := by
    intro j
    by_cases hj : j < l.toArray.size
    · simp at hj; simp [hj]
    · simp at hj; simp [hj]
  have hcover : ∀ j, j < l.toArray.size → j ∈ (pre ++ mid) ∨ j ∈ post := by
    intro j hj
    have := b8 j (List.mem_range.2 hj)
    simpa [or_assoc] using this
  have hdis : ∀ i ∈ pre ++ mid, i ∉ post := fun i hi hp => (List.nodup_append.1 b6).2.2 i hi i hp rfl
  have hun : Unlisted (Array.replicate l.toArray.size false) (pre ++ mid) post := by
    intro j
    rw [hnone j]
    refine ⟨hcover j, fun hj => ?_⟩
    have : j ∈ pre ++ mid ++ post := by simp only [List.mem_append] at *; exact hj
    exact b5 j this
  have hcl : Closed l.toArray (Array.replicate l.toArray.size false) := by
    intro j o ho hj
    exfalso
    rcases Nat.lt_or_ge j l.length with h' | h' <;> simp [h', Nat.not_lt.2 h'] at hj
  have hA := EV.pre (N := l.toArray.size) (postI := post) hK mid ml hmid pre pl _ e tmps H hp b1 b2 (List.nodup_append.1 b6).1 hdis hun hcl (fun p hp i hi => b7 p hp i (List.mem_append_left _ hi)) a h
  have hsz : ∀ (x : List Nat) (arr : Array Bool), (setAll x arr).size = arr.size := by
    intro x
    induction x with
    | nil => intro arr; rfl
    | cons y x ih => intro arr; simp only [setAll, List.foldl_cons]; have := ih (arr.setIfInBounds y true); simp only [setAll] at this; rw [this]; simp
  have hE := AnyX.ends (c := c) (ds := ds) (k := k) (Q := Q) (L0 := setAll (pre ++ mid) (Array.replicate l.toArray.size false)) (postI := post) (fun fuel t hf => linearise_post post _ fuel t b3 hf)
    (pre.length + mid.length) (Array.replicate l.toArray.size false) (pre ++ mid) tmps H l.toArray.size (w.tape w.drawn (.order c.fn id)) (by simp) (List.nodup_append.1 b6).1 hdis hun hcl (by rw [hsz]) ?_ (by omega) ?_ hA
  · exact hE g _ cs is1 hsat d1
  · intro j
    rw [setAll_getD, hnone]
    constructor
    · rintro ⟨h1, h2⟩; exact (hcover j h1).resolve_left h2
    · intro hj
      refine ⟨?_, fun h2 => hdis j h2 hj⟩
      have : j ∈ pre ++ mid ++ post := by simp [hj]
      exact b5 j this
  · intro lst hcl' r hr hsub hun' p hp hpr
    obtain ⟨x, hx⟩ := List.exists_mem_of_ne_nil r hr
    have h1 := ready_waits hcl' hpr (b7 p hp x (hsub x hx))
    have h2 := (hun' x).2 (.inl hx)
    rcases Nat.lt_or_ge x lst.size with h' | h'
    · simp [h'] at h1 h2; rw [h1] at h2; cases h2
    · simp [Array.getElem?_eq_none h'] at h1

section walk
variable {post : List Oper} {o : Oper} {pre mid : List Oper} {e : Env} {H : List HProp}

theorem EV.cons_pre {P : Program} {all : Array Oper} (h : (Yes all e o ∧ ∃ v, Ok P e o H v ∧ EV P c ds all k Q post pre mid (putE o.dst v e) H) ∨ (No all e o ∧ EV P c ds all k Q post pre mid (putE o.dst undef e) H)) :
    EV P c ds all k Q post (o :: pre) mid e H := by
  cases mid <;> (simp only [EV]; exact h)

theorem EV.done (h : G P c ds (.ops all post :: k) e H Q) : EV P c ds all k Q post [] [] e H := by simp only [EV]; exact h
theorem EV.ok {op : Op} {d : Nat} {ty : TypeId} {pos : String} {af : Array Edge} {v : Value} (h1 : Ok P e ⟨some d, op, ty, pos, af, none⟩ H v) (h : EV P c ds all k Q post pre mid ((d, v) :: e) H) : EV P c ds all k Q post (⟨some d, op, ty, pos, af, none⟩ :: pre) mid e H :=
  EV.cons_pre (.inl ⟨.inl rfl, v, h1, h⟩)
theorem EV.yes {op : Op} {d : Nat} {ty : TypeId} {pos : String} {af : Array Edge} {v : Value} {j t : Nat} {want b : Bool} (hj : (all[j]?).bind (·.dst) = some t) (hx : e.get t = some (.bool b)) (hb : b = want) (h1 : Ok P e ⟨some d, op, ty, pos, af, some (j, want)⟩ H v) (h : EV P c ds all k Q post pre mid ((d, v) :: e) H) :
    EV P c ds all k Q post (⟨some d, op, ty, pos, af, some (j, want)⟩ :: pre) mid e H :=
  EV.cons_pre (.inl ⟨.inr ⟨j, want, t, rfl, hj, by rw [hx, hb]⟩, v, h1, h⟩)
theorem EV.no {op : Op} {d : Nat} {ty : TypeId} {pos : String} {af : Array Edge} {j t : Nat} {want : Bool} {x : Value} (hj : (all[j]?).bind (·.dst) = some t) (hx : e.get t = some x) (hb : x = undef ∨ ∃ b, x = .bool b ∧ b = !want) (h : EV P c ds all k Q post pre mid ((d, undef) :: e) H) :
    EV P c ds all k Q post (⟨some d, op, ty, pos, af, some (j, want)⟩ :: pre) mid e H :=
  EV.cons_pre (.inr ⟨⟨j, want, t, x, rfl, hj, hx, hb.imp id fun ⟨b, e1, e2⟩ => by rw [e1, e2]⟩, h⟩)
/-- A guard that is not known. -/
theorem EV.split {j t : Nat} {want b : Bool} (hg : o.guard = some (j, want)) (hj : (all[j]?).bind (·.dst) = some t) (hx : e.get t = some (.bool b)) (h1 : b = want → EV P c ds all k Q post (o :: pre) mid e H) (h2 : b = !want → EV P c ds all k Q post (o :: pre) mid e H) :
    EV P c ds all k Q post (o :: pre) mid e H := by
  by_cases h : b = want
  · exact h1 h
  · exact h2 (by cases b <;> cases want <;> simp_all)
theorem EV.m_ok {op : Op} {d : Nat} {ty : TypeId} {pos : String} {af : Array Edge} {v : Value} (h1 : Ok P e ⟨some d, op, ty, pos, af, none⟩ H v) (h : EV P c ds all k Q post [] mid ((d, v) :: e) H) : EV P c ds all k Q post [] (⟨some d, op, ty, pos, af, none⟩ :: mid) e H := by
  simp only [EV]
  exact .inl ⟨.inl rfl, _, h1, fun v' H' ⟨_, e2⟩ => e2 ▸ Keeps.refl H, fun v' H' ⟨e1, e2⟩ => by rw [e1, e2]; exact h⟩
/-- An operation that makes memory. -/
theorem EV.m_new {Qo : Post} (hg : o.guard = none) (h1 : ∀ ρ, Tells e ρ → OpRun P (execOp ρ o) H Qo) (hk : ∀ v H', Qo v H' → Keeps H H') (h : ∀ v H', Qo v H' → EV P c ds all k Q post [] mid (putE o.dst v e) H') : EV P c ds all k Q post [] (o :: mid) e H := by
  simp only [EV]
  exact .inl ⟨.inl hg, Qo, h1, hk, h⟩
theorem EV.m_box {d : Nat} {ty : TypeId} {pos : String} {af : Array Edge} {T : TypeId} {x : Operand} {v : Value} {vs : List Value} (hx : ev e x = some v) (hv : v.cells = vs.toArray)
    (h : ∀ b, EV P c ds all k Q post [] mid ((d, .pointer (some ⟨b, 0, none⟩)) :: e) (cb b vs T :: H)) : EV P c ds all k Q post [] (⟨some d, .box T x, ty, pos, af, none⟩ :: mid) e H := by
  refine EV.m_new (Qo := fun v H' => ∃ b, v = .pointer (some ⟨b, 0, none⟩) ∧ H' = cb b vs T :: H) rfl (fun ρ hρ g w s => ?_) (fun v H' ⟨b, _, e2⟩ => ⟨[cb b vs T], by rw [e2]; exact .refl _⟩) (fun v H' ⟨b, e1, e2⟩ => by rw [e1, e2]; exact h b)
  have : (execOp ρ ⟨some d, .box T x, ty, pos, af, none⟩).run P w = .ok (.value (.pointer (some ⟨w.heap.size, 0, none⟩))) { w with heap := w.heap.push (.cells vs.toArray T) } := by
    simp [execOp, hρ x _ hx, Instr.box, newVar, newRow, newObj, Sem.run, hv]
  rw [this]
  exact ⟨_, ⟨_, rfl, rfl⟩, s.new _⟩
end walk

end sound

end
end Go.Am
