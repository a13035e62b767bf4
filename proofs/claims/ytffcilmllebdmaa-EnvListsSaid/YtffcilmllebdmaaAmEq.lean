/- Structs and arrays made of numbers and truth values, held equal. -/
import Derived.Test.YtffcilmllebdmaaAmAuto
import Derived.ChangeKeysEq
import Derived.DeepKeys
namespace Go.Am

def eqT (P : Program) : Nat → TypeId → Bool
  | 0, _ => false
  | n + 1, t => match P.underlying t with
    | some .bool => true
    | some (.int _) => true
    | some (.array k e) => eqT P n e && Nat.ble (k * P.cellsOf e) (P.cellsOf t) && (match flatA P n e with | some l => l.all fun p => Nat.blt p.1 (P.cellsOf e) | none => false)
    | some (.struct fs) => (fs.all fun f => f.name != "_" && eqT P n f.type && Nat.ble (f.offset + P.cellsOf f.type) (P.cellsOf t) && (match flatA P n f.type with | some l => l.all fun p => Nat.blt p.1 (P.cellsOf f.type) | none => false)) && !P.stoodInHeld t
    | _ => false

def leafB : Option Value → Sc → Bool
  | some (.int k _), .int k' => decide (k = k')
  | some (.bool _), .bool => true
  | _, _ => false
def typedB (l : List (Nat × Sc)) (xs : List Value) : Bool := l.all fun p => leafB xs[p.1]? p.2
def leafEq : Option Value → Option Value → Bool
  | some (.int _ a), some (.int _ b) => decide (a = b)
  | some (.bool a), some (.bool b) => decide (a = b)
  | _, _ => false
def eqCells (l : List (Nat × Sc)) (xs ys : List Value) : Bool := l.all fun p => leafEq xs[p.1]? ys[p.1]?

theorem leafB_some {o : Option Value} {s : Sc} (h : leafB o s = true) : (∃ k n, o = some (.int k n) ∧ s = .int k) ∨ (∃ b, o = some (.bool b) ∧ s = .bool) := by
  unfold leafB at h
  split at h
  · rename_i k n k'; have := of_decide_eq_true h; subst this; exact .inl ⟨_, _, rfl, rfl⟩
  · exact .inr ⟨_, rfl, rfl⟩
  · cases h

section
variable {P : Program}

theorem seg_at {xs : List Value} {off n o : Nat} (h : o < n) : ((xs.drop off).take n)[o]? = xs[off + o]? := by
  rw [List.getElem?_take, if_pos h, List.getElem?_drop]

theorem typed_seg {l : List (Nat × Sc)} {xs : List Value} {off n : Nat} (hb : l.all (fun p => Nat.blt p.1 n) = true) (h : typedB (l.map fun x => (off + x.1, x.2)) xs = true) : typedB l ((xs.drop off).take n) = true := by
  unfold typedB at *
  rw [List.all_eq_true] at *
  intro p hp
  have h1 := h (off + p.1, p.2) (List.mem_map.2 ⟨p, hp, rfl⟩)
  have h2 := hb p hp
  rw [seg_at (by simpa [Nat.blt_eq] using h2)]
  exact h1

theorem eq_seg {l : List (Nat × Sc)} {xs ys : List Value} {off n : Nat} (hb : l.all (fun p => Nat.blt p.1 n) = true) : eqCells (l.map fun x => (off + x.1, x.2)) xs ys = eqCells l ((xs.drop off).take n) ((ys.drop off).take n) := by
  unfold eqCells
  induction l with
  | nil => rfl
  | cons p l ih =>
    simp only [List.all_cons, List.map_cons, Bool.and_eq_true] at hb ⊢
    rw [ih hb.2, seg_at (by simpa [Nat.blt_eq] using hb.1), seg_at (by simpa [Nat.blt_eq] using hb.1)]

/-- A part of a value. -/
theorem part_ok (w : World) {m : Nat} {t : TypeId} {l : List (Nat × Sc)} {xs : Array Value} {off : Nat} (hf : flatA P m t = some l) (hb : l.all (fun p => Nat.blt p.1 (P.cellsOf t)) = true) (hs : off + P.cellsOf t ≤ xs.size)
    (hty : typedB (l.map fun x => (off + x.1, x.2)) xs.toList = true) : ∃ a, (part t xs off).run P w = .ok a w ∧ a.formed P t = true ∧ ((∃ k, P.underlying t = some (.int k)) ∨ P.underlying t = some .bool → xs.toList[off]? = some a) ∧
      ((∀ k, P.underlying t ≠ some (.int k)) → P.underlying t ≠ some .bool → a.cells.toList = (xs.toList.drop off).take (P.cellsOf t)) := by
  cases m with
  | zero => simp [flatA] at hf
  | succ m =>
    unfold flatA at hf
    split at hf
    · rename_i hu
      cases hf
      simp only [List.map_cons, List.map_nil, typedB, List.all_cons, List.all_nil, Bool.and_true, Nat.add_zero] at hty
      rcases leafB_some hty with ⟨k, n, h1, h2⟩ | ⟨b, h1, h2⟩
      · cases h2
      · refine ⟨.bool b, ?_, by simp [Value.formed, hu], fun _ => h1, fun _ h => absurd hu h⟩
        simp [part, isAgg, run_underlying hu, show xs[off]? = some (.bool b) by simpa using h1]
    · rename_i k hu
      cases hf
      simp only [List.map_cons, List.map_nil, typedB, List.all_cons, List.all_nil, Bool.and_true, Nat.add_zero] at hty
      rcases leafB_some hty with ⟨k, n, h1, h2⟩ | ⟨b, h1, h2⟩
      · refine ⟨.int k n, ?_, by simp [Value.formed, hu], fun _ => h1, fun h => absurd hu (h _)⟩
        simp [part, isAgg, run_underlying hu, show xs[off]? = some (.int k n) by simpa using h1]
      · cases h2
    · rename_i fs hu
      obtain ⟨i, hi⟩ := info_of_underlying hu
      refine ⟨.agg (xs.extract off (off + P.cellsOf t)), by simp [part, isAgg, run_underlying hu, run_sizeOf w hi], ?_, fun h => by simp [hu] at h, fun _ _ => ?_⟩
      · simp [Value.formed, hu]; omega
      · simp [Value.cells, List.extract_eq_take_drop]
    · rename_i n el hu
      obtain ⟨i, hi⟩ := info_of_underlying hu
      refine ⟨.agg (xs.extract off (off + P.cellsOf t)), by simp [part, isAgg, run_underlying hu, run_sizeOf w hi], ?_, fun h => by simp [hu] at h, fun _ _ => ?_⟩
      · simp [Value.formed, hu]; omega
      · simp [Value.cells, List.extract_eq_take_drop]
    · cases hf

def EqRun (P : Program) (dd : Nat) (t : TypeId) (l : List (Nat × Sc)) : Prop :=
  ∀ (w : World) (x y : Value), x.formed P t = true → y.formed P t = true → typedB l x.cells.toList = true → typedB l y.cells.toList = true →
    (Op.equalIn dd t x y).run P w = .ok (eqCells l x.cells.toList y.cells.toList) w

/-- One part of two values. -/
theorem step_ok {dd m : Nat} {t : TypeId} {l : List (Nat × Sc)} (IH : EqRun P dd t l) (w : World) (hf : flatA P m t = some l) (hb : l.all (fun p => Nat.blt p.1 (P.cellsOf t)) = true) {xs ys : Array Value} {off : Nat}
    (hs1 : off + P.cellsOf t ≤ xs.size) (hs2 : off + P.cellsOf t ≤ ys.size) (h1 : typedB (l.map fun x => (off + x.1, x.2)) xs.toList = true) (h2 : typedB (l.map fun x => (off + x.1, x.2)) ys.toList = true) :
    ∃ a b, (part t xs off).run P w = .ok a w ∧ (part t ys off).run P w = .ok b w ∧ (Op.equalIn dd t a b).run P w = .ok (eqCells (l.map fun x => (off + x.1, x.2)) xs.toList ys.toList) w := by
  obtain ⟨a, p1, f1, s1, g1⟩ := part_ok w hf hb hs1 h1
  obtain ⟨b, p2, f2, s2, g2⟩ := part_ok w hf hb hs2 h2
  refine ⟨a, b, p1, p2, ?_⟩
  have key : ∀ v zs, v.formed P t = true → ((∃ k, P.underlying t = some (.int k)) ∨ P.underlying t = some .bool → zs[off]? = some v) → ((∀ k, P.underlying t ≠ some (.int k)) → P.underlying t ≠ some .bool → v.cells.toList = (zs.drop off).take (P.cellsOf t)) →
      typedB (l.map fun x => (off + x.1, x.2)) zs = true → ∀ p ∈ l, v.cells.toList[p.1]? = zs[off + p.1]? := by
    intro v zs hv hz1 hz2 hty p hp
    have hpb : p.1 < P.cellsOf t := by simpa [Nat.blt_eq] using (List.all_eq_true.1 hb) p hp
    by_cases hsc : (∃ k, P.underlying t = some (.int k)) ∨ P.underlying t = some .bool
    · have hv' := hz1 hsc
      have hl : l = [(0, .bool)] ∨ ∃ k, l = [(0, .int k)] := by
        cases m with
        | zero => simp [flatA] at hf
        | succ m =>
          unfold flatA at hf
          rcases hsc with ⟨k, hk⟩ | hk
          · rw [hk] at hf; cases hf; exact .inr ⟨k, rfl⟩
          · rw [hk] at hf; cases hf; exact .inl rfl
      have hp0 : p.1 = 0 := by rcases hl with rfl | ⟨k, rfl⟩ <;> (simp at hp; rw [hp])
      have hone : v.cells = #[v] := by
        have hlv : leafB (some v) p.2 = true := by
          have := (List.all_eq_true.1 hty) (off + p.1, p.2) (List.mem_map.2 ⟨p, hp, rfl⟩)
          simpa [hp0, hv'] using this
        rcases leafB_some hlv with ⟨k, n, e1, _⟩ | ⟨b, e1, _⟩ <;> (cases e1; rfl)
      rw [hp0, hone, Nat.add_zero, hv']; rfl
    · simp only [not_or, not_exists] at hsc
      rw [hz2 hsc.1 hsc.2, seg_at hpb]
  have ka := key a xs.toList f1 s1 g1 h1
  have kb := key b ys.toList f2 s2 g2 h2
  have t1 : typedB l a.cells.toList = true := by
    unfold typedB; rw [List.all_eq_true]; intro p hp
    rw [ka p hp]; exact (List.all_eq_true.1 h1) (off + p.1, p.2) (List.mem_map.2 ⟨p, hp, rfl⟩)
  have t2 : typedB l b.cells.toList = true := by
    unfold typedB; rw [List.all_eq_true]; intro p hp
    rw [kb p hp]; exact (List.all_eq_true.1 h2) (off + p.1, p.2) (List.mem_map.2 ⟨p, hp, rfl⟩)
  rw [IH w a b f1 f2 t1 t2]
  congr 1
  unfold eqCells
  rw [Bool.eq_iff_iff, List.all_eq_true, List.all_eq_true]
  constructor
  · intro h q hq
    obtain ⟨p, hp, rfl⟩ := List.mem_map.1 hq
    have := h p hp
    rw [ka p hp, kb p hp] at this; exact this
  · intro h p hp
    rw [ka p hp, kb p hp]
    exact h (off + p.1, p.2) (List.mem_map.2 ⟨p, hp, rfl⟩)

theorem typed_flatten {ls : List (List (Nat × Sc))} {xs : List Value} (h : typedB ls.flatten xs = true) {l : List (Nat × Sc)} (hl : l ∈ ls) : typedB l xs = true := by
  unfold typedB at *
  rw [List.all_eq_true] at *
  exact fun p hp => h p (List.mem_flatten.2 ⟨l, hl, hp⟩)

theorem fields_ok {dd m : Nat} {xs ys : Array Value} : ∀ (fs : List Field) (ls : List (List (Nat × Sc))) (w : World), (fs.mapM fun f => (flatA P m f.type).map fun l => l.map fun x => (f.offset + x.1, x.2)) = some ls →
    (∀ f ∈ fs, f.name ≠ "_" ∧ f.offset + P.cellsOf f.type ≤ xs.size ∧ f.offset + P.cellsOf f.type ≤ ys.size ∧ ∀ l, flatA P m f.type = some l → EqRun P dd f.type l ∧ l.all (fun p => Nat.blt p.1 (P.cellsOf f.type)) = true) →
    typedB ls.flatten xs.toList = true → typedB ls.flatten ys.toList = true → (Op.eqFields dd xs ys fs).run P w = .ok (eqCells ls.flatten xs.toList ys.toList) w
  | [], ls, w, h, _, _, _ => by
    simp at h; subst h; simp [Op.eqFields, eqCells]
  | f :: fs, ls, w, h, hall, h1, h2 => by
    rw [List.mapM_cons] at h
    simp only [bind, Option.bind_eq_some_iff, pure, Option.some.injEq] at h
    obtain ⟨l1, ha, ls', hb, rfl⟩ := h
    cases hfl : flatA P m f.type with
    | none => simp [hfl] at ha
    | some l =>
      simp only [hfl, Option.map_some, Option.some.injEq] at ha
      subst ha
      obtain ⟨hn, hs1, hs2, hrest⟩ := hall f (List.mem_cons_self ..)
      obtain ⟨he, hbl⟩ := hrest l hfl
      obtain ⟨a, b, p1, p2, p3⟩ := step_ok he w hfl hbl hs1 hs2 (typed_flatten h1 (List.mem_cons_self ..)) (typed_flatten h2 (List.mem_cons_self ..))
      have ih := fields_ok fs ls' w hb (fun g hg => hall g (List.mem_cons_of_mem _ hg)) (by
        unfold typedB at *; rw [List.flatten_cons, List.all_append, Bool.and_eq_true] at h1; exact h1.2) (by
        unfold typedB at *; rw [List.flatten_cons, List.all_append, Bool.and_eq_true] at h2; exact h2.2)
      have e1 : eqCells (List.flatten ((l.map fun x => (f.offset + x.1, x.2)) :: ls')) xs.toList ys.toList = (eqCells (l.map fun x => (f.offset + x.1, x.2)) xs.toList ys.toList && eqCells ls'.flatten xs.toList ys.toList) := by
        unfold eqCells; rw [List.flatten_cons, List.all_append]
      simp only [Op.eqFields, hn, ne_eq, not_false_eq_true, if_true, Sem.run_bind, p1, p2, p3, Result.andThen_ok]
      rw [e1]
      cases hr : eqCells (l.map fun x => (f.offset + x.1, x.2)) xs.toList ys.toList
      · simp
      · simpa using ih

theorem items_ok {dd m : Nat} {e : TypeId} {l : List (Nat × Sc)} (he : EqRun P dd e l) (hf : flatA P m e = some l) (hb : l.all (fun p => Nat.blt p.1 (P.cellsOf e)) = true) {xs ys : Array Value} : ∀ (is : List Nat) (w : World), (∀ i ∈ is, i * P.cellsOf e + P.cellsOf e ≤ xs.size ∧ i * P.cellsOf e + P.cellsOf e ≤ ys.size) →
    typedB (is.flatMap fun i => l.map fun x => (i * P.cellsOf e + x.1, x.2)) xs.toList = true → typedB (is.flatMap fun i => l.map fun x => (i * P.cellsOf e + x.1, x.2)) ys.toList = true →
    (Op.eqItems dd e (P.cellsOf e) xs ys is).run P w = .ok (eqCells (is.flatMap fun i => l.map fun x => (i * P.cellsOf e + x.1, x.2)) xs.toList ys.toList) w
  | [], w, _, _, _ => by simp [Op.eqItems, eqCells]
  | i :: is, w, hs, h1, h2 => by
    have g1 : typedB (l.map fun x => (i * P.cellsOf e + x.1, x.2)) xs.toList = true ∧ typedB (is.flatMap fun i => l.map fun x => (i * P.cellsOf e + x.1, x.2)) xs.toList = true := by
      unfold typedB at *; rw [List.flatMap_cons, List.all_append, Bool.and_eq_true] at h1; exact h1
    have g2 : typedB (l.map fun x => (i * P.cellsOf e + x.1, x.2)) ys.toList = true ∧ typedB (is.flatMap fun i => l.map fun x => (i * P.cellsOf e + x.1, x.2)) ys.toList = true := by
      unfold typedB at *; rw [List.flatMap_cons, List.all_append, Bool.and_eq_true] at h2; exact h2
    obtain ⟨a, b, p1, p2, p3⟩ := step_ok he w hf hb (hs i (List.mem_cons_self ..)).1 (hs i (List.mem_cons_self ..)).2 g1.1 g2.1
    have ih := items_ok he hf hb is w (fun j hj => hs j (List.mem_cons_of_mem _ hj)) g1.2 g2.2
    have e1 : eqCells ((i :: is).flatMap fun i => l.map fun x => (i * P.cellsOf e + x.1, x.2)) xs.toList ys.toList = (eqCells (l.map fun x => (i * P.cellsOf e + x.1, x.2)) xs.toList ys.toList && eqCells (is.flatMap fun i => l.map fun x => (i * P.cellsOf e + x.1, x.2)) xs.toList ys.toList) := by
      unfold eqCells; rw [List.flatMap_cons, List.all_append]
    simp only [Op.eqItems, Sem.run_bind, p1, p2, p3, Result.andThen_ok]
    rw [e1]
    cases hr : eqCells (l.map fun x => (i * P.cellsOf e + x.1, x.2)) xs.toList ys.toList
    · simp
    · simpa using ih

theorem scalar_cells {t : TypeId} {x : Value} (h : x.formed P t = true) (hs : (∃ k, P.underlying t = some (.int k)) ∨ P.underlying t = some .bool) {s : Sc} (hl : typedB [(0, s)] x.cells.toList = true) :
    (∃ k n, x = .int k n ∧ s = .int k) ∨ (∃ b, x = .bool b ∧ s = .bool) := by
  have hc : x.cells.toList[0]? = some x := by
    cases x <;> simp_all [Value.cells, Value.formed]
    all_goals (rcases hs with ⟨k, hk⟩ | hk <;> simp [hk] at h)
  simp only [typedB, List.all_cons, List.all_nil, Bool.and_true, hc] at hl
  rcases leafB_some hl with ⟨k, n, e1, e2⟩ | ⟨b, e1, e2⟩
  · cases e1; exact .inl ⟨k, n, rfl, e2⟩
  · cases e1; exact .inr ⟨b, rfl, e2⟩

theorem eq_run (d : Nat) : ∀ (m : Nat) (t : TypeId) (l : List (Nat × Sc)), flatA P m t = some l → eqT P m t = true → EqRun P (d + m) t l
  | 0, t, l, hf, _ => by simp [flatA] at hf
  | m + 1, t, l, hf, he => by
    intro w x y fx fy tx ty
    unfold flatA at hf
    unfold eqT at he
    cases hu : P.underlying t with
    | none => simp [hu] at he
    | some kd =>
      cases kd
      case bool =>
        simp only [hu, Option.some.injEq] at hf; subst hf
        rcases scalar_cells fx (.inr hu) tx with ⟨_, _, _, h⟩ | ⟨a, rfl, _⟩
        · cases h
        rcases scalar_cells fy (.inr hu) ty with ⟨_, _, _, h⟩ | ⟨b, rfl, _⟩
        · cases h
        rw [show d + (m + 1) = (d + m) + 1 from rfl, run_equalIn_bool' w (d + m) t a b hu]
        congr 1
        simp only [eqCells, List.all_cons, List.all_nil, Bool.and_true, Value.cells, leafEq]
        cases a <;> cases b <;> rfl
      case int k =>
        simp only [hu, Option.some.injEq] at hf; subst hf
        rcases scalar_cells fx (.inl ⟨k, hu⟩) tx with ⟨k1, a, rfl, h1⟩ | ⟨_, _, h⟩
        rotate_left
        · cases h
        rcases scalar_cells fy (.inl ⟨k, hu⟩) ty with ⟨k2, b, rfl, h2⟩ | ⟨_, _, h⟩
        rotate_left
        · cases h
        cases h1; cases h2
        rw [show d + (m + 1) = (d + m) + 1 from rfl, run_equalIn_int w (d + m) t _ _ a b hu]
        congr 1
        simp only [eqCells, List.all_cons, List.all_nil, Bool.and_true, Value.cells, leafEq]
        show (a == b) = decide (a = b)
        by_cases h : a = b <;> simp [h]
      case struct fs =>
        simp only [hu] at hf he
        simp only [Bool.and_eq_true, Bool.not_eq_true'] at he
        cases hm : (fs.toList.mapM fun f => (flatA P m f.type).map fun l => l.map fun x => (f.offset + x.1, x.2)) with
        | none => simp [hm] at hf
        | some ls =>
          simp only [hm, Option.map_some, Option.some.injEq] at hf; subst hf
          cases x <;> simp only [Value.formed, hu, Bool.false_eq_true] at fx
          cases y <;> simp only [Value.formed, hu, Bool.false_eq_true] at fy
          rename_i xs ys
          have hfs : P.fieldsOf t = fs := by simp [Program.fieldsOf, hu]
          rw [show d + (m + 1) = (d + m) + 1 from rfl, run_equalIn_struct w (d + m) t xs ys (by rw [hfs]; exact hu) he.2, hfs]
          refine fields_ok fs.toList ls w hm (fun f hf' => ?_) tx ty
          have := Array.all_eq_true_iff_forall_mem.1 he.1 f (Array.mem_toList_iff.1 hf')
          simp only [Bool.and_eq_true, bne_iff_ne, ne_eq, Nat.ble_eq] at this
          obtain ⟨⟨⟨h1, h2⟩, h3⟩, h4⟩ := this
          have sx : xs.size = P.cellsOf t := by simpa using fx
          have sy : ys.size = P.cellsOf t := by simpa using fy
          refine ⟨h1, by omega, by omega, fun l hl => ⟨eq_run d m f.type l hl h2, ?_⟩⟩
          rw [hl] at h4; exact h4
      case array n e =>
        simp only [hu] at hf he
        simp only [Bool.and_eq_true, Nat.ble_eq] at he
        cases hfl : flatA P m e with
        | none => simp [hfl] at hf
        | some l2 =>
          simp only [hfl, Option.map_some, Option.some.injEq] at hf; subst hf
          cases x <;> simp only [Value.formed, hu, Bool.false_eq_true] at fx
          cases y <;> simp only [Value.formed, hu, Bool.false_eq_true] at fy
          rename_i xs ys
          have hpe : ∃ i, P.info? e = some i := by
            cases m with
            | zero => simp [flatA] at hfl
            | succ m' =>
              unfold flatA at hfl
              cases hue : P.underlying e with
              | none => simp [hue] at hfl
              | some _ => exact info_of_underlying hue
          obtain ⟨i, hi⟩ := hpe
          have sx : xs.size = P.cellsOf t := by simpa using fx
          have sy : ys.size = P.cellsOf t := by simpa using fy
          rw [show d + (m + 1) = (d + m) + 1 from rfl, run_equalIn_array w (d + m) xs ys hu hi]
          have h4 := he.2
          rw [hfl] at h4
          refine items_ok (eq_run d m e l2 hfl he.1.1) hfl h4 (List.range n) w (fun j hj => ?_) tx ty
          have hj : j < n := by simpa using hj
          have : (j + 1) * P.cellsOf e ≤ n * P.cellsOf e := Nat.mul_le_mul_right _ hj
          rw [Nat.add_mul, Nat.one_mul] at this
          omega
      all_goals (simp [hu] at he; done)
end

/-- A type of numbers and truth values, at these places of its cells. -/
class TFlat (P : Program) (t : TypeId) (l : outParam (List (Nat × Sc))) : Prop where
  flat : flatA P 8 t = some l ∧ eqT P 8 t = true ∧ P.eqGuardType P.depth t = false

section
variable {P : Program} {e : Env} {H : List HProp} {d : Nat} {ty : TypeId} {pos : String} {af : Array Edge} {gu : Option (Nat × Bool)}

theorem run_eqA {T : TypeId} {l : List (Nat × Sc)} {n : Nat} {xs ys : List Value} [ht : TFlat P T l] [ha : TAgg P T n] (h1 : xs.length = n) (h2 : ys.length = n) (t1 : typedB l xs = true) (t2 : typedB l ys = true) (w : World) :
    (Op.equalIn 10000 T (.agg xs.toArray) (.agg ys.toArray)).run P w = .ok (eqCells l xs ys) w := by
  have hc : P.cellsOf T = n := by
    have := ha.agg.1
    unfold Program.cellsOf; rw [this]; rfl
  have hform : ∀ zs : List Value, zs.length = n → (Value.agg zs.toArray).formed P T = true := by
    intro zs hz
    have h3 := ha.agg.2
    simp only [Value.formed]
    cases hu : P.underlying T with
    | none => simp [hu] at h3
    | some dd => cases dd <;> simp [hu] at h3 ⊢ <;> omega
  have := eq_run (P := P) 9992 8 T l ht.flat.1 ht.flat.2.1 w (.agg xs.toArray) (.agg ys.toArray) (hform xs h1) (hform ys h2) (by simpa [Value.cells] using t1) (by simpa [Value.cells] using t2)
  simpa [Value.cells] using this

theorem Ok.eqlA {T T2 : TypeId} {x y : Operand} {l : List (Nat × Sc)} {n : Nat} {xs ys : List Value} [ht : TFlat P T l] [ha : TAgg P T n] (hx : ev e x = some (.agg xs.toArray)) (hy : ev e y = some (.agg ys.toArray))
    (h1 : xs.length = n) (h2 : ys.length = n) (t1 : typedB l xs = true) (t2 : typedB l ys = true) : Ok P e ⟨some d, .binOp .eql T x y T2, ty, pos, af, gu⟩ H (.bool (eqCells l xs ys)) :=
  Ok.val (fun ρ hρ g w _ => by
    have hg := run_eqGuard_agg (P := P) w .eql T x y xs.toArray ys.toArray ht.flat.2.2
    simp only [execOp, hρ x _ hx, hρ y _ hy, Sem.run_bind, hg, Result.andThen_ok, run_eql_struct, run_eqA h1 h2 t1 t2 w, Sem.run_pure, Sem.run_map])
theorem Ok.neqA {T T2 : TypeId} {x y : Operand} {l : List (Nat × Sc)} {n : Nat} {xs ys : List Value} [ht : TFlat P T l] [ha : TAgg P T n] (hx : ev e x = some (.agg xs.toArray)) (hy : ev e y = some (.agg ys.toArray))
    (h1 : xs.length = n) (h2 : ys.length = n) (t1 : typedB l xs = true) (t2 : typedB l ys = true) : Ok P e ⟨some d, .binOp .neq T x y T2, ty, pos, af, gu⟩ H (.bool (!eqCells l xs ys)) :=
  Ok.val (fun ρ hρ g w _ => by
    have hg := run_eqGuard_agg (P := P) w .neq T x y xs.toArray ys.toArray ht.flat.2.2
    simp only [execOp, hρ x _ hx, hρ y _ hy, Sem.run_bind, hg, Result.andThen_ok, run_neq_struct, run_eqA h1 h2 t1 t2 w, Sem.run_pure, Sem.run_map])
end

theorem leafEq_iff {a b : Option Value} {s : Sc} (h1 : leafB a s = true) (h2 : leafB b s = true) : leafEq a b = true ↔ a = b := by
  rcases leafB_some h1 with ⟨k, n, rfl, rfl⟩ | ⟨x, rfl, rfl⟩ <;> rcases leafB_some h2 with ⟨k', n', rfl, e⟩ | ⟨y, rfl, e⟩ <;> cases e <;> simp [leafEq]

/-- Where the places cover all cells, the values are the same. -/
theorem eqCells_iff {l : List (Nat × Sc)} {xs ys : List Value} {n : Nat} (h1 : xs.length = n) (h2 : ys.length = n) (hc : (List.range n).all (fun i => l.any fun p => p.1 == i) = true) (t1 : typedB l xs = true) (t2 : typedB l ys = true) : eqCells l xs ys = true ↔ xs = ys := by
  unfold eqCells
  rw [List.all_eq_true]
  unfold typedB at t1 t2
  rw [List.all_eq_true] at t1 t2 hc
  constructor
  · intro h
    refine get_zip (by omega) fun j hj => ?_
    obtain ⟨p, hp, hpj⟩ := List.any_eq_true.1 (hc j (List.mem_range.2 (by omega)))
    have hpj : p.1 = j := by simpa using hpj
    rw [← hpj]
    exact (leafEq_iff (t1 p hp) (t2 p hp)).1 (h p hp)
  · rintro rfl p hp
    exact (leafEq_iff (t1 p hp) (t2 p hp)).2 rfl
end Go.Am
