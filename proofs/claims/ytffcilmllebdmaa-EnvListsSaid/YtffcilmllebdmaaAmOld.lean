/- The memory that was there before the call: held as one chunk, read and never written; arguments read as data. -/
import Derived.Test.YtffcilmllebdmaaAmMore
import Derived.Carry
import Derived.ChangeArms
import Derived.OpenShut
import Derived.Deep.Slices
namespace Go.Am

/-- All that lay in memory in W. -/
def Old (W : World) : HProp := fun h => h = fun b => W.heap[b]?

theorem Sat.start (W : World) : Sat [Old W] ⟨Hp.none, W.os, W.output⟩ W :=
  ⟨fun b => W.heap[b]?, ⟨_, Hp.none, .none_right _, (Hp.add_none _).symm, rfl, rfl⟩, .none_right _, fun _ _ h => h, (fun _ _ h => by simp [Hp.none] at h), rfl, rfl⟩

theorem Sat.old {W : World} {H : List HProp} {g : Fr} {w : World} (s : Sat (Old W :: H) g w) : ∀ k, k < W.heap.size → w.heap[k]? = W.heap[k]? := by
  obtain ⟨h, ⟨h1, h2, d, rfl, rfl, a⟩, d', s1, s2⟩ := s
  intro k hk
  have := s1 k W.heap[k] (by simp [Hp.add, hk])
  rw [this]; simp [hk]

theorem cell_of_heap {w W : World} {a : Addr} {v : Value} (h : w.heap[a.block]? = W.heap[a.block]?) (hc : W.cell? a = some v) : w.cell? a = some v := by
  simp only [World.cell?] at *
  rw [h]; exact hc

theorem cell_lt {W : World} {a : Addr} {v : Value} (hc : W.cell? a = some v) : a.block < W.heap.size := by
  by_cases h : a.block < W.heap.size
  · exact h
  · have : W.heap[a.block]? = none := by simpa using Nat.le_of_not_lt h
    simp [World.cell?, this] at hc

theorem cell_spot {W : World} {a : Addr} {v : Value} (hc : W.cell? a = some v) : a.spot = none := by
  simp only [World.cell?] at hc
  split at hc
  · split at hc
    · cases hc
    · rename_i h; simpa using h
  · cases hc

theorem Sat.oldCell {W : World} {H R : List HProp} {g : Fr} {w : World} [h : SelH H (Old W) R] (s : Sat H g w) {a : Addr} {v : Value} (hc : W.cell? a = some v) : w.cell? a = some v :=
  cell_of_heap ((s.perm h.sel).old _ (cell_lt hc)) hc

/-- What lay in memory lies there still. -/
theorem Sat.kept {W w' : World} {R : List HProp} (s : Sat (Old W :: R) ⟨Hp.none, W.os, W.output⟩ w') (may : MemPlace → Prop) : W.keptBut w' may := by
  refine ⟨s.os.1, s.os.2, fun i hi => ?_⟩
  rw [s.old i hi]
  split <;> simp_all
theorem Sat.same {W w' : World} {R : List HProp} {g : Fr} (s : Sat (Old W :: R) g w') {p : MemPlace} (hp : p.block < W.heap.size) : W.sameAt w' p := by
  cases p with
  | cell b o => exact World.cell?_of_block (w := W) (s.old b hp)
  | map b => exact s.old b hp
theorem Sat.trod {T : Type} {enc : TypeId × Value → T} {P : Program} {t : TypeId} (hl : laidOutB P = true) (hr : P.readableRec t = true) (hrow : t < P.types.size) {W W' : World} {R : List HProp} {g : Fr} {v : Value} {d : DataW T} {ps : List MemPlace}
    (h : DataW.Trod enc P W 0 (fun _ => true) true t v d ps) (s : Sat (Old W :: R) g W') (hlt : ∀ x ∈ ps, x.block < W.heap.size) :
    DataW.Trod enc P W' 0 (fun b => decide (b < W.heap.size)) true t v d ps :=
  WideElems.Trod_stays hl hr hrow h (fun x hx => s.same (hlt x hx)) (fun x hx => by simpa using hlt x hx)

theorem list_of_lt {α : Type} : ∀ (n : Nat) {p : Nat → α → Prop}, (∀ i, i < n → ∃ x, p i x) → ∃ l : List α, l.length = n ∧ ∀ (i : Nat) (h : i < l.length), p i l[i]
  | 0, p, _ => ⟨[], rfl, fun i h => by simp at h⟩
  | n + 1, p, h => by
    obtain ⟨l, hl, hp⟩ := list_of_lt n (p := p) fun i hi => h i (by omega)
    obtain ⟨x, hx⟩ := h n (by omega)
    refine ⟨l ++ [x], by simp [hl], fun i hi => ?_⟩
    rw [List.getElem_append]
    split
    · exact hp i _
    · rename_i h1
      have : i = n := by simp at hi; omega
      subst this
      simpa using hx

section
variable {P : Program} {c : Ctx} {ds : List Nat} {all : Array Oper} {l : List Oper} {k : List It} {e : Env} {H R : List HProp} {Q : Post}
variable {d : Nat} {ty : TypeId} {pos : String} {af : Array Edge} {gu : Option (Nat × Bool)}

theorem Ok.loadOld (W : World) {T : TypeId} {x : Operand} {a : Addr} {v : Value} [hc : TCell P T] [hs : SelH H (Old W) R] (hx : ev e x = some (.pointer (some a))) (hv : W.cell? a = some v) :
    Ok P e ⟨some d, .load T x, ty, pos, af, gu⟩ H v :=
  Ok.val (fun ρ hρ g w s => by
    have := Sat.oldCell s hv
    simp [execOp, hρ x _ hx, Instr.loadAt, Instr.sureAddr, loadVar, run_isAgg_cell hc, load, Sem.run, this])

/-- These cells stand from a on in W. -/
def CellsAt (W : World) (a : Addr) (vs : List Value) : Prop := ∀ j v, vs[j]? = some v → W.cell? (a.add j) = some v

theorem Ok.loadOldA (W : World) {T : TypeId} {x : Operand} {a : Addr} {n : Nat} {vs : List Value} [hc : TAgg P T n] [hs : SelH H (Old W) R] (hx : ev e x = some (.pointer (some a))) (hv : CellsAt W a vs) (hl : vs.length = n) :
    Ok P e ⟨some d, .load T x, ty, pos, af, gu⟩ H (.agg vs.toArray) :=
  Ok.val (fun ρ hρ g w s => by
    have := run_loadCells_list (P := P) w a vs (fun j v hj => Sat.oldCell s (hv j v hj))
    rw [hl] at this
    simp [execOp, hρ x _ hx, Instr.loadAt, Instr.sureAddr, loadVar, run_isAgg_agg hc, run_sizeOf_of hc.agg.1, this])

theorem Ok.indexOld {T : TypeId} {x y : Operand} {a : Addr} {len cap n bytes : Nat} {el : TypeId} {kk : IntKind} {i : Int} [ht : TSl P T el n bytes] (hx : ev e x = some (.slice (some a) len cap)) (hy : ev e y = some (.int kk i)) (h0 : 0 ≤ i ∧ i < (len : Int)) :
    Ok P e ⟨some d, .indexAddr T x y, ty, pos, af, gu⟩ H (.pointer (some (a.add (i.toNat * n)))) :=
  Ok.val (fun ρ hρ g w _ => by
    have hsz : (P.info? el).map (·.size) = some n := by
      have := ht.sl.2
      cases hi : P.info? el with
      | none => simp [hi] at this
      | some i => simp [hi] at this; simp [this.1]
    simp [execOp, hρ x _ hx, hρ y _ hy, Instr.indexAt, asIntOf, run_underlying_of ht.sl.1, h0, run_sizeOf_of hsz])
end

/-! ### Arguments made of numbers and truth values alone -/

inductive Sc
  | int (k : IntKind)
  | bool

def Sc.ok : Sc → Value → Prop
  | .int k, v => ∃ n, v = .int k n ∧ (Lit.int k n).wf = true
  | .bool, v => ∃ b, v = .bool b

def flatA (P : Program) : Nat → TypeId → Option (List (Nat × Sc))
  | 0, _ => none
  | n + 1, t => match P.underlying t with
    | some .bool => some [(0, .bool)]
    | some (.int k) => some [(0, .int k)]
    | some (.struct fs) => (fs.toList.mapM fun f => (flatA P n f.type).map fun l => l.map fun x => (f.offset + x.1, x.2)).map List.flatten
    | some (.array m el) => (flatA P n el).map fun l => (List.range m).flatMap fun i => l.map fun x => (i * P.cellsOf el + x.1, x.2)
    | _ => none

section
variable {T : Type} {enc : TypeId × Value → T} {P : Program} {w : World} {base : Nat} {spare : Nat → Bool} {held : Bool}

theorem seg_get {cs : List Value} {off n o : Nat} {v : Value} (h : ((cs.drop off).take n)[o]? = some v) : cs[off + o]? = some v := by
  rw [List.getElem?_take] at h
  split at h
  · rwa [List.getElem?_drop] at h
  · cases h

theorem flat_ok : ∀ (m : Nat) (fuel : Nat) (t : TypeId) (cs : List Value) (x : DataW T × List MemPlace) (l : List (Nat × Sc)), flatA P m t = some l → DataW.trod enc P w base spare held fuel t cs = some x →
    ∀ p ∈ l, ∃ v, cs[p.1]? = some v ∧ p.2.ok v
  | 0, _, _, _, _, _, h, _ => by simp [flatA] at h
  | m + 1, 0, _, _, _, _, _, h => by simp [DataW.trod] at h
  | m + 1, fuel + 1, t, cs, x, l, hf, ht => by
    unfold flatA at hf
    split at hf
    · rename_i hu
      cases hf
      unfold DataW.trod at ht
      rw [hu] at ht
      intro p hp
      simp only [List.mem_singleton] at hp; subst hp
      split at ht <;> simp_all [Sc.ok]
    · rename_i k hu
      cases hf
      unfold DataW.trod at ht
      rw [hu] at ht
      intro p hp
      simp only [List.mem_singleton] at hp; subst hp
      split at ht <;> simp_all [Sc.ok]
    · rename_i fs hu
      obtain ⟨xs, n, hn, _, _, hxl, hx⟩ := DataW.trod_struct hu ht
      cases hn
      cases hm : (fs.toList.mapM fun f => (flatA P m f.type).map fun l => l.map fun x => (f.offset + x.1, x.2)) with
      | none => simp [hm] at hf
      | some ls =>
        simp only [hm, Option.map_some, Option.some.injEq] at hf
        subst hf
        intro p hp
        obtain ⟨q, hq, hpq⟩ := List.mem_flatten.1 hp
        obtain ⟨i, hi, hiq⟩ := List.mem_iff_getElem.1 hq
        have hlen := mapM_some_length hm
        have hif : i < fs.size := by simpa [hlen] using hi
        have h1 := mapM_some_get hm i fs[i] (by simp [hif])
        rw [List.getElem?_eq_getElem hi, hiq] at h1
        cases hfl : flatA P m fs[i].type with
        | none => simp [hfl] at h1
        | some l2 =>
          simp only [hfl, Option.map_some, Option.some.injEq] at h1
          subst h1
          obtain ⟨r, hr, rfl⟩ := List.mem_map.1 hpq
          have h2 := hx i fs[i] (by simp [hif])
          have hxi : xs[i]? = some (xs[i]'(by omega)) := List.getElem?_eq_getElem (by omega)
          rw [hxi] at h2
          obtain ⟨v, hv, ho⟩ := flat_ok m fuel fs[i].type _ _ l2 hfl h2 r hr
          exact ⟨v, seg_get hv, ho⟩
    · rename_i cnt el hu
      obtain ⟨xs, n, hn, _, _, hxl, hx⟩ := DataW.trod_array hu ht
      cases hn
      cases hfl : flatA P m el with
      | none => simp [hfl] at hf
      | some l2 =>
        simp only [hfl, Option.map_some, Option.some.injEq] at hf
        subst hf
        intro p hp
        obtain ⟨i, hi, hpq⟩ := List.mem_flatMap.1 hp
        have hi : i < cnt := by simpa using hi
        obtain ⟨r, hr, rfl⟩ := List.mem_map.1 hpq
        have h2 := hx i hi
        have hxi : xs[i]? = some (xs[i]'(by omega)) := List.getElem?_eq_getElem (by omega)
        rw [hxi] at h2
        obtain ⟨v, hv, ho⟩ := flat_ok m fuel el _ _ l2 hfl h2 r hr
        exact ⟨v, seg_get hv, ho⟩
    · cases hf
end

theorem get_zip {cs ds : List Value} (hl : cs.length = ds.length) (h : ∀ j, j < ds.length → cs[j]? = ds[j]?) : cs = ds := by
  apply List.ext_getElem? 
  intro j
  by_cases hj : j < ds.length
  · exact h j hj
  · rw [List.getElem?_eq_none (by omega), List.getElem?_eq_none (by omega)]

/-- Of a slice argument: nothing, or its address, its length, and of each element its cells. -/
theorem open_list {T : Type} {enc : TypeId × Value → T} {P : Program} {w : World} {t el : TypeId} {n : Nat} {a : Option Addr} {len cap : Nat} {d : DataW T} {ps : List MemPlace} (ht : P.underlying t = some (.slice el)) (hn : P.cellsOf el = n)
    (h : DataW.Trod enc P w 0 (fun _ => true) true t (.slice a len cap) d ps) :
    (a = none ∧ len = 0 ∧ cap = 0) ∨ ∃ ad, a = some ad ∧ len ≤ cap ∧ cap ≤ maxLen ∧ ∀ i, i < cap → ∃ cs fuel x, cs.length = n ∧ CellsAt w (ad.add (i * n)) cs ∧ DataW.trod enc P w 0 (fun _ => true) true fuel el cs = some x := by
  obtain ⟨fuel, hf⟩ := h
  rcases Deep.open_slice ht hf with ⟨hcs, _⟩ | ⟨ad, len', cap', m, n', D, Pl, hcs, _, hl, hm, hmm, _, hi⟩
  · simp [Value.cells] at hcs
    exact .inl hcs
  · simp [Value.cells] at hcs
    obtain ⟨rfl, rfl, rfl⟩ := hcs
    refine .inr ⟨ad, rfl, hl, hm, fun i hic => ?_⟩
    simp only [if_true] at hmm
    subst hmm
    obtain ⟨cs, hc, ht'⟩ := hi i hic
    rw [hn] at hc
    obtain ⟨_, hcl, hat⟩ := World.cells?_some hc
    refine ⟨cs, n', _, hcl, fun j v hj => ?_, ht'⟩
    have hjn : j < n := by
      by_cases hh : j < n
      · exact hh
      · rw [List.getElem?_eq_none (by omega)] at hj; cases hj
    rw [hat j hjn]; exact hj

end Go.Am
