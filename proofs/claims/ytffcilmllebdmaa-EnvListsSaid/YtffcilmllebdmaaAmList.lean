/- Slices of the call's own: made by literals, make and append. -/
import Derived.Test.YtffcilmllebdmaaAmRep
namespace Go.Am

/-- v is a slice of len elements of n cells each, whose cells are cs; its whole array is the holder's own. -/
def OwnS (el : TypeId) (n : Nat) (v : Value) (len : Nat) (cs : List Value) : HProp :=
  Pk (fun x : Option (Nat × Nat × List Value) => match x with
      | none => v = .slice none 0 0 ∧ len = 0 ∧ cs = []
      | some (b, cap, sp) => v = .slice (some ⟨b, 0, none⟩) len cap ∧ len ≤ cap ∧ cs.length = len * n ∧ (cs ++ sp).length = cap * n)
    (fun x => match x with
      | none => []
      | some (b, _, sp) => [cb b (cs ++ sp) el])

theorem OwnS.nil (el : TypeId) (n : Nat) {H : List HProp} {g : Fr} {w : World} (s : Sat H g w) : Sat (OwnS el n (.slice none 0 0) 0 [] :: H) g w :=
  Pk.close (p := _) (l := _) none ⟨rfl, rfl, rfl⟩ s

theorem OwnS.open {el : TypeId} {n : Nat} {v : Value} {len : Nat} {cs : List Value} {H : List HProp} {g : Fr} {w : World} (s : Sat (OwnS el n v len cs :: H) g w) :
    (v = .slice none 0 0 ∧ len = 0 ∧ cs = [] ∧ Sat H g w) ∨ ∃ b cap sp, v = .slice (some ⟨b, 0, none⟩) len cap ∧ len ≤ cap ∧ cs.length = len * n ∧ (cs ++ sp).length = cap * n ∧ Sat (cb b (cs ++ sp) el :: H) g w := by
  obtain ⟨x, hx, s⟩ := Pk.open s
  rcases x with _ | ⟨b, cap, sp⟩
  · exact .inl ⟨hx.1, hx.2.1, hx.2.2, s⟩
  · exact .inr ⟨b, cap, sp, hx.1, hx.2.1, hx.2.2.1, hx.2.2.2, s⟩

theorem OwnS.close {el : TypeId} {n len cap b : Nat} {cs sp : List Value} {H : List HProp} {g : Fr} {w : World} (h1 : len ≤ cap) (h2 : cs.length = len * n) (h3 : (cs ++ sp).length = cap * n) (s : Sat (cb b (cs ++ sp) el :: H) g w) :
    Sat (OwnS el n (.slice (some ⟨b, 0, none⟩) len cap) len cs :: H) g w :=
  Pk.close (p := _) (l := _) (some (b, cap, sp)) ⟨rfl, h1, h2, h3⟩ s

theorem OwnS.len {el : TypeId} {n : Nat} {v : Value} {len : Nat} {cs : List Value} {H : List HProp} {g : Fr} {w : World} (s : Sat (OwnS el n v len cs :: H) g w) : cs.length = len * n ∧ ∃ a cap, v = .slice a len cap := by
  rcases OwnS.open s with ⟨rfl, rfl, rfl, _⟩ | ⟨b, cap, sp, rfl, _, h, _⟩
  · exact ⟨by simp, none, 0, rfl⟩
  · exact ⟨h, _, cap, rfl⟩

section
variable {P : Program} {c : Ctx} {ds : List Nat} {all : Array Oper} {l : List Oper} {k : List It} {e : Env} {H : List HProp} {Q : Post}
variable {d : Nat} {ty : TypeId} {pos : String} {af : Array Edge} {gu : Option (Nat × Bool)}

/-- A literal slice of one element of one cell. -/
theorem R.bs1 {T el : TypeId} {bytes : Nat} {x : Operand} {v z : Value} [ht : TSl P T el 1 bytes] [hz : TZero P el z] (hzs : z.cells.size = 1) (hx : ev e x = some v) (hv : v.cells = #[v]) (hd : Nat.blt d c.n = true)
    (h : ∀ b, G P c ds (.ops all l :: k) ((d, .slice (some ⟨b, 0, none⟩) 1 1) :: e) (cb b [v] el :: H) Q) : GR P c ds all ⟨some d, .buildSlice T 1 #[(0, x)], ty, pos, af, gu⟩ l k e H Q := by
  refine GR.mk (f := fun b => .slice (some ⟨b, 0, none⟩) 1 1) (ob := .cells [v].toArray el) rfl hd (fun ρ hρ g w _ => ?_) h
  have hsz : (P.info? el).map (·.size) = some 1 := by
    have := ht.sl.2
    cases hi : P.info? el with
    | none => simp [hi] at this
    | some i => simp [hi] at this; simp [this.1]
  simp [execOp, hρ x _ hx, Instr.buildSlice, run_underlying_of ht.sl.1, run_sizeOf_of hsz, run_zeroValue_of hz, Instr.fill, hv, hzs, newRow, newObj, Sem.run, Array.range_succ, Array.range_zero']

/-- A literal slice, told whole. -/
theorem R.buildSlice {T el : TypeId} {m : Nat} {parts : Array (Nat × Operand)} {pv : List (Nat × Value)} {cs : List Value} (hp : evList e (parts.toList.map (·.2)) = some (pv.map (·.2))) (hi : parts.toList.map (·.1) = pv.map (·.1))
    (hb : ∀ w, (Instr.buildSlice T m pv.toArray).run P w = .ok (.slice (some ⟨w.heap.size, 0, none⟩) m m) { w with heap := w.heap.push (.cells cs.toArray el) }) (hd : Nat.blt d c.n = true)
    (h : ∀ b, G P c ds (.ops all l :: k) ((d, .slice (some ⟨b, 0, none⟩) m m) :: e) (cb b cs el :: H) Q) :
    GR P c ds all ⟨some d, .buildSlice T m parts, ty, pos, af, gu⟩ l k e H Q :=
  GR.mk (f := fun b => .slice (some ⟨b, 0, none⟩) m m) (ob := .cells cs.toArray el) rfl hd (fun ρ hρ g w _ => by
    have : (parts.map fun (i, x) => (i, ρ x)) = pv.toArray := by
      have h1 := hρ.list hp
      obtain ⟨pl, rfl⟩ : ∃ pl, parts = List.toArray pl := ⟨parts.toList, by simp⟩
      simp only [List.map_toArray] at *
      congr 1
      clear hb hp
      induction pl generalizing pv with
      | nil => cases pv <;> simp_all
      | cons p pl ih =>
        cases pv with
        | nil => simp at hi
        | cons q pv =>
          simp only [List.map_cons, List.cons.injEq, List.map_map] at *
          refine ⟨Prod.ext hi.1 h1.1, ih hi.2 ?_⟩
          simpa using h1.2
    simp [execOp, this, hb w]) h

theorem growBy_le (newLen : Nat) : ∀ (r c B : Nat), c ≤ B → newLen + (newLen + 768) / 4 ≤ B → Builtin.growBy newLen r c ≤ B
  | 0, _, _, h, _ => h
  | r + 1, c, B, h, hB => by
    unfold Builtin.growBy
    split
    · exact h
    · exact growBy_le newLen r _ B (by omega) hB

theorem nextcap_le (need cap : Nat) (h : cap < need) : Builtin.nextslicecap need cap ≤ 2 * need + 192 := by
  unfold Builtin.nextslicecap
  split
  · omega
  · split
    · omega
    · exact growBy_le need 4 cap _ (by omega) (by omega)

theorem zeroCells_size (zero : Array Value) (n : Nat) : (Builtin.zeroCells zero n).size = n * zero.size := by simp [Builtin.zeroCells]

theorem TSl.info {T el : TypeId} {n bytes : Nat} (ht : TSl P T el n bytes) : ∃ i, P.info? el = some i ∧ i.size = n ∧ i.bytes = bytes := by
  have := ht.sl.2
  cases hi : P.info? el with
  | none => simp [hi] at this
  | some i => simp [hi] at this; exact ⟨i, rfl, this.1, this.2⟩

theorem run_askRoom (n : Nat) (w : World) : (askRoom n).run P w = .ok () w := by
  unfold askRoom; split <;> rfl

theorem run_loadCells_seg {b o k : Nat} {ls vs : List Value} {T : TypeId} {f : Nat × Nat} {w : World} (hh : w.heap[b]? = some (.cells ls.toArray T f)) (hv : (ls.drop o).take k = vs) (hn : o + k ≤ ls.length) : (loadCells ⟨b, o, none⟩ k).run P w = .ok vs.toArray w := by
  have hl : vs.length = k := by subst hv; simp; omega
  have := run_loadCells_list (P := P) w ⟨b, o, none⟩ vs (fun j v hj => by
    rw [Addr.add_lit]
    have hjn : j < k := by
      by_cases hh : j < k
      · exact hh
      · rw [List.getElem?_eq_none (by omega)] at hj; cases hj
    subst hv
    rw [List.getElem?_take, List.getElem?_drop] at hj
    simp only [hjn, if_true] at hj
    simp [World.cell?, hh, hj])
  rwa [hl] at this

/-- append, onto a slice of the call's own. -/
theorem run_append {T T2 el : TypeId} {n bytes : Nat} {z : Value} {a : Option Addr} {len cap m : Nat} {a2 : Option Addr} {cap2 : Nat} {cs news : List Value} {g : Fr} {w : World} {R : List HProp} {ty : TypeId}
    (ht : TSl P T el n bytes) (ht2 : TSl P T2 el n bytes) (hz : TZero P el z) (hzs : z.cells.size = n) (s : Sat (OwnS el n (.slice a len cap) len cs :: R) g w)
    (hload : ∀ W : World, W.heap = w.heap → (Builtin.firstCells n m (.slice a2 m cap2)).run P W = .ok news.toArray W)
    (hnl : news.length = m * n) (hpl : plainCells news = true) (hbound : (2 * (len + m) + 192) * bytes ≤ 2 ^ 48) (hbd2 : len + m < 2 ^ 62) (hb0 : 0 < bytes) :
    ∃ a' cap' w', (Builtin.append_ #[T, T2] ty #[.slice a len cap, .slice a2 m cap2]).run P w = .ok (.slice a' (len + m) cap') w' ∧ Sat (OwnS el n (.slice a' (len + m) cap') (len + m) (cs ++ news) :: R) g w' := by
  obtain ⟨inf, hi, hi1, hi2⟩ := ht.info
  have hsz : (P.info? el).map (·.size) = some n := by simp [hi, hi1]
  have e0 : (sizeOf el).run P w = .ok n w := run_sizeOf_of hsz
  have hcl := OwnS.len s
  by_cases hroom : len + m ≤ cap
  · -- there is room
    have hrun : ∀ w', (∀ ad, a = some ad → (storeCells (ad.add (len * n)) news).run P w = .ok () w') → (a = none → w' = w) →
        (Builtin.append_ #[T, T2] ty #[.slice a len cap, .slice a2 m cap2]).run P w = .ok (.slice a (len + m) cap) w' := by
      intro w' h1 h2
      have hl := hload w rfl
      cases a with
      | none => cases h2 rfl; simp [Builtin.append_, run_underlying_of ht.sl.1, run_underlying_of ht2.sl.1, e0, Builtin.lenOf, hroom, hl]
      | some ad => simp [Builtin.append_, run_underlying_of ht.sl.1, run_underlying_of ht2.sl.1, e0, Builtin.lenOf, hroom, hl, h1 ad rfl]
    rcases OwnS.open s with ⟨e1, e2, e3, s1⟩ | ⟨b, cap', sp, e1, e2, e3, e4, s1⟩
    · simp only [Value.slice.injEq] at e1
      obtain ⟨rfl, _, rfl⟩ := e1
      have hm : m = 0 := by omega
      refine ⟨none, 0, w, hrun w (fun _ h => by cases h) (fun _ => rfl), ?_⟩
      have : news = [] := by cases news <;> simp_all
      subst e2 e3 this hm
      exact OwnS.nil el n s1
    · simp only [Value.slice.injEq] at e1
      obtain ⟨rfl, _, rfl⟩ := e1
      have hh := s1.heap
      have hlen : (cs ++ sp).length = cs.length + sp.length := List.length_append
      have hmn : (len + m) * n ≤ cap * n := Nat.mul_le_mul_right n hroom
      have hmn2 : (len + m) * n = len * n + m * n := Nat.add_mul _ _ _
      have hst := run_storeCells_at (P := P) b (len * n) el news 0 (cs ++ sp).toArray w hh (by simp; omega) (plainCells_one hpl)
      simp only [Nat.add_zero] at hst
      refine ⟨some ⟨b, 0, none⟩, cap, _, hrun _ (fun ad h => by cases h; rw [Addr.add_lit, Nat.zero_add]; exact hst) (fun h => by cases h), ?_⟩
      have hrow := (SelC.here R b (cs ++ sp) el).row s1 (cs ++ news ++ sp.drop (m * n))
      have e5 : (List.take (len * n) (cs ++ sp).toArray.toList ++ news ++ List.drop (len * n + news.length) (cs ++ sp).toArray.toList) = cs ++ news ++ sp.drop (m * n) := by
        have h1 : List.take (len * n) (cs ++ sp) = cs := by rw [← e3]; simp
        have h2 : List.drop (len * n + news.length) (cs ++ sp) = sp.drop (m * n) := by rw [← e3, hnl, List.drop_append]; simp
        show List.take (len * n) (cs ++ sp) ++ news ++ List.drop (len * n + news.length) (cs ++ sp) = _
        rw [h1, h2]
      rw [e5]
      exact OwnS.close hroom (by rw [List.length_append, e3, hnl, hmn2]) (by simp only [List.length_append, List.length_drop]; omega) hrow
  · -- there is none: a new array
    have hcap := nextcap_le (len + m) cap (by omega)
    have hnb : ¬ (Builtin.nextslicecap (len + m) cap * bytes > 2 ^ 48) := by
      have := Nat.mul_le_mul_right bytes hcap
      omega
    obtain ⟨nc, hncd⟩ : ∃ nc, nc = (Question.appendCap (len + m) cap el).cut (w.tape w.drawn (Question.appendCap (len + m) cap el)) := ⟨_, rfl⟩
    have hnc : len + m ≤ nc := by rw [hncd]; simp [Question.cut]
    obtain ⟨w1, hw1d⟩ : ∃ w1, w1 = w.drew := ⟨_, rfl⟩
    have hw1 : w1.heap = w.heap := by rw [hw1d]; rfl
    have hfo : (Question.appendCap (len + m) cap el).forced = false := rfl
    have hl1 := hload w1 hw1
    have hold : (Builtin.firstCells n len (.slice a len cap)).run P w1 = .ok cs.toArray w1 := by
      rcases OwnS.open s with ⟨e1, e2, e3, s1⟩ | ⟨b, cap', sp, e1, e2, e3, e4, s1⟩
      · simp only [Value.slice.injEq] at e1
        obtain ⟨rfl, _, rfl⟩ := e1
        subst e3; simp [Builtin.firstCells]
      · simp only [Value.slice.injEq] at e1
        obtain ⟨rfl, _, rfl⟩ := e1
        have hh := s1.heap
        rw [← hw1] at hh
        simp only [Builtin.firstCells]
        exact run_loadCells_seg hh (by rw [List.drop_zero, ← e3]; simp) (by simp; omega)
    have hzero : (zeroValue el).run P w1 = .ok z w1 := run_zeroValue_of hz
    have hinf : ∀ W, (typeInfo el).run P W = .ok inf W := fun W => run_typeInfo_of hi
    have hb0' : ¬ (bytes = 0) := by omega
    have hnil : ¬ ((len : Int) + m > 9223372036854775807 ∧ bytes = 0) := fun h => hb0' h.2
    refine ⟨some ⟨w1.heap.size, 0, none⟩, nc, { w1 with heap := w1.heap.push (.cells (cs.toArray ++ news.toArray ++ Builtin.zeroCells z.cells (nc - (len + m))) el) }, ?_, ?_⟩
    · simp [Builtin.append_, run_underlying_of ht.sl.1, run_underlying_of ht2.sl.1, e0, Builtin.lenOf, hroom, hinf, hi2, hb0', hnb, hfo, ← hncd, ← hw1d, hold, hl1, hzero, newRow, newObj, Sem.run]
      congr 2
      apply Array.ext'
      simp
    · have s2 : Sat R g w1 := s.tail.of_heap hw1 (by rw [hw1d]; rfl) (by rw [hw1d]; rfl)
      have s3 := s2.new (.cells (cs ++ news ++ (Builtin.zeroCells z.cells (nc - (len + m))).toList).toArray el)
      have e6 : (cs ++ news ++ (Builtin.zeroCells z.cells (nc - (len + m))).toList).toArray = cs.toArray ++ news.toArray ++ Builtin.zeroCells z.cells (nc - (len + m)) := by
        apply Array.ext'; simp
      have hzl : (Builtin.zeroCells z.cells (nc - (len + m))).toList.length = (nc - (len + m)) * n := by rw [Array.length_toList, zeroCells_size, hzs]
      have hnn : nc * n = (len + m) * n + (nc - (len + m)) * n := by rw [← Nat.add_mul]; congr 1; omega
      have hmn2 : (len + m) * n = len * n + m * n := Nat.add_mul _ _ _
      refine OwnS.close (sp := (Builtin.zeroCells z.cells (nc - (len + m))).toList) hnc (by rw [List.length_append, hcl.1, hnl, hmn2]) (by rw [List.length_append, List.length_append, hcl.1, hnl, hzl, hnn, hmn2]) ?_
      rw [← e6]
      exact s3

/-- append of a slice whose cells lie in a block that is held. -/
theorem R.append {T el : TypeId} {n bytes : Nat} {z : Value} {x y : Operand} {a : Option Addr} {len cap m b2 o2 cap2 : Nat} {cs ls news : List Value} {T' : TypeId} {u : List Value → List HProp} {R : List HProp} [ht : TSl P T el n bytes] [hz : TZero P el z]
    (hx : ev e x = some (.slice a len cap)) (hy : ev e y = some (.slice (some ⟨b2, o2, none⟩) m cap2)) [hsel : SelH H (OwnS el n (.slice a len cap) len cs) R] [hs : SelC R b2 ls T' u] (hnews : (ls.drop o2).take (m * n) = news) (hle : o2 + m * n ≤ ls.length)
    (hzs : z.cells.size = n) (hpl : plainCells news = true) (hbound : (2 * (len + m) + 192) * bytes ≤ 2 ^ 48) (hbd2 : len + m < 2 ^ 62) (hb0 : 0 < bytes) (hd : Nat.blt d c.n = true)
    (h : ∀ a' cap', G P c ds (.ops all l :: k) ((d, .slice a' (len + m) cap') :: e) (OwnS el n (.slice a' (len + m) cap') (len + m) (cs ++ news) :: R) Q) :
    GR P c ds all ⟨some d, .call ⟨.builtin .append, #[x, y], #[T, T]⟩, ty, pos, af, gu⟩ l k e H Q := by
  refine GR.op (Qo := fun v H' => ∃ a' cap', v = .slice a' (len + m) cap' ∧ H' = OwnS el n (.slice a' (len + m) cap') (len + m) (cs ++ news) :: R) rfl hd (fun ρ hρ g w s => ?_) (by rintro v _ ⟨a', cap', rfl, rfl⟩; exact h a' cap')
  have s1 := s.perm hsel.sel
  have hh := hs.heap s1.tail
  have hl : news.length = m * n := by subst hnews; simp; omega
  obtain ⟨a', cap', w', hr, s2⟩ := run_append (ty := ty) ht ht hz hzs s1 (a2 := some ⟨b2, o2, none⟩) (cap2 := cap2) (m := m) (news := news) (fun W hW => by
    simp only [Builtin.firstCells]
    exact run_loadCells_seg (by rw [hW]; exact hh) hnews hle) hl hpl hbound hbd2 hb0
  have : (execOp ρ ⟨some d, .call ⟨.builtin .append, #[x, y], #[T, T]⟩, ty, pos, af, gu⟩).run P w = .ok (.value (.slice a' (len + m) cap')) w' := by
    simp [execOp, resolve, invoke, builtin, hρ x _ hx, hρ y _ hy, hr]
  rw [this]
  exact ⟨_, ⟨a', cap', rfl, rfl⟩, s2⟩


/-- Block b is taken out of what is held. -/
class DelC (H : List HProp) (b : Nat) (l : outParam (List Value)) (T : outParam TypeId) (R : outParam (List HProp)) : Prop where
  del : H.Perm (cb b l T :: R)
instance DelC.here (H : List HProp) (b : Nat) (l : List Value) (T : TypeId) : DelC (cb b l T :: H) b l T H := ⟨.refl _⟩
instance (priority := low) DelC.there (H : List HProp) (x : HProp) (b : Nat) (l : List Value) (T : TypeId) (R : List HProp) [h : DelC H b l T R] : DelC (x :: H) b l T (x :: R) :=
  ⟨(List.Perm.cons x h.del).trans (.swap _ _ _)⟩
/-- The slice v is taken out of what is held. -/
class DelS (H : List HProp) (v : Value) (el : outParam TypeId) (n len : outParam Nat) (cs : outParam (List Value)) (R : outParam (List HProp)) : Prop where
  del : H.Perm (OwnS el n v len cs :: R)
instance DelS.here (H : List HProp) (v : Value) (el : TypeId) (n len : Nat) (cs : List Value) : DelS (OwnS el n v len cs :: H) v el n len cs H := ⟨.refl _⟩
instance (priority := low) DelS.there (H : List HProp) (x : HProp) (v : Value) (el : TypeId) (n len : Nat) (cs : List Value) (R : List HProp) [h : DelS H v el n len cs R] : DelS (x :: H) v el n len cs (x :: R) :=
  ⟨(List.Perm.cons x h.del).trans (.swap _ _ _)⟩

/-- All but L is let go. -/
theorem G.keep {todo : List It} (L : List HProp) {R : List HProp} [h : Takes L H R] (k : G P c ds todo e L Q) : G P c ds todo e H Q :=
  k.conv fun _ _ s => (s.perm h.takes).drop

end
end Go.Am
