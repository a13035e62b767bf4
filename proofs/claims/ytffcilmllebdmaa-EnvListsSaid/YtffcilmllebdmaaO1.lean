/- Scripts and quotas that come in, read as data. -/
import Derived.Test.YtffcilmllebdmaaE21
import Derived.WalkKit
import Derived.ProofKit
import Derived.OpenShut
namespace Go.Proofs.Ytffcilmllebdmaa
open Go.ChangeShapes Go.WideShapes Go.ChangeAt Go.RowKit Go.Am
set_option linter.unusedVariables false

theorem op_of {cs : List Value} (hl : cs.length = 18) (hf : ∀ p ∈ ([(0, .int .i64), (1, .int .i64), (2, .int .i64), (3, .int .i64), (4, .int .i64), (5, .int .i64), (6, .int .i64), (7, .int .i64), (8, .int .u32), (9, .int .u32), (10, .int .u32), (11, .int .u32), (12, .int .u32), (13, .int .u32), (14, .int .u32), (15, .int .u32), (16, .int .u32), (17, .bool)] : List (Nat × Sc)), ∃ v, cs[p.1]? = some v ∧ p.2.ok v) : ∃ o : Op, cs = opCells o := by
  match cs, hl, hf with
  | [c0, c1, c2, c3, c4, c5, c6, c7, c8, c9, c10, c11, c12, c13, c14, c15, c16, c17], _, hf =>
    obtain ⟨x0, g0, n0, rfl, w0⟩ := hf (0, .int .i64) (by simp)
    simp only [List.getElem?_cons_zero, List.getElem?_cons_succ, Option.some.injEq] at g0
    subst g0
    obtain ⟨x1, g1, n1, rfl, w1⟩ := hf (1, .int .i64) (by simp)
    simp only [List.getElem?_cons_zero, List.getElem?_cons_succ, Option.some.injEq] at g1
    subst g1
    obtain ⟨x2, g2, n2, rfl, w2⟩ := hf (2, .int .i64) (by simp)
    simp only [List.getElem?_cons_zero, List.getElem?_cons_succ, Option.some.injEq] at g2
    subst g2
    obtain ⟨x3, g3, n3, rfl, w3⟩ := hf (3, .int .i64) (by simp)
    simp only [List.getElem?_cons_zero, List.getElem?_cons_succ, Option.some.injEq] at g3
    subst g3
    obtain ⟨x4, g4, n4, rfl, w4⟩ := hf (4, .int .i64) (by simp)
    simp only [List.getElem?_cons_zero, List.getElem?_cons_succ, Option.some.injEq] at g4
    subst g4
    obtain ⟨x5, g5, n5, rfl, w5⟩ := hf (5, .int .i64) (by simp)
    simp only [List.getElem?_cons_zero, List.getElem?_cons_succ, Option.some.injEq] at g5
    subst g5
    obtain ⟨x6, g6, n6, rfl, w6⟩ := hf (6, .int .i64) (by simp)
    simp only [List.getElem?_cons_zero, List.getElem?_cons_succ, Option.some.injEq] at g6
    subst g6
    obtain ⟨x7, g7, n7, rfl, w7⟩ := hf (7, .int .i64) (by simp)
    simp only [List.getElem?_cons_zero, List.getElem?_cons_succ, Option.some.injEq] at g7
    subst g7
    obtain ⟨x8, g8, n8, rfl, w8⟩ := hf (8, .int .u32) (by simp)
    simp only [List.getElem?_cons_zero, List.getElem?_cons_succ, Option.some.injEq] at g8
    subst g8
    obtain ⟨x9, g9, n9, rfl, w9⟩ := hf (9, .int .u32) (by simp)
    simp only [List.getElem?_cons_zero, List.getElem?_cons_succ, Option.some.injEq] at g9
    subst g9
    obtain ⟨x10, g10, n10, rfl, w10⟩ := hf (10, .int .u32) (by simp)
    simp only [List.getElem?_cons_zero, List.getElem?_cons_succ, Option.some.injEq] at g10
    subst g10
    obtain ⟨x11, g11, n11, rfl, w11⟩ := hf (11, .int .u32) (by simp)
    simp only [List.getElem?_cons_zero, List.getElem?_cons_succ, Option.some.injEq] at g11
    subst g11
    obtain ⟨x12, g12, n12, rfl, w12⟩ := hf (12, .int .u32) (by simp)
    simp only [List.getElem?_cons_zero, List.getElem?_cons_succ, Option.some.injEq] at g12
    subst g12
    obtain ⟨x13, g13, n13, rfl, w13⟩ := hf (13, .int .u32) (by simp)
    simp only [List.getElem?_cons_zero, List.getElem?_cons_succ, Option.some.injEq] at g13
    subst g13
    obtain ⟨x14, g14, n14, rfl, w14⟩ := hf (14, .int .u32) (by simp)
    simp only [List.getElem?_cons_zero, List.getElem?_cons_succ, Option.some.injEq] at g14
    subst g14
    obtain ⟨x15, g15, n15, rfl, w15⟩ := hf (15, .int .u32) (by simp)
    simp only [List.getElem?_cons_zero, List.getElem?_cons_succ, Option.some.injEq] at g15
    subst g15
    obtain ⟨x16, g16, n16, rfl, w16⟩ := hf (16, .int .u32) (by simp)
    simp only [List.getElem?_cons_zero, List.getElem?_cons_succ, Option.some.injEq] at g16
    subst g16
    obtain ⟨x17, g17, n17, rfl⟩ := hf (17, .bool) (by simp)
    simp only [List.getElem?_cons_zero, List.getElem?_cons_succ, Option.some.injEq] at g17
    subst g17
    exact ⟨⟨n0, n1, n2, n3, n4, ⟨n5, n6, n7⟩, ⟨n8, n9, n10, n11, n12, n13, n14, n15, n16⟩, n17⟩, rfl⟩

/-- A script that came in. -/
theorem script_open {H : Type} {enc : TypeId × Value → H} {W : World} {a : Option Addr} {len cap : Nat} {d : DataW H} {ps : List MemPlace} (h : DataW.Trod enc Try.prog W 0 (fun _ => true) true 22 (.slice a len cap) d ps) :
    ∃ ops : List Op, ops.length = len ∧ ScriptAt W a ops ∧ len < 9223372036854775808 := by
  rcases open_list (n := 18) Try.underlying22 (by kernel_rfl) h with ⟨rfl, rfl, rfl⟩ | ⟨ad, rfl, hlc, hcap, hi⟩
  · exact ⟨[], rfl, fun i h => by simp at h, by omega⟩
  · obtain ⟨ops, hl, ho⟩ := list_of_lt (α := Op) len (p := fun i o => CellsAt W (ad.add (i * 18)) (opCells o)) fun i hil => by
      obtain ⟨cs, fuel, x, hcl, hat, ht⟩ := hi i (by omega)
      have hf := flat_ok 8 fuel 38 cs x _ (TFlat.flat (P := Try.prog) (t := 38)).1 ht
      obtain ⟨o, rfl⟩ := op_of hcl hf
      exact ⟨o, hat⟩
    refine ⟨ops, hl, fun i h => ⟨ad, rfl, ho i h⟩, ?_⟩
    have : maxLen < 9223372036854775808 := by unfold maxLen; omega
    omega


theorem in64_of {n : Int} (h : (Lit.int .i64 n).wf = true) : in64 n := by
  have := bounds_i64 h
  exact ⟨by omega, by omega⟩

theorem quota_open {H : Type} {enc : TypeId × Value → H} {W : World} {cs : Array Value} {d : DataW H} {ps : List MemPlace} (hsz : cs.size = 3) (h : DataW.Trod enc Try.prog W 0 (fun _ => true) true 32 (.agg cs) d ps) :
    ∃ q : Qt, Value.agg cs = qtVal q ∧ q.in64 := by
  obtain ⟨fuel, hf⟩ := h
  have hf := flat_ok 8 fuel 32 cs.toList _ _ (TFlat.flat (P := Try.prog) (t := 32)).1 hf
  obtain ⟨l⟩ := cs
  simp only [List.size_toArray] at hsz
  match l, hsz, hf with
  | [c0, c1, c2], _, hf =>
    obtain ⟨x0, g0, n0, rfl, w0⟩ := hf (0, .int .i64) (by simp)
    obtain ⟨x1, g1, n1, rfl, w1⟩ := hf (1, .int .i64) (by simp)
    obtain ⟨x2, g2, n2, rfl, w2⟩ := hf (2, .int .i64) (by simp)
    simp only [List.getElem?_cons_zero, List.getElem?_cons_succ, Option.some.injEq] at g0 g1 g2
    subst g0 g1 g2
    exact ⟨⟨n0, n1, n2⟩, rfl, in64_of w0, in64_of w1, in64_of w2⟩
end Go.Proofs.Ytffcilmllebdmaa
