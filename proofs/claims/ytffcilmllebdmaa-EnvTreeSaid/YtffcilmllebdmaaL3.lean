/- For every script EnvTree answers true and leaves its argument as it was; without conditions. -/
import Derived.Test.YtffcilmllebdmaaRows
import Derived.Test.YtffcilmllebdmaaE26
import Derived.Test.YtffcilmllebdmaaO1
import Derived.Test.YtffcilmllebdmaaAmList2
import Derived.WalkKit
import Derived.ProofKit
import Derived.OpenShut
import Derived.ShutString
import Derived.ChangeOld
import Derived.Below
import Derived.SizedLaws
namespace Go.Proofs.Ytffcilmllebdmaa
open Go.ChangeShapes Go.WideShapes Go.ChangeAt Go.RowKit Go.Am
open Go.ChangeMaps (open_string shut_string)
set_option linter.unusedVariables false

open Go.Am in
theorem script_size {H : Type} {enc : TypeId × Value → H} {W : World} {a : Option Addr} {len cap : Nat} {d : DataW H} {ps : List MemPlace} {ts : List TypeId} {ds : List (DataW H)} (hsz : (DataW.weightsEach Try.prog (22 :: ts) (d :: ds)).all (· ≤ reachBytes) = true)
    (h : DataW.Trod enc Try.prog W 0 (fun _ => true) true 22 (.slice a len cap) d ps) : len + 1 < 9223372036854775808 := by
  rcases list_size Try.underlying22 h with h0 | ⟨elems, spare, rfl, h1, h2⟩
  · omega
  · have hb := sized_slice hsz (j := 0) (t := 22) rfl rfl Try.underlying22
    have hk : Try.prog.bytesOf 38 = 104 := by kernel_rfl
    have hr : reachBytes = 140737488351232 := by rfl
    rw [hk, hr] at hb
    omega

namespace envTree
theorem own : ownKnob Try.prog.godebug = none := by kernel_rfl
theorem laidOut : laidOutB Try.prog = true := by kernel_rfl
set_option maxRecDepth 100000 in
theorem lifted (os : Os) (started : os.Started) (H : Type) (enc : TypeId × Value → H) :
    ReturnsInHanded {} Try.checked os 7 .any (Rows.envTreeSpec.pre6 enc Try.prog Try.f7 Rows.envTreeRow.domain false) (Rows.envTreeSpec.post enc Try.prog Try.f7 false true false false) := by
  refine returnsInHanded_of_change_sized (C := Try.checked) own started (by kernel_rfl) Try.func7
    (ChangeSpec.witness6 (enc := enc) (C := Try.checked) false ⟨#[], #[.slice none 0 0], []⟩ 8 (by kernel_rfl) (by kernel_rfl) (by kernel_rfl) (by kernel_rfl)) ?_
  intro W base args ds gs before hval0 hW hcnd hsz0 _
  have hsz : (DataW.weightsEach Try.prog (Try.f7.params.toList ++ Rows.envTreeSpec.plain.varTypes Try.prog) (ds ++ gs)).all (· ≤ reachBytes) = true := hsz0
  have hval : ∀ (j : Nat) t v, Try.f7.params[j]? = some t → args[j]? = some v → Value.okWide Try.prog W .any base t v := hval0
  have hW' := hW
  obtain ⟨p, q, hA0, hV, rfl, hfz, hnd⟩ := hW
  have hA : DataW.TrodAll enc Try.prog W 0 (fun _ => true) true Try.f7.params.toList args.toList ds p := hA0
  rw [Try.params7] at hA hval hsz
  obtain ⟨v0, vs0, d0, ds0, p0, q0, hargs, rfl, rfl, h0, r0⟩ := trodAll_cons hA
  obtain ⟨rfl, rfl, rfl⟩ := trodAll_nil r0
  obtain rfl : args = #[v0] := by cases args; simp_all
  obtain ⟨rfl, rfl⟩ := trodVars_none hV
  have lt0 : ∀ x ∈ p0, x.block < W.heap.size := by obtain ⟨m, hm⟩ := h0; exact DataW.trod_lt m _ _ _ hm
  have k0 := h0
  obtain ⟨a0, len0, cap0, rfl⟩ := okWide_slice Try.underlying22 (hval 0 22 v0 rfl rfl)
  obtain ⟨ops, rfl, hops, hlen⟩ := script_open h0
  have hlen2 := script_size hsz h0
  clear hA0 hval0 hsz0
  refine ((EnvTree_ok W a0 cap0 ops hops hlen hlen2) _ W (Sat.start W)).mono fun e W' ⟨v, he, H', ⟨hv, hH⟩, bel⟩ => ?_
  subst he hv hH
  exact ⟨_, rfl, _, _, _, [], _, [], hW', trodAll_mk1 (shut_bool Try.underlying4 _), (trodAll_cons_mk (Sat.trod laidOut (by kernel_rfl) (of_decide_eq_true (by kernel_rfl)) k0 bel lt0) trodAll_mk0), rfl, bel.kept _, fun h => by cases h⟩
theorem over : Rows.envTreeRow.holds Try.pinned (OpenSpec.ofChange Rows.envTreeSpec) :=
  OpenClaim.holds_of_wide 7 Try.f7 rfl rfl rfl rfl rfl rfl rfl ⟨rfl, rfl, rfl, rfl, rfl⟩ rfl rfl rfl rfl rfl (by kernel_rfl) Try.func7 (by kernel_rfl)
    (of_decide_eq_true (by kernel_rfl)) (by unfold Func.isWrapper; first | (rw [if_pos (by decide +kernel)]; kernel_rfl) | (rw [if_neg (by decide +kernel)]; exact ⟨rfl, rfl⟩))
    (fun os started H enc _ => lifted os started H enc)
end envTree
/-- The row, under a short name, for the claim. -/
theorem envTree_holds : Rows.EnvTreeSaid := envTree.over
#print axioms envTree_holds
end Go.Proofs.Ytffcilmllebdmaa
