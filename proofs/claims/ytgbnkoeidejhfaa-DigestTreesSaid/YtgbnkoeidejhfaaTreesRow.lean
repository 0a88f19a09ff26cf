/- Roots and paths are the document's; a text climbs by its path to the root (the law DigestTrees answers true at every input). -/
import Derived.Test.YtgbnkoeidejhfaaRows
import Derived.Test.YtgbnkoeidejhfaaTrees
import Derived.Test.YtgbnkoeidejhfaaArgs
import Derived.WalkKit
import Derived.ProofKit
import Derived.OpenShut
import Derived.ShutString
import Derived.ChangeOld
import Derived.Below
import Derived.SizedLaws
namespace Go.Proofs.Ytgbnkoeidejhfaa.digestTrees
open Go.ChangeShapes Go.WideShapes Go.ChangeAt Go.RowKit
theorem own : ownKnob Try.prog.godebug = none := by kernel_rfl
theorem laidOut : laidOutB Try.prog = true := by kernel_rfl
set_option maxRecDepth 100000 in
theorem lifted (os : Os) (started : os.Started) (H : Type) (enc : TypeId × Value → H) :
    ReturnsInHanded {} Try.checked os 8 .any (Rows.digestTreesSpec.pre6 enc Try.prog Try.f8 Rows.digestTreesRow.domain false) (Rows.digestTreesSpec.post enc Try.prog Try.f8 false true false false) := by
  refine returnsInHanded_of_change_sized (C := Try.checked) own started (by kernel_rfl) Try.func8
    (ChangeSpec.witness6 (enc := enc) (C := Try.checked) false ⟨#[], #[.slice none 0 0, .int .i64 0], []⟩ 8 (by kernel_rfl) (by kernel_rfl) (by kernel_rfl) (by kernel_rfl)) ?_
  intro W base args ds gs before hval0 hW hcnd hsz0 _
  have hval : ∀ (j : Nat) t v, Try.f8.params[j]? = some t → args[j]? = some v → Value.okWide Try.prog W .any base t v := hval0
  have hW' := hW
  obtain ⟨p, q, hA0, hV, rfl, hfz, hnd⟩ := hW
  obtain ⟨rfl, rfl⟩ := trodVars_none hV
  have hA : DataW.TrodAll enc Try.prog W 0 (fun _ => true) true Try.f8.params.toList args.toList ds p := hA0
  rw [Try.params8] at hA hval
  obtain ⟨v0, vs0, d0, ds0, p0, q0, hargs, rfl, rfl, h0, r0⟩ := trodAll_cons hA
  obtain ⟨v1, vs1, d1, ds1, p1, q1, rfl, rfl, rfl, h1, r1⟩ := trodAll_cons r0
  obtain ⟨rfl, rfl, rfl⟩ := trodAll_nil r1
  obtain rfl : args = #[v0, v1] := by cases args; simp_all
  have z0 := rd_of h0 hsz0 0 (t := 30) (by kernel_rfl) rfl
  obtain ⟨A_a, c_a, l_a, rfl, p_a, z_a, b_a⟩ := arg_strs Try.underlying30 Try.underlying9 (by kernel_rfl) (by kernel_rfl) (hval 0 30 v0 rfl rfl) z0
  have z1 := rd_of h1 hsz0 1 (t := 3) (by kernel_rfl) rfl
  obtain ⟨n_b, rfl, lo_b, hi_b⟩ := arg_i64 Try.underlying3 (hval 1 3 v1 rfl rfl) z1
  clear hval0 hsz0
  have hlt := hW'.lt
  refine (trees_walk l_a A_a c_a n_b W p_a z_a lo_b hi_b).mono fun e W' ⟨he, bel⟩ => ?_
  subst he
  exact ⟨_, rfl, _, _, _, [], _, [], hW', trodAll_mk1 (shut_bool Try.underlying4 _), trodAll_below laidOut (by kernel_rfl) hA0 bel (fun x hx => hlt x (by simpa using hx)), rfl, bel.frame _, fun h => by cases h⟩
theorem over : Rows.digestTreesRow.holds Try.pinned (OpenSpec.ofChange Rows.digestTreesSpec) :=
  OpenClaim.holds_of_wide 8 Try.f8 rfl rfl rfl rfl rfl rfl rfl ⟨rfl, rfl, rfl, rfl, rfl⟩ rfl rfl rfl rfl rfl (by kernel_rfl) Try.func8 (by kernel_rfl)
    (of_decide_eq_true (by kernel_rfl)) (by unfold Func.isWrapper; first | (rw [if_pos (by decide +kernel)]; kernel_rfl) | (rw [if_neg (by decide +kernel)]; exact ⟨rfl, rfl⟩))
    (fun os started H enc _ => lifted os started H enc)
end Go.Proofs.Ytgbnkoeidejhfaa.digestTrees
namespace Go.Proofs.Ytgbnkoeidejhfaa
theorem digestTrees_holds : Rows.DigestTreesSaid := digestTrees.over
#print axioms digestTrees_holds
end Go.Proofs.Ytgbnkoeidejhfaa
