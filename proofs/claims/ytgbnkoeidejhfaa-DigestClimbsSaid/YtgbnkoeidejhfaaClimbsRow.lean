/- Where a text climbs to by a path, or that it does not, is the document's (the law DigestClimbs answers true at every input). -/
import Derived.Test.YtgbnkoeidejhfaaRows
import Derived.Test.YtgbnkoeidejhfaaClimbs
import Derived.Test.YtgbnkoeidejhfaaArgs
import Derived.WalkKit
import Derived.ProofKit
import Derived.OpenShut
import Derived.ShutString
import Derived.ChangeOld
import Derived.Below
import Derived.SizedLaws
namespace Go.Proofs.Ytgbnkoeidejhfaa.digestClimbs
open Go.ChangeShapes Go.WideShapes Go.ChangeAt Go.RowKit
theorem own : ownKnob Try.prog.godebug = none := by kernel_rfl
theorem laidOut : laidOutB Try.prog = true := by kernel_rfl
set_option maxRecDepth 100000 in
theorem lifted (os : Os) (started : os.Started) (H : Type) (enc : TypeId × Value → H) :
    ReturnsInHanded {} Try.checked os 6 .any (Rows.digestClimbsSpec.pre6 enc Try.prog Try.f6 Rows.digestClimbsRow.domain false) (Rows.digestClimbsSpec.post enc Try.prog Try.f6 false true false false) := by
  refine returnsInHanded_of_change_sized (C := Try.checked) own started (by kernel_rfl) Try.func6
    (ChangeSpec.witness6 (enc := enc) (C := Try.checked) false ⟨#[], #[.string ByteArray.empty, .agg #[.int .i64 0, .int .i64 0], .slice none 0 0], []⟩ 8 (by kernel_rfl) (by kernel_rfl) (by kernel_rfl) (by kernel_rfl)) ?_
  intro W base args ds gs before hval0 hW hcnd hsz0 _
  have hval : ∀ (j : Nat) t v, Try.f6.params[j]? = some t → args[j]? = some v → Value.okWide Try.prog W .any base t v := hval0
  have hW' := hW
  obtain ⟨p, q, hA0, hV, rfl, hfz, hnd⟩ := hW
  obtain ⟨rfl, rfl⟩ := trodVars_none hV
  have hA : DataW.TrodAll enc Try.prog W 0 (fun _ => true) true Try.f6.params.toList args.toList ds p := hA0
  rw [Try.params6] at hA hval
  obtain ⟨v0, vs0, d0, ds0, p0, q0, hargs, rfl, rfl, h0, r0⟩ := trodAll_cons hA
  obtain ⟨v1, vs1, d1, ds1, p1, q1, rfl, rfl, rfl, h1, r1⟩ := trodAll_cons r0
  obtain ⟨v2, vs2, d2, ds2, p2, q2, rfl, rfl, rfl, h2, r2⟩ := trodAll_cons r1
  obtain ⟨rfl, rfl, rfl⟩ := trodAll_nil r2
  obtain rfl : args = #[v0, v1, v2] := by cases args; simp_all
  have z0 := rd_of h0 hsz0 0 (t := 9) (by kernel_rfl) rfl
  obtain ⟨l_a, rfl, hl_a⟩ := arg_string Try.underlying9 (hval 0 9 v0 rfl rfl) z0
  have z1 := rd_of h1 hsz0 1 (t := 29) (by kernel_rfl) rfl
  obtain ⟨x0_b, x1_b, rfl, y0_b, y1_b⟩ := arg_array2 Try.underlying29 (by kernel_rfl) (by kernel_rfl) (hval 1 29 v1 rfl rfl) z1
  obtain ⟨n_b0, rfl, lo_b0, hi_b0⟩ := cell_i64 Try.underlying3 y0_b
  obtain ⟨n_b1, rfl, lo_b1, hi_b1⟩ := cell_i64 Try.underlying3 y1_b
  have z2 := rd_of h2 hsz0 2 (t := 30) (by kernel_rfl) rfl
  obtain ⟨A_c, c_c, l_c, rfl, p_c, z_c, b_c⟩ := arg_strs Try.underlying30 Try.underlying9 (by kernel_rfl) (by kernel_rfl) (hval 2 30 v2 rfl rfl) z2
  clear hval0 hsz0
  have hlt := hW'.lt
  refine (climbs_walk l_a n_b0 n_b1 A_c c_c l_c W p_c z_c (by omega) lo_b0 hi_b0 lo_b1 hi_b1).mono fun e W' ⟨he, bel⟩ => ?_
  subst he
  exact ⟨_, rfl, _, _, _, [], _, [], hW', trodAll_mk1 (shut_bool Try.underlying4 _), trodAll_below laidOut (by kernel_rfl) hA0 bel (fun x hx => hlt x (by simpa using hx)), rfl, bel.frame _, fun h => by cases h⟩
theorem over : Rows.digestClimbsRow.holds Try.pinned (OpenSpec.ofChange Rows.digestClimbsSpec) :=
  OpenClaim.holds_of_wide 6 Try.f6 rfl rfl rfl rfl rfl rfl rfl ⟨rfl, rfl, rfl, rfl, rfl⟩ rfl rfl rfl rfl rfl (by kernel_rfl) Try.func6 (by kernel_rfl)
    (of_decide_eq_true (by kernel_rfl)) (by unfold Func.isWrapper; first | (rw [if_pos (by decide +kernel)]; kernel_rfl) | (rw [if_neg (by decide +kernel)]; exact ⟨rfl, rfl⟩))
    (fun os started H enc _ => lifted os started H enc)
end Go.Proofs.Ytgbnkoeidejhfaa.digestClimbs
namespace Go.Proofs.Ytgbnkoeidejhfaa
theorem digestClimbs_holds : Rows.DigestClimbsSaid := digestClimbs.over
#print axioms digestClimbs_holds
end Go.Proofs.Ytgbnkoeidejhfaa
