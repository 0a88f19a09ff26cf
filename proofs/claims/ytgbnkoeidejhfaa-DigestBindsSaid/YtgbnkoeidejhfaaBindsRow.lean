/- Two unlike texts climb at one place of as many to unlike roots, or two unlike texts of one sum stand among what was summed on the way (the law DigestBinds answers true at every input). -/
import Derived.Test.YtgbnkoeidejhfaaRows
import Derived.Test.YtgbnkoeidejhfaaBinds
import Derived.Test.YtgbnkoeidejhfaaArgs
import Derived.WalkKit
import Derived.ProofKit
import Derived.OpenShut
import Derived.ShutString
import Derived.ChangeOld
import Derived.Below
import Derived.SizedLaws
namespace Go.Proofs.Ytgbnkoeidejhfaa.digestBinds
open Go.ChangeShapes Go.WideShapes Go.ChangeAt Go.RowKit
theorem own : ownKnob Try.prog.godebug = none := by kernel_rfl
theorem laidOut : laidOutB Try.prog = true := by kernel_rfl
set_option maxRecDepth 100000 in
theorem lifted (os : Os) (started : os.Started) (H : Type) (enc : TypeId × Value → H) :
    ReturnsInHanded {} Try.checked os 7 .any (Rows.digestBindsSpec.pre6 enc Try.prog Try.f7 Rows.digestBindsRow.domain false) (Rows.digestBindsSpec.post enc Try.prog Try.f7 false true false false) := by
  refine returnsInHanded_of_change_sized (C := Try.checked) own started (by kernel_rfl) Try.func7
    (ChangeSpec.witness6 (enc := enc) (C := Try.checked) false ⟨#[], #[.agg #[.string ByteArray.empty, .string ByteArray.empty], .agg #[.int .i64 0, .int .i64 0], .agg #[.slice none 0 0, .slice none 0 0]], []⟩ 8 (by kernel_rfl) (by kernel_rfl) (by kernel_rfl) (by kernel_rfl)) ?_
  intro W base args ds gs before hval0 hW hcnd hsz0 _
  have hval : ∀ (j : Nat) t v, Try.f7.params[j]? = some t → args[j]? = some v → Value.okWide Try.prog W .any base t v := hval0
  have hW' := hW
  obtain ⟨p, q, hA0, hV, rfl, hfz, hnd⟩ := hW
  obtain ⟨rfl, rfl⟩ := trodVars_none hV
  have hA : DataW.TrodAll enc Try.prog W 0 (fun _ => true) true Try.f7.params.toList args.toList ds p := hA0
  rw [Try.params7] at hA hval
  obtain ⟨v0, vs0, d0, ds0, p0, q0, hargs, rfl, rfl, h0, r0⟩ := trodAll_cons hA
  obtain ⟨v1, vs1, d1, ds1, p1, q1, rfl, rfl, rfl, h1, r1⟩ := trodAll_cons r0
  obtain ⟨v2, vs2, d2, ds2, p2, q2, rfl, rfl, rfl, h2, r2⟩ := trodAll_cons r1
  obtain ⟨rfl, rfl, rfl⟩ := trodAll_nil r2
  obtain rfl : args = #[v0, v1, v2] := by cases args; simp_all
  have z0 := rd_of h0 hsz0 0 (t := 35) (by kernel_rfl) rfl
  obtain ⟨x0_a, x1_a, rfl, y0_a, y1_a⟩ := arg_array2 Try.underlying35 (by kernel_rfl) (by kernel_rfl) (hval 0 35 v0 rfl rfl) z0
  obtain ⟨l_a0, rfl, hl_a0⟩ := cell_string Try.underlying9 y0_a
  obtain ⟨l_a1, rfl, hl_a1⟩ := cell_string Try.underlying9 y1_a
  have z1 := rd_of h1 hsz0 1 (t := 29) (by kernel_rfl) rfl
  obtain ⟨x0_b, x1_b, rfl, y0_b, y1_b⟩ := arg_array2 Try.underlying29 (by kernel_rfl) (by kernel_rfl) (hval 1 29 v1 rfl rfl) z1
  obtain ⟨n_b0, rfl, lo_b0, hi_b0⟩ := cell_i64 Try.underlying3 y0_b
  obtain ⟨n_b1, rfl, lo_b1, hi_b1⟩ := cell_i64 Try.underlying3 y1_b
  have z2 := rd_of h2 hsz0 2 (t := 36) (by kernel_rfl) rfl
  obtain ⟨x0_c, x1_c, rfl, y0_c, y1_c⟩ := arg_array2 Try.underlying36 (by kernel_rfl) (by kernel_rfl) (hval 2 36 v2 rfl rfl) z2
  obtain ⟨A_c0, c_c0, l_c0, rfl, p_c0, z_c0, b_c0⟩ := cell_strs Try.underlying30 Try.underlying9 (by kernel_rfl) (by kernel_rfl) y0_c
  obtain ⟨A_c1, c_c1, l_c1, rfl, p_c1, z_c1, b_c1⟩ := cell_strs Try.underlying30 Try.underlying9 (by kernel_rfl) (by kernel_rfl) y1_c
  clear hval0 hsz0
  have hlt := hW'.lt
  refine (binds_walk l_a0 l_a1 n_b0 n_b1 A_c0 A_c1 c_c0 c_c1 l_c0 l_c1 W p_c0 p_c1 z_c0 z_c1 (by omega) (by omega) lo_b0 hi_b0 lo_b1 hi_b1).mono fun e W' ⟨he, bel⟩ => ?_
  subst he
  exact ⟨_, rfl, _, _, _, [], _, [], hW', trodAll_mk1 (shut_bool Try.underlying4 _), trodAll_below laidOut (by kernel_rfl) hA0 bel (fun x hx => hlt x (by simpa using hx)), rfl, bel.frame _, fun h => by cases h⟩
theorem over : Rows.digestBindsRow.holds Try.pinned (OpenSpec.ofChange Rows.digestBindsSpec) :=
  OpenClaim.holds_of_wide 7 Try.f7 rfl rfl rfl rfl rfl rfl rfl ⟨rfl, rfl, rfl, rfl, rfl⟩ rfl rfl rfl rfl rfl (by kernel_rfl) Try.func7 (by kernel_rfl)
    (of_decide_eq_true (by kernel_rfl)) (by unfold Func.isWrapper; first | (rw [if_pos (by decide +kernel)]; kernel_rfl) | (rw [if_neg (by decide +kernel)]; exact ⟨rfl, rfl⟩))
    (fun os started H enc _ => lifted os started H enc)
end Go.Proofs.Ytgbnkoeidejhfaa.digestBinds
namespace Go.Proofs.Ytgbnkoeidejhfaa
theorem digestBinds_holds : Rows.DigestBindsSaid := digestBinds.over
#print axioms digestBinds_holds
end Go.Proofs.Ytgbnkoeidejhfaa
