/- Numbers of labels and parts are the document's (the law DigestNumbers answers true at every input). -/
import Derived.Test.YtgbnkoeidejhfaaRows
import Derived.Test.YtgbnkoeidejhfaaNumbers
import Derived.Test.YtgbnkoeidejhfaaArgs
import Derived.WalkKit
import Derived.ProofKit
import Derived.OpenShut
import Derived.ShutString
import Derived.ChangeOld
import Derived.Below
import Derived.SizedLaws
namespace Go.Proofs.Ytgbnkoeidejhfaa.digestNumbers
open Go.ChangeShapes Go.WideShapes Go.ChangeAt Go.RowKit
theorem own : ownKnob Try.prog.godebug = none := by kernel_rfl
theorem laidOut : laidOutB Try.prog = true := by kernel_rfl
set_option maxRecDepth 100000 in
theorem lifted (os : Os) (started : os.Started) (H : Type) (enc : TypeId × Value → H) :
    ReturnsInHanded {} Try.checked os 9 .any (Rows.digestNumbersSpec.pre6 enc Try.prog Try.f9 Rows.digestNumbersRow.domain false) (Rows.digestNumbersSpec.post enc Try.prog Try.f9 false true false false) := by
  refine returnsInHanded_of_change_sized (C := Try.checked) own started (by kernel_rfl) Try.func9
    (ChangeSpec.witness6 (enc := enc) (C := Try.checked) false ⟨#[], #[.string ByteArray.empty, .slice none 0 0, .int .u64 0], []⟩ 8 (by kernel_rfl) (by kernel_rfl) (by kernel_rfl) (by kernel_rfl)) ?_
  intro W base args ds gs before hval0 hW hcnd hsz0 _
  have hval : ∀ (j : Nat) t v, Try.f9.params[j]? = some t → args[j]? = some v → Value.okWide Try.prog W .any base t v := hval0
  have hW' := hW
  obtain ⟨p, q, hA0, hV, rfl, hfz, hnd⟩ := hW
  obtain ⟨rfl, rfl⟩ := trodVars_none hV
  have hA : DataW.TrodAll enc Try.prog W 0 (fun _ => true) true Try.f9.params.toList args.toList ds p := hA0
  rw [Try.params9] at hA hval
  obtain ⟨v0, vs0, d0, ds0, p0, q0, hargs, rfl, rfl, h0, r0⟩ := trodAll_cons hA
  obtain ⟨v1, vs1, d1, ds1, p1, q1, rfl, rfl, rfl, h1, r1⟩ := trodAll_cons r0
  obtain ⟨v2, vs2, d2, ds2, p2, q2, rfl, rfl, rfl, h2, r2⟩ := trodAll_cons r1
  obtain ⟨rfl, rfl, rfl⟩ := trodAll_nil r2
  obtain rfl : args = #[v0, v1, v2] := by cases args; simp_all
  have z0 := rd_of h0 hsz0 0 (t := 9) (by kernel_rfl) rfl
  obtain ⟨l_a, rfl, hl_a⟩ := arg_string Try.underlying9 (hval 0 9 v0 rfl rfl) z0
  have z1 := rd_of h1 hsz0 1 (t := 30) (by kernel_rfl) rfl
  obtain ⟨A_b, c_b, l_b, rfl, p_b, z_b, b_b⟩ := arg_strs Try.underlying30 Try.underlying9 (by kernel_rfl) (by kernel_rfl) (hval 1 30 v1 rfl rfl) z1
  have z2 := rd_of h2 hsz0 2 (t := 43) (by kernel_rfl) rfl
  obtain ⟨n_c, rfl, hi_c⟩ := arg_u64 Try.underlying43 (hval 2 43 v2 rfl rfl) z2
  clear hval0 hsz0
  have hlt := hW'.lt
  refine (numbers_walk l_a A_b c_b l_b n_c W p_b z_b (by omega) hi_c).mono fun e W' ⟨he, bel⟩ => ?_
  subst he
  exact ⟨_, rfl, _, _, _, [], _, [], hW', trodAll_mk1 (shut_bool Try.underlying4 _), trodAll_below laidOut (by kernel_rfl) hA0 bel (fun x hx => hlt x (by simpa using hx)), rfl, bel.frame _, fun h => by cases h⟩
theorem over : Rows.digestNumbersRow.holds Try.pinned (OpenSpec.ofChange Rows.digestNumbersSpec) :=
  OpenClaim.holds_of_wide 9 Try.f9 rfl rfl rfl rfl rfl rfl rfl ⟨rfl, rfl, rfl, rfl, rfl⟩ rfl rfl rfl rfl rfl (by kernel_rfl) Try.func9 (by kernel_rfl)
    (of_decide_eq_true (by kernel_rfl)) (by unfold Func.isWrapper; first | (rw [if_pos (by decide +kernel)]; kernel_rfl) | (rw [if_neg (by decide +kernel)]; exact ⟨rfl, rfl⟩))
    (fun os started H enc _ => lifted os started H enc)
end Go.Proofs.Ytgbnkoeidejhfaa.digestNumbers
namespace Go.Proofs.Ytgbnkoeidejhfaa
theorem digestNumbers_holds : Rows.DigestNumbersSaid := digestNumbers.over
#print axioms digestNumbers_holds
end Go.Proofs.Ytgbnkoeidejhfaa
