/- Of what was made by a secret and draws, what is claimed holds, and is proved by them (the law ProofTrue answers true at every input). -/
import Derived.Test.YtinlciofhegciaaGreatRows
import Derived.WalkKit
import Derived.ProofKit
import Derived.OpenShut
import Derived.ShutString
import Derived.ChangeOld
import Derived.Below
import Derived.SizedLaws
import Derived.Test.YtinlciofhegciaaGreatM10
namespace Go.Proofs.YtinlciofhegciaaGreat.proofTrue
open Go.ChangeShapes Go.WideShapes Go.ChangeAt Go.RowKit
theorem own : ownKnob Tryz.prog.godebug = none := by kernel_rfl
theorem laidOut : laidOutB Tryz.prog = true := by kernel_rfl
set_option maxRecDepth 100000 in
theorem lifted (os : Os) (started : os.Started) (H : Type) (enc : TypeId × Value → H) :
    ReturnsInHanded {} Tryz.checked os 6 .any (Rows.proofTrueSpec.pre6 enc Tryz.prog Tryz.f6 Rows.proofTrueRow.domain false) (Rows.proofTrueSpec.post enc Tryz.prog Tryz.f6 false true false false) := by
  refine returnsInHanded_of_change_sized (C := Tryz.checked) own started (by kernel_rfl) Tryz.func6
    (ChangeSpec.witness6 (enc := enc) (C := Tryz.checked) false ⟨#[], #[.agg #[.int .u64 0, .int .u64 0, .int .u64 0, .int .u64 0, .slice none 0 0], .agg #[.int .u64 0, .int .u64 0, .int .u64 0], .agg #[.string ByteArray.empty, .int .u64 0, .int .u64 0, .int .u64 0, .int .u64 0, .int .u64 0, .int .u64 0, .int .u64 0, .int .u64 0]], []⟩ 8 (by kernel_rfl) (by kernel_rfl) (by kernel_rfl) (by kernel_rfl)) ?_
  intro W base args ds gs before hval0 hW hcnd hsz0 _
  have hval : ∀ (j : Nat) t v, Tryz.f6.params[j]? = some t → args[j]? = some v → Value.okWide Tryz.prog W .any base t v := hval0
  have hW' := hW
  obtain ⟨p, q, hA0, hV, rfl, hfz, hnd⟩ := hW
  obtain ⟨rfl, rfl⟩ := trodVars_none hV
  have hA : DataW.TrodAll enc Tryz.prog W 0 (fun _ => true) true Tryz.f6.params.toList args.toList ds p := hA0
  rw [Tryz.params6] at hA hval
  obtain ⟨v0, vs0, d0, ds0, p0, q0, hargs, rfl, rfl, h0, r0⟩ := trodAll_cons hA
  obtain ⟨v1, vs1, d1, ds1, p1, q1, rfl, rfl, rfl, h1, r1⟩ := trodAll_cons r0
  obtain ⟨v2, vs2, d2, ds2, p2, q2, rfl, rfl, rfl, h2, r2⟩ := trodAll_cons r1
  obtain ⟨rfl, rfl, rfl⟩ := trodAll_nil r2
  obtain rfl : args = #[v0, v1, v2] := by cases args; simp_all
  have z0 := rd_of h0 hsz0 0 (t := 25) (by kernel_rfl) rfl
  obtain ⟨P, Q, G, K, RB, cR, rs, rfl, bP, bQ, bG, bK, hR, hRl, hFl⟩ := arg_group (hval 0 25 v0 rfl rfl) z0
  have z1 := rd_of h1 hsz0 1 (t := 57) (by kernel_rfl) rfl
  obtain ⟨m0, m1, m2, rfl, i0, i1, i2⟩ := arg_r3 (hval 1 57 v1 rfl rfl) z1
  have z2 := rd_of h2 hsz0 2 (t := 59) (by kernel_rfl) rfl
  obtain ⟨l, x, y, t0, t1, t2, e0, e1, e2, rfl, hll, k0, k1, k2, k3, k4, k5, k6, k7⟩ := arg_made (hval 2 59 v2 rfl rfl) z2
  clear hval0 hsz0
  have hlt := hW'.lt
  refine (true_walk P Q G K RB cR rs m0 m1 m2 l x y t0 t1 t2 e0 e1 e2 W bP bQ bG bK hR (by omega) (fun r hr => by have := hFl r hr; omega) (by omega) i0 i1 i2 k0 k1 k2 k3 k4 k5 k6 k7).mono fun e W' ⟨he, bel⟩ => ?_
  subst he
  exact ⟨_, rfl, _, _, _, [], _, [], hW', trodAll_mk1 (shut_bool Tryz.underlying4 _), trodAll_below laidOut (by kernel_rfl) hA0 bel (fun x hx => hlt x (by simpa using hx)), rfl, bel.frame _, fun h => by cases h⟩
theorem over : Rows.proofTrueRow.holds Tryz.pinned (OpenSpec.ofChange Rows.proofTrueSpec) :=
  OpenClaim.holds_of_wide 6 Tryz.f6 rfl rfl rfl rfl rfl rfl rfl ⟨rfl, rfl, rfl, rfl, rfl⟩ rfl rfl rfl rfl rfl (by kernel_rfl) Tryz.func6 (by kernel_rfl)
    (of_decide_eq_true (by kernel_rfl)) (by unfold Func.isWrapper; first | (rw [if_pos (by decide +kernel)]; kernel_rfl) | (rw [if_neg (by decide +kernel)]; exact ⟨rfl, rfl⟩))
    (fun os started H enc _ => lifted os started H enc)
end Go.Proofs.YtinlciofhegciaaGreat.proofTrue
namespace Go.Proofs.YtinlciofhegciaaGreat
theorem proofTrue_holds : Rows.ProofTrueSaid := proofTrue.over
#print axioms proofTrue_holds
end Go.Proofs.YtinlciofhegciaaGreat
