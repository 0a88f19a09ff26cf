import Derived.Test.YtgbnkoeidejhfaaDivP
import Derived.Test.YtgbnkoeidejhfaaLoops
import Derived.Test.YtgbnkoeidejhfaaKit
import Derived.Test.YtgbnkoeidejhfaaShelfC
import Derived.Test.YtgbnkoeidejhfaaDigPure
import Derived.Lib.ItoaNum
namespace Go.Proofs.Ytgbnkoeidejhfaa
open Go.RowKit

noncomputable def divLoop0 : Code := nthLoop (Try.f64.body.getD .skip) 0

set_option maxRecDepth 100000 in
set_option maxHeartbeats 2000000 in
theorem divLoop0_any (un yn1 yn0 u1 q0 r0 Qd : Nat) (w0 : World) (Q : Exit → Act → World → Prop) (hu : un < yn1 * 4294967296 + yn0) (h1 : u1 < 4294967296) (h0 : yn0 < 4294967296) (hy : 4294967296 ≤ 2 * yn1) (hy2 : yn1 < 4294967296) (D0 : Dig 4294967296 un yn1 yn0 u1 q0 r0)
    (hQd : Qd = (un * 4294967296 + u1) / (yn1 * 4294967296 + yn0)) (x0 x1 x2 x3 x4 x5 x6 x7 x8 x12 x14 x17 x18 x19 x20 x21 x22 x23 x24 x25 x26 x27 x28 x29 x30 x31 x32 x33 x34 x35 x36 x37 x38 x39 x40 x41 x42 x43 x44 x45 x46 x47 x48 x49 x50 x51 x52 x53 x54 x55 x56 x57 x58 x59 x60 x61 x62 x63 x64 x65 x66 x67 x68 x69 x70 x71 x72 x73 x74 x75 x76 x77 x78 x79 x80 x81 x82 x83 x84 x85 x86 x87 x88 x89 x90 x91 x92 x93 x94 x95 x96 x97 x98 x99 x100 x101 x102 x103 x104 x105 x106 x107 x108 x109 x110 x111 x112 x113 x114 x115 x116 x117 x118 x119 x120 x121 x122 x123 x124 x125 x126 x127 x128 x129 x130 x131 x132 x133 x134 : Value)
    (hexit : ∀ (u16 u67 u68 u69 u70 u71 u72 u73 u74 u75 u76 u77 u78 u79 u80 u81 u82 u83 u84 u85 : Value), Q (.exit 0) ⟨List.toArray (x0 :: x1 :: x2 :: x3 :: x4 :: x5 :: x6 :: x7 :: x8 :: .int .u64 (yn1 : Int) :: .int .u64 (yn0 : Int) :: .int .u64 (un : Int) :: x12 :: .int .u64 (u1 : Int) :: x14 :: .int .u64 (Qd : Int) :: u16 :: x17 :: x18 :: x19 :: x20 :: x21 :: x22 :: x23 :: x24 :: x25 :: x26 :: x27 :: x28 :: x29 :: x30 :: x31 :: x32 :: x33 :: x34 :: x35 :: x36 :: x37 :: x38 :: x39 :: x40 :: x41 :: x42 :: x43 :: x44 :: x45 :: x46 :: x47 :: x48 :: x49 :: x50 :: x51 :: x52 :: x53 :: x54 :: x55 :: x56 :: x57 :: x58 :: x59 :: x60 :: x61 :: x62 :: x63 :: x64 :: x65 :: x66 :: u67 :: u68 :: u69 :: u70 :: u71 :: u72 :: u73 :: u74 :: u75 :: u76 :: u77 :: u78 :: u79 :: u80 :: u81 :: u82 :: u83 :: u84 :: u85 :: x86 :: x87 :: x88 :: x89 :: x90 :: x91 :: x92 :: x93 :: x94 :: x95 :: x96 :: x97 :: x98 :: x99 :: x100 :: x101 :: x102 :: x103 :: x104 :: x105 :: x106 :: x107 :: x108 :: x109 :: x110 :: x111 :: x112 :: x113 :: x114 :: x115 :: x116 :: x117 :: x118 :: x119 :: x120 :: x121 :: x122 :: x123 :: x124 :: x125 :: x126 :: x127 :: x128 :: x129 :: x130 :: x131 :: x132 :: x133 :: x134 :: []), []⟩ w0) :
    (Code.loop divLoop0).wp Try.prog Q ⟨List.toArray (x0 :: x1 :: x2 :: x3 :: x4 :: x5 :: x6 :: x7 :: x8 :: .int .u64 (yn1 : Int) :: .int .u64 (yn0 : Int) :: .int .u64 (un : Int) :: x12 :: .int .u64 (u1 : Int) :: x14 :: .int .u64 (q0 : Int) :: .int .u64 (r0 : Int) :: x17 :: x18 :: x19 :: x20 :: x21 :: x22 :: x23 :: x24 :: x25 :: x26 :: x27 :: x28 :: x29 :: x30 :: x31 :: x32 :: x33 :: x34 :: x35 :: x36 :: x37 :: x38 :: x39 :: x40 :: x41 :: x42 :: x43 :: x44 :: x45 :: x46 :: x47 :: x48 :: x49 :: x50 :: x51 :: x52 :: x53 :: x54 :: x55 :: x56 :: x57 :: x58 :: x59 :: x60 :: x61 :: x62 :: x63 :: x64 :: x65 :: x66 :: x67 :: x68 :: x69 :: x70 :: x71 :: x72 :: x73 :: x74 :: x75 :: x76 :: x77 :: x78 :: x79 :: x80 :: x81 :: x82 :: x83 :: x84 :: x85 :: x86 :: x87 :: x88 :: x89 :: x90 :: x91 :: x92 :: x93 :: x94 :: x95 :: x96 :: x97 :: x98 :: x99 :: x100 :: x101 :: x102 :: x103 :: x104 :: x105 :: x106 :: x107 :: x108 :: x109 :: x110 :: x111 :: x112 :: x113 :: x114 :: x115 :: x116 :: x117 :: x118 :: x119 :: x120 :: x121 :: x122 :: x123 :: x124 :: x125 :: x126 :: x127 :: x128 :: x129 :: x130 :: x131 :: x132 :: x133 :: x134 :: []), []⟩ w0 := by
  have Hexit := Lib.hid hexit
  have HQd := Lib.hid hQd
  have HD0 := Lib.hid D0
  clear hexit hQd D0
  conv => arg 2; arg 1; whnf
  go_loopw [15, 16] (fun x y wr => ∃ q r : Nat, x = .int .u64 (q : Int) ∧ y = .int .u64 (r : Int) ∧ Dig 4294967296 un yn1 yn0 u1 q r ∧ wr = w0) (fun x _ _ => (intOf x).toNat)
  case atStart => exact ⟨q0, r0, rfl, rfl, HD0.out, rfl⟩
  case round =>
    obtain ⟨q, r, rfl, rfl, hD, rfl⟩ := hrel
    have hqb := hD.q
    have hrb := hD.r
    have hpb := hD.prod h0
    have D := Lib.hid hD
    clear hD HD0
    obtain ⟨C, hC⟩ : ∃ C, C = q * yn0 := ⟨_, rfl⟩
    have hmul : IntKind.u64.wrap ((q : Int) * (yn0 : Int)) = (C : Int) := by
      rw [IntKind.wrap_u64, hC]
      rw [← hC] at hpb ⊢
      have : (q : Int) * (yn0 : Int) = (C : Int) := by rw [hC]; push_cast; rfl
      rw [this]; omega
    rw [← hC] at hpb
    have HC := Lib.hid hC
    clear hC
    by_cases hq : 4294967296 ≤ q
    · have d1 : decide ((4294967296 : Int) ≤ (q : Int)) = true := decide_eq_true (by omega)
      by_cases hr : 4294967296 ≤ r + yn1
      · skip
        have d3 : decide ((4294967296 : Int) ≤ (r : Int) + (yn1 : Int)) = true := decide_eq_true (by omega)
        have hres := D.out.broken hu h1 h0 (.inl hq) hr
        have Hres := Lib.hid hres
        have hq1 := (D.out.dec hu h1 (.inl hq)).1
        have hsub : (q : Int) - 1 = ((q - 1 : Nat) : Int) := by omega
        obtain ⟨p, hp⟩ : ∃ p, p = q - 1 := ⟨_, rfl⟩
        rw [← hp] at hsub Hres
        clear hres hp HC D
        go_wp2_with fail
        have hpQ : p = Qd := Hres.out.trans HQd.out.symm
        subst hpQ
        exact Hexit.out _ _ _ _ _ _ _ _ _ _ _ _ _ _ _ _ _ _ _ _ 
      · skip
        have d3 : decide ((4294967296 : Int) ≤ (r : Int) + (yn1 : Int)) = false := decide_eq_false (by omega)
        have hnx := D.out.next hu h1 (.inl hq) (by omega)
        have Hnx := Lib.hid hnx
        have hq1 := (D.out.dec hu h1 (.inl hq)).1
        clear hnx HC D
        go_wp2_with fail
        go_roundw
        case rel => exact ⟨q - 1, r + yn1, by go_num, by go_num, Hnx.out, trivial⟩
        case measure => simp [intOf]; omega
    · have d1 : decide ((4294967296 : Int) ≤ (q : Int)) = false := decide_eq_false (by omega)
      by_cases hc : 4294967296 * r + u1 < C
      · have d2 : decide (4294967296 * (r : Int) + (u1 : Int) < (C : Int)) = true := decide_eq_true (by omega)
        by_cases hr : 4294967296 ≤ r + yn1
        · skip
          have d3 : decide ((4294967296 : Int) ≤ (r : Int) + (yn1 : Int)) = true := decide_eq_true (by omega)
          have hres := D.out.broken hu h1 h0 (.inr (by rw [← HC.out]; exact hc)) hr
          have Hres := Lib.hid hres
          have hq1 := (D.out.dec hu h1 (.inr (by rw [← HC.out]; exact hc))).1
          have hsub : (q : Int) - 1 = ((q - 1 : Nat) : Int) := by omega
          obtain ⟨p, hp⟩ : ∃ p, p = q - 1 := ⟨_, rfl⟩
          rw [← hp] at hsub Hres
          clear hres hp HC D
          go_wp2_with fail
          have hpQ : p = Qd := Hres.out.trans HQd.out.symm
          subst hpQ
          exact Hexit.out _ _ _ _ _ _ _ _ _ _ _ _ _ _ _ _ _ _ _ _ 
        · skip
          have d3 : decide ((4294967296 : Int) ≤ (r : Int) + (yn1 : Int)) = false := decide_eq_false (by omega)
          have hnx := D.out.next hu h1 (.inr (by rw [← HC.out]; exact hc)) (by omega)
          have Hnx := Lib.hid hnx
          have hq1 := (D.out.dec hu h1 (.inr (by rw [← HC.out]; exact hc))).1
          clear hnx HC D
          go_wp2_with fail
          go_roundw
          case rel => exact ⟨q - 1, r + yn1, by go_num, by go_num, Hnx.out, trivial⟩
          case measure => simp [intOf]; omega
      · have d2 : decide (4294967296 * (r : Int) + (u1 : Int) < (C : Int)) = false := decide_eq_false (by omega)
        have hres := D.out.done hu (by rw [← HC.out]; omega)
        have Hres := Lib.hid hres
        clear hres HC D
        go_wp2_with fail
        have hpQ : q = Qd := Hres.out.trans HQd.out.symm
        subst hpQ
        exact Hexit.out _ _ _ _ _ _ _ _ _ _ _ _ _ _ _ _ _ _ _ _ 

noncomputable def divLoop1 : Code := nthLoop (Try.f64.body.getD .skip) 1

set_option maxRecDepth 100000 in
set_option maxHeartbeats 2000000 in
theorem divLoop1_any (un yn1 yn0 u1 q0 r0 Qd : Nat) (w0 : World) (Q : Exit → Act → World → Prop) (hu : un < yn1 * 4294967296 + yn0) (h1 : u1 < 4294967296) (h0 : yn0 < 4294967296) (hy : 4294967296 ≤ 2 * yn1) (hy2 : yn1 < 4294967296) (D0 : Dig 4294967296 un yn1 yn0 u1 q0 r0)
    (hQd : Qd = (un * 4294967296 + u1) / (yn1 * 4294967296 + yn0)) (x0 x1 x2 x3 x4 x5 x6 x7 x8 x11 x12 x13 x15 x19 x20 x21 x22 x23 x24 x25 x26 x27 x28 x29 x30 x31 x32 x33 x34 x35 x36 x37 x38 x39 x40 x41 x42 x43 x44 x45 x46 x47 x48 x49 x50 x51 x52 x53 x54 x55 x56 x57 x58 x59 x60 x61 x62 x63 x64 x65 x66 x67 x68 x69 x70 x71 x72 x73 x74 x75 x76 x77 x78 x79 x80 x81 x82 x83 x84 x85 x86 x87 x88 x89 x90 x91 x92 x93 x94 x95 x96 x97 x98 x99 x100 x101 x102 x103 x104 x105 x106 x107 x108 x109 x110 x111 x112 x113 x114 x115 x116 x117 x118 x119 x120 x121 x122 x123 x124 x125 x126 x127 x128 x129 x130 x131 x132 x133 x134 : Value)
    (hexit : ∀ (u16 u102 u103 u104 u105 u106 u107 u108 u109 u110 u111 u112 u113 u114 u115 u116 u117 u118 u119 u120 : Value), Q (.exit 2) ⟨List.toArray (x0 :: x1 :: x2 :: x3 :: x4 :: x5 :: x6 :: x7 :: x8 :: .int .u64 (yn1 : Int) :: .int .u64 (yn0 : Int) :: x11 :: x12 :: x13 :: .int .u64 (u1 : Int) :: x15 :: u16 :: .int .u64 (un : Int) :: .int .u64 (Qd : Int) :: x19 :: x20 :: x21 :: x22 :: x23 :: x24 :: x25 :: x26 :: x27 :: x28 :: x29 :: x30 :: x31 :: x32 :: x33 :: x34 :: x35 :: x36 :: x37 :: x38 :: x39 :: x40 :: x41 :: x42 :: x43 :: x44 :: x45 :: x46 :: x47 :: x48 :: x49 :: x50 :: x51 :: x52 :: x53 :: x54 :: x55 :: x56 :: x57 :: x58 :: x59 :: x60 :: x61 :: x62 :: x63 :: x64 :: x65 :: x66 :: x67 :: x68 :: x69 :: x70 :: x71 :: x72 :: x73 :: x74 :: x75 :: x76 :: x77 :: x78 :: x79 :: x80 :: x81 :: x82 :: x83 :: x84 :: x85 :: x86 :: x87 :: x88 :: x89 :: x90 :: x91 :: x92 :: x93 :: x94 :: x95 :: x96 :: x97 :: x98 :: x99 :: x100 :: x101 :: u102 :: u103 :: u104 :: u105 :: u106 :: u107 :: u108 :: u109 :: u110 :: u111 :: u112 :: u113 :: u114 :: u115 :: u116 :: u117 :: u118 :: u119 :: u120 :: x121 :: x122 :: x123 :: x124 :: x125 :: x126 :: x127 :: x128 :: x129 :: x130 :: x131 :: x132 :: x133 :: x134 :: []), []⟩ w0) :
    (Code.loop divLoop1).wp Try.prog Q ⟨List.toArray (x0 :: x1 :: x2 :: x3 :: x4 :: x5 :: x6 :: x7 :: x8 :: .int .u64 (yn1 : Int) :: .int .u64 (yn0 : Int) :: x11 :: x12 :: x13 :: .int .u64 (u1 : Int) :: x15 :: .int .u64 (r0 : Int) :: .int .u64 (un : Int) :: .int .u64 (q0 : Int) :: x19 :: x20 :: x21 :: x22 :: x23 :: x24 :: x25 :: x26 :: x27 :: x28 :: x29 :: x30 :: x31 :: x32 :: x33 :: x34 :: x35 :: x36 :: x37 :: x38 :: x39 :: x40 :: x41 :: x42 :: x43 :: x44 :: x45 :: x46 :: x47 :: x48 :: x49 :: x50 :: x51 :: x52 :: x53 :: x54 :: x55 :: x56 :: x57 :: x58 :: x59 :: x60 :: x61 :: x62 :: x63 :: x64 :: x65 :: x66 :: x67 :: x68 :: x69 :: x70 :: x71 :: x72 :: x73 :: x74 :: x75 :: x76 :: x77 :: x78 :: x79 :: x80 :: x81 :: x82 :: x83 :: x84 :: x85 :: x86 :: x87 :: x88 :: x89 :: x90 :: x91 :: x92 :: x93 :: x94 :: x95 :: x96 :: x97 :: x98 :: x99 :: x100 :: x101 :: x102 :: x103 :: x104 :: x105 :: x106 :: x107 :: x108 :: x109 :: x110 :: x111 :: x112 :: x113 :: x114 :: x115 :: x116 :: x117 :: x118 :: x119 :: x120 :: x121 :: x122 :: x123 :: x124 :: x125 :: x126 :: x127 :: x128 :: x129 :: x130 :: x131 :: x132 :: x133 :: x134 :: []), []⟩ w0 := by
  have Hexit := Lib.hid hexit
  have HQd := Lib.hid hQd
  have HD0 := Lib.hid D0
  clear hexit hQd D0
  conv => arg 2; arg 1; whnf
  go_loopw [18, 16] (fun x y wr => ∃ q r : Nat, x = .int .u64 (q : Int) ∧ y = .int .u64 (r : Int) ∧ Dig 4294967296 un yn1 yn0 u1 q r ∧ wr = w0) (fun x _ _ => (intOf x).toNat)
  case atStart => exact ⟨q0, r0, rfl, rfl, HD0.out, rfl⟩
  case round =>
    obtain ⟨q, r, rfl, rfl, hD, rfl⟩ := hrel
    have hqb := hD.q
    have hrb := hD.r
    have hpb := hD.prod h0
    have D := Lib.hid hD
    clear hD HD0
    obtain ⟨C, hC⟩ : ∃ C, C = q * yn0 := ⟨_, rfl⟩
    have hmul : IntKind.u64.wrap ((q : Int) * (yn0 : Int)) = (C : Int) := by
      rw [IntKind.wrap_u64, hC]
      rw [← hC] at hpb ⊢
      have : (q : Int) * (yn0 : Int) = (C : Int) := by rw [hC]; push_cast; rfl
      rw [this]; omega
    rw [← hC] at hpb
    have HC := Lib.hid hC
    clear hC
    by_cases hq : 4294967296 ≤ q
    · have d1 : decide ((4294967296 : Int) ≤ (q : Int)) = true := decide_eq_true (by omega)
      by_cases hr : 4294967296 ≤ r + yn1
      · skip
        have d3 : decide ((4294967296 : Int) ≤ (r : Int) + (yn1 : Int)) = true := decide_eq_true (by omega)
        have hres := D.out.broken hu h1 h0 (.inl hq) hr
        have Hres := Lib.hid hres
        have hq1 := (D.out.dec hu h1 (.inl hq)).1
        have hsub : (q : Int) - 1 = ((q - 1 : Nat) : Int) := by omega
        obtain ⟨p, hp⟩ : ∃ p, p = q - 1 := ⟨_, rfl⟩
        rw [← hp] at hsub Hres
        clear hres hp HC D
        go_wp2_with fail
        have hpQ : p = Qd := Hres.out.trans HQd.out.symm
        subst hpQ
        exact Hexit.out _ _ _ _ _ _ _ _ _ _ _ _ _ _ _ _ _ _ _ _ 
      · skip
        have d3 : decide ((4294967296 : Int) ≤ (r : Int) + (yn1 : Int)) = false := decide_eq_false (by omega)
        have hnx := D.out.next hu h1 (.inl hq) (by omega)
        have Hnx := Lib.hid hnx
        have hq1 := (D.out.dec hu h1 (.inl hq)).1
        clear hnx HC D
        go_wp2_with fail
        go_roundw
        case rel => exact ⟨q - 1, r + yn1, by go_num, by go_num, Hnx.out, trivial⟩
        case measure => simp [intOf]; omega
    · have d1 : decide ((4294967296 : Int) ≤ (q : Int)) = false := decide_eq_false (by omega)
      by_cases hc : 4294967296 * r + u1 < C
      · have d2 : decide (4294967296 * (r : Int) + (u1 : Int) < (C : Int)) = true := decide_eq_true (by omega)
        by_cases hr : 4294967296 ≤ r + yn1
        · skip
          have d3 : decide ((4294967296 : Int) ≤ (r : Int) + (yn1 : Int)) = true := decide_eq_true (by omega)
          have hres := D.out.broken hu h1 h0 (.inr (by rw [← HC.out]; exact hc)) hr
          have Hres := Lib.hid hres
          have hq1 := (D.out.dec hu h1 (.inr (by rw [← HC.out]; exact hc))).1
          have hsub : (q : Int) - 1 = ((q - 1 : Nat) : Int) := by omega
          obtain ⟨p, hp⟩ : ∃ p, p = q - 1 := ⟨_, rfl⟩
          rw [← hp] at hsub Hres
          clear hres hp HC D
          go_wp2_with fail
          have hpQ : p = Qd := Hres.out.trans HQd.out.symm
          subst hpQ
          exact Hexit.out _ _ _ _ _ _ _ _ _ _ _ _ _ _ _ _ _ _ _ _ 
        · skip
          have d3 : decide ((4294967296 : Int) ≤ (r : Int) + (yn1 : Int)) = false := decide_eq_false (by omega)
          have hnx := D.out.next hu h1 (.inr (by rw [← HC.out]; exact hc)) (by omega)
          have Hnx := Lib.hid hnx
          have hq1 := (D.out.dec hu h1 (.inr (by rw [← HC.out]; exact hc))).1
          clear hnx HC D
          go_wp2_with fail
          go_roundw
          case rel => exact ⟨q - 1, r + yn1, by go_num, by go_num, Hnx.out, trivial⟩
          case measure => simp [intOf]; omega
      · have d2 : decide (4294967296 * (r : Int) + (u1 : Int) < (C : Int)) = false := decide_eq_false (by omega)
        have hres := D.out.done hu (by rw [← HC.out]; omega)
        have Hres := Lib.hid hres
        clear hres HC D
        go_wp2_with fail
        have hpQ : q = Qd := Hres.out.trans HQd.out.symm
        subst hpQ
        exact Hexit.out _ _ _ _ _ _ _ _ _ _ _ _ _ _ _ _ _ _ _ _ 

end Go.Proofs.Ytgbnkoeidejhfaa
