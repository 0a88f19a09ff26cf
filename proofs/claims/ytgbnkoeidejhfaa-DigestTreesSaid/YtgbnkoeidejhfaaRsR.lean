import Derived.Test.YtgbnkoeidejhfaaRsS
namespace Go.Proofs.Ytgbnkoeidejhfaa
open Go.RowKit
set_option maxRecDepth 1000000 in
set_option maxHeartbeats 4000000 in
theorem rounds_loop (V W kb : Nat) (wb w0 : World) (R : St) (q : List UInt8) (Q : Exit → Act → World → Prop) (hWV : W ≠ V) (hkV : kb ≠ V) (h0 : Rf w0 V W kb wb R q) (x0 x1 x2 x3 x5 x6 x8 x9 x10 x11 x14 x15 x16 x17 x18 x19 x20 x21 x22 x23 x24 x25 x26 x27 x28 x29 x30 x31 x32 x33 x34 x35 x36 x37 x38 x39 x40 x41 x42 x43 x44 x45 x46 x47 x48 x49 x50 x51 x52 x53 x54 x55 x56 x57 x58 x59 x60 x61 x62 x63 x64 x65 x66 x67 x68 x69 x70 x71 x72 x73 x74 x75 x76 x77 x78 x79 x80 x81 x82 x83 x84 x85 x86 x87 x88 x89 x90 x91 x92 x93 x94 x95 x96 x97 x98 x99 x100 x101 x102 x103 x104 x105 x106 x107 x108 x109 x110 x111 x112 x113 x114 x115 x116 x117 x118 x119 x120 x121 x122 x123 x124 x125 x126 x127 x128 x129 x130 x131 x132 x133 x134 x135 x136 x137 x138 x139 x140 x141 x142 x143 x144 x145 x146 x147 x148 x149 x150 x151 x152 x153 x154 x155 x156 x157 x158 x159 x160 x161 x162 x163 x164 x165 x166 x167 x168 x169 x170 x171 x172 x173 x174 x175 x176 x177 x178 x179 x180 x181 x182 x183 x184 x185 x186 x187 x188 x189 x190 x191 x192 x193 x194 x195 x196 x197 x198 x199 x200 x201 x202 x203 x204 x205 x206 x207 x208 x209 x210 x211 x212 x213 x214 x215 x216 x217 x218 x219 x220 x221 x222 x223 x224 x225 x226 x227 x228 x229 x230 x231 x232 x233 x234 x235 x236 x237 x238 x239 x240 x241 x242 x243 x244 x245 x246 x247 x248 x249 x250 x251 x252 x253 x254 x255 x256 x257 x258 x259 x260 x261 x262 x263 x264 x265 x266 x267 : Value)
    (hexit : ∀ (u13 u14 u15 u16 u17 u156 u157 u158 u159 u160 u161 u162 u163 u164 u165 u166 u167 u168 u169 u170 u171 u172 u173 u174 u175 u176 u177 u178 u179 u180 u181 u182 u183 u184 u185 u186 u187 u188 u189 u190 u191 u192 u193 u194 u195 u196 u197 u198 u199 u200 u201 u202 u203 u204 u205 u206 u207 u208 u209 u210 u211 u212 u213 u214 u215 u216 u217 u218 u219 u220 u221 u222 u223 u224 u225 u226 u227 u228 u229 u230 u231 u232 u233 u234 u235 u236 u237 u238 u239 : Value) (w' : World), Rf w' V W kb wb (rnds (sch q 64) R 64) q → Q (.exit 6) ⟨List.toArray (x0 :: x1 :: x2 :: x3 :: .slice (some ⟨kb, 0, none⟩) 64 64 :: x5 :: x6 :: .slice (some ⟨W, 0, none⟩) 64 64 :: x8 :: x9 :: x10 :: x11 :: .pointer (some ⟨V, 0, none⟩) :: u13 :: u14 :: u15 :: u16 :: u17 :: x18 :: x19 :: x20 :: x21 :: x22 :: x23 :: x24 :: x25 :: x26 :: x27 :: x28 :: x29 :: x30 :: x31 :: x32 :: x33 :: x34 :: x35 :: x36 :: x37 :: x38 :: x39 :: x40 :: x41 :: x42 :: x43 :: x44 :: x45 :: x46 :: x47 :: x48 :: x49 :: x50 :: x51 :: x52 :: x53 :: x54 :: x55 :: x56 :: x57 :: x58 :: x59 :: x60 :: x61 :: x62 :: x63 :: x64 :: x65 :: x66 :: x67 :: x68 :: x69 :: x70 :: x71 :: x72 :: x73 :: x74 :: x75 :: x76 :: x77 :: x78 :: x79 :: x80 :: x81 :: x82 :: x83 :: x84 :: x85 :: x86 :: x87 :: x88 :: x89 :: x90 :: x91 :: x92 :: x93 :: x94 :: x95 :: x96 :: x97 :: x98 :: x99 :: x100 :: x101 :: x102 :: x103 :: x104 :: x105 :: x106 :: x107 :: x108 :: x109 :: x110 :: x111 :: x112 :: x113 :: x114 :: x115 :: x116 :: x117 :: x118 :: x119 :: x120 :: x121 :: x122 :: x123 :: x124 :: x125 :: x126 :: x127 :: x128 :: x129 :: x130 :: x131 :: x132 :: x133 :: x134 :: x135 :: x136 :: x137 :: x138 :: x139 :: x140 :: x141 :: x142 :: x143 :: x144 :: x145 :: x146 :: x147 :: x148 :: x149 :: x150 :: x151 :: x152 :: x153 :: x154 :: x155 :: u156 :: u157 :: u158 :: u159 :: u160 :: u161 :: u162 :: u163 :: u164 :: u165 :: u166 :: u167 :: u168 :: u169 :: u170 :: u171 :: u172 :: u173 :: u174 :: u175 :: u176 :: u177 :: u178 :: u179 :: u180 :: u181 :: u182 :: u183 :: u184 :: u185 :: u186 :: u187 :: u188 :: u189 :: u190 :: u191 :: u192 :: u193 :: u194 :: u195 :: u196 :: u197 :: u198 :: u199 :: u200 :: u201 :: u202 :: u203 :: u204 :: u205 :: u206 :: u207 :: u208 :: u209 :: u210 :: u211 :: u212 :: u213 :: u214 :: u215 :: u216 :: u217 :: u218 :: u219 :: u220 :: u221 :: u222 :: u223 :: u224 :: u225 :: u226 :: u227 :: u228 :: u229 :: u230 :: u231 :: u232 :: u233 :: u234 :: u235 :: u236 :: u237 :: u238 :: u239 :: x240 :: x241 :: x242 :: x243 :: x244 :: x245 :: x246 :: x247 :: x248 :: x249 :: x250 :: x251 :: x252 :: x253 :: x254 :: x255 :: x256 :: x257 :: x258 :: x259 :: x260 :: x261 :: x262 :: x263 :: x264 :: x265 :: x266 :: x267 :: []), []⟩ w') :
    (Code.loop refRounds).wp Try.prog Q ⟨List.toArray (x0 :: x1 :: x2 :: x3 :: .slice (some ⟨kb, 0, none⟩) 64 64 :: x5 :: x6 :: .slice (some ⟨W, 0, none⟩) 64 64 :: x8 :: x9 :: x10 :: x11 :: .pointer (some ⟨V, 0, none⟩) :: .int .i64 0 :: x14 :: x15 :: x16 :: x17 :: x18 :: x19 :: x20 :: x21 :: x22 :: x23 :: x24 :: x25 :: x26 :: x27 :: x28 :: x29 :: x30 :: x31 :: x32 :: x33 :: x34 :: x35 :: x36 :: x37 :: x38 :: x39 :: x40 :: x41 :: x42 :: x43 :: x44 :: x45 :: x46 :: x47 :: x48 :: x49 :: x50 :: x51 :: x52 :: x53 :: x54 :: x55 :: x56 :: x57 :: x58 :: x59 :: x60 :: x61 :: x62 :: x63 :: x64 :: x65 :: x66 :: x67 :: x68 :: x69 :: x70 :: x71 :: x72 :: x73 :: x74 :: x75 :: x76 :: x77 :: x78 :: x79 :: x80 :: x81 :: x82 :: x83 :: x84 :: x85 :: x86 :: x87 :: x88 :: x89 :: x90 :: x91 :: x92 :: x93 :: x94 :: x95 :: x96 :: x97 :: x98 :: x99 :: x100 :: x101 :: x102 :: x103 :: x104 :: x105 :: x106 :: x107 :: x108 :: x109 :: x110 :: x111 :: x112 :: x113 :: x114 :: x115 :: x116 :: x117 :: x118 :: x119 :: x120 :: x121 :: x122 :: x123 :: x124 :: x125 :: x126 :: x127 :: x128 :: x129 :: x130 :: x131 :: x132 :: x133 :: x134 :: x135 :: x136 :: x137 :: x138 :: x139 :: x140 :: x141 :: x142 :: x143 :: x144 :: x145 :: x146 :: x147 :: x148 :: x149 :: x150 :: x151 :: x152 :: x153 :: x154 :: x155 :: x156 :: x157 :: x158 :: x159 :: x160 :: x161 :: x162 :: x163 :: x164 :: x165 :: x166 :: x167 :: x168 :: x169 :: x170 :: x171 :: x172 :: x173 :: x174 :: x175 :: x176 :: x177 :: x178 :: x179 :: x180 :: x181 :: x182 :: x183 :: x184 :: x185 :: x186 :: x187 :: x188 :: x189 :: x190 :: x191 :: x192 :: x193 :: x194 :: x195 :: x196 :: x197 :: x198 :: x199 :: x200 :: x201 :: x202 :: x203 :: x204 :: x205 :: x206 :: x207 :: x208 :: x209 :: x210 :: x211 :: x212 :: x213 :: x214 :: x215 :: x216 :: x217 :: x218 :: x219 :: x220 :: x221 :: x222 :: x223 :: x224 :: x225 :: x226 :: x227 :: x228 :: x229 :: x230 :: x231 :: x232 :: x233 :: x234 :: x235 :: x236 :: x237 :: x238 :: x239 :: x240 :: x241 :: x242 :: x243 :: x244 :: x245 :: x246 :: x247 :: x248 :: x249 :: x250 :: x251 :: x252 :: x253 :: x254 :: x255 :: x256 :: x257 :: x258 :: x259 :: x260 :: x261 :: x262 :: x263 :: x264 :: x265 :: x266 :: x267 :: []), []⟩ w0 := by
  have Hexit := Lib.hid hexit
  have H0 := Lib.hid h0
  clear hexit h0
  conv => arg 2; arg 1; whnf
  go_loopw [13] (fun y x => ∃ r : Nat, r ≤ 64 ∧ y = .int .i64 (r : Int) ∧ Rf x V W kb wb (rnds (sch q 64) R r) q) (fun y _ => (64 - intOf y).toNat)
  case atStart => exact ⟨0, by omega, rfl, H0.out⟩
  case round =>
    obtain ⟨x, rfl⟩ : ∃ x : World, x = wr := ⟨_, rfl⟩
    obtain ⟨r, hr, rfl, hRr⟩ := hrel
    clear H0
    by_cases r64 : r < 64
    · skip
      have b64' : decide ((r : Int) < 64) = true := decide_eq_true (by omega)
      have c64' : (r : Int) < 64 := by omega
      obtain ⟨v, hv⟩ : ∃ v, v = rnds (sch q 64) R r := ⟨_, rfl⟩
      rw [← hv] at hRr
      have hnext : rnds (sch q 64) R (r + 1) = rnd v (kList.getD r 0) ((sch q 64).getD r 0) := by rw [hv]; rfl
      have Hnext := Lib.hid hnext
      have HRr := Lib.hid hRr
      clear hv hnext hRr
      obtain ⟨kr, hkr⟩ : ∃ k, k = kList.getD r 0 := ⟨_, rfl⟩
      obtain ⟨wd, hwd⟩ : ∃ k, k = (sch q 64).getD r 0 := ⟨_, rfl⟩
      have Hkr := Lib.hid hkr
      have Hwd := Lib.hid hwd
      clear hkr hwd
      obtain ⟨f0, f1, f2, f3, f4, f5, f6, f7⟩ := HRr.out.cells
      have fw := HRr.out.word r r64
      have fk := HRr.out.k r r64
      rw [← Hkr.out] at fk
      rw [← Hwd.out] at fw
      have rx := w32_xor
      have rn := w32_and
      have rr := w32_or
      have ra := w32_add
      have ro := w32_not
      go_wp2_with fail
      refine wp_region_quiet_lit (by kernel_rfl) (by kernel_rfl) ?_
      repeat (quiet_step (fail))
      quiet_step ((exact Calls.quiet_of (rturn_any 6 _ _ rfl _ (by omega) (by omega))))
      repeat (quiet_step (fail))
      quiet_step ((exact Calls.quiet_of (rturn_any 11 _ _ rfl _ (by omega) (by omega))))
      repeat (quiet_step (fail))
      quiet_step ((exact Calls.quiet_of (rturn_any 25 _ _ rfl _ (by omega) (by omega))))
      repeat (quiet_step (fail))
      refine wpQuiet_nil ?_
      intro _ hw'
      obtain ⟨nq2, hw''⟩ := hw'
      subst hw''
      have HR3 := Lib.hid (HRr.out.drewN nq2)
      clear HRr f0 f1 f2 f3 f4 f5 f6 f7 fk fw
      generalize x.drewN nq2 = x3 at *
      obtain ⟨f0, f1, f2, f3, f4, f5, f6, f7⟩ := HR3.out.cells
      have hone : v.h + (v.e.rotateRight 6 ^^^ v.e.rotateRight 11 ^^^ v.e.rotateRight 25) + (v.e &&& v.f ||| ~~~v.e &&& v.g) + kr + wd = one v kr wd := by rw [ch_or]; rfl
      rw [hone]
      generalize ho1 : one v kr wd = o1 at *
      have Ho1 := Lib.hid ho1
      clear ho1
      go_wp2_with fail
      refine wp_region_quiet_lit (by kernel_rfl) (by kernel_rfl) ?_
      repeat (quiet_step (fail))
      quiet_step ((exact Calls.quiet_of (rturn_any 2 _ _ rfl _ (by omega) (by omega))))
      repeat (quiet_step (fail))
      quiet_step ((exact Calls.quiet_of (rturn_any 13 _ _ rfl _ (by omega) (by omega))))
      repeat (quiet_step (fail))
      quiet_step ((exact Calls.quiet_of (rturn_any 22 _ _ rfl _ (by omega) (by omega))))
      repeat (quiet_step (fail))
      refine wpQuiet_nil ?_
      intro _ hw'
      obtain ⟨nq3, hw''⟩ := hw'
      subst hw''
      have HR4 := Lib.hid (HR3.out.drewN nq3)
      clear HR3 f0 f1 f2 f3 f4 f5 f6 f7
      generalize x3.drewN nq3 = x4 at *
      obtain ⟨f0, f1, f2, f3, f4, f5, f6, f7⟩ := HR4.out.cells
      have z0 := HR4.out.st.frozen
      have htwo : (v.a.rotateRight 2 ^^^ v.a.rotateRight 13 ^^^ v.a.rotateRight 22) + (v.a &&& v.b ||| v.a &&& v.c ||| v.b &&& v.c) = two v := by rw [maj_or]; rfl
      rw [htwo]
      generalize ho2 : two v = o2 at *
      have Ho2 := Lib.hid ho2
      clear ho2
      have hrn : rnds (sch q 64) R (r + 1) = ⟨o1 + o2, v.a, v.b, v.c, v.d + o1, v.e, v.f, v.g⟩ := by
        rw [Hnext.out, ← Hkr.out, ← Hwd.out, rnd, Ho1.out, Ho2.out]
      have Hrn := Lib.hid hrn
      clear hrn
      have hput := HR4.out.put hWV hkV ⟨o1 + o2, v.a, v.b, v.c, v.d + o1, v.e, v.f, v.g⟩
      have Hput := Lib.hid hput
      clear hput
      go_wp2_with fail
      go_roundw
      case rel => exact ⟨r + 1, by omega, by go_num, by rw [Hrn.out]; exact Hput.out⟩
      case measure => simp [intOf]; omega
    · skip
      have hr64 : r = 64 := by omega
      rw [hr64] at hRr
      have HRr := Lib.hid hRr
      have b64' : decide ((r : Int) < 64) = false := decide_eq_false (by omega)
      clear hr64 hRr
      go_wp2_with fail
      exact Hexit.out _ _ _ _ _ _ _ _ _ _ _ _ _ _ _ _ _ _ _ _ _ _ _ _ _ _ _ _ _ _ _ _ _ _ _ _ _ _ _ _ _ _ _ _ _ _ _ _ _ _ _ _ _ _ _ _ _ _ _ _ _ _ _ _ _ _ _ _ _ _ _ _ _ _ _ _ _ _ _ _ _ _ _ _ _ _ _ _ _ _ HRr.out

end Go.Proofs.Ytgbnkoeidejhfaa
