/- Joined texts, part 9: contracts of the functions that the laws reach, and what is needed for them. -/
import Derived.Test.YtbpenkaficiodaaGreatP8
namespace Go.Proofs.YtbpenkaficiodaaGreat
open Go.RowKit
set_option maxRecDepth 1000000 in
set_option maxHeartbeats 4000000 in
theorem add_loop (hb V : Nat) (x : World) (R v : St) (Q : Exit → Act → World → Prop) (hne : V ≠ hb) (hH : Blk x hb 223 R.cells) (hV : Blk x V 246 v.cells) (x0 x1 x2 x4 x5 x6 x7 x8 x9 x10 x11 x13 x14 x15 x16 x17 x19 x20 x21 x22 x23 x24 x25 x26 x27 x28 x29 x30 x31 x32 x33 x34 x35 x36 x37 x38 x39 x40 x41 x42 x43 x44 x45 x46 x47 x48 x49 x50 x51 x52 x53 x54 x55 x56 x57 x58 x59 x60 x61 x62 x63 x64 x65 x66 x67 x68 x69 x70 x71 x72 x73 x74 x75 x76 x77 x78 x79 x80 x81 x82 x83 x84 x85 x86 x87 x88 x89 x90 x91 x92 x93 x94 x95 x96 x97 x98 x99 x100 x101 x102 x103 x104 x105 x106 x107 x108 x109 x110 x111 x112 x113 x114 x115 x116 x117 x118 x119 x120 x121 x122 x123 x124 x125 x126 x127 x128 x129 x130 x131 x132 x133 x134 x135 x136 x137 x138 x139 x140 x141 x142 x143 x144 x145 x146 x147 x148 x149 x150 x151 x152 x153 x154 x155 x156 x157 x158 x159 x160 x161 x162 x163 x164 x165 x166 x167 x168 x169 x170 x171 x172 x173 x174 x175 x176 x177 x178 x179 x180 x181 x182 x183 x184 x185 x186 x187 x188 x189 x190 x191 x192 x193 x194 x195 x196 x197 x198 x199 x200 x201 x202 x203 x204 x205 x206 x207 x208 x209 x210 x211 x212 x213 x214 x215 x216 x217 x218 x219 x220 x221 x222 x223 x224 x225 x226 x227 x228 x229 x230 x231 x232 x233 x234 x235 x236 x237 x238 x239 x240 x241 x242 x243 x244 x245 x246 x247 x248 x249 x250 x251 x252 x253 x254 x255 x256 x257 x258 x259 x260 x261 x262 x263 x264 x265 x266 x267 : Value)
    (hexit : ∀ (u18 u240 u241 u242 u243 u244 u245 u246 u247 u248 u249 u250 u251 u252 u253 u254 : Value) (y : World), Blk y hb 223 (R.add v).cells → x.grownBy y (some hb) → Q (.exit 8) ⟨List.toArray (x0 :: x1 :: x2 :: .slice (some ⟨hb, 0, none⟩) 8 8 :: x4 :: x5 :: x6 :: x7 :: x8 :: x9 :: x10 :: x11 :: .pointer (some ⟨V, 0, none⟩) :: x13 :: x14 :: x15 :: x16 :: x17 :: u18 :: x19 :: x20 :: x21 :: x22 :: x23 :: x24 :: x25 :: x26 :: x27 :: x28 :: x29 :: x30 :: x31 :: x32 :: x33 :: x34 :: x35 :: x36 :: x37 :: x38 :: x39 :: x40 :: x41 :: x42 :: x43 :: x44 :: x45 :: x46 :: x47 :: x48 :: x49 :: x50 :: x51 :: x52 :: x53 :: x54 :: x55 :: x56 :: x57 :: x58 :: x59 :: x60 :: x61 :: x62 :: x63 :: x64 :: x65 :: x66 :: x67 :: x68 :: x69 :: x70 :: x71 :: x72 :: x73 :: x74 :: x75 :: x76 :: x77 :: x78 :: x79 :: x80 :: x81 :: x82 :: x83 :: x84 :: x85 :: x86 :: x87 :: x88 :: x89 :: x90 :: x91 :: x92 :: x93 :: x94 :: x95 :: x96 :: x97 :: x98 :: x99 :: x100 :: x101 :: x102 :: x103 :: x104 :: x105 :: x106 :: x107 :: x108 :: x109 :: x110 :: x111 :: x112 :: x113 :: x114 :: x115 :: x116 :: x117 :: x118 :: x119 :: x120 :: x121 :: x122 :: x123 :: x124 :: x125 :: x126 :: x127 :: x128 :: x129 :: x130 :: x131 :: x132 :: x133 :: x134 :: x135 :: x136 :: x137 :: x138 :: x139 :: x140 :: x141 :: x142 :: x143 :: x144 :: x145 :: x146 :: x147 :: x148 :: x149 :: x150 :: x151 :: x152 :: x153 :: x154 :: x155 :: x156 :: x157 :: x158 :: x159 :: x160 :: x161 :: x162 :: x163 :: x164 :: x165 :: x166 :: x167 :: x168 :: x169 :: x170 :: x171 :: x172 :: x173 :: x174 :: x175 :: x176 :: x177 :: x178 :: x179 :: x180 :: x181 :: x182 :: x183 :: x184 :: x185 :: x186 :: x187 :: x188 :: x189 :: x190 :: x191 :: x192 :: x193 :: x194 :: x195 :: x196 :: x197 :: x198 :: x199 :: x200 :: x201 :: x202 :: x203 :: x204 :: x205 :: x206 :: x207 :: x208 :: x209 :: x210 :: x211 :: x212 :: x213 :: x214 :: x215 :: x216 :: x217 :: x218 :: x219 :: x220 :: x221 :: x222 :: x223 :: x224 :: x225 :: x226 :: x227 :: x228 :: x229 :: x230 :: x231 :: x232 :: x233 :: x234 :: x235 :: x236 :: x237 :: x238 :: x239 :: u240 :: u241 :: u242 :: u243 :: u244 :: u245 :: u246 :: u247 :: u248 :: u249 :: u250 :: u251 :: u252 :: u253 :: u254 :: x255 :: x256 :: x257 :: x258 :: x259 :: x260 :: x261 :: x262 :: x263 :: x264 :: x265 :: x266 :: x267 :: []), []⟩ y) :
    (Code.loop refAdd).wp Tryz.prog Q ⟨List.toArray (x0 :: x1 :: x2 :: .slice (some ⟨hb, 0, none⟩) 8 8 :: x4 :: x5 :: x6 :: x7 :: x8 :: x9 :: x10 :: x11 :: .pointer (some ⟨V, 0, none⟩) :: x13 :: x14 :: x15 :: x16 :: x17 :: .int .i64 0 :: x19 :: x20 :: x21 :: x22 :: x23 :: x24 :: x25 :: x26 :: x27 :: x28 :: x29 :: x30 :: x31 :: x32 :: x33 :: x34 :: x35 :: x36 :: x37 :: x38 :: x39 :: x40 :: x41 :: x42 :: x43 :: x44 :: x45 :: x46 :: x47 :: x48 :: x49 :: x50 :: x51 :: x52 :: x53 :: x54 :: x55 :: x56 :: x57 :: x58 :: x59 :: x60 :: x61 :: x62 :: x63 :: x64 :: x65 :: x66 :: x67 :: x68 :: x69 :: x70 :: x71 :: x72 :: x73 :: x74 :: x75 :: x76 :: x77 :: x78 :: x79 :: x80 :: x81 :: x82 :: x83 :: x84 :: x85 :: x86 :: x87 :: x88 :: x89 :: x90 :: x91 :: x92 :: x93 :: x94 :: x95 :: x96 :: x97 :: x98 :: x99 :: x100 :: x101 :: x102 :: x103 :: x104 :: x105 :: x106 :: x107 :: x108 :: x109 :: x110 :: x111 :: x112 :: x113 :: x114 :: x115 :: x116 :: x117 :: x118 :: x119 :: x120 :: x121 :: x122 :: x123 :: x124 :: x125 :: x126 :: x127 :: x128 :: x129 :: x130 :: x131 :: x132 :: x133 :: x134 :: x135 :: x136 :: x137 :: x138 :: x139 :: x140 :: x141 :: x142 :: x143 :: x144 :: x145 :: x146 :: x147 :: x148 :: x149 :: x150 :: x151 :: x152 :: x153 :: x154 :: x155 :: x156 :: x157 :: x158 :: x159 :: x160 :: x161 :: x162 :: x163 :: x164 :: x165 :: x166 :: x167 :: x168 :: x169 :: x170 :: x171 :: x172 :: x173 :: x174 :: x175 :: x176 :: x177 :: x178 :: x179 :: x180 :: x181 :: x182 :: x183 :: x184 :: x185 :: x186 :: x187 :: x188 :: x189 :: x190 :: x191 :: x192 :: x193 :: x194 :: x195 :: x196 :: x197 :: x198 :: x199 :: x200 :: x201 :: x202 :: x203 :: x204 :: x205 :: x206 :: x207 :: x208 :: x209 :: x210 :: x211 :: x212 :: x213 :: x214 :: x215 :: x216 :: x217 :: x218 :: x219 :: x220 :: x221 :: x222 :: x223 :: x224 :: x225 :: x226 :: x227 :: x228 :: x229 :: x230 :: x231 :: x232 :: x233 :: x234 :: x235 :: x236 :: x237 :: x238 :: x239 :: x240 :: x241 :: x242 :: x243 :: x244 :: x245 :: x246 :: x247 :: x248 :: x249 :: x250 :: x251 :: x252 :: x253 :: x254 :: x255 :: x256 :: x257 :: x258 :: x259 :: x260 :: x261 :: x262 :: x263 :: x264 :: x265 :: x266 :: x267 :: []), []⟩ x := by
  have Hexit := Lib.hid hexit
  have HH := Lib.hid hH
  have HV := Lib.hid hV
  clear hexit hH hV
  conv => arg 2; arg 1; whnf
  go_loopw [18] (fun q y => ∃ i : Nat, i ≤ 8 ∧ q = .int .i64 (i : Int) ∧ Blk y hb 223 ((addTo R.list v.list i).map v32) ∧ Blk y V 246 v.cells ∧ x.grownBy y (some hb)) (fun q _ => (8 - intOf q).toNat)
  case atStart => exact ⟨0, by omega, rfl, HH.out, HV.out, grown_refl _ _⟩
  case round =>
    obtain ⟨y, rfl⟩ : ∃ y : World, y = wr := ⟨_, rfl⟩
    obtain ⟨i, hi, rfl, hH, hV, hg⟩ := hrel
    clear HH HV
    by_cases i8 : i < 8
    · skip
      have c8 : (i : Int) < 8 := by omega
      have d8 : decide ((i : Int) < 8) = true := decide_eq_true (by omega)
      have f1 : y.cell? ⟨hb, i, none⟩ = some (v32 (R.list.getD i 0)) := by
        rw [hH.cell, List.getElem?_map, addTo_get R v i i8]; rfl
      have f2 : y.cell? ⟨V, i, none⟩ = some (v32 (v.list.getD i 0)) := by rw [hV.cell, St.get v i i8]
      have z1 := hH.frozen i
      have hset := hH.set i (v32 (R.list.getD i 0 + v.list.getD i 0))
      rw [← List.map_set, addTo_set R v i i8] at hset
      have hoth : Blk (y.setCell ⟨hb, i, none⟩ (v32 (R.list.getD i 0 + v.list.getD i 0))) V 246 v.cells := hV.other hne _
      have hg2 := grown_trans hg (grown_set_drew y hb i (v32 (R.list.getD i 0 + v.list.getD i 0)))
      generalize R.list.getD i 0 = p1 at *
      generalize v.list.getD i 0 = q1 at *
      have ra := w32_add
      have Hset := Lib.hid hset
      have Hoth := Lib.hid hoth
      have Hg2 := Lib.hid hg2
      clear hH hV hg hset hoth hg2
      go_wp2_with fail
      refine wp_region_still_tail 11 Tryz.mixed (by kernel_rfl) ?_
      simp only [List.take_succ_cons, List.take_zero, List.drop_succ_cons, List.drop_zero]
      repeat still_step
      refine wpStill_nil ?_
      go_wp2
      go_roundw
      case rel => exact ⟨i + 1, by omega, by go_num, Hset.out, Hoth.out, Hg2.out⟩
      case measure => simp [intOf]; omega
    · skip
      have hi8 : i = 8 := by omega
      have d8 : decide ((i : Int) < 8) = false := decide_eq_false (by omega)
      rw [hi8, addTo_end, ← St.cells_eq] at hH
      have HH := Lib.hid hH
      have Hg := Lib.hid hg
      clear hi8 hH hV hg
      go_wp2_with fail
      exact Hexit.out _ _ _ _ _ _ _ _ _ _ _ _ _ _ _ _ _ HH.out Hg.out

end Go.Proofs.YtbpenkaficiodaaGreat

namespace Go.Proofs.YtbpenkaficiodaaGreat
open Go.RowKit
set_option maxRecDepth 1000000 in
set_option maxHeartbeats 8000000 in
theorem blocks_loop (hb g cap : Nat) (p : List UInt8) (w3 : World) (Q : Exit → Act → World → Prop) (hgw : hb + 1 < g) (hgs : g < w3.heap.size) (hp64 : p.length % 64 = 0) (hple : p.length ≤ 1099511628000) (hbs : Bs w3 hb g iv p) (x0 x1 x2 x7 x8 x9 x10 x11 x12 x13 x14 x15 x16 x17 x18 x19 x20 x21 x22 x23 x24 x25 x26 x27 x28 x29 x30 x31 x32 x33 x34 x35 x36 x37 x38 x39 x40 x41 x42 x43 x44 x45 x46 x47 x48 x49 x50 x51 x52 x53 x54 x55 x56 x57 x58 x59 x60 x61 x62 x63 x64 x65 x66 x67 x68 x69 x70 x71 x72 x73 x74 x75 x76 x77 x78 x79 x80 x81 x82 x83 x84 x85 x86 x87 x88 x89 x90 x91 x92 x93 x94 x95 x96 x97 x98 x99 x100 x101 x102 x103 x104 x105 x106 x107 x108 x109 x110 x111 x112 x113 x114 x115 x116 x117 x118 x119 x120 x121 x122 x123 x124 x125 x126 x127 x128 x129 x130 x131 x132 x133 x134 x135 x136 x137 x138 x139 x140 x141 x142 x143 x144 x145 x146 x147 x148 x149 x150 x151 x152 x153 x154 x155 x156 x157 x158 x159 x160 x161 x162 x163 x164 x165 x166 x167 x168 x169 x170 x171 x172 x173 x174 x175 x176 x177 x178 x179 x180 x181 x182 x183 x184 x185 x186 x187 x188 x189 x190 x191 x192 x193 x194 x195 x196 x197 x198 x199 x200 x201 x202 x203 x204 x205 x206 x207 x208 x209 x210 x211 x212 x213 x214 x215 x216 x217 x218 x219 x220 x221 x222 x223 x224 x225 x226 x227 x228 x229 x230 x231 x232 x233 x234 x235 x236 x237 x238 x239 x240 x241 x242 x243 x244 x245 x246 x247 x248 x249 x250 x251 x252 x253 x254 x255 x256 x257 x258 x259 x260 x261 x262 x263 x264 x265 x266 x267 : Value)
    (hexit : ∀ (u6 u7 u8 u9 u10 u11 u12 u13 u14 u15 u16 u17 u18 u40 u41 u42 u43 u44 u45 u46 u47 u48 u49 u50 u51 u52 u53 u54 u55 u56 u57 u58 u59 u60 u61 u62 u63 u64 u65 u66 u67 u68 u69 u70 u71 u72 u73 u74 u75 u76 u77 u78 u79 u80 u81 u82 u83 u84 u85 u86 u87 u88 u89 u90 u91 u92 u93 u94 u95 u96 u97 u98 u99 u100 u101 u102 u103 u104 u105 u106 u107 u108 u109 u110 u111 u112 u113 u114 u115 u116 u117 u118 u119 u120 u121 u122 u123 u124 u125 u126 u127 u128 u129 u130 u131 u132 u133 u134 u135 u136 u137 u138 u139 u140 u141 u142 u143 u144 u145 u146 u147 u148 u149 u150 u151 u152 u153 u154 u155 u156 u157 u158 u159 u160 u161 u162 u163 u164 u165 u166 u167 u168 u169 u170 u171 u172 u173 u174 u175 u176 u177 u178 u179 u180 u181 u182 u183 u184 u185 u186 u187 u188 u189 u190 u191 u192 u193 u194 u195 u196 u197 u198 u199 u200 u201 u202 u203 u204 u205 u206 u207 u208 u209 u210 u211 u212 u213 u214 u215 u216 u217 u218 u219 u220 u221 u222 u223 u224 u225 u226 u227 u228 u229 u230 u231 u232 u233 u234 u235 u236 u237 u238 u239 u240 u241 u242 u243 u244 u245 u246 u247 u248 u249 u250 u251 u252 u253 u254 : Value) (w' : World), Bs w' hb g (runs comp (p.length / 64) p iv) p → w3.grownBy w' (some hb) → Q (.exit 2) ⟨List.toArray (x0 :: x1 :: x2 :: .slice (some ⟨hb, 0, none⟩) 8 8 :: .slice (some ⟨hb + 1, 0, none⟩) 64 64 :: .slice (some ⟨g, 0, none⟩) p.length cap :: u6 :: u7 :: u8 :: u9 :: u10 :: u11 :: u12 :: u13 :: u14 :: u15 :: u16 :: u17 :: u18 :: x19 :: x20 :: x21 :: x22 :: x23 :: x24 :: x25 :: x26 :: x27 :: x28 :: x29 :: x30 :: x31 :: x32 :: x33 :: x34 :: x35 :: x36 :: x37 :: x38 :: x39 :: u40 :: u41 :: u42 :: u43 :: u44 :: u45 :: u46 :: u47 :: u48 :: u49 :: u50 :: u51 :: u52 :: u53 :: u54 :: u55 :: u56 :: u57 :: u58 :: u59 :: u60 :: u61 :: u62 :: u63 :: u64 :: u65 :: u66 :: u67 :: u68 :: u69 :: u70 :: u71 :: u72 :: u73 :: u74 :: u75 :: u76 :: u77 :: u78 :: u79 :: u80 :: u81 :: u82 :: u83 :: u84 :: u85 :: u86 :: u87 :: u88 :: u89 :: u90 :: u91 :: u92 :: u93 :: u94 :: u95 :: u96 :: u97 :: u98 :: u99 :: u100 :: u101 :: u102 :: u103 :: u104 :: u105 :: u106 :: u107 :: u108 :: u109 :: u110 :: u111 :: u112 :: u113 :: u114 :: u115 :: u116 :: u117 :: u118 :: u119 :: u120 :: u121 :: u122 :: u123 :: u124 :: u125 :: u126 :: u127 :: u128 :: u129 :: u130 :: u131 :: u132 :: u133 :: u134 :: u135 :: u136 :: u137 :: u138 :: u139 :: u140 :: u141 :: u142 :: u143 :: u144 :: u145 :: u146 :: u147 :: u148 :: u149 :: u150 :: u151 :: u152 :: u153 :: u154 :: u155 :: u156 :: u157 :: u158 :: u159 :: u160 :: u161 :: u162 :: u163 :: u164 :: u165 :: u166 :: u167 :: u168 :: u169 :: u170 :: u171 :: u172 :: u173 :: u174 :: u175 :: u176 :: u177 :: u178 :: u179 :: u180 :: u181 :: u182 :: u183 :: u184 :: u185 :: u186 :: u187 :: u188 :: u189 :: u190 :: u191 :: u192 :: u193 :: u194 :: u195 :: u196 :: u197 :: u198 :: u199 :: u200 :: u201 :: u202 :: u203 :: u204 :: u205 :: u206 :: u207 :: u208 :: u209 :: u210 :: u211 :: u212 :: u213 :: u214 :: u215 :: u216 :: u217 :: u218 :: u219 :: u220 :: u221 :: u222 :: u223 :: u224 :: u225 :: u226 :: u227 :: u228 :: u229 :: u230 :: u231 :: u232 :: u233 :: u234 :: u235 :: u236 :: u237 :: u238 :: u239 :: u240 :: u241 :: u242 :: u243 :: u244 :: u245 :: u246 :: u247 :: u248 :: u249 :: u250 :: u251 :: u252 :: u253 :: u254 :: x255 :: x256 :: x257 :: x258 :: x259 :: x260 :: x261 :: x262 :: x263 :: x264 :: x265 :: x266 :: x267 :: []), []⟩ w') :
    (Code.loop refBlocks).wp Tryz.prog Q ⟨List.toArray (x0 :: x1 :: x2 :: .slice (some ⟨hb, 0, none⟩) 8 8 :: .slice (some ⟨hb + 1, 0, none⟩) 64 64 :: .slice (some ⟨g, 0, none⟩) p.length cap :: .int .i64 0 :: x7 :: x8 :: x9 :: x10 :: x11 :: x12 :: x13 :: x14 :: x15 :: x16 :: x17 :: x18 :: x19 :: x20 :: x21 :: x22 :: x23 :: x24 :: x25 :: x26 :: x27 :: x28 :: x29 :: x30 :: x31 :: x32 :: x33 :: x34 :: x35 :: x36 :: x37 :: x38 :: x39 :: x40 :: x41 :: x42 :: x43 :: x44 :: x45 :: x46 :: x47 :: x48 :: x49 :: x50 :: x51 :: x52 :: x53 :: x54 :: x55 :: x56 :: x57 :: x58 :: x59 :: x60 :: x61 :: x62 :: x63 :: x64 :: x65 :: x66 :: x67 :: x68 :: x69 :: x70 :: x71 :: x72 :: x73 :: x74 :: x75 :: x76 :: x77 :: x78 :: x79 :: x80 :: x81 :: x82 :: x83 :: x84 :: x85 :: x86 :: x87 :: x88 :: x89 :: x90 :: x91 :: x92 :: x93 :: x94 :: x95 :: x96 :: x97 :: x98 :: x99 :: x100 :: x101 :: x102 :: x103 :: x104 :: x105 :: x106 :: x107 :: x108 :: x109 :: x110 :: x111 :: x112 :: x113 :: x114 :: x115 :: x116 :: x117 :: x118 :: x119 :: x120 :: x121 :: x122 :: x123 :: x124 :: x125 :: x126 :: x127 :: x128 :: x129 :: x130 :: x131 :: x132 :: x133 :: x134 :: x135 :: x136 :: x137 :: x138 :: x139 :: x140 :: x141 :: x142 :: x143 :: x144 :: x145 :: x146 :: x147 :: x148 :: x149 :: x150 :: x151 :: x152 :: x153 :: x154 :: x155 :: x156 :: x157 :: x158 :: x159 :: x160 :: x161 :: x162 :: x163 :: x164 :: x165 :: x166 :: x167 :: x168 :: x169 :: x170 :: x171 :: x172 :: x173 :: x174 :: x175 :: x176 :: x177 :: x178 :: x179 :: x180 :: x181 :: x182 :: x183 :: x184 :: x185 :: x186 :: x187 :: x188 :: x189 :: x190 :: x191 :: x192 :: x193 :: x194 :: x195 :: x196 :: x197 :: x198 :: x199 :: x200 :: x201 :: x202 :: x203 :: x204 :: x205 :: x206 :: x207 :: x208 :: x209 :: x210 :: x211 :: x212 :: x213 :: x214 :: x215 :: x216 :: x217 :: x218 :: x219 :: x220 :: x221 :: x222 :: x223 :: x224 :: x225 :: x226 :: x227 :: x228 :: x229 :: x230 :: x231 :: x232 :: x233 :: x234 :: x235 :: x236 :: x237 :: x238 :: x239 :: x240 :: x241 :: x242 :: x243 :: x244 :: x245 :: x246 :: x247 :: x248 :: x249 :: x250 :: x251 :: x252 :: x253 :: x254 :: x255 :: x256 :: x257 :: x258 :: x259 :: x260 :: x261 :: x262 :: x263 :: x264 :: x265 :: x266 :: x267 :: []), []⟩ w3 := by
  have Hexit := Lib.hid hexit
  have Hbs := Lib.hid hbs
  clear hexit hbs
  conv => arg 2; arg 1; whnf
  go_loopw [6] (fun x wr => ∃ j : Nat, 64 * j ≤ p.length ∧ x = .int .i64 ((64 * j : Nat) : Int) ∧ Bs wr hb g (runs comp j p iv) p ∧ w3.grownBy wr (some hb)) (fun x _ => p.length - (intOf x).toNat)
  case atStart => exact ⟨0, by omega, rfl, Hbs.out, grown_refl _ _⟩
  case round =>
    obtain ⟨wo, rfl⟩ : ∃ wo : World, wo = wr := ⟨_, rfl⟩
    obtain ⟨j, hj, rfl, hb', hgr⟩ := hrel
    obtain ⟨R, hR⟩ : ∃ R, R = runs comp j p iv := ⟨_, rfl⟩
    rw [← hR] at hb'
    have HR := Lib.hid hR
    have Hb := Lib.hid hb'
    have Hgr := Lib.hid hgr
    have hgo : g < wo.heap.size := by have := hgr.size; omega
    have hbo : hb + 1 < wo.heap.size := hb'.k.lt
    clear hR hb' hgr Hbs
    by_cases hlt : 64 * j < p.length
    · skip
      have bj : decide (((64 * j : Nat) : Int) < (p.length : Int)) = true := decide_eq_true (by omega)
      have hmk : ∀ W : World, (Instr.makeSlice 243 (.int .i64 64) (.int .i64 64)).run Tryz.prog W = .ok (.slice (some ⟨W.heap.size, 0, none⟩) 64 64) (W.alloc (.cells (madeCells #[.int .u32 0] 64) 223)) :=
        fun W => run_make_row' 243 223 (.int .u32 0) 4 Tryz.underlying_u32s Tryz.info_u32 rfl .i64 .i64 64 (by omega) (by omega) W
      obtain ⟨q, hq⟩ : ∃ q, q = (p.drop (64 * j)).take 64 := ⟨_, rfl⟩
      have hql : q.length = 64 := by rw [hq, List.length_take, List.length_drop]; omega
      have hqget : ∀ i, i < 64 → q.getD i 0 = p.getD (64 * j + i) 0 := by
        intro i hi
        rw [hq]
        simp [List.getD_eq_getElem?_getD, hi]
      have Hq := Lib.hid hq
      have Hqget := Lib.hid hqget
      clear hq hqget
      go_wp2_with fail
      clear hmk
      refine sched_loop g cap j _ p q wo _ _ (by omega) hgo hple (by omega) Hb.out.p Hqget.out (Blk.of _ _ _ _ (by kernel_rfl)) ((Below.refl _ _).alloc (Nat.le_refl _) _) _ _ _ _ _ _ _ _ _ _ _ _ _ _ _ _ _ _ _ _ _ _ _ _ _ _ _ _ _ _ _ _ _ _ _ _ _ _ _ _ _ _ _ _ _ _ _ _ _ _ _ _ _ _ _ _ _ _ _ _ _ _ _ _ _ _ _ _ _ _ _ _ _ _ _ _ _ _ _ _ _ _ _ _ _ _ _ _ _ _ _ _ _ _ _ _ _ _ _ _ _ _ _ _ _ _ _ _ _ _ _ _ _ _ _ _ _ _ _ _ _ _ _ _ _ _ _ _ _ _ _ _ _ _ _ _ _ _ _ _ _ _ _ _ _ _ _ _ _ _ _ _ _ _ _ _ _ _ _ _ _ _ _ _ _ _ _ _ _ _ _ _ _ _ _ _ _ _ _ _ _ _ _ _ _ _ _ _ _ _ _ _ _ _ _ _ _ _ _ _ _ _ _ _ _ _ _ _ _ _ _ _ _ _ _ _ _ _ _ _ _ _ _ _ _ _ _ _ _ _ _ _ _ _ _ _ _ _ _ _ _ _ _ _ _ _ _ _ _ _ _ _ _ _ _ _ _ _ _ _ _ _ _ _ ?_
      intro v8 v9 v10 v11 v47 v48 v49 v50 v51 v52 v53 v54 v55 v56 v57 v58 v59 v60 v61 v62 v63 v64 v65 v66 v67 v68 v69 v70 v71 v72 v73 v74 v75 v76 v77 v78 v79 v80 v81 v82 v83 v84 v85 v86 v87 v88 v89 v90 v91 v92 v93 v94 v95 v96 v97 v98 v99 v100 v101 v102 v103 v104 v105 v106 v107 v108 v109 v110 v111 v112 v113 v114 v115 v116 v117 v118 v119 v120 v121 v122 v123 v124 v125 v126 v127 v128 v129 v130 wt hA hB
      have hbt := Hb.out.below hgo hB
      have c0 : wt.cell? ⟨hb, 0, none⟩ = some (v32 R.a) := hbt.h.cell 0
      have c1 : wt.cell? ⟨hb, 1, none⟩ = some (v32 R.b) := hbt.h.cell 1
      have c2 : wt.cell? ⟨hb, 2, none⟩ = some (v32 R.c) := hbt.h.cell 2
      have c3 : wt.cell? ⟨hb, 3, none⟩ = some (v32 R.d) := hbt.h.cell 3
      have c4 : wt.cell? ⟨hb, 4, none⟩ = some (v32 R.e) := hbt.h.cell 4
      have c5 : wt.cell? ⟨hb, 5, none⟩ = some (v32 R.f) := hbt.h.cell 5
      have c6 : wt.cell? ⟨hb, 6, none⟩ = some (v32 R.g) := hbt.h.cell 6
      have c7 : wt.cell? ⟨hb, 7, none⟩ = some (v32 R.h) := hbt.h.cell 7
      have Hbt := Lib.hid hbt
      have HA2 := Lib.hid hA
      have HB := Lib.hid hB
      have hgt : g < wt.heap.size := by have := hB.size; omega
      have hbo2 : hb + 1 < wt.heap.size := hbt.k.lt
      have hbo3 : hb < wt.heap.size := by omega
      clear hbt hA hB
      go_wp2_with fail
      go_region_held3 (fun w' => w'.cell? ⟨hb, 0, none⟩ = some (v32 R.a) ∧ w'.cell? ⟨hb, 1, none⟩ = some (v32 R.b) ∧ w'.cell? ⟨hb, 2, none⟩ = some (v32 R.c) ∧ w'.cell? ⟨hb, 3, none⟩ = some (v32 R.d) ∧ w'.cell? ⟨hb, 4, none⟩ = some (v32 R.e) ∧ w'.cell? ⟨hb, 5, none⟩ = some (v32 R.f) ∧ w'.cell? ⟨hb, 6, none⟩ = some (v32 R.g) ∧ w'.cell? ⟨hb, 7, none⟩ = some (v32 R.h)) (go_keep) (fail)
      clear c0 c1 c2 c3 c4 c5 c6 c7
      go_wp2_with fail
      refine rounds_loop wt.heap.size wo.heap.size (hb + 1) wt _ R q _ (by have := HA2.out.lt; omega) (by omega) ⟨(Blk.of _ _ _ _ rfl).drew, (HA2.out.alloc _).drew, (Hbt.out.k.alloc _).drew, ((Below.refl _ _).alloc (Nat.le_refl _) _).drew⟩ _ _ _ _ _ _ _ _ _ _ _ _ _ _ _ _ _ _ _ _ _ _ _ _ _ _ _ _ _ _ _ _ _ _ _ _ _ _ _ _ _ _ _ _ _ _ _ _ _ _ _ _ _ _ _ _ _ _ _ _ _ _ _ _ _ _ _ _ _ _ _ _ _ _ _ _ _ _ _ _ _ _ _ _ _ _ _ _ _ _ _ _ _ _ _ _ _ _ _ _ _ _ _ _ _ _ _ _ _ _ _ _ _ _ _ _ _ _ _ _ _ _ _ _ _ _ _ _ _ _ _ _ _ _ _ _ _ _ _ _ _ _ _ _ _ _ _ _ _ _ _ _ _ _ _ _ _ _ _ _ _ _ _ _ _ _ _ _ _ _ _ _ _ _ _ _ _ _ _ _ _ _ _ _ _ _ _ _ _ _ _ _ _ _ _ _ _ _ _ _ _ _ _ _ _ _ _ _ _ _ _ _ _ _ _ _ _ _ _ _ _ _ _ _ _ _ _ _ _ _ _ _ _ _ _ _ _ _ _ _ _ _ _ _ _ _ _ _ _ _ _ _ _ _ _ _ _ _ _ _ _ _ _ _ ?_
      intro y13 y14 y15 y16 y17 y156 y157 y158 y159 y160 y161 y162 y163 y164 y165 y166 y167 y168 y169 y170 y171 y172 y173 y174 y175 y176 y177 y178 y179 y180 y181 y182 y183 y184 y185 y186 y187 y188 y189 y190 y191 y192 y193 y194 y195 y196 y197 y198 y199 y200 y201 y202 y203 y204 y205 y206 y207 y208 y209 y210 y211 y212 y213 y214 y215 y216 y217 y218 y219 y220 y221 y222 y223 y224 y225 y226 y227 y228 y229 y230 y231 y232 y233 y234 y235 y236 y237 y238 y239 x hRr
      obtain ⟨v, hv⟩ : ∃ v, v = rnds (sch q 64) R 64 := ⟨_, rfl⟩
      have hcomp : comp R q = R.add v := by rw [hv]; rfl
      rw [← hv] at hRr
      have hHx := Hbt.out.h.below hRr.below (by omega)
      have hpx : ∀ i, i < p.length → x.cell? ⟨g, i, none⟩ = some (.int .u8 ((p.getD i 0).toNat : Int)) := fun i hi => (hRr.below.cell (p := ⟨g, i, none⟩) hgt).trans (Hbt.out.p i hi)
      have hgx : w3.grownBy x (some hb) := grown_trans Hgr.out (grown_trans (grownBy_of_below HB.out _) (grownBy_of_below hRr.below _))
      have hnext : runs comp (j + 1) p iv = comp R q := by rw [runs_succ, ← HR.out, ← Hq.out]
      have HRx := Lib.hid hRr
      have HHx := Lib.hid hHx
      have Hpx := Lib.hid hpx
      have Hgx := Lib.hid hgx
      have Hnext := Lib.hid (hnext.trans hcomp)
      have hvx : wt.heap.size < x.heap.size := hRr.st.lt
      clear hHx hpx hgx hnext hcomp hv hRr Hbt HA2
      go_wp2_with fail
      refine add_loop hb wt.heap.size x R v _ (by omega) HHx.out HRx.out.st _ _ _ _ _ _ _ _ _ _ _ _ _ _ _ _ _ _ _ _ _ _ _ _ _ _ _ _ _ _ _ _ _ _ _ _ _ _ _ _ _ _ _ _ _ _ _ _ _ _ _ _ _ _ _ _ _ _ _ _ _ _ _ _ _ _ _ _ _ _ _ _ _ _ _ _ _ _ _ _ _ _ _ _ _ _ _ _ _ _ _ _ _ _ _ _ _ _ _ _ _ _ _ _ _ _ _ _ _ _ _ _ _ _ _ _ _ _ _ _ _ _ _ _ _ _ _ _ _ _ _ _ _ _ _ _ _ _ _ _ _ _ _ _ _ _ _ _ _ _ _ _ _ _ _ _ _ _ _ _ _ _ _ _ _ _ _ _ _ _ _ _ _ _ _ _ _ _ _ _ _ _ _ _ _ _ _ _ _ _ _ _ _ _ _ _ _ _ _ _ _ _ _ _ _ _ _ _ _ _ _ _ _ _ _ _ _ _ _ _ _ _ _ _ _ _ _ _ _ _ _ _ _ _ _ _ _ _ _ _ _ _ _ _ _ _ _ _ _ _ _ _ _ _ _ _ _ _ _ _ _ _ _ _ _ ?_
      intro z18 z240 z241 z242 z243 z244 z245 z246 z247 z248 z249 z250 z251 z252 z253 z254 y hH hg
      have hbs : Bs y hb g (runs comp (j + 1) p iv) p :=
        ⟨by rw [Hnext.out]; exact hH, HRx.out.ks.grown hg (by simp), fun i hi => hg.cell (Hpx.out i hi) (by simp; omega)⟩
      have hgy := grown_trans Hgx.out hg
      have Hbs := Lib.hid hbs
      have Hgy := Lib.hid hgy
      clear hH hg HRx HHx Hpx Hgx Hnext hbs hgy
      go_wp2
      go_roundw
      case rel => exact ⟨j + 1, by omega, by go_num, Hbs.out, Hgy.out⟩
      case measure => simp [intOf]; omega
    · skip
      have hjn : j = p.length / 64 := by omega
      have bj : decide (((64 * j : Nat) : Int) < (p.length : Int)) = false := decide_eq_false (by omega)
      have hB := Hb.out
      rw [HR.out, hjn] at hB
      have HB := Lib.hid hB
      clear hjn hB Hb HR
      go_wp2_with fail
      exact Hexit.out _ _ _ _ _ _ _ _ _ _ _ _ _ _ _ _ _ _ _ _ _ _ _ _ _ _ _ _ _ _ _ _ _ _ _ _ _ _ _ _ _ _ _ _ _ _ _ _ _ _ _ _ _ _ _ _ _ _ _ _ _ _ _ _ _ _ _ _ _ _ _ _ _ _ _ _ _ _ _ _ _ _ _ _ _ _ _ _ _ _ _ _ _ _ _ _ _ _ _ _ _ _ _ _ _ _ _ _ _ _ _ _ _ _ _ _ _ _ _ _ _ _ _ _ _ _ _ _ _ _ _ _ _ _ _ _ _ _ _ _ _ _ _ _ _ _ _ _ _ _ _ _ _ _ _ _ _ _ _ _ _ _ _ _ _ _ _ _ _ _ _ _ _ _ _ _ _ _ _ _ _ _ _ _ _ _ _ _ _ _ _ _ _ _ _ _ _ _ _ _ _ _ _ _ _ _ _ _ _ _ _ _ _ _ _ _ _ _ _ _ _ _ _ _ _ _ _ _ _ HB.out Hgr.out

end Go.Proofs.YtbpenkaficiodaaGreat

namespace Go.Proofs.YtbpenkaficiodaaGreat
open Go.RowKit
set_option maxRecDepth 1000000 in
set_option maxHeartbeats 4000000 in
theorem out_loop (hb : Nat) (R : St) (wo : World) (Q : Exit → Act → World → Prop) (hh : ∀ n, n < 8 → wo.cell? ⟨hb, n, none⟩ = some (v32 (R.list.getD n 0))) (hlt0 : hb < wo.heap.size) (x0 x1 x2 x4 x5 x6 x7 x8 x9 x10 x11 x12 x13 x14 x15 x16 x17 x18 x21 x22 x23 x24 x25 x26 x27 x28 x29 x30 x31 x32 x33 x34 x35 x36 x37 x38 x39 x40 x41 x42 x43 x44 x45 x46 x47 x48 x49 x50 x51 x52 x53 x54 x55 x56 x57 x58 x59 x60 x61 x62 x63 x64 x65 x66 x67 x68 x69 x70 x71 x72 x73 x74 x75 x76 x77 x78 x79 x80 x81 x82 x83 x84 x85 x86 x87 x88 x89 x90 x91 x92 x93 x94 x95 x96 x97 x98 x99 x100 x101 x102 x103 x104 x105 x106 x107 x108 x109 x110 x111 x112 x113 x114 x115 x116 x117 x118 x119 x120 x121 x122 x123 x124 x125 x126 x127 x128 x129 x130 x131 x132 x133 x134 x135 x136 x137 x138 x139 x140 x141 x142 x143 x144 x145 x146 x147 x148 x149 x150 x151 x152 x153 x154 x155 x156 x157 x158 x159 x160 x161 x162 x163 x164 x165 x166 x167 x168 x169 x170 x171 x172 x173 x174 x175 x176 x177 x178 x179 x180 x181 x182 x183 x184 x185 x186 x187 x188 x189 x190 x191 x192 x193 x194 x195 x196 x197 x198 x199 x200 x201 x202 x203 x204 x205 x206 x207 x208 x209 x210 x211 x212 x213 x214 x215 x216 x217 x218 x219 x220 x221 x222 x223 x224 x225 x226 x227 x228 x229 x230 x231 x232 x233 x234 x235 x236 x237 x238 x239 x240 x241 x242 x243 x244 x245 x246 x247 x248 x249 x250 x251 x252 x253 x254 x255 x256 x257 x258 x259 x260 x261 x262 x263 x264 x265 x266 x267 : Value)
    (hexit : ∀ (u20 u255 u256 u257 u258 u259 u260 u261 u262 u263 u264 u265 u266 : Value) (w' : World), Below wo.heap.size wo w' → Q (.exit 10) ⟨List.toArray (x0 :: x1 :: x2 :: .slice (some ⟨hb, 0, none⟩) 8 8 :: x4 :: x5 :: x6 :: x7 :: x8 :: x9 :: x10 :: x11 :: x12 :: x13 :: x14 :: x15 :: x16 :: x17 :: x18 :: .string (str (outOf R)) :: u20 :: x21 :: x22 :: x23 :: x24 :: x25 :: x26 :: x27 :: x28 :: x29 :: x30 :: x31 :: x32 :: x33 :: x34 :: x35 :: x36 :: x37 :: x38 :: x39 :: x40 :: x41 :: x42 :: x43 :: x44 :: x45 :: x46 :: x47 :: x48 :: x49 :: x50 :: x51 :: x52 :: x53 :: x54 :: x55 :: x56 :: x57 :: x58 :: x59 :: x60 :: x61 :: x62 :: x63 :: x64 :: x65 :: x66 :: x67 :: x68 :: x69 :: x70 :: x71 :: x72 :: x73 :: x74 :: x75 :: x76 :: x77 :: x78 :: x79 :: x80 :: x81 :: x82 :: x83 :: x84 :: x85 :: x86 :: x87 :: x88 :: x89 :: x90 :: x91 :: x92 :: x93 :: x94 :: x95 :: x96 :: x97 :: x98 :: x99 :: x100 :: x101 :: x102 :: x103 :: x104 :: x105 :: x106 :: x107 :: x108 :: x109 :: x110 :: x111 :: x112 :: x113 :: x114 :: x115 :: x116 :: x117 :: x118 :: x119 :: x120 :: x121 :: x122 :: x123 :: x124 :: x125 :: x126 :: x127 :: x128 :: x129 :: x130 :: x131 :: x132 :: x133 :: x134 :: x135 :: x136 :: x137 :: x138 :: x139 :: x140 :: x141 :: x142 :: x143 :: x144 :: x145 :: x146 :: x147 :: x148 :: x149 :: x150 :: x151 :: x152 :: x153 :: x154 :: x155 :: x156 :: x157 :: x158 :: x159 :: x160 :: x161 :: x162 :: x163 :: x164 :: x165 :: x166 :: x167 :: x168 :: x169 :: x170 :: x171 :: x172 :: x173 :: x174 :: x175 :: x176 :: x177 :: x178 :: x179 :: x180 :: x181 :: x182 :: x183 :: x184 :: x185 :: x186 :: x187 :: x188 :: x189 :: x190 :: x191 :: x192 :: x193 :: x194 :: x195 :: x196 :: x197 :: x198 :: x199 :: x200 :: x201 :: x202 :: x203 :: x204 :: x205 :: x206 :: x207 :: x208 :: x209 :: x210 :: x211 :: x212 :: x213 :: x214 :: x215 :: x216 :: x217 :: x218 :: x219 :: x220 :: x221 :: x222 :: x223 :: x224 :: x225 :: x226 :: x227 :: x228 :: x229 :: x230 :: x231 :: x232 :: x233 :: x234 :: x235 :: x236 :: x237 :: x238 :: x239 :: x240 :: x241 :: x242 :: x243 :: x244 :: x245 :: x246 :: x247 :: x248 :: x249 :: x250 :: x251 :: x252 :: x253 :: x254 :: u255 :: u256 :: u257 :: u258 :: u259 :: u260 :: u261 :: u262 :: u263 :: u264 :: u265 :: u266 :: x267 :: []), []⟩ w') :
    (Code.loop refOut).wp Tryz.prog Q ⟨List.toArray (x0 :: x1 :: x2 :: .slice (some ⟨hb, 0, none⟩) 8 8 :: x4 :: x5 :: x6 :: x7 :: x8 :: x9 :: x10 :: x11 :: x12 :: x13 :: x14 :: x15 :: x16 :: x17 :: x18 :: .string { data := #[] } :: .int .i64 0 :: x21 :: x22 :: x23 :: x24 :: x25 :: x26 :: x27 :: x28 :: x29 :: x30 :: x31 :: x32 :: x33 :: x34 :: x35 :: x36 :: x37 :: x38 :: x39 :: x40 :: x41 :: x42 :: x43 :: x44 :: x45 :: x46 :: x47 :: x48 :: x49 :: x50 :: x51 :: x52 :: x53 :: x54 :: x55 :: x56 :: x57 :: x58 :: x59 :: x60 :: x61 :: x62 :: x63 :: x64 :: x65 :: x66 :: x67 :: x68 :: x69 :: x70 :: x71 :: x72 :: x73 :: x74 :: x75 :: x76 :: x77 :: x78 :: x79 :: x80 :: x81 :: x82 :: x83 :: x84 :: x85 :: x86 :: x87 :: x88 :: x89 :: x90 :: x91 :: x92 :: x93 :: x94 :: x95 :: x96 :: x97 :: x98 :: x99 :: x100 :: x101 :: x102 :: x103 :: x104 :: x105 :: x106 :: x107 :: x108 :: x109 :: x110 :: x111 :: x112 :: x113 :: x114 :: x115 :: x116 :: x117 :: x118 :: x119 :: x120 :: x121 :: x122 :: x123 :: x124 :: x125 :: x126 :: x127 :: x128 :: x129 :: x130 :: x131 :: x132 :: x133 :: x134 :: x135 :: x136 :: x137 :: x138 :: x139 :: x140 :: x141 :: x142 :: x143 :: x144 :: x145 :: x146 :: x147 :: x148 :: x149 :: x150 :: x151 :: x152 :: x153 :: x154 :: x155 :: x156 :: x157 :: x158 :: x159 :: x160 :: x161 :: x162 :: x163 :: x164 :: x165 :: x166 :: x167 :: x168 :: x169 :: x170 :: x171 :: x172 :: x173 :: x174 :: x175 :: x176 :: x177 :: x178 :: x179 :: x180 :: x181 :: x182 :: x183 :: x184 :: x185 :: x186 :: x187 :: x188 :: x189 :: x190 :: x191 :: x192 :: x193 :: x194 :: x195 :: x196 :: x197 :: x198 :: x199 :: x200 :: x201 :: x202 :: x203 :: x204 :: x205 :: x206 :: x207 :: x208 :: x209 :: x210 :: x211 :: x212 :: x213 :: x214 :: x215 :: x216 :: x217 :: x218 :: x219 :: x220 :: x221 :: x222 :: x223 :: x224 :: x225 :: x226 :: x227 :: x228 :: x229 :: x230 :: x231 :: x232 :: x233 :: x234 :: x235 :: x236 :: x237 :: x238 :: x239 :: x240 :: x241 :: x242 :: x243 :: x244 :: x245 :: x246 :: x247 :: x248 :: x249 :: x250 :: x251 :: x252 :: x253 :: x254 :: x255 :: x256 :: x257 :: x258 :: x259 :: x260 :: x261 :: x262 :: x263 :: x264 :: x265 :: x266 :: x267 :: []), []⟩ wo := by
  have Hexit := Lib.hid hexit
  have Hh := Lib.hid hh
  clear hexit hh
  conv => arg 2; arg 1; whnf
  go_loopw [19, 20] (fun s y wr => ∃ n : Nat, n ≤ 8 ∧ y = .int .i64 (n : Int) ∧ s = .string (str ((R.list.take n).flatMap fun x => be 4 x.toNat)) ∧ Below wo.heap.size wo wr) (fun _ y _ => (8 - intOf y).toNat)
  case atStart => exact ⟨0, by omega, rfl, rfl, Below.refl _ _⟩
  case round =>
    obtain ⟨n, hn, rfl, rfl, hbe⟩ := hrel
    by_cases n8 : n < 8
    · skip
      have b8 : decide ((n : Int) < 8) = true := decide_eq_true (by omega)
      have c8 : (n : Int) < 8 := by omega
      have hcell : wr.cell? ⟨hb, n, none⟩ = some (v32 (R.list.getD n 0)) := (hbe.cell (p := ⟨hb, n, none⟩) hlt0).trans (Hh.out n n8)
      have hnx : (R.list.take (n + 1)).flatMap (fun x => be 4 x.toNat) = (R.list.take n).flatMap (fun x => be 4 x.toNat) ++ be 4 (R.list.getD n 0).toNat := by
        have : n = 0 ∨ n = 1 ∨ n = 2 ∨ n = 3 ∨ n = 4 ∨ n = 5 ∨ n = 6 ∨ n = 7 := by omega
        rcases this with rfl | rfl | rfl | rfl | rfl | rfl | rfl | rfl <;> simp [St.list]
      obtain ⟨acc, hacc⟩ : ∃ a, a = (R.list.take n).flatMap fun x => be 4 x.toNat := ⟨_, rfl⟩
      have hal : acc.length ≤ 32 := by rw [hacc]; exact flat_le R n
      rw [← hacc] at hnx ⊢
      generalize R.list.getD n 0 = q at *
      have hw : IntKind.u64.wrap (iw q) = iw q := by have := iw_bound q; rw [IntKind.wrap_u64]; omega
      have hadd := str_add Tryz.prog acc (be 4 q.toNat) (by rw [be_length]; omega)
      rw [← hnx] at hadd
      obtain ⟨acc2, hacc2⟩ : ∃ a, a = (R.list.take (n + 1)).flatMap fun x => be 4 x.toNat := ⟨_, rfl⟩
      rw [← hacc2] at hadd
      have Hadd := Lib.hid hadd
      have Hacc2 := Lib.hid hacc2
      have Hbe := Lib.hid hbe
      clear hbe hnx hacc hadd hacc2
      go_wp2_with fail
      refine (bytes_any q.toNat 4 _ (by omega) (by omega)).mono ?_
      rintro e w4 ⟨rfl, hb4⟩
      have Hbe4 := Lib.hid (Hbe.out.trans (hb4.mono Hbe.out.size))
      have ha := Hadd.out
      clear hb4 Hbe
      go_wp2_with fail
      go_roundw
      case rel => exact ⟨n + 1, by omega, by go_num, by rw [Hacc2.out], Hbe4.out⟩
      case measure => simp [intOf]; omega
    · skip
      have b8 : decide ((n : Int) < 8) = false := decide_eq_false (by omega)
      have hn8 : n = 8 := by omega
      have hres : (R.list.take n).flatMap (fun x => be 4 x.toNat) = outOf R := by rw [hn8]; rfl
      rw [hres]
      have Hbe := Lib.hid hbe
      clear hn8 hres hbe
      go_wp2_with fail
      exact Hexit.out _ _ _ _ _ _ _ _ _ _ _ _ _ _ Hbe.out

end Go.Proofs.YtbpenkaficiodaaGreat

namespace Go.Proofs.YtbpenkaficiodaaGreat
open Go.RowKit
set_option maxRecDepth 1000000 in
set_option maxHeartbeats 8000000 in
theorem refSum_any (l : List UInt8) (w : World) (hl : l.length ≤ 1099511627776) :
    Calls Tryz.prog 188 #[.string (str l)] w fun e w' => e = .returned (.string (str (sha l))) ∧ Below w.heap.size w w' := by
  have hsz := str_size l
  have hc1 : ({ data := #[128] } : ByteArray) = str [128] := rfl
  obtain ⟨x1, hx1⟩ : ∃ x, x = l ++ [(128 : UInt8)] := ⟨_, rfl⟩
  have h1l : x1.length = l.length + 1 := by rw [hx1]; simp
  have a1 := str_add Tryz.prog l [128] (by simp; omega)
  rw [← hx1] at a1
  have a2 := run_bytes_of Tryz.underlying_str Tryz.underlying_bytes Tryz.underlying_u8 x1
  have Hx1 := Lib.hid hx1
  clear hx1
  go_enter Tryz.func188, Tryz.ntmps188
  go_wp2_with (go_at_call 197; refine (ks_any _).mono ?_; rintro e w1 ⟨rfl, hk1, hb1⟩; have Hk1 := Lib.hid hk1; have Hb1 := Lib.hid hb1; clear hk1 hb1)
  have hH1 : Blk w1 w.heap.size 223 iv.cells := (Blk.of w _ _ iv.cells rfl).below Hb1.out (by simp)
  have hB1 : Below w.heap.size w w1 := ((Below.refl _ _).alloc (Nat.le_refl _) _).trans (Hb1.out.mono (by simp))
  have hK1 : Blk w1 (w.heap.size + 1) 223 (kList.map v32) := by have := Hk1.out; simpa using this
  have hR := row_bytes w1 5 x1 (by simp only [maxLen]; omega)
  rw [h1l] at hR
  have HH1 := Lib.hid hH1
  have HB1 := Lib.hid hB1
  have HK1 := Lib.hid hK1
  have HR := Lib.hid hR
  have hw1s : w.heap.size + 1 < w1.heap.size := hK1.lt
  clear hH1 hB1 hK1 hR Hk1 Hb1 a1 a2 hc1
  obtain ⟨zm, hzm⟩ : ∃ z, z = (119 - l.length % 64) % 64 := ⟨_, rfl⟩
  have Hzm := Lib.hid hzm
  clear hzm
  go_loopw [5] (fun v wr => ∃ z : Nat, z ≤ zm ∧ Row wr w1.heap.size 5 1 v (l.length + 1 + z) (vbytes (x1 ++ List.replicate z 0)) ∧ Below w1.heap.size w1 wr) (fun v _ => match v with | .slice _ n _ => (l.length + 100) - n | _ => 0)
  case atStart => exact ⟨0, by omega, by simpa using HR.out.1, HR.out.2⟩
  case round =>
    obtain ⟨wo, rfl⟩ : ∃ wo : World, wo = wr := ⟨_, rfl⟩
    obtain ⟨z, hz, hrow, hb⟩ := hrel
    obtain ⟨A, c, rfl⟩ := hrow.slice
    have Hrow := Lib.hid hrow
    have Hb := Lib.hid hb
    clear hrow hb HR
    have hzl : z ≤ 63 := by have := Hzm.out; omega
    obtain ⟨L, hL⟩ : ∃ L, L = x1 ++ List.replicate z (0 : UInt8) := ⟨_, rfl⟩
    have hLl : L.length = l.length + 1 + z := by rw [hL, List.length_append, h1l, List.length_replicate]
    have hL1 : x1 ++ List.replicate (z + 1) (0 : UInt8) = L ++ [0] := by rw [hL, List.replicate_succ', List.append_assoc]
    have hrow2 : Row wo w1.heap.size 5 1 (.slice A (l.length + 1 + z) c) (vbytes L).length (vbytes L) := by rw [vbytes_length, hLl, hL]; exact Hrow.out
    have Hrow2 := Lib.hid hrow2
    have HL := Lib.hid hL
    have HLl := Lib.hid hLl
    have HL1 := Lib.hid hL1
    clear hrow2 hL hLl hL1 Hrow
    by_cases hlt : z < zm
    · have hne : ((((l.length : Int) + 1 + (z : Int)) % 64) != 56) = true := by rw [bne_iff_ne]; have := Hzm.out; omega
      go_wp2_with (at_builtin; go_must (refine ap_one Tryz.underlying_bytes Tryz.info_u8 rfl Hrow2.out rfl (by omega) (by rw [vbytes_length, HLl.out]; omega) (Hb.out.size) rfl _ _ rfl rfl rfl ?_; intro v1 w2 hr1 hg1; rw [show (vbytes L ++ [Value.int .u8 0]).length = l.length + 1 + (z + 1) from by rw [List.length_append, vbytes_length, HLl.out]; rfl, show vbytes L ++ [Value.int .u8 0] = vbytes (x1 ++ List.replicate (z + 1) 0) from by rw [HL1.out, vbytes_append]; rfl] at hr1; obtain ⟨A1, c1, rfl⟩ := hr1.slice; have Hr1 := Lib.hid hr1; have Hb2 := Lib.hid (Hb.out.grown hg1 Hb.out.size (fun k hk => (Hrow2.out.block k hk).1)); clear hr1 hg1))
      go_roundw
      case rel => exact ⟨z + 1, by omega, Hr1.out, Hb2.out⟩
      case measure => simp; omega
    · obtain rfl : z = zm := by omega
      have hne : ((((l.length : Int) + 1 + (z : Int)) % 64) != 56) = false := by rw [bne_eq_false_iff_eq]; have := Hzm.out; omega
      have hmul : IntKind.u64.wrap ((l.length : Int) * 8) = ((8 * l.length : Nat) : Int) := by
        rw [IntKind.wrap_u64]; push_cast; omega
      have hlw : IntKind.u64.wrap (l.length : Int) = (l.length : Int) := by rw [IntKind.wrap_u64]; omega
      have hpl : L ++ be 8 (8 * l.length) = padOf l := by rw [HL.out, Hx1.out, Hzm.out, padOf]
      have Hpl := Lib.hid hpl
      clear hpl
      go_wp2_with (first | (go_at_call 175; refine (bytes_any (8 * l.length) 8 _ (by omega) (by omega)).mono ?_; rintro e w2 ⟨rfl, hb2⟩; have Hb2 := Lib.hid (Hb.out.trans (hb2.mono Hb.out.size)); have Hr2 := Lib.hid (Hrow2.out.below hb2); rw [vbytes_length] at Hr2; clear hb2) | (at_builtin; go_must (refine ap_str (l := L) (m := be 8 (8 * l.length)) Tryz.underlying_bytes Tryz.underlying_str Tryz.info_u8 Hr2.out (by rw [be_length, HLl.out]; omega) Hb2.out.size rfl _ _ rfl rfl rfl ?_; intro v1 w3 hr1 hg1; rw [Hpl.out] at hr1; obtain ⟨A1, c1, rfl⟩ := hr1.slice; have Hr3 := Lib.hid hr1; have Hb3 := Lib.hid (Hb2.out.grown hg1 Hb2.out.size (fun k hk => (Hr2.out.block k hk).1)); clear hr1 hg1)))
      have hpn : (padOf l).length = 64 * (l.length / 64) + (tailOf l).length := padOf_length l
      have htl : (tailOf l).length = l.length % 64 + 1 + (119 - l.length % 64) % 64 + 8 := tailOf_length l
      have hsha := sha_pad l
      obtain ⟨p, hp⟩ : ∃ p, p = padOf l := ⟨_, rfl⟩
      rw [← hp] at Hr3 hpn hsha ⊢
      have hp64 : p.length % 64 = 0 := by omega
      have hpos : 0 < p.length := by omega
      have hple : p.length ≤ 1099511628000 := by omega
      obtain ⟨g, cap, hv, hg1, hg2, hcap, hcells⟩ := Hr3.out.form hpos
      injection hv with hv1 _ hv2
      subst hv1 hv2
      have hbs : Bs w3 w.heap.size g iv p := by
        refine ⟨HH1.out.below Hb3.out (by omega), HK1.out.below Hb3.out (by omega), fun j hj => (hcells j _ ?_).1⟩
        simp [vbytes, List.getD_eq_getElem?_getD, hj]
      have hB3 : Below w.heap.size w w3 := HB1.out.trans (Hb3.out.mono HB1.out.size)
      have Hbs := Lib.hid hbs
      have HB3 := Lib.hid hB3
      have Hsha := Lib.hid hsha
      clear hcells hbs hB3 hsha Hr3 Hb3 HH1 HB1 HK1 HL HLl HL1 Hrow2 Hb Hzm Hpl hp hpn htl hne hmul hlw Hr2 Hb2 hsz Hx1
      have hgw : w.heap.size + 1 < g := by omega
      clear hw1s
      have hgs : g < w3.heap.size := by omega
      refine blocks_loop w.heap.size g _ p w3 _ hgw hgs hp64 hple Hbs.out _ _ _ _ _ _ _ _ _ _ _ _ _ _ _ _ _ _ _ _ _ _ _ _ _ _ _ _ _ _ _ _ _ _ _ _ _ _ _ _ _ _ _ _ _ _ _ _ _ _ _ _ _ _ _ _ _ _ _ _ _ _ _ _ _ _ _ _ _ _ _ _ _ _ _ _ _ _ _ _ _ _ _ _ _ _ _ _ _ _ _ _ _ _ _ _ _ _ _ _ _ _ _ _ _ _ _ _ _ _ _ _ _ _ _ _ _ _ _ _ _ _ _ _ _ _ _ _ _ _ _ _ _ _ _ _ _ _ _ _ _ _ _ _ _ _ _ _ _ _ _ _ _ _ _ _ _ _ _ _ _ _ _ _ _ _ _ _ _ _ _ _ _ _ _ _ _ _ _ _ _ _ _ _ _ _ _ _ _ _ _ _ _ _ _ _ _ _ _ _ _ _ _ _ _ _ _ _ _ _ _ _ _ _ _ _ _ _ _ _ _ _ _ _ _ _ _ _ _ _ _ _ _ _ _ _ _ _ _ _ _ _ _ _ _ _ _ _ _ _ _ _ _ _ _ _ _ _ _ _ _ _ _ _ ?_
      intro v6 v7 v8 v9 v10 v11 v12 v13 v14 v15 v16 v17 v18 v40 v41 v42 v43 v44 v45 v46 v47 v48 v49 v50 v51 v52 v53 v54 v55 v56 v57 v58 v59 v60 v61 v62 v63 v64 v65 v66 v67 v68 v69 v70 v71 v72 v73 v74 v75 v76 v77 v78 v79 v80 v81 v82 v83 v84 v85 v86 v87 v88 v89 v90 v91 v92 v93 v94 v95 v96 v97 v98 v99 v100 v101 v102 v103 v104 v105 v106 v107 v108 v109 v110 v111 v112 v113 v114 v115 v116 v117 v118 v119 v120 v121 v122 v123 v124 v125 v126 v127 v128 v129 v130 v131 v132 v133 v134 v135 v136 v137 v138 v139 v140 v141 v142 v143 v144 v145 v146 v147 v148 v149 v150 v151 v152 v153 v154 v155 v156 v157 v158 v159 v160 v161 v162 v163 v164 v165 v166 v167 v168 v169 v170 v171 v172 v173 v174 v175 v176 v177 v178 v179 v180 v181 v182 v183 v184 v185 v186 v187 v188 v189 v190 v191 v192 v193 v194 v195 v196 v197 v198 v199 v200 v201 v202 v203 v204 v205 v206 v207 v208 v209 v210 v211 v212 v213 v214 v215 v216 v217 v218 v219 v220 v221 v222 v223 v224 v225 v226 v227 v228 v229 v230 v231 v232 v233 v234 v235 v236 v237 v238 v239 v240 v241 v242 v243 v244 v245 v246 v247 v248 v249 v250 v251 v252 v253 v254 wo hbo hgr
      have hsha2 : sha l = outOf (runs comp (p.length / 64) p iv) := Hsha.out
      obtain ⟨R, hR⟩ : ∃ R, R = runs comp (p.length / 64) p iv := ⟨_, rfl⟩
      rw [← hR] at hsha2 hbo
      have hh : ∀ n, n < 8 → wo.cell? ⟨w.heap.size, n, none⟩ = some (v32 (R.list.getD n 0)) := fun n hn => by rw [hbo.h.cell, St.get R n hn]
      have hB : Below w.heap.size w wo := HB3.out.grown hgr HB3.out.size (fun k hk => by cases hk; exact Nat.le_refl _)
      have hlt0 : w.heap.size < wo.heap.size := hbo.h.lt
      have Hh := Lib.hid hh
      have HBo := Lib.hid hB
      have Hsha2 := Lib.hid hsha2
      clear hR hsha2 hh hB hbo hgr HB3 Hsha Hbs
      go_wp2_with fail
      refine out_loop w.heap.size R wo _ Hh.out hlt0 _ _ _ _ _ _ _ _ _ _ _ _ _ _ _ _ _ _ _ _ _ _ _ _ _ _ _ _ _ _ _ _ _ _ _ _ _ _ _ _ _ _ _ _ _ _ _ _ _ _ _ _ _ _ _ _ _ _ _ _ _ _ _ _ _ _ _ _ _ _ _ _ _ _ _ _ _ _ _ _ _ _ _ _ _ _ _ _ _ _ _ _ _ _ _ _ _ _ _ _ _ _ _ _ _ _ _ _ _ _ _ _ _ _ _ _ _ _ _ _ _ _ _ _ _ _ _ _ _ _ _ _ _ _ _ _ _ _ _ _ _ _ _ _ _ _ _ _ _ _ _ _ _ _ _ _ _ _ _ _ _ _ _ _ _ _ _ _ _ _ _ _ _ _ _ _ _ _ _ _ _ _ _ _ _ _ _ _ _ _ _ _ _ _ _ _ _ _ _ _ _ _ _ _ _ _ _ _ _ _ _ _ _ _ _ _ _ _ _ _ _ _ _ _ _ _ _ _ _ _ _ _ _ _ _ _ _ _ _ _ _ _ _ _ _ _ _ _ _ _ _ _ _ _ _ _ _ _ _ _ _ _ _ _ _ ?_
      intro z20 z255 z256 z257 z258 z259 z260 z261 z262 z263 z264 z265 z266 w5 hb5
      have HB5 := Lib.hid (HBo.out.trans (hb5.mono HBo.out.size))
      rw [← Hsha2.out]
      clear hb5
      go_wp2_with fail
      go_ret
      exact ⟨rfl, HB5.out⟩

end Go.Proofs.YtbpenkaficiodaaGreat

namespace Go.Proofs.YtbpenkaficiodaaGreat
open Go.RowKit

theorem fold_no (q : Nat) (h : rightB q = false) (l : List UInt8) : l.foldl (numStep q) 0 = 0 := by
  induction l with
  | nil => rfl
  | cons c l ih => rw [List.foldl_cons, show numStep q 0 c = 0 from addM_no h]; exact ih
theorem numberOf_no (label : List UInt8) (parts : List (List UInt8)) (q : Nat) (h : rightB q = false) : numberOf label parts q = 0 := fold_no q h _
theorem refMul_d (a b m : Nat) (w : World) (ha : a < 18446744073709551616) (hb : b < 18446744073709551616) (hm : m < 18446744073709551616) :
    Calls Tryz.prog 111 #[.int .u64 (a : Int), .int .u64 (b : Int), .int .u64 (m : Int)] w fun e w' => e = .returned (.int .u64 (mulM a b m : Int)) ∧ ∃ n, w' = w.drewN n :=
  (refMul_any a b m w ha hb hm).mono fun _ _ ⟨he, hw⟩ => ⟨he, 0, hw.symm⟩

set_option maxRecDepth 100000 in
set_option maxHeartbeats 2000000 in
theorem refNumber_any (label : List UInt8) (A : Option Addr) (cap : Nat) (parts : List (List UInt8)) (q : Nat) (w : World) (hp : Strs w A cap parts) (hq : q < 18446744073709551616) (hT : (numText (label :: parts)).length ≤ 1099511627776) (hlen : parts.length ≤ 1099511627776) :
    Calls Tryz.prog 167 #[.string (str label), .slice A parts.length cap, .int .u64 (q : Int)] w fun e w' => e = .returned (.int .u64 (numberOf label parts q : Int)) ∧ Below w.heap.size w w' := by
  cases hrt : rightB q with
  | false =>
    rw [numberOf_no _ _ _ hrt]
    by_cases h2 : q < 2
    · have d1 : decide ((q : Int) < 2) = true := decide_eq_true (by omega)
      go_enter Tryz.func167, Tryz.ntmps167
      go_wp2_with fail
      go_ret
      exact ⟨rfl, Below.refl _ _⟩
    · have d1 : decide ((q : Int) < 2) = false := decide_eq_false (by omega)
      have d2 : decide ((4611686018427387904 : Int) < (q : Int)) = true := decide_eq_true (by have := rightB_no hrt; omega)
      clear hrt
      go_enter Tryz.func167, Tryz.ntmps167
      go_wp2_with fail
      go_ret
      exact ⟨rfl, Below.refl _ _⟩
  | true =>
    obtain ⟨hq1, hq2⟩ := rightB_yes hrt
    have d1 : decide ((q : Int) < 2) = false := decide_eq_false (by omega)
    have d2 : decide ((4611686018427387904 : Int) < (q : Int)) = false := decide_eq_false (by omega)
    have Hp := Lib.hid hp
    obtain ⟨r, hr⟩ : ∃ r, r = numberOf label parts q := ⟨_, rfl⟩
    rw [← hr]
    have Hr := Lib.hid hr
    obtain ⟨n, hn⟩ : ∃ n, n = parts.length := ⟨_, rfl⟩
    rw [← hn] at hlen
    rw [← hn]
    have Hn := Lib.hid hn
    have hszl := str_size label
    have hll : label.length ≤ 1099511627776 := by
      have := numText_length (label :: parts)
      simp only [totalLen, List.map_cons, List.sum_cons] at this
      omega
    obtain ⟨ll, hll2⟩ : ∃ j, j = label.length := ⟨_, rfl⟩
    rw [← hll2] at hszl hll
    have hcv : IntKind.u64.wrap (ll : Int) = (ll : Int) := by rw [IntKind.wrap_u64]; omega
    have ha := str_add Tryz.prog (be 8 ll) label (by rw [be_length]; omega)
    obtain ⟨T0, hT0⟩ : ∃ T, T = be 8 ll ++ label := ⟨_, rfl⟩
    rw [← hT0] at ha
    have HT0 : Hid (T0 = lenText label) := by show T0 = lenText label; rw [hT0, hll2]; rfl
    clear hp hr hrt hn hT0 hll2
    go_enter Tryz.func167, Tryz.ntmps167
    go_wp2_with fail
    refine (bytes_any ll 8 _ (by omega) (by omega)).mono ?_
    rintro e w1 ⟨rfl, hb1⟩
    have Hb1 := Lib.hid hb1
    clear hb1
    go_wp2_with fail
    clear ha hcv hszl d1 d2
    go_loopw [7, 8] (fun x y wr => ∃ k : Nat, k ≤ n ∧ y = .int .i64 (k : Int) ∧ x = .string (str (lenText label ++ numText (parts.take k))) ∧ Below w.heap.size w wr) (fun _ y _ => n - (intOf y).toNat)
    case atStart => exact ⟨0, by omega, rfl, by rw [HT0.out]; simp [numText], Hb1.out⟩
    case round =>
      obtain ⟨k, hk, rfl, rfl, hb⟩ := hrel
      obtain ⟨M, hM⟩ : ∃ M, M = lenText label ++ numText (parts.take k) := ⟨_, rfl⟩
      rw [← hM]
      have Hb := Lib.hid hb
      clear hb Hb1 HT0
      by_cases hlt : k < n
      · have d1 : decide ((k : Int) < (n : Int)) = true := decide_eq_true (by omega)
        have k1 : (k : Int) < (n : Int) := by omega
        have hkL : k < parts.length := by rw [← Hn.out]; exact hlt
        obtain ⟨x, hx⟩ : ∃ x, parts[k]? = some x := ⟨_, List.getElem?_eq_getElem hkL⟩
        obtain ⟨a, rfl, hc⟩ := Hp.out.cells k x hx
        have hnx := numText_take parts k x hx
        have hb8 : (numText (parts.take (k + 1))).length ≤ (numText parts).length := numText_take_le parts (k + 1)
        have hTb : (numText (label :: parts)).length = (lenText label).length + (numText parts).length := by simp [numText]
        have hMl : M.length + (lenText x).length ≤ 1099511627776 := by
          rw [hM, List.length_append]
          rw [hnx, List.length_append] at hb8
          omega
        have hcell : ∀ w', Below wr.heap.size wr w' → w'.cell? (a.add k) = some (.string (str x)) := fun w' hw => below_cell hw (below_cell Hb.out hc)
        have hsz := str_size x
        obtain ⟨xl, hxl2⟩ : ∃ xl, xl = x.length := ⟨_, rfl⟩
        have hxl : xl ≤ 1099511627776 := by rw [lenText, List.length_append, be_length] at hMl; omega
        rw [← hxl2] at hsz
        have hcv : IntKind.u64.wrap (xl : Int) = (xl : Int) := by rw [IntKind.wrap_u64]; omega
        have ha := str_add Tryz.prog M (be 8 xl) (by rw [be_length]; omega)
        obtain ⟨M1, hM1⟩ : ∃ T, T = M ++ be 8 xl := ⟨_, rfl⟩
        have ha2 := str_add Tryz.prog M1 x (by rw [hM1, List.length_append, be_length]; omega)
        obtain ⟨M2, hM2⟩ : ∃ T, T = M1 ++ x := ⟨_, rfl⟩
        rw [← hM1] at ha
        rw [← hM2] at ha2
        have hM3 : M2 = lenText label ++ numText (parts.take (k + 1)) := by
          rw [hM2, hM1, hM, hnx, hxl2, lenText]
          simp [List.append_assoc, lenText]
        have HM3 := Lib.hid hM3
        clear hM hM1 hM2 hM3 hnx hb8 hTb hMl hkL hx hxl2 hc
        go_wp2_with fail
        refine region_quiet_tail (fun w' => Below wr.heap.size wr w') 14 Tryz.mixed (by kernel_rfl) (Below.refl _ _).drew ?_
        simp only [List.take_succ_cons, List.take_zero, List.drop_succ_cons, List.drop_zero]
        repeat (refine wpQuiet_step (fun K hK => ?_); go_simp; refine ⟨_, fun w' hb => (by first | rfl | exact ⟨rfl, rfl⟩ | (rw [hcell w' hb]; exact ⟨rfl, rfl⟩)), hK _ ?_⟩; clear hK K)
        refine wpQuiet_step (fun K hK => ?_)
        go_simp
        refine ⟨.string (str (be 8 xl)), fun w' hb => ?_, hK _ ?_⟩
        · refine (bytes_any xl 8 w' (by omega) (by omega)).mono ?_
          rintro e w4 ⟨rfl, hb4⟩
          exact ⟨rfl, below_trans hb hb4⟩
        clear hK K
        repeat (refine wpQuiet_step (fun K hK => ?_); go_simp; refine ⟨_, fun w' hb => (by first | rfl | exact ⟨rfl, rfl⟩ | (rw [hcell w' hb]; exact ⟨rfl, rfl⟩)), hK _ ?_⟩; clear hK K)
        refine wpQuiet_nil ?_
        intro w4 hb4
        have Hb4 := Lib.hid (below_trans Hb.out hb4)
        clear hb4 hcell
        go_wp2_with fail
        go_roundw
        case rel => exact ⟨k + 1, by omega, by go_num, by rw [HM3.out], Hb4.out⟩
        case measure => simp [intOf]; omega
      · have d1 : decide ((k : Int) < (n : Int)) = false := decide_eq_false (by omega)
        have hMe : M = numText (label :: parts) := by
          rw [hM, List.take_of_length_le (by rw [← Hn.out]; omega)]; rfl
        have hMl : M.length ≤ 1099511627776 := by rw [hMe]; exact hT
        obtain ⟨h, hh⟩ : ∃ h, h = sha M := ⟨_, rfl⟩
        have hhl : h.length = 32 := by rw [hh, sha_length]
        have hsz : (str h).size = 32 := by rw [str_size, hhl]
        have hfin : r = (h.take 16).foldl (numStep q) 0 := by rw [Hr.out, numberOf, ← hMe, ← hh]
        have Hfin := Lib.hid hfin
        have Hh := Lib.hid hh
        have Hhl := Lib.hid hhl
        clear hM hMe hh hhl hfin Hr
        go_wp2_with fail
        refine (refSum_any M _ hMl).mono ?_
        rintro e w2 ⟨rfl, hb2⟩
        rw [← Hh.out]
        have Hb2 := Lib.hid (below_trans Hb.out hb2)
        clear hb2 Hb
        go_wp2_with fail
        go_loopw [10, 11] (fun x y wr => ∃ j z : Nat, j ≤ 16 ∧ y = .int .i64 (j : Int) ∧ x = .int .u64 (z : Int) ∧ z ≤ 4611686018427387904 ∧ z = ((h.take 16).take j).foldl (numStep q) 0 ∧ Below w.heap.size w wr) (fun _ y _ => 16 - (intOf y).toNat)
        case atStart => exact ⟨0, 0, by omega, rfl, rfl, by omega, rfl, Hb2.out⟩
        case round =>
          obtain ⟨j, z, hj, rfl, rfl, hz, hzf, hb3⟩ := hrel
          have Hzf := Lib.hid hzf
          have Hb3 := Lib.hid hb3
          clear hzf hb3 Hb2
          have hbl : (h.take 16).length = 16 := by rw [List.length_take, Hhl.out]; rfl
          by_cases hj16 : j < 16
          · have c1 : decide ((j : Int) < 16) = true := decide_eq_true (by omega)
            obtain ⟨c, hc⟩ : ∃ c, (h.take 16)[j]? = some c := ⟨_, List.getElem?_eq_getElem (by omega)⟩
            have hc2 : h[j]? = some c := by rw [List.getElem?_take, if_pos hj16] at hc; exact hc
            have hidx : ∀ W : World, (Instr.index 9 (.string (str h)) (.int .i64 (j : Int))).run Tryz.prog W = .ok (.int .u8 (c.toNat : Int)) W :=
              fun W => run_index_str Tryz.underlying_str (str h) (j : Int) j c rfl (by rw [str_get]; exact hc2) W
            have hft := fold_take q (h.take 16) j c hc
            rw [← Hzf.out] at hft
            have hcb := c.toNat_lt
            obtain ⟨m1, hm1⟩ : ∃ m, m = mulM z 256 q := ⟨_, rfl⟩
            have hm1b : m1 ≤ 4611686018427387904 := by rw [hm1]; exact mulM_lt _ _ _
            obtain ⟨z2, hz2⟩ : ∃ m, m = addM m1 c.toNat q := ⟨_, rfl⟩
            have hz2b : z2 ≤ 4611686018427387904 := by rw [hz2]; exact addM_lt _ _ _
            have hft2 : ((h.take 16).take (j + 1)).foldl (numStep q) 0 = z2 := by rw [hft, numStep, ← hm1, ← hz2]
            have Hm1 := Lib.hid hm1
            have Hz2 := Lib.hid hz2
            have Hft := Lib.hid hft2
            have cv : IntKind.u64.wrap (c.toNat : Int) = (c.toNat : Int) := by rw [IntKind.wrap_u64]; omega
            have cM : ∀ W : World, Calls Tryz.prog 111 #[.int .u64 (z : Int), .int .u64 256, .int .u64 (q : Int)] W fun e w' => e = .returned (.int .u64 (m1 : Int)) ∧ ∃ n, w' = W.drewN n := by
              intro W; rw [hm1]; exact refMul_d z 256 q W (by omega) (by omega) hq
            have cA : ∀ W : World, Calls Tryz.prog 159 #[.int .u64 (m1 : Int), .int .u64 (c.toNat : Int), .int .u64 (q : Int)] W fun e w' => e = .returned (.int .u64 (z2 : Int)) ∧ ∃ n, w' = W.drewN n := by
              intro W; rw [hz2]; exact refAdd_any m1 c.toNat q W (by omega) (by omega) hq
            have CM := Lib.hid cM
            have CA := Lib.hid cA
            clear hc hc2 hft hft2 hm1 hz2 hbl cM cA
            go_wp2_with fail
            go_quiet ((first | (go_at_call 111; exact Calls.quiet_of (CM.out _)) | (go_at_call 159; exact Calls.quiet_of (CA.out _))))
            go_wp2_with fail
            go_roundw
            case rel => exact ⟨j + 1, z2, by omega, by go_num, rfl, hz2b, Hft.out.symm, below_drewN Hb3.out _⟩
            case measure => simp [intOf]; omega
          · have c1 : decide ((j : Int) < 16) = false := decide_eq_false (by omega)
            have hzr : z = r := by rw [Hzf.out, Hfin.out, List.take_of_length_le (by omega)]
            clear hbl
            subst hzr
            go_wp2_with fail
            go_ret
            exact ⟨rfl, Hb3.out⟩
end Go.Proofs.YtbpenkaficiodaaGreat

/- Challenges: the reference's walk. -/
namespace Go.Proofs.YtbpenkaficiodaaGreat
open Go.RowKit Go.BigFrame

set_option maxRecDepth 100000 in
set_option maxHeartbeats 4000000 in
theorem refChallenge_any (P Q G H : Nat) (R : Value) (label : List UInt8) (A : Option Addr) (capT : Nat) (T : List Nat) (B : Option Addr) (capB : Nat) (rs : List NumV) (Y : Option Addr) (capY : Nat) (C : List Nat) (w : World) (hP : P < 18446744073709551616) (hQ : Q < 18446744073709551616) (hG : G < 18446744073709551616) (hH : H < 18446744073709551616) (hT : Nums w A capT T) (hR : Grid w B capB rs) (hY : Nums w Y capY C)
    (hl : label.length ≤ 1000000) (hTl : T.length ≤ 10000) (hRl : rs.length ≤ 10000) (hrl : ∀ r ∈ rs, r.l.length ≤ 10000) (hYl : C.length ≤ 10000) :
    Calls Tryz.prog 149 #[gval P Q G H R, .string (str label), cval A capT T.length B capB rs.length, .slice Y C.length capY] w fun e w' => e = .returned (.int .u64 (chal label P Q G H T (rs.map (·.l)) C : Int)) ∧ Below w.heap.size w w' := by
  unfold gval cval
  have hbd := chal_bound (P := P) (Q := Q) (G := G) (H := H) (C := C) hl hTl hRl hrl hYl
  obtain ⟨nT, hnT⟩ : ∃ n, n = T.length := ⟨_, rfl⟩
  obtain ⟨nB, hnB⟩ : ∃ n, n = rs.length := ⟨_, rfl⟩
  obtain ⟨nY, hnY⟩ : ∃ n, n = C.length := ⟨_, rfl⟩
  obtain ⟨res, hres⟩ : ∃ s, s = chal label P Q G H T (rs.map (·.l)) C := ⟨_, rfl⟩
  rw [← hnT, ← hnB, ← hnY, ← hres]
  have hb0 : Below w.heap.size w ((w.alloc (.cells #[.int .u64 (P : Int), .int .u64 (Q : Int), .int .u64 (G : Int), .int .u64 (H : Int), R] 25)).alloc (.cells #[.slice A nT capT, .slice B nB capB] 83)) :=
    ((Below.refl _ _).alloc (Nat.le_refl _) _).alloc (by simp) _
  have hg0 : Blk ((w.alloc (.cells #[.int .u64 (P : Int), .int .u64 (Q : Int), .int .u64 (G : Int), .int .u64 (H : Int), R] 25)).alloc (.cells #[.slice A nT capT, .slice B nB capB] 83)) w.heap.size 25 (glist P Q G H R) :=
    (Blk.of w _ _ _ rfl).alloc _
  have hc0 : Blk ((w.alloc (.cells #[.int .u64 (P : Int), .int .u64 (Q : Int), .int .u64 (G : Int), .int .u64 (H : Int), R] 25)).alloc (.cells #[.slice A nT capT, .slice B nB capB] 83)) (w.heap.size + 1) 83 [.slice A nT capT, .slice B nB capB] := by
    have := Blk.of (w.alloc (.cells #[.int .u64 (P : Int), .int .u64 (Q : Int), .int .u64 (G : Int), .int .u64 (H : Int), R] 25)) 83 #[.slice A nT capT, .slice B nB capB] _ rfl
    rwa [show (w.alloc (.cells #[.int .u64 (P : Int), .int .u64 (Q : Int), .int .u64 (G : Int), .int .u64 (H : Int), R] 25)).heap.size = w.heap.size + 1 by simp] at this
  have hT0 := hT.below hb0
  have hY0 := hY.below hb0
  have hR0 := hR.below hb0
  obtain ⟨w0, hw0⟩ : ∃ w0, w0 = ((w.alloc (.cells #[.int .u64 (P : Int), .int .u64 (Q : Int), .int .u64 (G : Int), .int .u64 (H : Int), R] 25)).alloc (.cells #[.slice A nT capT, .slice B nB capB] 83)) := ⟨_, rfl⟩
  rw [← hw0] at hb0 hg0 hc0 hT0 hY0 hR0
  have Hb0 := Lib.hid hb0
  have Hg0 := Lib.hid hg0
  have Hc0 := Lib.hid hc0
  have HT0 := Lib.hid hT0
  have HY0 := Lib.hid hY0
  have HR0 := Lib.hid hR0
  have HnT := Lib.hid hnT
  have HnB := Lib.hid hnB
  have HnY := Lib.hid hnY
  have Hres := Lib.hid hres
  have Hbd := Lib.hid hbd
  have Hrl := Lib.hid hrl
  have Hw0 := Lib.hid hw0
  have hTl' : nT ≤ 10000 := by omega
  have hRl' : nB ≤ 10000 := by omega
  have hYl' : nY ≤ 10000 := by omega
  have hgl := hg0.lt
  have hcl := hc0.lt
  obtain ⟨g0, g1, g2, g3, g4⟩ := gcells hg0
  obtain ⟨f0, f1⟩ := two_cells hc0
  clear hb0 hg0 hc0 hT0 hY0 hR0 hT hR hY hTl hRl hrl hYl hnT hnB hnY hres hw0 hbd
  have hs4 : ∀ x ∈ [P, Q, G, H], x < 18446744073709551616 := by simp [hP, hQ, hG, hH]
  have Hs4 := Lib.hid hs4
  obtain ⟨s1, hs1⟩ : ∃ s, s = numsText [P, Q, G, H] := ⟨_, rfl⟩
  obtain ⟨s2, hs2⟩ : ∃ s, s = numsText T := ⟨_, rfl⟩
  have Hs1 := Lib.hid hs1
  have Hs2 := Lib.hid hs2
  clear hs4 hs1 hs2
  go_enter Tryz.func149, Tryz.ntmps149
  go_wp2_with fail
  rw [← Hw0.out]
  have l0 := Later.cell g0
  have l1 := Later.cell g1
  have l2 := Later.cell g2
  have l3 := Later.cell g3
  have l4 := Later.cell f0
  refine region_loose [(19, fun u w => ∃ A c, u = .slice A 4 c ∧ Nums w A c [P, Q, G, H]), (20, fun u _ => u = .string (str s1)), (23, fun u _ => u = .string (str s2)), (24, fun u w => Row w w0.heap.size 9 1 u 2 [.string (str s1), .string (str s2)])]
    (Know.stable_cons (fun _ _ _ h hl => let ⟨A, c, e, hn⟩ := h; ⟨A, c, e, hn.below hl⟩) (Know.stable_cons (fun _ _ _ h _ => h) (Know.stable_cons (fun _ _ _ h _ => h) (Know.stable_cons (fun _ _ _ h hl => h.below hl) Know.stable_nil)))) (by kernel_rfl) (by kernel_rfl) ?_
  (repeat (first | (refine loose_skip (by rfl) ?_; simp only [Act.put, List.setIfInBounds_toArray, List.set_cons_zero, List.set_cons_succ]) | (refine loose_plain (by rfl) (by rfl) (by rfl) (fun Kc hKc => ?_); go_big_quiet_op; refine hKc _ ?_; clear hKc Kc)))
  refine loose_make 19 (V := fun w => .slice (some ⟨w.heap.size, 0, none⟩) 4 4) (W := fun w => w.alloc (.cells #[.int .u64 (P : Int), .int .u64 (Q : Int), .int .u64 (G : Int), .int .u64 (H : Int)] 22)) (fun w => by go_simp) (by rfl) (by rfl) (by rfl) (fun w _ _ => ⟨(Below.refl _ _).alloc (Nat.le_refl _) _, _, _, rfl, nums_new w [P, Q, G, H] _ Hs4.out⟩) ?_
  rintro _ wk hlk ⟨As, cs, rfl, _⟩
  simp only [Act.put, List.setIfInBounds_toArray, List.set_cons_zero, List.set_cons_succ]
  refine loose_fix 20 (.string (str s1)) (f := 165) (args := #[.slice As 4 cs]) (fun w => by go_simp; try rfl) (by rfl) (by rfl) (by rfl) (fun _ _ => Iff.rfl) (fun w _ hd => by
    obtain ⟨A', c', he, hn⟩ := hd 19 (by decide) _ (.inl ⟨rfl, rfl⟩)
    injection he with h1 _ h2
    subst h1 h2
    rw [Hs1.out]
    exact refNumbers_any As cs _ w hn (by simp)) ?_
  simp only [Act.put, List.setIfInBounds_toArray, List.set_cons_zero, List.set_cons_succ]
  (repeat (first | (refine loose_skip (by rfl) ?_; simp only [Act.put, List.setIfInBounds_toArray, List.set_cons_zero, List.set_cons_succ]) | (refine loose_plain (by rfl) (by rfl) (by rfl) (fun Kc hKc => ?_); go_big_quiet_op; refine hKc _ ?_; clear hKc Kc)))
  refine loose_fix 23 (.string (str s2)) (f := 165) (args := #[.slice A nT capT]) (fun w => by go_simp; try rfl) (by rfl) (by rfl) (by rfl) (fun _ _ => Iff.rfl) (fun w hl hd => by
    rw [Hs2.out, HnT.out]
    exact refNumbers_any A capT T w (HT0.out.below hl) (by rw [← HnT.out]; omega)) ?_
  simp only [Act.put, List.setIfInBounds_toArray, List.set_cons_zero, List.set_cons_succ]
  refine loose_make 24 (V := fun w => .slice (some ⟨w.heap.size, 0, none⟩) 2 2) (W := fun w => w.alloc (.cells #[.string (str s1), .string (str s2)] 9)) (fun w => by go_simp) (by rfl) (by rfl) (by rfl) (fun w hl _ => ⟨(Below.refl _ _).alloc (Nat.le_refl _) _, row_low (Row.of_blk (Blk.of w _ _ _ rfl) 2 rfl (by simp [maxLen])) hl.size⟩) ?_
  intro v25 wk25 _ hrow25
  obtain ⟨A25, c25, rfl⟩ := hrow25.slice
  clear hrow25
  simp only [Act.put, List.setIfInBounds_toArray, List.set_cons_zero, List.set_cons_succ]
  (repeat (first | (refine loose_skip (by rfl) ?_; simp only [Act.put, List.setIfInBounds_toArray, List.set_cons_zero, List.set_cons_succ]) | (refine loose_plain (by rfl) (by rfl) (by rfl) (fun Kc hKc => ?_); go_big_quiet_op; refine hKc _ ?_; clear hKc Kc)))
  refine loose_nil ?_
  intro wq hbq hkn
  have Hrow := Lib.hid (show Row wq w0.heap.size 9 1 (.slice A25 2 c25) 2 [.string (str s1), .string (str s2)] from hkn 24 _ (.inl ⟨rfl, rfl⟩))
  have Hbq := Lib.hid (show Below w0.heap.size w0 wq from hbq)
  have f1q := below_cell Hbq.out f1
  clear hkn hbq l0 l1 l2 l3 l4
  go_wp2_with fail
  go_loopw [9, 10] (fun pv iv wr => ∃ k : Nat, iv = .int .i64 (k : Int) ∧ k ≤ nB ∧ Row wr w0.heap.size 9 1 pv (2 + k) ((chalUpto P Q G H T rs k).map tv) ∧ Below w0.heap.size w0 wr) (fun _ iv _ => nB - (intOf iv).toNat)
  case atStart => exact ⟨0, rfl, by omega, row_len Hrow.out (by omega) (by rw [Hs1.out, Hs2.out]; simp [chalUpto, tv]), Hbq.out⟩
  case round =>
    obtain ⟨k, rfl, hk, hrow, hbr⟩ := hrel
    obtain ⟨Av, cv, rfl⟩ := hrow.slice
    have Hbr := Lib.hid hbr
    have HRw := Lib.hid hrow
    clear hbr hrow
    have hcu := chalUpto_length (P := P) (Q := Q) (G := G) (H := H) (T := T) (rs := rs) (k := k) (by rw [← HnB.out]; omega)
    have Hcu := Lib.hid hcu
    clear hcu
    have f1r := below_cell Hbr.out f1
    by_cases hkl : k < nB
    · have d6 : decide ((k : Int) < (nB : Int)) = true := decide_eq_true (by omega)
      have hki : (k : Int) < (nB : Int) := by omega
      obtain ⟨r, hr⟩ : ∃ r, rs[k]? = some r := ⟨_, List.getElem?_eq_getElem (by rw [← HnB.out]; exact hkl)⟩
      have hmem := List.mem_of_getElem? hr
      obtain ⟨b', hb', hrc⟩ := HR0.out.cells k r hr
      subst hb'
      have hrc := below_cell Hbr.out hrc
      rw [show r.val = .slice r.A r.l.length r.cap from rfl] at hrc
      have hcon := refNumbers_any r.A r.cap r.l wr ((HR0.out.nums r hmem).below Hbr.out) (by have := Hrl.out r hmem; omega)
      have hnx := chalUpto_next (P := P) (Q := Q) (G := G) (H := H) (T := T) hr
      obtain ⟨s3, hs3⟩ : ∃ s, s = numsText r.l := ⟨_, rfl⟩
      rw [← hs3] at hcon hnx
      obtain ⟨nr, hnr⟩ : ∃ n, n = r.l.length := ⟨_, rfl⟩
      rw [← hnr] at hrc hcon
      obtain ⟨xs, hxs⟩ : ∃ xs, xs = (chalUpto P Q G H T rs k).map tv := ⟨_, rfl⟩
      have hxl : xs.length = 2 + k := by rw [hxs, List.length_map, Hcu.out]
      have hnx2 : xs ++ [Value.string (str s3)] = (chalUpto P Q G H T rs (k + 1)).map tv := by rw [← hnx, List.map_append, ← hxs]; rfl
      have HRw2 := Lib.hid (row_len HRw.out hxl.symm hxs.symm)
      have Hnx := Lib.hid hnx2
      have Hxl := Lib.hid hxl
      have Hcon := Lib.hid hcon
      have hxb : (xs.length + 1) * 16 ≤ 140737488355328 := by omega
      clear hr hmem hs3 hnr hxs hxl hnx hnx2 hcon HRw
      go_wp2_with (first | (go_at_call 165; refine Hcon.out.mono ?_; rintro e w2 ⟨rfl, hb2⟩; have Hb2 := Lib.hid hb2; clear hb2) | (at_builtin; go_must (refine ap_one Tryz.und_strs Tryz.info_str rfl (HRw2.out.below Hb2.out) rfl (by omega) hxb (Nat.le_trans Hbr.out.size Hb2.out.size) rfl _ _ rfl rfl rfl ?_; intro v1 w3 hr3 hg3; have hr4 := row_len hr3 (m := 2 + (k + 1)) (by rw [List.length_append, Hxl.out]; simp; omega) Hnx.out; obtain ⟨Av3, cv3, rfl⟩ := hr4.slice; have Hr3 := Lib.hid hr4; have Hb3 := Lib.hid ((below_trans Hbr.out Hb2.out).grown hg3 (below_trans Hbr.out Hb2.out).size (fun q hq => (HRw2.out.block q hq).1)); clear hr3 hr4 hg3)))
      go_roundw
      case rel => exact ⟨k + 1, by go_num, by omega, Hr3.out, Hb3.out⟩
      case measure => simp [intOf]; omega
    · have d6 : decide ((k : Int) < (nB : Int)) = false := decide_eq_false (by omega)
      obtain ⟨s4, hs4⟩ : ∃ s, s = numsText C := ⟨_, rfl⟩
      have hall := chalUpto_all (P := P) (Q := Q) (G := G) (H := H) (T := T) (C := C) (rs := rs) (k := k) (by rw [← HnB.out]; omega)
      obtain ⟨xs, hxs⟩ : ∃ xs, xs = (chalUpto P Q G H T rs k).map tv := ⟨_, rfl⟩
      have hxl : xs.length = 2 + k := by rw [hxs, List.length_map, Hcu.out]
      obtain ⟨pp, hpp⟩ : ∃ p, p = chalParts P Q G H T (rs.map (·.l)) C := ⟨_, rfl⟩
      have hnx2 : xs ++ [Value.string (str s4)] = pp.map tv := by rw [hpp, ← hall, List.map_append, ← hxs, ← hs4]; rfl
      have hppl : pp.length = 2 + k + 1 := by rw [hpp, ← hall, List.length_append, Hcu.out]; rfl
      have hcon := refNumbers_any Y capY C wr (HY0.out.below Hbr.out) (by rw [← HnY.out]; omega)
      rw [← hs4, ← HnY.out] at hcon
      have Hlen1 : Hid ((xs ++ [Value.string (str s4)]).length = pp.length) := Lib.hid (by rw [hppl, List.length_append, hxl]; rfl)
      have Hcon := Lib.hid hcon
      have HRw2 := Lib.hid (row_len HRw.out hxl.symm hxs.symm)
      have Hnx := Lib.hid hnx2
      have hpp0 : 0 < pp.length := by omega
      have Hppl := Lib.hid hppl
      have Hxl := Lib.hid hxl
      have hres2 : res = numberOf label pp Q := by rw [Hres.out, hpp]; rfl
      have Hres2 := Lib.hid hres2
      have Hbd2 : Hid ((numText (label :: pp)).length ≤ 1099511627776 ∧ pp.length ≤ 1099511627776) := by rw [hpp]; exact Lib.hid Hbd.out
      have hxb : (xs.length + 1) * 16 ≤ 140737488355328 := by omega
      have g1r := below_cell Hbr.out g1
      clear hs4 hall hxs hxl hpp hnx2 hppl hcon hres2 HRw Hbd Hres
      go_wp2_with (first | (go_at_call 165; refine Hcon.out.mono ?_; rintro e w2 ⟨rfl, hb2⟩; have Hb2 := Lib.hid hb2; clear hb2) | (at_builtin; go_must (refine ap_one Tryz.und_strs Tryz.info_str rfl (HRw2.out.below Hb2.out) rfl (by omega) hxb (Nat.le_trans Hbr.out.size Hb2.out.size) rfl _ _ rfl rfl rfl ?_; intro v1 w3 hr3 hg3; have hr4 := row_len hr3 Hlen1.out Hnx.out; obtain ⟨g6, cap6, rfl, _, _, hst6⟩ := Row.strs hr4 hpp0; have Hst6 := Lib.hid hst6; have Hb3 := Lib.hid ((below_trans Hbr.out Hb2.out).grown hg3 (below_trans Hbr.out Hb2.out).size (fun q hq => (HRw2.out.block q hq).1)); have g1t := below_cell Hb3.out g1; clear hr3 hr4 hg3 hst6)) | (go_at_call 167; refine (refNumber_any label _ _ pp Q _ Hst6.out hQ Hbd2.out.1 Hbd2.out.2).mono ?_; rw [← Hres2.out]; rintro e w7 ⟨rfl, hb7⟩; have Hb7 := Lib.hid (below_trans Hb3.out hb7); clear hb7))
      go_ret
      exact ⟨rfl, below_trans Hb0.out Hb7.out⟩
end Go.Proofs.YtbpenkaficiodaaGreat

/- Is a talk accepted? The reference's walk. -/
namespace Go.Proofs.YtbpenkaficiodaaGreat
open Go.RowKit

set_option maxRecDepth 100000 in
set_option maxHeartbeats 4000000 in
theorem refAccepts_any (P Q G H E : Nat) (R : Value) (A : Option Addr) (capT : Nat) (T : List Nat) (B : Option Addr) (capB : Nat) (rs : List NumV) (Y : Option Addr) (capY : Nat) (C : List Nat) (X : Option Addr) (capX : Nat) (V : List Nat) (w : World) (hP : P < 18446744073709551616) (hQ : Q < 18446744073709551616) (hQ2 : 2 ≤ Q) (hE : E < 18446744073709551616) (hT : Nums w A capT T) (hR : Grid w B capB rs) (hY : Nums w Y capY C) (hX : Nums w X capX V)
    (hTl : T.length < 9223372036854775807) (hRl : rs.length < 9223372036854775807) (hrl : ∀ r ∈ rs, r.l.length < 9223372036854775807) (hYl : C.length < 9223372036854775807) (hXl : V.length < 9223372036854775807) :
    Calls Tryz.prog 148 #[gval P Q G H R, cval A capT T.length B capB rs.length, .slice Y C.length capY, .int .u64 (E : Int), .slice X V.length capX] w fun e w' => e = .returned (.bool (match imgO P Q T (rs.map (·.l)) V with | none => false | some l => decide (C.length = T.length) && accUpto P Q E l T C T.length)) ∧ Below w.heap.size w w' := by
  have himg := fun W0 hb => refImage_any P Q G H R A capT T B capB rs X capX V W0 hP hQ hQ2 (hT.below (w1 := W0) hb) (hR.below hb) (hX.below hb) hTl hRl hrl hXl
  unfold gval cval at himg ⊢
  obtain ⟨nT, hnT⟩ : ∃ n, n = T.length := ⟨_, rfl⟩
  obtain ⟨nB, hnB⟩ : ∃ n, n = rs.length := ⟨_, rfl⟩
  obtain ⟨nY, hnY⟩ : ∃ n, n = C.length := ⟨_, rfl⟩
  obtain ⟨nX, hnX⟩ : ∃ n, n = V.length := ⟨_, rfl⟩
  have hb0 : Below w.heap.size w ((w.alloc (.cells #[.int .u64 (P : Int), .int .u64 (Q : Int), .int .u64 (G : Int), .int .u64 (H : Int), R] 25)).alloc (.cells #[.slice A nT capT, .slice B nB capB] 83)) :=
    ((Below.refl _ _).alloc (Nat.le_refl _) _).alloc (by simp) _
  have hg0 : Blk ((w.alloc (.cells #[.int .u64 (P : Int), .int .u64 (Q : Int), .int .u64 (G : Int), .int .u64 (H : Int), R] 25)).alloc (.cells #[.slice A nT capT, .slice B nB capB] 83)) w.heap.size 25 (glist P Q G H R) :=
    (Blk.of w _ _ _ rfl).alloc _
  have hc0 : Blk ((w.alloc (.cells #[.int .u64 (P : Int), .int .u64 (Q : Int), .int .u64 (G : Int), .int .u64 (H : Int), R] 25)).alloc (.cells #[.slice A nT capT, .slice B nB capB] 83)) (w.heap.size + 1) 83 [.slice A nT capT, .slice B nB capB] := by
    have := Blk.of (w.alloc (.cells #[.int .u64 (P : Int), .int .u64 (Q : Int), .int .u64 (G : Int), .int .u64 (H : Int), R] 25)) 83 #[.slice A nT capT, .slice B nB capB] _ rfl
    rwa [show (w.alloc (.cells #[.int .u64 (P : Int), .int .u64 (Q : Int), .int .u64 (G : Int), .int .u64 (H : Int), R] 25)).heap.size = w.heap.size + 1 by simp] at this
  have himg0 := himg _ hb0
  have hT0 := hT.below hb0
  have hY0 := hY.below hb0
  obtain ⟨res, hres⟩ : ∃ s, s = imgO P Q T (rs.map (·.l)) V := ⟨_, rfl⟩
  rw [← hnT, ← hnB, ← hnX, ← hres] at himg0
  rw [← hnT, ← hnB, ← hnX, ← hnY, ← hres]
  have Himg := Lib.hid himg0
  have Hb0 := Lib.hid hb0
  have Hg0 := Lib.hid hg0
  have Hc0 := Lib.hid hc0
  have HT0 := Lib.hid hT0
  have HY0 := Lib.hid hY0
  have HnT := Lib.hid hnT
  have HnY := Lib.hid hnY
  have hYl' : nY < 9223372036854775807 := by omega
  have Hres := Lib.hid hres
  clear himg himg0 hb0 hg0 hc0 hT0 hY0 hT hR hY hX hTl hRl hrl hYl hXl hnT hnB hnY hnX hres
  cases res with
  | none =>
    go_enter Tryz.func148, Tryz.ntmps148
    go_wp2_with (go_at_call 169; refine Himg.out.mono ?_; rintro e w2 ⟨hout, hb2⟩; have he : e = .returned (.tuple #[.slice none 0 0, .bool false]) := hout; clear hout; subst he; have Hb2 := Lib.hid hb2; clear hb2)
    go_ret
    exact ⟨rfl, below_trans Hb0.out Hb2.out⟩
  | some l =>
    obtain ⟨hlb, hlT, hl64⟩ := img_bound Hres.out.symm
    have HlT := Lib.hid hlT
    have Hlb := Lib.hid hlb
    have hT64 : nT ≤ 64 := by rw [HnT.out, ← hlT]; exact hl64
    clear hlb hlT hl64
    by_cases h1 : nY = nT
    case neg =>
      have d1 : ((nY : Int) != (nT : Int)) = true := by rw [bne_iff_ne]; omega
      rw [show (match some l with | none => false | some l => decide (nY = nT) && accUpto P Q E l T C nT) = false from by simp [h1]]
      clear h1
      go_enter Tryz.func148, Tryz.ntmps148
      go_wp2_with (go_at_call 169; refine Himg.out.mono ?_; rintro e w2 ⟨⟨v, rfl, hrow⟩, hb2⟩; obtain ⟨f0, f1⟩ := two_cells (Hc0.out.below hb2 Hc0.out.lt); have Hb2 := Lib.hid hb2; clear hb2 hrow)
      go_ret
      exact ⟨rfl, below_trans Hb0.out Hb2.out⟩
    subst h1
    obtain ⟨rr, hrr⟩ : ∃ rr, rr = accUpto P Q E l T C nY := ⟨_, rfl⟩
    rw [show (match some l with | none => false | some l => decide (nY = nY) && accUpto P Q E l T C nY) = rr from by simp [hrr]]
    have Hrr := Lib.hid hrr
    clear hrr
    go_enter Tryz.func148, Tryz.ntmps148
    go_wp2_with (go_at_call 169; refine Himg.out.mono ?_; rintro e w2 ⟨⟨v, rfl, hrow⟩, hb2⟩; obtain ⟨f0, f1⟩ := two_cells (Hc0.out.below hb2 Hc0.out.lt); obtain ⟨Al, cl, rfl, hN⟩ := nums_of_row hrow Hlb.out; have HN := Lib.hid hN; rw [HlT.out, ← HnT.out] ; have Hb2 := Lib.hid hb2; clear hb2 hrow hN)
    have HG2 := Lib.hid (Hg0.out.below Hb2.out Hg0.out.lt)
    have HC2 := Lib.hid (Hc0.out.below Hb2.out Hc0.out.lt)
    have HT2 := Lib.hid (HT0.out.below Hb2.out)
    have HY2 := Lib.hid (HY0.out.below Hb2.out)
    have Hb02 := Lib.hid (below_trans Hb0.out Hb2.out)
    have hgl := HG2.out.lt
    have hcl := HC2.out.lt
    clear Hg0 Hc0 HT0 HY0 Hb0 Hb2 Himg f0 f1
    go_loopw [13] (fun iv wr => ∃ j : Nat, iv = .int .i64 (j : Int) ∧ j ≤ nY ∧ accUpto P Q E l T C j = true ∧ Below w2.heap.size w2 wr) (fun iv _ => nY - (intOf iv).toNat)
    case atStart => exact ⟨0, rfl, by omega, by simp [accUpto], Below.refl _ _⟩
    case round =>
      obtain ⟨j, rfl, hj, hacc, hbr⟩ := hrel
      have Hacc := Lib.hid hacc
      have Hbr := Lib.hid hbr
      clear hacc hbr
      by_cases hjl : j < nY
      · have d6 : decide ((j : Int) < (nY : Int)) = true := decide_eq_true (by omega)
        have hji : (j : Int) < (nY : Int) := by omega
        obtain ⟨g0, g1, g2, g3, g4⟩ := gcells (HG2.out.below Hbr.out hgl)
        obtain ⟨f0, f1⟩ := two_cells (HC2.out.below Hbr.out hcl)
        obtain ⟨t, ht⟩ : ∃ t, C[j]? = some t := ⟨_, List.getElem?_eq_getElem (by rw [← HnY.out]; exact hjl)⟩
        obtain ⟨ay, hAy, htc⟩ := HY2.out.cells j t ht
        subst hAy
        have htc := below_cell Hbr.out htc
        have hts := HY2.out.small t (List.mem_of_getElem? ht)
        obtain ⟨c, hc⟩ : ∃ c, T[j]? = some c := ⟨_, List.getElem?_eq_getElem (by rw [← HnT.out]; exact hjl)⟩
        obtain ⟨ac, hAc, hcc⟩ := HT2.out.cells j c hc
        subst hAc
        have hcc := below_cell Hbr.out hcc
        have hcs := HT2.out.small c (List.mem_of_getElem? hc)
        obtain ⟨x, hx⟩ : ∃ x, l[j]? = some x := ⟨_, List.getElem?_eq_getElem (by rw [HlT.out, ← HnT.out]; exact hjl)⟩
        obtain ⟨al, hAl, hxc⟩ := HN.out.cells j x hx
        subst hAl
        have hxc := below_cell Hbr.out hxc
        have hxs := Hlb.out x (List.mem_of_getElem? hx)
        have heb : expG P Q c E < 18446744073709551616 := by have := powM_le c (E % Q) P; show powM _ _ _ < _; omega
        have hcon := fun W => refIn_any P Q G H t R W hP hQ hts
        have hcon1 := fun W => refExp_any P Q G H c E R W hP hQ hQ2 hcs hE
        have hcon2 := fun W => refMul_any t (expG P Q c E) P W hts heb hP
        have hyes := accUpto_next (P := P) (Q := Q) (E := E) hx hc ht Hacc.out
        have hno := accUpto_no (P := P) (Q := Q) (E := E) hjl hx hc ht
        have hat : accAt P Q E x c t = (inG P Q t && decide (x = mulM t (expG P Q c E) P)) := rfl
        obtain ⟨F, hF⟩ : ∃ F, F = expG P Q c E := ⟨_, rfl⟩
        rw [← hF] at hcon1 hcon2 hat
        obtain ⟨M, hM⟩ : ∃ M, M = mulM t F P := ⟨_, rfl⟩
        rw [← hM] at hcon2 hat
        have Hyes := Lib.hid hyes
        have Hno := Lib.hid hno
        have l0 := Later.cell g0
        have l1 := Later.cell g1
        have l2 := Later.cell g2
        have l3 := Later.cell g3
        have l4 := Later.cell g4
        have l5 := Later.cell f0
        have l6 := Later.cell htc
        have l7 := Later.cell hxc
        have l8 := Later.cell hcc
        clear ht hc hx hF hM hyes hno heb
        cases hin : inG P Q t with
        | false =>
          have hres : rr = false := by rw [Hrr.out]; exact Hno.out (by rw [hat, hin]; rfl)
          subst hres
          rw [hin] at hcon
          clear hat hin
          go_wp2_with fail
          (refine region_calm (by kernel_rfl) (by kernel_rfl) ?_; (repeat (go_big_quiet_step ((first | (go_at_call 20; exact calm_of (hcon _)) | (go_at_call 74; exact calm_of (hcon1 _)) | (go_at_call 111; exact calm_same (hcon2 _)))))); refine wpQuiet_nil ?_; intro wq hw'; obtain ⟨pq, hpq⟩ := hw'; have hbq := pq.below; rw [← hpq] at hbq; clear hpq pq; try dsimp only)
          have Hbq := Lib.hid hbq
          clear hbq l0 l1 l2 l3 l4 l5 l6 l7 l8 hcon hcon1 hcon2
          go_wp2_with fail
          go_ret
          exact ⟨rfl, below_trans Hb02.out (below_trans Hbr.out Hbq.out)⟩
        | true =>
          rw [hin] at hcon
          by_cases hxm : x = M
          · have d7 : ((x : Int) != (M : Int)) = false := by rw [bne_eq_false_iff_eq]; omega
            have hnx := Hyes.out (by rw [hat, hin, hxm]; simp)
            have Hnx := Lib.hid hnx
            clear hat hin hnx hxm
            go_wp2_with fail
            (refine region_calm (by kernel_rfl) (by kernel_rfl) ?_; (repeat (go_big_quiet_step ((first | (go_at_call 20; exact calm_of (hcon _)) | (go_at_call 74; exact calm_of (hcon1 _)) | (go_at_call 111; exact calm_same (hcon2 _)))))); refine wpQuiet_nil ?_; intro wq hw'; obtain ⟨pq, hpq⟩ := hw'; have hbq := pq.below; rw [← hpq] at hbq; clear hpq pq; try dsimp only)
            have Hbq := Lib.hid hbq
            clear hbq l0 l1 l2 l3 l4 l5 l6 l7 l8 hcon hcon1 hcon2
            go_wp2_with fail
            go_roundw
            case rel => exact ⟨j + 1, by go_num, by omega, Hnx.out, below_trans Hbr.out Hbq.out⟩
            case measure => simp [intOf]; omega
          · have d7 : ((x : Int) != (M : Int)) = true := by rw [bne_iff_ne]; omega
            have hres : rr = false := by rw [Hrr.out]; exact Hno.out (by rw [hat, decide_eq_false hxm]; simp)
            subst hres
            clear hat hin hxm
            go_wp2_with fail
            (refine region_calm (by kernel_rfl) (by kernel_rfl) ?_; (repeat (go_big_quiet_step ((first | (go_at_call 20; exact calm_of (hcon _)) | (go_at_call 74; exact calm_of (hcon1 _)) | (go_at_call 111; exact calm_same (hcon2 _)))))); refine wpQuiet_nil ?_; intro wq hw'; obtain ⟨pq, hpq⟩ := hw'; have hbq := pq.below; rw [← hpq] at hbq; clear hpq pq; try dsimp only)
            have Hbq := Lib.hid hbq
            clear hbq l0 l1 l2 l3 l4 l5 l6 l7 l8 hcon hcon1 hcon2
            go_wp2_with fail
            go_ret
            exact ⟨rfl, below_trans Hb02.out (below_trans Hbr.out Hbq.out)⟩
      · have d6 : decide ((j : Int) < (nY : Int)) = false := decide_eq_false (by omega)
        have hres : rr = true := by rw [Hrr.out, ← Hacc.out, show j = nY by omega]
        subst hres
        go_wp2_with fail
        go_ret
        exact ⟨rfl, below_trans Hb02.out Hbr.out⟩
end Go.Proofs.YtbpenkaficiodaaGreat

/- Is a proof accepted? The reference's walk. -/
namespace Go.Proofs.YtbpenkaficiodaaGreat
open Go.RowKit Go.BigFrame


set_option maxRecDepth 100000 in
set_option maxHeartbeats 4000000 in
theorem refAccept_any (P Q G H : Nat) (R : Value) (label : List UInt8) (A : Option Addr) (capT : Nat) (T : List Nat) (B : Option Addr) (capB : Nat) (rs : List NumV) (Y : Option Addr) (capY : Nat) (C : List Nat) (X : Option Addr) (capX : Nat) (V : List Nat) (w : World) (hP : P < 18446744073709551616) (hQ : Q < 18446744073709551616) (hQ2 : 2 ≤ Q) (hG : G < 18446744073709551616) (hH : H < 18446744073709551616) (hT : Nums w A capT T) (hR : Grid w B capB rs) (hY : Nums w Y capY C) (hX : Nums w X capX V)
    (hl : label.length ≤ 1000000) (hTl : T.length ≤ 10000) (hRl : rs.length ≤ 10000) (hrl : ∀ r ∈ rs, r.l.length ≤ 10000) (hYl : C.length ≤ 10000) (hXl : V.length ≤ 10000) :
    Calls Tryz.prog 80 #[gval P Q G H R, .string (str label), cval A capT T.length B capB rs.length, .agg #[.slice Y C.length capY, .slice X V.length capX]] w fun e w' => e = .returned (.bool (acceptB label P Q G H T (rs.map (·.l)) C V)) ∧ Below w.heap.size w w' := by
  obtain ⟨E, hE⟩ : ∃ E, E = chal label P Q G H T (rs.map (·.l)) C := ⟨_, rfl⟩
  have hEl : E < 18446744073709551616 := by rw [hE]; exact chal_lt _ _ _ _ _ _ _ _
  obtain ⟨out, hout⟩ : ∃ s, s = acceptB label P Q G H T (rs.map (·.l)) C V := ⟨_, rfl⟩
  have hac := fun W0 hb => (refAccepts_any P Q G H E R A capT T B capB rs Y capY C X capX V W0 hP hQ hQ2 hEl (hT.below (w1 := W0) hb) (hR.below hb) (hY.below hb) (hX.below hb) (by omega) (by omega) (fun r hr => by have := hrl r hr; omega) (by omega) (by omega)).mono (fun e w' h => (⟨by rw [h.1, hout]; unfold acceptB; rw [← hE]; try rfl, h.2⟩ : e = .returned (.bool out) ∧ Below W0.heap.size W0 w'))
  have hch := fun W0 hb => refChallenge_any P Q G H R label A capT T B capB rs Y capY C W0 hP hQ hG hH (hT.below (w1 := W0) hb) (hR.below hb) (hY.below hb) hl hTl hRl hrl hYl
  unfold gval cval at hac hch ⊢
  rw [← hE] at hch
  rw [← hout]
  obtain ⟨nT, hnT⟩ : ∃ n, n = T.length := ⟨_, rfl⟩
  obtain ⟨nB, hnB⟩ : ∃ n, n = rs.length := ⟨_, rfl⟩
  obtain ⟨nX, hnX⟩ : ∃ n, n = V.length := ⟨_, rfl⟩
  obtain ⟨nY, hnY⟩ : ∃ n, n = C.length := ⟨_, rfl⟩
  rw [← hnT, ← hnB, ← hnY] at hch
  rw [← hnT, ← hnB, ← hnX, ← hnY] at hac
  rw [← hnT, ← hnB, ← hnX, ← hnY]
  obtain ⟨w0, hw0⟩ : ∃ w0, w0 = (((w.alloc (.cells #[.int .u64 (P : Int), .int .u64 (Q : Int), .int .u64 (G : Int), .int .u64 (H : Int), R] 25)).alloc (.cells #[.slice A nT capT, .slice B nB capB] 83)).alloc (.cells #[.slice Y nY capY, .slice X nX capX] 42)) := ⟨_, rfl⟩
  have hb0 : Below w.heap.size w w0 := by rw [hw0]; exact (((Below.refl _ _).alloc (Nat.le_refl _) _).alloc (by simp) _).alloc (by simp; omega) _
  have hg0 : Blk w0 w.heap.size 25 (glist P Q G H R) := by rw [hw0]; exact ((Blk.of w _ _ _ rfl).alloc _).alloc _
  have hc0 : Blk w0 (w.heap.size + 1) 83 [.slice A nT capT, .slice B nB capB] := by
    have := Blk.of (w.alloc (.cells #[.int .u64 (P : Int), .int .u64 (Q : Int), .int .u64 (G : Int), .int .u64 (H : Int), R] 25)) 83 #[.slice A nT capT, .slice B nB capB] _ rfl
    rw [show (w.alloc (.cells #[.int .u64 (P : Int), .int .u64 (Q : Int), .int .u64 (G : Int), .int .u64 (H : Int), R] 25)).heap.size = w.heap.size + 1 by simp] at this
    rw [hw0]; exact this.alloc _
  have hr0 : Blk w0 (w.heap.size + 1 + 1) 42 [.slice Y nY capY, .slice X nX capX] := by
    have := Blk.of ((w.alloc (.cells #[.int .u64 (P : Int), .int .u64 (Q : Int), .int .u64 (G : Int), .int .u64 (H : Int), R] 25)).alloc (.cells #[.slice A nT capT, .slice B nB capB] 83)) 42 #[.slice Y nY capY, .slice X nX capX] _ rfl
    rw [show ((w.alloc (.cells #[.int .u64 (P : Int), .int .u64 (Q : Int), .int .u64 (G : Int), .int .u64 (H : Int), R] 25)).alloc (.cells #[.slice A nT capT, .slice B nB capB] 83)).heap.size = w.heap.size + 1 + 1 by simp] at this
    rw [hw0]; exact this
  obtain ⟨g0, g1, g2, g3, g4⟩ := gcells hg0
  obtain ⟨f0, f1⟩ := two_cells hc0
  obtain ⟨p0, p1⟩ := two_cells hr0
  have Hac := Lib.hid hac
  have Hch := Lib.hid hch
  have Hb0 := Lib.hid hb0
  have Hw0 := Lib.hid hw0
  clear hac hch hb0 hg0 hc0 hr0 hT hR hX hY hTl hRl hrl hXl hYl hnT hnB hnX hnY hE hout hw0
  go_enter Tryz.func80, Tryz.ntmps80
  go_wp2_with fail
  rw [← Hw0.out]
  have l0 := Later.cell g0
  have l1 := Later.cell g1
  have l2 := Later.cell g2
  have l3 := Later.cell g3
  have l4 := Later.cell g4
  have l5 := Later.cell f0
  have l6 := Later.cell f1
  have l7 := Later.cell p0
  have l8 := Later.cell p1
  refine region_loose [(18, fun u _ => u = .int .u64 (E : Int)), (21, fun u _ => u = .bool out)] (Know.stable_cons (fun _ _ _ h _ => h) (Know.stable_cons (fun _ _ _ h _ => h) Know.stable_nil)) (by kernel_rfl) (by kernel_rfl) ?_
  (repeat (first | (refine loose_skip (by rfl) ?_; simp only [Act.put, List.setIfInBounds_toArray, List.set_cons_zero, List.set_cons_succ]) | (refine loose_plain (by rfl) (by rfl) (by rfl) (fun Kc hKc => ?_); go_big_quiet_op; refine hKc _ ?_; clear hKc Kc)))
  refine loose_fix 18 (.int .u64 (E : Int)) (f := 149) (args := #[.agg #[.int .u64 (P : Int), .int .u64 (Q : Int), .int .u64 (G : Int), .int .u64 (H : Int), R], .string (str label), .agg #[.slice A nT capT, .slice B nB capB], .slice Y nY capY]) (fun w => by go_simp; try rfl) (by rfl) (by rfl) (by rfl) (fun _ _ => Iff.rfl) (fun wk hl _ => Hch.out wk (below_trans Hb0.out hl)) ?_
  simp only [Act.put, List.setIfInBounds_toArray, List.set_cons_zero, List.set_cons_succ]
  (repeat (first | (refine loose_skip (by rfl) ?_; simp only [Act.put, List.setIfInBounds_toArray, List.set_cons_zero, List.set_cons_succ]) | (refine loose_plain (by rfl) (by rfl) (by rfl) (fun Kc hKc => ?_); go_big_quiet_op; refine hKc _ ?_; clear hKc Kc)))
  refine loose_fix 21 (.bool out) (f := 148) (args := #[.agg #[.int .u64 (P : Int), .int .u64 (Q : Int), .int .u64 (G : Int), .int .u64 (H : Int), R], .agg #[.slice A nT capT, .slice B nB capB], .slice Y nY capY, .int .u64 (E : Int), .slice X nX capX]) (fun w => by go_simp; try rfl) (by rfl) (by rfl) (by rfl) (fun _ _ => Iff.rfl) (fun wk hl _ => Hac.out wk (below_trans Hb0.out hl)) ?_
  simp only [Act.put, List.setIfInBounds_toArray, List.set_cons_zero, List.set_cons_succ]
  (repeat (first | (refine loose_skip (by rfl) ?_; simp only [Act.put, List.setIfInBounds_toArray, List.set_cons_zero, List.set_cons_succ]) | (refine loose_plain (by rfl) (by rfl) (by rfl) (fun Kc hKc => ?_); go_big_quiet_op; refine hKc _ ?_; clear hKc Kc)))
  refine loose_nil ?_
  intro wq hbq _
  have Hbq := Lib.hid (show Below w0.heap.size w0 wq from hbq)
  clear hbq l0 l1 l2 l3 l4 l5 l6 l7 l8
  go_wp2_with fail
  go_ret
  exact ⟨rfl, below_trans Hb0.out Hbq.out⟩
end Go.Proofs.YtbpenkaficiodaaGreat
