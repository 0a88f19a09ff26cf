import Derived.Test.YtgbnkoeidejhfaaDigH
import Derived.Test.YtgbnkoeidejhfaaLoops
import Derived.Test.YtgbnkoeidejhfaaOwn
import Derived.Deep.OwnRows
import Derived.Laws.CopyOwn
import Derived.Deep.RegionHeld3
namespace Go.Proofs.Ytgbnkoeidejhfaa
open Go.RowKit

theorem Try.underlying_u32s : Try.prog.underlying 62 = some (.slice 50) := by kernel_rfl
theorem Try.info_u32 : (Try.prog.info? 50).map (fun i => (i.zero, i.size, i.bytes)) = some (some (.int .u32 0), 1, 4) := by kernel_rfl
/-- What the sums' rounds read and leave: h (in place), K, the padded text. -/
structure Bs (x : World) (b0 g : Nat) (h : St) (p : List UInt8) : Prop where
  h : Blk x b0 50 h.cells
  k : Blk x (b0 + 1) 50 (kList.map v32)
  p : ∀ j, j < p.length → x.cell? ⟨g, j, none⟩ = some (.int .u8 ((p.getD j 0).toNat : Int))
theorem Bs.below {x y : World} {b0 g : Nat} {h : St} {p : List UInt8} (hb : Bs x b0 g h p) (hg : g < x.heap.size) (hy : Below x.heap.size x y) : Bs y b0 g h p :=
  ⟨hb.h.below hy hb.h.lt, hb.k.below hy hb.k.lt, fun j hj => (hy.cell (p := ⟨g, j, none⟩) hg).trans (hb.p j hj)⟩

/-- What a round of the reference's sums reads. -/
structure Rf (x : World) (V W kb : Nat) (w0 : World) (v : St) (l : List UInt8) : Prop where
  st : Blk x V 68 v.cells
  ws : Blk x W 50 (wArr l 64)
  ks : Blk x kb 50 (kList.map v32)
  below : Below V w0 x
theorem Rf.drewN {x : World} {V W kb : Nat} {w0 : World} {v : St} {l : List UInt8} (h : Rf x V W kb w0 v l) (n : Nat) : Rf (x.drewN n) V W kb w0 v l := ⟨h.st, h.ws, h.ks, below_drewN h.below n⟩
theorem Rf.cells {x : World} {V W kb : Nat} {w0 : World} {v : St} {l : List UInt8} (h : Rf x V W kb w0 v l) :
    x.cell? ⟨V, 0, none⟩ = some (v32 v.a) ∧ x.cell? ⟨V, 1, none⟩ = some (v32 v.b) ∧ x.cell? ⟨V, 2, none⟩ = some (v32 v.c) ∧ x.cell? ⟨V, 3, none⟩ = some (v32 v.d) ∧ x.cell? ⟨V, 4, none⟩ = some (v32 v.e) ∧ x.cell? ⟨V, 5, none⟩ = some (v32 v.f) ∧ x.cell? ⟨V, 6, none⟩ = some (v32 v.g) ∧ x.cell? ⟨V, 7, none⟩ = some (v32 v.h) :=
  ⟨h.st.cell 0, h.st.cell 1, h.st.cell 2, h.st.cell 3, h.st.cell 4, h.st.cell 5, h.st.cell 6, h.st.cell 7⟩
theorem Rf.word {x : World} {V W kb : Nat} {w0 : World} {v : St} {l : List UInt8} (h : Rf x V W kb w0 v l) (t : Nat) (ht : t < 64) : x.cell? ⟨W, t, none⟩ = some (v32 ((sch l 64).getD t 0)) := by
  rw [h.ws.cell, wArr_get l 64 t ht]
theorem Rf.put {x : World} {V W kb : Nat} {w0 : World} {v : St} {l : List UInt8} (h : Rf x V W kb w0 v l) (hW : W ≠ V) (hk : kb ≠ V) (n : St) :
    Rf ((((((((x.setCell ⟨V, 0, none⟩ (v32 n.a)).setCell ⟨V, 1, none⟩ (v32 n.b)).setCell ⟨V, 2, none⟩ (v32 n.c)).setCell ⟨V, 3, none⟩ (v32 n.d)).setCell ⟨V, 4, none⟩ (v32 n.e)).setCell ⟨V, 5, none⟩ (v32 n.f)).setCell ⟨V, 6, none⟩ (v32 n.g)).setCell ⟨V, 7, none⟩ (v32 n.h)) V W kb w0 n l :=
  ⟨(((((((h.st.set 0 _).set 1 _).set 2 _).set 3 _).set 4 _).set 5 _).set 6 _).set 7 _,
   (((((((h.ws.other hW _).other hW _).other hW _).other hW _).other hW _).other hW _).other hW _).other hW _,
   (((((((h.ks.other hk _).other hk _).other hk _).other hk _).other hk _).other hk _).other hk _).other hk _,
   below_set (below_set (below_set (below_set (below_set (below_set (below_set (below_set h.below (Nat.le_refl _) _ _) (Nat.le_refl _) _ _) (Nat.le_refl _) _ _) (Nat.le_refl _) _ _) (Nat.le_refl _) _ _) (Nat.le_refl _) _ _) (Nat.le_refl _) _ _) (Nat.le_refl _) _ _⟩
theorem kmap_get (t : Nat) (ht : t < 64) : (kList.map v32)[t]? = some (v32 (kList.getD t 0)) := by
  have : t < kList.length := by rw [kList_length]; exact ht
  simp [List.getD_eq_getElem?_getD, this]
theorem Rf.k {x : World} {V W kb : Nat} {w0 : World} {v : St} {l : List UInt8} (h : Rf x V W kb w0 v l) (t : Nat) (ht : t < 64) : x.cell? ⟨kb, t, none⟩ = some (v32 (kList.getD t 0)) := by
  rw [h.ks.cell, kmap_get t ht]


noncomputable def refBlocks : Code := nthLoop (Try.f12.body.getD .skip) 1
noncomputable def refSched : Code := nthLoop refBlocks 0
noncomputable def refRounds : Code := nthLoop refBlocks 1
noncomputable def refAdd : Code := nthLoop refBlocks 2
noncomputable def refOut : Code := nthLoop (Try.f12.body.getD .skip) 2
set_option maxRecDepth 1000000 in
set_option maxHeartbeats 4000000 in
theorem sched_loop (g cap j : Nat) (z : Int) (p q : List UInt8) (wo w0 : World) (Q : Exit → Act → World → Prop) (hz : z = ((64 * j : Nat) : Int)) (hgo : g < wo.heap.size) (hpl : p.length ≤ 1099511628000) (hj : 64 * j + 64 ≤ p.length)
    (hp : ∀ i, i < p.length → wo.cell? ⟨g, i, none⟩ = some (.int .u8 ((p.getD i 0).toNat : Int))) (hqget : ∀ i, i < 64 → q.getD i 0 = p.getD (64 * j + i) 0)
    (hA0 : Blk w0 wo.heap.size 50 (wArr q 0)) (hB0 : Below wo.heap.size wo w0) (x0 x1 x2 x3 x4 x9 x10 x11 x12 x13 x14 x15 x16 x17 x18 x19 x20 x21 x22 x23 x24 x25 x26 x27 x28 x29 x30 x31 x32 x33 x34 x35 x36 x37 x38 x39 x40 x41 x42 x43 x44 x45 x46 x47 x48 x49 x50 x51 x52 x53 x54 x55 x56 x57 x58 x59 x60 x61 x62 x63 x64 x65 x66 x67 x68 x69 x70 x71 x72 x73 x74 x75 x76 x77 x78 x79 x80 x81 x82 x83 x84 x85 x86 x87 x88 x89 x90 x91 x92 x93 x94 x95 x96 x97 x98 x99 x100 x101 x102 x103 x104 x105 x106 x107 x108 x109 x110 x111 x112 x113 x114 x115 x116 x117 x118 x119 x120 x121 x122 x123 x124 x125 x126 x127 x128 x129 x130 x131 x132 x133 x134 x135 x136 x137 x138 x139 x140 x141 x142 x143 x144 x145 x146 x147 x148 x149 x150 x151 x152 x153 x154 x155 x156 x157 x158 x159 x160 x161 x162 x163 x164 x165 x166 x167 x168 x169 x170 x171 x172 x173 x174 x175 x176 x177 x178 x179 x180 x181 x182 x183 x184 x185 x186 x187 x188 x189 x190 x191 x192 x193 x194 x195 x196 x197 x198 x199 x200 x201 x202 x203 x204 x205 x206 x207 x208 x209 x210 x211 x212 x213 x214 x215 x216 x217 x218 x219 x220 x221 x222 x223 x224 x225 x226 x227 x228 x229 x230 x231 x232 x233 x234 x235 x236 x237 x238 x239 x240 x241 x242 x243 x244 x245 x246 x247 x248 x249 x250 x251 x252 x253 x254 x255 x256 x257 x258 x259 x260 x261 x262 x263 x264 x265 x266 x267 : Value)
    (hexit : ∀ (u8 u9 u10 u11 u47 u48 u49 u50 u51 u52 u53 u54 u55 u56 u57 u58 u59 u60 u61 u62 u63 u64 u65 u66 u67 u68 u69 u70 u71 u72 u73 u74 u75 u76 u77 u78 u79 u80 u81 u82 u83 u84 u85 u86 u87 u88 u89 u90 u91 u92 u93 u94 u95 u96 u97 u98 u99 u100 u101 u102 u103 u104 u105 u106 u107 u108 u109 u110 u111 u112 u113 u114 u115 u116 u117 u118 u119 u120 u121 u122 u123 u124 u125 u126 u127 u128 u129 u130 : Value) (w' : World), Blk w' wo.heap.size 50 (wArr q 64) → Below wo.heap.size wo w' → Q (.exit 4) ⟨List.toArray (x0 :: x1 :: x2 :: x3 :: x4 :: .slice (some ⟨g, 0, none⟩) p.length cap :: .int .i64 z :: .slice (some ⟨wo.heap.size, 0, none⟩) 64 64 :: u8 :: u9 :: u10 :: u11 :: x12 :: x13 :: x14 :: x15 :: x16 :: x17 :: x18 :: x19 :: x20 :: x21 :: x22 :: x23 :: x24 :: x25 :: x26 :: x27 :: x28 :: x29 :: x30 :: x31 :: x32 :: x33 :: x34 :: x35 :: x36 :: x37 :: x38 :: x39 :: x40 :: x41 :: x42 :: x43 :: x44 :: x45 :: x46 :: u47 :: u48 :: u49 :: u50 :: u51 :: u52 :: u53 :: u54 :: u55 :: u56 :: u57 :: u58 :: u59 :: u60 :: u61 :: u62 :: u63 :: u64 :: u65 :: u66 :: u67 :: u68 :: u69 :: u70 :: u71 :: u72 :: u73 :: u74 :: u75 :: u76 :: u77 :: u78 :: u79 :: u80 :: u81 :: u82 :: u83 :: u84 :: u85 :: u86 :: u87 :: u88 :: u89 :: u90 :: u91 :: u92 :: u93 :: u94 :: u95 :: u96 :: u97 :: u98 :: u99 :: u100 :: u101 :: u102 :: u103 :: u104 :: u105 :: u106 :: u107 :: u108 :: u109 :: u110 :: u111 :: u112 :: u113 :: u114 :: u115 :: u116 :: u117 :: u118 :: u119 :: u120 :: u121 :: u122 :: u123 :: u124 :: u125 :: u126 :: u127 :: u128 :: u129 :: u130 :: x131 :: x132 :: x133 :: x134 :: x135 :: x136 :: x137 :: x138 :: x139 :: x140 :: x141 :: x142 :: x143 :: x144 :: x145 :: x146 :: x147 :: x148 :: x149 :: x150 :: x151 :: x152 :: x153 :: x154 :: x155 :: x156 :: x157 :: x158 :: x159 :: x160 :: x161 :: x162 :: x163 :: x164 :: x165 :: x166 :: x167 :: x168 :: x169 :: x170 :: x171 :: x172 :: x173 :: x174 :: x175 :: x176 :: x177 :: x178 :: x179 :: x180 :: x181 :: x182 :: x183 :: x184 :: x185 :: x186 :: x187 :: x188 :: x189 :: x190 :: x191 :: x192 :: x193 :: x194 :: x195 :: x196 :: x197 :: x198 :: x199 :: x200 :: x201 :: x202 :: x203 :: x204 :: x205 :: x206 :: x207 :: x208 :: x209 :: x210 :: x211 :: x212 :: x213 :: x214 :: x215 :: x216 :: x217 :: x218 :: x219 :: x220 :: x221 :: x222 :: x223 :: x224 :: x225 :: x226 :: x227 :: x228 :: x229 :: x230 :: x231 :: x232 :: x233 :: x234 :: x235 :: x236 :: x237 :: x238 :: x239 :: x240 :: x241 :: x242 :: x243 :: x244 :: x245 :: x246 :: x247 :: x248 :: x249 :: x250 :: x251 :: x252 :: x253 :: x254 :: x255 :: x256 :: x257 :: x258 :: x259 :: x260 :: x261 :: x262 :: x263 :: x264 :: x265 :: x266 :: x267 :: []), []⟩ w') :
    (Code.loop refSched).wp Try.prog Q ⟨List.toArray (x0 :: x1 :: x2 :: x3 :: x4 :: .slice (some ⟨g, 0, none⟩) p.length cap :: .int .i64 z :: .slice (some ⟨wo.heap.size, 0, none⟩) 64 64 :: .int .i64 0 :: x9 :: x10 :: x11 :: x12 :: x13 :: x14 :: x15 :: x16 :: x17 :: x18 :: x19 :: x20 :: x21 :: x22 :: x23 :: x24 :: x25 :: x26 :: x27 :: x28 :: x29 :: x30 :: x31 :: x32 :: x33 :: x34 :: x35 :: x36 :: x37 :: x38 :: x39 :: x40 :: x41 :: x42 :: x43 :: x44 :: x45 :: x46 :: x47 :: x48 :: x49 :: x50 :: x51 :: x52 :: x53 :: x54 :: x55 :: x56 :: x57 :: x58 :: x59 :: x60 :: x61 :: x62 :: x63 :: x64 :: x65 :: x66 :: x67 :: x68 :: x69 :: x70 :: x71 :: x72 :: x73 :: x74 :: x75 :: x76 :: x77 :: x78 :: x79 :: x80 :: x81 :: x82 :: x83 :: x84 :: x85 :: x86 :: x87 :: x88 :: x89 :: x90 :: x91 :: x92 :: x93 :: x94 :: x95 :: x96 :: x97 :: x98 :: x99 :: x100 :: x101 :: x102 :: x103 :: x104 :: x105 :: x106 :: x107 :: x108 :: x109 :: x110 :: x111 :: x112 :: x113 :: x114 :: x115 :: x116 :: x117 :: x118 :: x119 :: x120 :: x121 :: x122 :: x123 :: x124 :: x125 :: x126 :: x127 :: x128 :: x129 :: x130 :: x131 :: x132 :: x133 :: x134 :: x135 :: x136 :: x137 :: x138 :: x139 :: x140 :: x141 :: x142 :: x143 :: x144 :: x145 :: x146 :: x147 :: x148 :: x149 :: x150 :: x151 :: x152 :: x153 :: x154 :: x155 :: x156 :: x157 :: x158 :: x159 :: x160 :: x161 :: x162 :: x163 :: x164 :: x165 :: x166 :: x167 :: x168 :: x169 :: x170 :: x171 :: x172 :: x173 :: x174 :: x175 :: x176 :: x177 :: x178 :: x179 :: x180 :: x181 :: x182 :: x183 :: x184 :: x185 :: x186 :: x187 :: x188 :: x189 :: x190 :: x191 :: x192 :: x193 :: x194 :: x195 :: x196 :: x197 :: x198 :: x199 :: x200 :: x201 :: x202 :: x203 :: x204 :: x205 :: x206 :: x207 :: x208 :: x209 :: x210 :: x211 :: x212 :: x213 :: x214 :: x215 :: x216 :: x217 :: x218 :: x219 :: x220 :: x221 :: x222 :: x223 :: x224 :: x225 :: x226 :: x227 :: x228 :: x229 :: x230 :: x231 :: x232 :: x233 :: x234 :: x235 :: x236 :: x237 :: x238 :: x239 :: x240 :: x241 :: x242 :: x243 :: x244 :: x245 :: x246 :: x247 :: x248 :: x249 :: x250 :: x251 :: x252 :: x253 :: x254 :: x255 :: x256 :: x257 :: x258 :: x259 :: x260 :: x261 :: x262 :: x263 :: x264 :: x265 :: x266 :: x267 :: []), []⟩ w0 := by
  have Hexit := Lib.hid hexit
  have Hz := Lib.hid hz
  have Hp := Lib.hid hp
  have Hqget := Lib.hid hqget
  have HA0 := Lib.hid hA0
  have HB0 := Lib.hid hB0
  have hz0 : 0 ≤ z := by omega
  have hz1 : z ≤ 1099511628000 := by omega
  clear hexit hz hp hqget hA0 hB0
  conv => arg 2; arg 1; whnf
  go_loopw [8] (fun y wr => ∃ t : Nat, t ≤ 64 ∧ y = .int .i64 (t : Int) ∧ Blk wr wo.heap.size 50 (wArr q t) ∧ Below wo.heap.size wo wr) (fun y _ => (64 - intOf y).toNat)
  case atStart => exact ⟨0, by omega, rfl, HA0.out, HB0.out⟩
  case round =>
    obtain ⟨wt, rfl⟩ : ∃ wt : World, wt = wr := ⟨_, rfl⟩
    obtain ⟨t, ht, rfl, hA, hB⟩ := hrel
    have HA := Lib.hid hA
    have HB := Lib.hid hB
    clear hA hB HA0 HB0
    by_cases h64 : t < 64
    · have b64 : decide ((t : Int) < 64) = true := decide_eq_true (by omega)
      have c64 : (t : Int) < 64 := by omega
      have hz := wArr_zero q t h64
      have g0 : wt.cell? ⟨wo.heap.size, t, none⟩ = some (v32 0) := by rw [HA.out.cell, hz]
      have hfr := HA.out.frozen t
      by_cases h16 : t < 16
      · skip
        have hpt : ∀ i, i < p.length → wt.cell? ⟨g, i, none⟩ = some (.int .u8 ((p.getD i 0).toNat : Int)) := fun i hi => (HB.out.cell (p := ⟨g, i, none⟩) hgo).trans (Hp.out i hi)
        have b16 : decide ((t : Int) < 16) = true := decide_eq_true (by omega)
        obtain ⟨i0, hi0⟩ : ∃ i : Nat, i = 64 * j + 4 * t := ⟨_, rfl⟩
        have hip : i0 + 3 < p.length := by omega
        have e0 : wt.cell? ⟨g, i0, none⟩ = some (.int .u8 ((q.getD (4 * t) 0).toNat : Int)) := by
          rw [hpt i0 (by omega), Hqget.out (4 * t) (by omega), hi0]
        have e1 : wt.cell? ⟨g, i0 + 1, none⟩ = some (.int .u8 ((q.getD (4 * t + 1) 0).toNat : Int)) := by
          rw [hpt (i0 + 1) (by omega), Hqget.out (4 * t + 1) (by omega), hi0]; rfl
        have e2 : wt.cell? ⟨g, i0 + 2, none⟩ = some (.int .u8 ((q.getD (4 * t + 2) 0).toNat : Int)) := by
          rw [hpt (i0 + 2) (by omega), Hqget.out (4 * t + 2) (by omega), hi0]; rfl
        have e3 : wt.cell? ⟨g, i0 + 3, none⟩ = some (.int .u8 ((q.getD (4 * t + 3) 0).toNat : Int)) := by
          rw [hpt (i0 + 3) (by omega), Hqget.out (4 * t + 3) (by omega), hi0]; rfl
        have hset := HA.out.set t (v32 (wnext q t (sch q t)))
        rw [wArr_succ q t h64, show wnext q t (sch q t) = pword q t 4 by simp [wnext, h16], pword4] at hset
        generalize (q.getD (4 * t) 0).toNat = c0 at *
        generalize (q.getD (4 * t + 1) 0).toNat = c1 at *
        generalize (q.getD (4 * t + 2) 0).toNat = c2 at *
        generalize (q.getD (4 * t + 3) 0).toNat = c3 at *
        have Hset := Lib.hid hset
        have hrw : z + 4 * (t : Int) = (i0 : Int) := by have := Hz.out; omega
        have q1 : IntKind.i64.wrap ((i0 : Int) + 1) = (i0 : Int) + 1 := IntWalk.i64_in _ (by omega)
        have q2 : IntKind.i64.wrap ((i0 : Int) + 2) = (i0 : Int) + 2 := IntWalk.i64_in _ (by omega)
        have q3 : IntKind.i64.wrap ((i0 : Int) + 3) = (i0 : Int) + 3 := IntWalk.i64_in _ (by omega)
        have n1 : ((i0 : Int) + 1).toNat = i0 + 1 := by omega
        have n2 : ((i0 : Int) + 2).toNat = i0 + 2 := by omega
        have n3 : ((i0 : Int) + 3).toNat = i0 + 3 := by omega
        have k0 : (i0 : Int) < (p.length : Int) := by omega
        have k1 : (i0 : Int) + 1 < (p.length : Int) := by omega
        have k2 : (i0 : Int) + 2 < (p.length : Int) := by omega
        have k3 : (i0 : Int) + 3 < (p.length : Int) := by omega
        have j1 : (0 : Int) ≤ (i0 : Int) + 1 := by omega
        have j2 : (0 : Int) ≤ (i0 : Int) + 2 := by omega
        have j3 : (0 : Int) ≤ (i0 : Int) + 3 := by omega
        have rc := w32_wrap
        have r8 := w32_shl8
        have r16 := w32_shl16
        have r24 := w32_shl24
        have ro := w32_or
        clear hpt hset hz hi0
        go_wp2_with fail
        refine wp_region_still_tail 32 Try.mixed (by kernel_rfl) ?_
        simp only [List.take_succ_cons, List.take_zero, List.drop_succ_cons, List.drop_zero]
        repeat still_step
        refine wpStill_nil ?_
        clear rc r8 r16 r24 ro q1 q2 q3 n1 n2 n3 e0 e1 e2 e3
        go_wp2_with fail
        go_roundw
        case rel => exact ⟨t + 1, by omega, by go_num, Hset.out, below_set_drew HB.out (Nat.le_refl _) _ _⟩
        case measure => simp [intOf]; omega
      · skip
        have b16 : decide ((t : Int) < 16) = false := decide_eq_false (by omega)
        have hg : ∀ i, i < t → wt.cell? ⟨wo.heap.size, i, none⟩ = some (v32 ((sch q t).getD i 0)) := fun i hi => by rw [HA.out.cell, wArr_get q t i hi]
        have g15 := hg (t - 15) (by omega)
        have g2 := hg (t - 2) (by omega)
        have g16 := hg (t - 16) (by omega)
        have g7 := hg (t - 7) (by omega)
        obtain ⟨x15, e15⟩ : ∃ x, x = (sch q t).getD (t - 15) 0 := ⟨_, rfl⟩
        obtain ⟨x2, e2⟩ : ∃ x, x = (sch q t).getD (t - 2) 0 := ⟨_, rfl⟩
        obtain ⟨x16, e16⟩ : ∃ x, x = (sch q t).getD (t - 16) 0 := ⟨_, rfl⟩
        obtain ⟨x7, e7⟩ : ∃ x, x = (sch q t).getD (t - 7) 0 := ⟨_, rfl⟩
        have hval : wnext q t (sch q t) = x16 + (x15.rotateRight 7 ^^^ x15.rotateRight 18 ^^^ x15 >>> 3) + x7 + (x2.rotateRight 17 ^^^ x2.rotateRight 19 ^^^ x2 >>> 10) := by
          rw [e15, e2, e16, e7]; simp [wnext, h16, sg0, sg1]
        rw [← e15] at g15
        rw [← e2] at g2
        rw [← e16] at g16
        rw [← e7] at g7
        have Hval := Lib.hid hval
        have u15 : ((t : Int) - 15).toNat = t - 15 := by omega
        have u2 : ((t : Int) - 2).toNat = t - 2 := by omega
        have u16 : ((t : Int) - 16).toNat = t - 16 := by omega
        have u7 : ((t : Int) - 7).toNat = t - 7 := by omega
        have q16 : IntKind.i64.wrap ((t : Int) - 16) = (t : Int) - 16 := IntWalk.i64_in _ (by omega)
        have q7 : IntKind.i64.wrap ((t : Int) - 7) = (t : Int) - 7 := IntWalk.i64_in _ (by omega)
        have d16 : (16 : Int) ≤ (t : Int) := by omega
        have d7 : (7 : Int) ≤ (t : Int) := by omega
        have k16 : (t : Int) - 16 < 64 := by omega
        have k7 : (t : Int) - 7 < 64 := by omega
        have j16 : 0 ≤ (t : Int) - 16 := by omega
        have j7 : 0 ≤ (t : Int) - 7 := by omega
        have rx := w32_xor
        have ra := w32_add
        have r3 := w32_shr3
        have r10 := w32_shr10
        clear hg hval e15 e2 e16 e7 hz
        go_wp2_with fail
        refine region_quiet_tail (fun w' => ∃ n, w' = wt.drewN n) 32 Try.mixed (by kernel_rfl) ⟨1, rfl⟩ ?_
        simp only [List.take_succ_cons, List.take_zero, List.drop_succ_cons, List.drop_zero]
        repeat (quiet_step (fail))
        quiet_step ((exact Calls.quiet_of (rturn_any 7 _ _ rfl _ (by omega) (by omega))))
        repeat (quiet_step (fail))
        quiet_step ((exact Calls.quiet_of (rturn_any 18 _ _ rfl _ (by omega) (by omega))))
        repeat (quiet_step (fail))
        quiet_step ((exact Calls.quiet_of (rturn_any 17 _ _ rfl _ (by omega) (by omega))))
        repeat (quiet_step (fail))
        quiet_step ((exact Calls.quiet_of (rturn_any 19 _ _ rfl _ (by omega) (by omega))))
        repeat (quiet_step (fail))
        refine wpQuiet_nil ?_
        rintro w' ⟨nq, rfl⟩
        have hset' := ((HA.out.drewN nq).set t (v32 (wnext q t (sch q t))))
        rw [wArr_succ q t h64, Hval.out] at hset'
        have hb' : Below wo.heap.size wo (wt.drewN nq) := below_drewN HB.out nq
        have g0' : (wt.drewN nq).cell? ⟨wo.heap.size, t, none⟩ = some (v32 0) := g0
        have hfr' : (wt.drewN nq).frozen? ⟨wo.heap.size, t, none⟩ = false := hfr
        have Hset' := Lib.hid hset'
        have Hb' := Lib.hid hb'
        clear g16 g7 g0 hfr HA HB g15 g2 hset' hb' rx ra r3 r10 q16 q7
        generalize wt.drewN nq = wq at *
        go_wp2_with fail
        go_roundw
        case rel => exact ⟨t + 1, by omega, by go_num, Hset'.out, below_set Hb'.out (Nat.le_refl _) _ _⟩
        case measure => simp [intOf]; omega
    · have b64 : decide ((t : Int) < 64) = false := decide_eq_false (by omega)
      have hA : Blk wt wo.heap.size 50 (wArr q 64) := by rw [← show t = 64 from by omega]; exact HA.out
      go_wp2_with fail
      exact Hexit.out _ _ _ _ _ _ _ _ _ _ _ _ _ _ _ _ _ _ _ _ _ _ _ _ _ _ _ _ _ _ _ _ _ _ _ _ _ _ _ _ _ _ _ _ _ _ _ _ _ _ _ _ _ _ _ _ _ _ _ _ _ _ _ _ _ _ _ _ _ _ _ _ _ _ _ _ _ _ _ _ _ _ _ _ _ _ _ _ _ hA HB.out

end Go.Proofs.Ytgbnkoeidejhfaa
