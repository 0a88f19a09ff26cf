import Derived.Test.YtgbnkoeidejhfaaRsA
namespace Go.Proofs.Ytgbnkoeidejhfaa
open Go.RowKit
set_option maxRecDepth 1000000 in
set_option maxHeartbeats 8000000 in
theorem blocks_loop (hb g cap : Nat) (p : List UInt8) (w3 : World) (Q : Exit → Act → World → Prop) (hgw : hb + 1 < g) (hgs : g < w3.heap.size) (hp64 : p.length % 64 = 0) (hple : p.length ≤ 1099511628000) (hbs : Bs w3 hb g iv p) (x0 x1 x2 x7 x8 x9 x10 x11 x12 x13 x14 x15 x16 x17 x18 x19 x20 x21 x22 x23 x24 x25 x26 x27 x28 x29 x30 x31 x32 x33 x34 x35 x36 x37 x38 x39 x40 x41 x42 x43 x44 x45 x46 x47 x48 x49 x50 x51 x52 x53 x54 x55 x56 x57 x58 x59 x60 x61 x62 x63 x64 x65 x66 x67 x68 x69 x70 x71 x72 x73 x74 x75 x76 x77 x78 x79 x80 x81 x82 x83 x84 x85 x86 x87 x88 x89 x90 x91 x92 x93 x94 x95 x96 x97 x98 x99 x100 x101 x102 x103 x104 x105 x106 x107 x108 x109 x110 x111 x112 x113 x114 x115 x116 x117 x118 x119 x120 x121 x122 x123 x124 x125 x126 x127 x128 x129 x130 x131 x132 x133 x134 x135 x136 x137 x138 x139 x140 x141 x142 x143 x144 x145 x146 x147 x148 x149 x150 x151 x152 x153 x154 x155 x156 x157 x158 x159 x160 x161 x162 x163 x164 x165 x166 x167 x168 x169 x170 x171 x172 x173 x174 x175 x176 x177 x178 x179 x180 x181 x182 x183 x184 x185 x186 x187 x188 x189 x190 x191 x192 x193 x194 x195 x196 x197 x198 x199 x200 x201 x202 x203 x204 x205 x206 x207 x208 x209 x210 x211 x212 x213 x214 x215 x216 x217 x218 x219 x220 x221 x222 x223 x224 x225 x226 x227 x228 x229 x230 x231 x232 x233 x234 x235 x236 x237 x238 x239 x240 x241 x242 x243 x244 x245 x246 x247 x248 x249 x250 x251 x252 x253 x254 x255 x256 x257 x258 x259 x260 x261 x262 x263 x264 x265 x266 x267 : Value)
    (hexit : ∀ (u6 u7 u8 u9 u10 u11 u12 u13 u14 u15 u16 u17 u18 u40 u41 u42 u43 u44 u45 u46 u47 u48 u49 u50 u51 u52 u53 u54 u55 u56 u57 u58 u59 u60 u61 u62 u63 u64 u65 u66 u67 u68 u69 u70 u71 u72 u73 u74 u75 u76 u77 u78 u79 u80 u81 u82 u83 u84 u85 u86 u87 u88 u89 u90 u91 u92 u93 u94 u95 u96 u97 u98 u99 u100 u101 u102 u103 u104 u105 u106 u107 u108 u109 u110 u111 u112 u113 u114 u115 u116 u117 u118 u119 u120 u121 u122 u123 u124 u125 u126 u127 u128 u129 u130 u131 u132 u133 u134 u135 u136 u137 u138 u139 u140 u141 u142 u143 u144 u145 u146 u147 u148 u149 u150 u151 u152 u153 u154 u155 u156 u157 u158 u159 u160 u161 u162 u163 u164 u165 u166 u167 u168 u169 u170 u171 u172 u173 u174 u175 u176 u177 u178 u179 u180 u181 u182 u183 u184 u185 u186 u187 u188 u189 u190 u191 u192 u193 u194 u195 u196 u197 u198 u199 u200 u201 u202 u203 u204 u205 u206 u207 u208 u209 u210 u211 u212 u213 u214 u215 u216 u217 u218 u219 u220 u221 u222 u223 u224 u225 u226 u227 u228 u229 u230 u231 u232 u233 u234 u235 u236 u237 u238 u239 u240 u241 u242 u243 u244 u245 u246 u247 u248 u249 u250 u251 u252 u253 u254 : Value) (w' : World), Bs w' hb g (runs comp (p.length / 64) p iv) p → w3.grownBy w' (some hb) → Q (.exit 2) ⟨List.toArray (x0 :: x1 :: x2 :: .slice (some ⟨hb, 0, none⟩) 8 8 :: .slice (some ⟨hb + 1, 0, none⟩) 64 64 :: .slice (some ⟨g, 0, none⟩) p.length cap :: u6 :: u7 :: u8 :: u9 :: u10 :: u11 :: u12 :: u13 :: u14 :: u15 :: u16 :: u17 :: u18 :: x19 :: x20 :: x21 :: x22 :: x23 :: x24 :: x25 :: x26 :: x27 :: x28 :: x29 :: x30 :: x31 :: x32 :: x33 :: x34 :: x35 :: x36 :: x37 :: x38 :: x39 :: u40 :: u41 :: u42 :: u43 :: u44 :: u45 :: u46 :: u47 :: u48 :: u49 :: u50 :: u51 :: u52 :: u53 :: u54 :: u55 :: u56 :: u57 :: u58 :: u59 :: u60 :: u61 :: u62 :: u63 :: u64 :: u65 :: u66 :: u67 :: u68 :: u69 :: u70 :: u71 :: u72 :: u73 :: u74 :: u75 :: u76 :: u77 :: u78 :: u79 :: u80 :: u81 :: u82 :: u83 :: u84 :: u85 :: u86 :: u87 :: u88 :: u89 :: u90 :: u91 :: u92 :: u93 :: u94 :: u95 :: u96 :: u97 :: u98 :: u99 :: u100 :: u101 :: u102 :: u103 :: u104 :: u105 :: u106 :: u107 :: u108 :: u109 :: u110 :: u111 :: u112 :: u113 :: u114 :: u115 :: u116 :: u117 :: u118 :: u119 :: u120 :: u121 :: u122 :: u123 :: u124 :: u125 :: u126 :: u127 :: u128 :: u129 :: u130 :: u131 :: u132 :: u133 :: u134 :: u135 :: u136 :: u137 :: u138 :: u139 :: u140 :: u141 :: u142 :: u143 :: u144 :: u145 :: u146 :: u147 :: u148 :: u149 :: u150 :: u151 :: u152 :: u153 :: u154 :: u155 :: u156 :: u157 :: u158 :: u159 :: u160 :: u161 :: u162 :: u163 :: u164 :: u165 :: u166 :: u167 :: u168 :: u169 :: u170 :: u171 :: u172 :: u173 :: u174 :: u175 :: u176 :: u177 :: u178 :: u179 :: u180 :: u181 :: u182 :: u183 :: u184 :: u185 :: u186 :: u187 :: u188 :: u189 :: u190 :: u191 :: u192 :: u193 :: u194 :: u195 :: u196 :: u197 :: u198 :: u199 :: u200 :: u201 :: u202 :: u203 :: u204 :: u205 :: u206 :: u207 :: u208 :: u209 :: u210 :: u211 :: u212 :: u213 :: u214 :: u215 :: u216 :: u217 :: u218 :: u219 :: u220 :: u221 :: u222 :: u223 :: u224 :: u225 :: u226 :: u227 :: u228 :: u229 :: u230 :: u231 :: u232 :: u233 :: u234 :: u235 :: u236 :: u237 :: u238 :: u239 :: u240 :: u241 :: u242 :: u243 :: u244 :: u245 :: u246 :: u247 :: u248 :: u249 :: u250 :: u251 :: u252 :: u253 :: u254 :: x255 :: x256 :: x257 :: x258 :: x259 :: x260 :: x261 :: x262 :: x263 :: x264 :: x265 :: x266 :: x267 :: []), []⟩ w') :
    (Code.loop refBlocks).wp Try.prog Q ⟨List.toArray (x0 :: x1 :: x2 :: .slice (some ⟨hb, 0, none⟩) 8 8 :: .slice (some ⟨hb + 1, 0, none⟩) 64 64 :: .slice (some ⟨g, 0, none⟩) p.length cap :: .int .i64 0 :: x7 :: x8 :: x9 :: x10 :: x11 :: x12 :: x13 :: x14 :: x15 :: x16 :: x17 :: x18 :: x19 :: x20 :: x21 :: x22 :: x23 :: x24 :: x25 :: x26 :: x27 :: x28 :: x29 :: x30 :: x31 :: x32 :: x33 :: x34 :: x35 :: x36 :: x37 :: x38 :: x39 :: x40 :: x41 :: x42 :: x43 :: x44 :: x45 :: x46 :: x47 :: x48 :: x49 :: x50 :: x51 :: x52 :: x53 :: x54 :: x55 :: x56 :: x57 :: x58 :: x59 :: x60 :: x61 :: x62 :: x63 :: x64 :: x65 :: x66 :: x67 :: x68 :: x69 :: x70 :: x71 :: x72 :: x73 :: x74 :: x75 :: x76 :: x77 :: x78 :: x79 :: x80 :: x81 :: x82 :: x83 :: x84 :: x85 :: x86 :: x87 :: x88 :: x89 :: x90 :: x91 :: x92 :: x93 :: x94 :: x95 :: x96 :: x97 :: x98 :: x99 :: x100 :: x101 :: x102 :: x103 :: x104 :: x105 :: x106 :: x107 :: x108 :: x109 :: x110 :: x111 :: x112 :: x113 :: x114 :: x115 :: x116 :: x117 :: x118 :: x119 :: x120 :: x121 :: x122 :: x123 :: x124 :: x125 :: x126 :: x127 :: x128 :: x129 :: x130 :: x131 :: x132 :: x133 :: x134 :: x135 :: x136 :: x137 :: x138 :: x139 :: x140 :: x141 :: x142 :: x143 :: x144 :: x145 :: x146 :: x147 :: x148 :: x149 :: x150 :: x151 :: x152 :: x153 :: x154 :: x155 :: x156 :: x157 :: x158 :: x159 :: x160 :: x161 :: x162 :: x163 :: x164 :: x165 :: x166 :: x167 :: x168 :: x169 :: x170 :: x171 :: x172 :: x173 :: x174 :: x175 :: x176 :: x177 :: x178 :: x179 :: x180 :: x181 :: x182 :: x183 :: x184 :: x185 :: x186 :: x187 :: x188 :: x189 :: x190 :: x191 :: x192 :: x193 :: x194 :: x195 :: x196 :: x197 :: x198 :: x199 :: x200 :: x201 :: x202 :: x203 :: x204 :: x205 :: x206 :: x207 :: x208 :: x209 :: x210 :: x211 :: x212 :: x213 :: x214 :: x215 :: x216 :: x217 :: x218 :: x219 :: x220 :: x221 :: x222 :: x223 :: x224 :: x225 :: x226 :: x227 :: x228 :: x229 :: x230 :: x231 :: x232 :: x233 :: x234 :: x235 :: x236 :: x237 :: x238 :: x239 :: x240 :: x241 :: x242 :: x243 :: x244 :: x245 :: x246 :: x247 :: x248 :: x249 :: x250 :: x251 :: x252 :: x253 :: x254 :: x255 :: x256 :: x257 :: x258 :: x259 :: x260 :: x261 :: x262 :: x263 :: x264 :: x265 :: x266 :: x267 :: []), []⟩ w3 := by
  have Hexit := Lib.hid hexit
  have Hbs := Lib.hid hbs
  clear hexit hbs
  conv => arg 2; arg 1; whnf
  go_loopw [6] (fun x wr => ∃ j : Nat, 64 * j ≤ p.length ∧ x = .int .i64 ((64 * j : Nat) : Int) ∧ Bs wr hb g (runs comp j p iv) p ∧ w3.grownBy wr (some hb)) (fun x _ => p.length - (intOf x).toNat)
  case atStart => exact ⟨0, by omega, rfl, Hbs.out, grown_refl _ _⟩
  case round =>
    obtain ⟨wo, rfl⟩ : ∃ wo : World, wo = wr := ⟨_, rfl⟩
    obtain ⟨j, hj, rfl, hb', hgr⟩ := hrel
    obtain ⟨R, hR⟩ : ∃ R, R = runs comp j p iv := ⟨_, rfl⟩
    rw [← hR] at hb'
    have HR := Lib.hid hR
    have Hb := Lib.hid hb'
    have Hgr := Lib.hid hgr
    have hgo : g < wo.heap.size := by have := hgr.size; omega
    have hbo : hb + 1 < wo.heap.size := hb'.k.lt
    clear hR hb' hgr Hbs
    by_cases hlt : 64 * j < p.length
    · skip
      have bj : decide (((64 * j : Nat) : Int) < (p.length : Int)) = true := decide_eq_true (by omega)
      have hmk : ∀ W : World, (Instr.makeSlice 62 (.int .i64 64) (.int .i64 64)).run Try.prog W = .ok (.slice (some ⟨W.heap.size, 0, none⟩) 64 64) (W.alloc (.cells (madeCells #[.int .u32 0] 64) 50)) :=
        fun W => run_make_row' 62 50 (.int .u32 0) 4 Try.underlying_u32s Try.info_u32 rfl .i64 .i64 64 (by omega) (by omega) W
      obtain ⟨q, hq⟩ : ∃ q, q = (p.drop (64 * j)).take 64 := ⟨_, rfl⟩
      have hql : q.length = 64 := by rw [hq, List.length_take, List.length_drop]; omega
      have hqget : ∀ i, i < 64 → q.getD i 0 = p.getD (64 * j + i) 0 := by
        intro i hi
        rw [hq]
        simp [List.getD_eq_getElem?_getD, hi]
      have Hq := Lib.hid hq
      have Hqget := Lib.hid hqget
      clear hq hqget
      go_wp2_with fail
      clear hmk
      refine sched_loop g cap j _ p q wo _ _ (by omega) hgo hple (by omega) Hb.out.p Hqget.out (Blk.of _ _ _ _ (by kernel_rfl)) ((Below.refl _ _).alloc (Nat.le_refl _) _) _ _ _ _ _ _ _ _ _ _ _ _ _ _ _ _ _ _ _ _ _ _ _ _ _ _ _ _ _ _ _ _ _ _ _ _ _ _ _ _ _ _ _ _ _ _ _ _ _ _ _ _ _ _ _ _ _ _ _ _ _ _ _ _ _ _ _ _ _ _ _ _ _ _ _ _ _ _ _ _ _ _ _ _ _ _ _ _ _ _ _ _ _ _ _ _ _ _ _ _ _ _ _ _ _ _ _ _ _ _ _ _ _ _ _ _ _ _ _ _ _ _ _ _ _ _ _ _ _ _ _ _ _ _ _ _ _ _ _ _ _ _ _ _ _ _ _ _ _ _ _ _ _ _ _ _ _ _ _ _ _ _ _ _ _ _ _ _ _ _ _ _ _ _ _ _ _ _ _ _ _ _ _ _ _ _ _ _ _ _ _ _ _ _ _ _ _ _ _ _ _ _ _ _ _ _ _ _ _ _ _ _ _ _ _ _ _ _ _ _ _ _ _ _ _ _ _ _ _ _ _ _ _ _ _ _ _ _ _ _ _ _ _ _ _ _ _ _ _ _ _ _ _ _ _ _ _ _ _ _ _ _ _ _ ?_
      intro v8 v9 v10 v11 v47 v48 v49 v50 v51 v52 v53 v54 v55 v56 v57 v58 v59 v60 v61 v62 v63 v64 v65 v66 v67 v68 v69 v70 v71 v72 v73 v74 v75 v76 v77 v78 v79 v80 v81 v82 v83 v84 v85 v86 v87 v88 v89 v90 v91 v92 v93 v94 v95 v96 v97 v98 v99 v100 v101 v102 v103 v104 v105 v106 v107 v108 v109 v110 v111 v112 v113 v114 v115 v116 v117 v118 v119 v120 v121 v122 v123 v124 v125 v126 v127 v128 v129 v130 wt hA hB
      have hbt := Hb.out.below hgo hB
      have c0 : wt.cell? ⟨hb, 0, none⟩ = some (v32 R.a) := hbt.h.cell 0
      have c1 : wt.cell? ⟨hb, 1, none⟩ = some (v32 R.b) := hbt.h.cell 1
      have c2 : wt.cell? ⟨hb, 2, none⟩ = some (v32 R.c) := hbt.h.cell 2
      have c3 : wt.cell? ⟨hb, 3, none⟩ = some (v32 R.d) := hbt.h.cell 3
      have c4 : wt.cell? ⟨hb, 4, none⟩ = some (v32 R.e) := hbt.h.cell 4
      have c5 : wt.cell? ⟨hb, 5, none⟩ = some (v32 R.f) := hbt.h.cell 5
      have c6 : wt.cell? ⟨hb, 6, none⟩ = some (v32 R.g) := hbt.h.cell 6
      have c7 : wt.cell? ⟨hb, 7, none⟩ = some (v32 R.h) := hbt.h.cell 7
      have Hbt := Lib.hid hbt
      have HA2 := Lib.hid hA
      have HB := Lib.hid hB
      have hgt : g < wt.heap.size := by have := hB.size; omega
      have hbo2 : hb + 1 < wt.heap.size := hbt.k.lt
      have hbo3 : hb < wt.heap.size := by omega
      clear hbt hA hB
      go_wp2_with fail
      go_region_held3 (fun w' => w'.cell? ⟨hb, 0, none⟩ = some (v32 R.a) ∧ w'.cell? ⟨hb, 1, none⟩ = some (v32 R.b) ∧ w'.cell? ⟨hb, 2, none⟩ = some (v32 R.c) ∧ w'.cell? ⟨hb, 3, none⟩ = some (v32 R.d) ∧ w'.cell? ⟨hb, 4, none⟩ = some (v32 R.e) ∧ w'.cell? ⟨hb, 5, none⟩ = some (v32 R.f) ∧ w'.cell? ⟨hb, 6, none⟩ = some (v32 R.g) ∧ w'.cell? ⟨hb, 7, none⟩ = some (v32 R.h)) (go_keep) (fail)
      clear c0 c1 c2 c3 c4 c5 c6 c7
      go_wp2_with fail
      refine rounds_loop wt.heap.size wo.heap.size (hb + 1) wt _ R q _ (by have := HA2.out.lt; omega) (by omega) ⟨(Blk.of _ _ _ _ rfl).drew, (HA2.out.alloc _).drew, (Hbt.out.k.alloc _).drew, ((Below.refl _ _).alloc (Nat.le_refl _) _).drew⟩ _ _ _ _ _ _ _ _ _ _ _ _ _ _ _ _ _ _ _ _ _ _ _ _ _ _ _ _ _ _ _ _ _ _ _ _ _ _ _ _ _ _ _ _ _ _ _ _ _ _ _ _ _ _ _ _ _ _ _ _ _ _ _ _ _ _ _ _ _ _ _ _ _ _ _ _ _ _ _ _ _ _ _ _ _ _ _ _ _ _ _ _ _ _ _ _ _ _ _ _ _ _ _ _ _ _ _ _ _ _ _ _ _ _ _ _ _ _ _ _ _ _ _ _ _ _ _ _ _ _ _ _ _ _ _ _ _ _ _ _ _ _ _ _ _ _ _ _ _ _ _ _ _ _ _ _ _ _ _ _ _ _ _ _ _ _ _ _ _ _ _ _ _ _ _ _ _ _ _ _ _ _ _ _ _ _ _ _ _ _ _ _ _ _ _ _ _ _ _ _ _ _ _ _ _ _ _ _ _ _ _ _ _ _ _ _ _ _ _ _ _ _ _ _ _ _ _ _ _ _ _ _ _ _ _ _ _ _ _ _ _ _ _ _ _ _ _ _ _ _ _ _ _ _ _ _ _ _ _ _ _ _ _ _ ?_
      intro y13 y14 y15 y16 y17 y156 y157 y158 y159 y160 y161 y162 y163 y164 y165 y166 y167 y168 y169 y170 y171 y172 y173 y174 y175 y176 y177 y178 y179 y180 y181 y182 y183 y184 y185 y186 y187 y188 y189 y190 y191 y192 y193 y194 y195 y196 y197 y198 y199 y200 y201 y202 y203 y204 y205 y206 y207 y208 y209 y210 y211 y212 y213 y214 y215 y216 y217 y218 y219 y220 y221 y222 y223 y224 y225 y226 y227 y228 y229 y230 y231 y232 y233 y234 y235 y236 y237 y238 y239 x hRr
      obtain ⟨v, hv⟩ : ∃ v, v = rnds (sch q 64) R 64 := ⟨_, rfl⟩
      have hcomp : comp R q = R.add v := by rw [hv]; rfl
      rw [← hv] at hRr
      have hHx := Hbt.out.h.below hRr.below (by omega)
      have hpx : ∀ i, i < p.length → x.cell? ⟨g, i, none⟩ = some (.int .u8 ((p.getD i 0).toNat : Int)) := fun i hi => (hRr.below.cell (p := ⟨g, i, none⟩) hgt).trans (Hbt.out.p i hi)
      have hgx : w3.grownBy x (some hb) := grown_trans Hgr.out (grown_trans (grownBy_of_below HB.out _) (grownBy_of_below hRr.below _))
      have hnext : runs comp (j + 1) p iv = comp R q := by rw [runs_succ, ← HR.out, ← Hq.out]
      have HRx := Lib.hid hRr
      have HHx := Lib.hid hHx
      have Hpx := Lib.hid hpx
      have Hgx := Lib.hid hgx
      have Hnext := Lib.hid (hnext.trans hcomp)
      have hvx : wt.heap.size < x.heap.size := hRr.st.lt
      clear hHx hpx hgx hnext hcomp hv hRr Hbt HA2
      go_wp2_with fail
      refine add_loop hb wt.heap.size x R v _ (by omega) HHx.out HRx.out.st _ _ _ _ _ _ _ _ _ _ _ _ _ _ _ _ _ _ _ _ _ _ _ _ _ _ _ _ _ _ _ _ _ _ _ _ _ _ _ _ _ _ _ _ _ _ _ _ _ _ _ _ _ _ _ _ _ _ _ _ _ _ _ _ _ _ _ _ _ _ _ _ _ _ _ _ _ _ _ _ _ _ _ _ _ _ _ _ _ _ _ _ _ _ _ _ _ _ _ _ _ _ _ _ _ _ _ _ _ _ _ _ _ _ _ _ _ _ _ _ _ _ _ _ _ _ _ _ _ _ _ _ _ _ _ _ _ _ _ _ _ _ _ _ _ _ _ _ _ _ _ _ _ _ _ _ _ _ _ _ _ _ _ _ _ _ _ _ _ _ _ _ _ _ _ _ _ _ _ _ _ _ _ _ _ _ _ _ _ _ _ _ _ _ _ _ _ _ _ _ _ _ _ _ _ _ _ _ _ _ _ _ _ _ _ _ _ _ _ _ _ _ _ _ _ _ _ _ _ _ _ _ _ _ _ _ _ _ _ _ _ _ _ _ _ _ _ _ _ _ _ _ _ _ _ _ _ _ _ _ _ _ _ _ _ ?_
      intro z18 z240 z241 z242 z243 z244 z245 z246 z247 z248 z249 z250 z251 z252 z253 z254 y hH hg
      have hbs : Bs y hb g (runs comp (j + 1) p iv) p :=
        ⟨by rw [Hnext.out]; exact hH, HRx.out.ks.grown hg (by simp), fun i hi => hg.cell (Hpx.out i hi) (by simp; omega)⟩
      have hgy := grown_trans Hgx.out hg
      have Hbs := Lib.hid hbs
      have Hgy := Lib.hid hgy
      clear hH hg HRx HHx Hpx Hgx Hnext hbs hgy
      go_wp2
      go_roundw
      case rel => exact ⟨j + 1, by omega, by go_num, Hbs.out, Hgy.out⟩
      case measure => simp [intOf]; omega
    · skip
      have hjn : j = p.length / 64 := by omega
      have bj : decide (((64 * j : Nat) : Int) < (p.length : Int)) = false := decide_eq_false (by omega)
      have hB := Hb.out
      rw [HR.out, hjn] at hB
      have HB := Lib.hid hB
      clear hjn hB Hb HR
      go_wp2_with fail
      exact Hexit.out _ _ _ _ _ _ _ _ _ _ _ _ _ _ _ _ _ _ _ _ _ _ _ _ _ _ _ _ _ _ _ _ _ _ _ _ _ _ _ _ _ _ _ _ _ _ _ _ _ _ _ _ _ _ _ _ _ _ _ _ _ _ _ _ _ _ _ _ _ _ _ _ _ _ _ _ _ _ _ _ _ _ _ _ _ _ _ _ _ _ _ _ _ _ _ _ _ _ _ _ _ _ _ _ _ _ _ _ _ _ _ _ _ _ _ _ _ _ _ _ _ _ _ _ _ _ _ _ _ _ _ _ _ _ _ _ _ _ _ _ _ _ _ _ _ _ _ _ _ _ _ _ _ _ _ _ _ _ _ _ _ _ _ _ _ _ _ _ _ _ _ _ _ _ _ _ _ _ _ _ _ _ _ _ _ _ _ _ _ _ _ _ _ _ _ _ _ _ _ _ _ _ _ _ _ _ _ _ _ _ _ _ _ _ _ _ _ _ _ _ _ _ _ _ _ _ _ _ _ HB.out Hgr.out

end Go.Proofs.Ytgbnkoeidejhfaa
