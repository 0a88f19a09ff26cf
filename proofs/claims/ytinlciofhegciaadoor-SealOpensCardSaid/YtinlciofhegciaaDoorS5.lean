/- Joined texts, part 5: contracts of the functions that the laws reach, and what is needed for them. -/
import Derived.Test.YtinlciofhegciaaDoorS4
namespace Go.Proofs.YtinlciofhegciaaDoor
open Go.RowKit
set_option maxRecDepth 1000000 in
set_option maxHeartbeats 4000000 in
theorem out_loop (hb : Nat) (R : St) (wo : World) (Q : Exit → Act → World → Prop) (hh : ∀ n, n < 8 → wo.cell? ⟨hb, n, none⟩ = some (v32 (R.list.getD n 0))) (hlt0 : hb < wo.heap.size) (x0 x1 x2 x4 x5 x6 x7 x8 x9 x10 x11 x12 x13 x14 x15 x16 x17 x18 x21 x22 x23 x24 x25 x26 x27 x28 x29 x30 x31 x32 x33 x34 x35 x36 x37 x38 x39 x40 x41 x42 x43 x44 x45 x46 x47 x48 x49 x50 x51 x52 x53 x54 x55 x56 x57 x58 x59 x60 x61 x62 x63 x64 x65 x66 x67 x68 x69 x70 x71 x72 x73 x74 x75 x76 x77 x78 x79 x80 x81 x82 x83 x84 x85 x86 x87 x88 x89 x90 x91 x92 x93 x94 x95 x96 x97 x98 x99 x100 x101 x102 x103 x104 x105 x106 x107 x108 x109 x110 x111 x112 x113 x114 x115 x116 x117 x118 x119 x120 x121 x122 x123 x124 x125 x126 x127 x128 x129 x130 x131 x132 x133 x134 x135 x136 x137 x138 x139 x140 x141 x142 x143 x144 x145 x146 x147 x148 x149 x150 x151 x152 x153 x154 x155 x156 x157 x158 x159 x160 x161 x162 x163 x164 x165 x166 x167 x168 x169 x170 x171 x172 x173 x174 x175 x176 x177 x178 x179 x180 x181 x182 x183 x184 x185 x186 x187 x188 x189 x190 x191 x192 x193 x194 x195 x196 x197 x198 x199 x200 x201 x202 x203 x204 x205 x206 x207 x208 x209 x210 x211 x212 x213 x214 x215 x216 x217 x218 x219 x220 x221 x222 x223 x224 x225 x226 x227 x228 x229 x230 x231 x232 x233 x234 x235 x236 x237 x238 x239 x240 x241 x242 x243 x244 x245 x246 x247 x248 x249 x250 x251 x252 x253 x254 x255 x256 x257 x258 x259 x260 x261 x262 x263 x264 x265 x266 x267 : Value)
    (hexit : ∀ (u20 u255 u256 u257 u258 u259 u260 u261 u262 u263 u264 u265 u266 : Value) (w' : World), Below wo.heap.size wo w' → Q (.exit 10) ⟨List.toArray (x0 :: x1 :: x2 :: .slice (some ⟨hb, 0, none⟩) 8 8 :: x4 :: x5 :: x6 :: x7 :: x8 :: x9 :: x10 :: x11 :: x12 :: x13 :: x14 :: x15 :: x16 :: x17 :: x18 :: .string (str (outOf R)) :: u20 :: x21 :: x22 :: x23 :: x24 :: x25 :: x26 :: x27 :: x28 :: x29 :: x30 :: x31 :: x32 :: x33 :: x34 :: x35 :: x36 :: x37 :: x38 :: x39 :: x40 :: x41 :: x42 :: x43 :: x44 :: x45 :: x46 :: x47 :: x48 :: x49 :: x50 :: x51 :: x52 :: x53 :: x54 :: x55 :: x56 :: x57 :: x58 :: x59 :: x60 :: x61 :: x62 :: x63 :: x64 :: x65 :: x66 :: x67 :: x68 :: x69 :: x70 :: x71 :: x72 :: x73 :: x74 :: x75 :: x76 :: x77 :: x78 :: x79 :: x80 :: x81 :: x82 :: x83 :: x84 :: x85 :: x86 :: x87 :: x88 :: x89 :: x90 :: x91 :: x92 :: x93 :: x94 :: x95 :: x96 :: x97 :: x98 :: x99 :: x100 :: x101 :: x102 :: x103 :: x104 :: x105 :: x106 :: x107 :: x108 :: x109 :: x110 :: x111 :: x112 :: x113 :: x114 :: x115 :: x116 :: x117 :: x118 :: x119 :: x120 :: x121 :: x122 :: x123 :: x124 :: x125 :: x126 :: x127 :: x128 :: x129 :: x130 :: x131 :: x132 :: x133 :: x134 :: x135 :: x136 :: x137 :: x138 :: x139 :: x140 :: x141 :: x142 :: x143 :: x144 :: x145 :: x146 :: x147 :: x148 :: x149 :: x150 :: x151 :: x152 :: x153 :: x154 :: x155 :: x156 :: x157 :: x158 :: x159 :: x160 :: x161 :: x162 :: x163 :: x164 :: x165 :: x166 :: x167 :: x168 :: x169 :: x170 :: x171 :: x172 :: x173 :: x174 :: x175 :: x176 :: x177 :: x178 :: x179 :: x180 :: x181 :: x182 :: x183 :: x184 :: x185 :: x186 :: x187 :: x188 :: x189 :: x190 :: x191 :: x192 :: x193 :: x194 :: x195 :: x196 :: x197 :: x198 :: x199 :: x200 :: x201 :: x202 :: x203 :: x204 :: x205 :: x206 :: x207 :: x208 :: x209 :: x210 :: x211 :: x212 :: x213 :: x214 :: x215 :: x216 :: x217 :: x218 :: x219 :: x220 :: x221 :: x222 :: x223 :: x224 :: x225 :: x226 :: x227 :: x228 :: x229 :: x230 :: x231 :: x232 :: x233 :: x234 :: x235 :: x236 :: x237 :: x238 :: x239 :: x240 :: x241 :: x242 :: x243 :: x244 :: x245 :: x246 :: x247 :: x248 :: x249 :: x250 :: x251 :: x252 :: x253 :: x254 :: u255 :: u256 :: u257 :: u258 :: u259 :: u260 :: u261 :: u262 :: u263 :: u264 :: u265 :: u266 :: x267 :: []), []⟩ w') :
    (Code.loop refOut).wp Tryd.prog Q ⟨List.toArray (x0 :: x1 :: x2 :: .slice (some ⟨hb, 0, none⟩) 8 8 :: x4 :: x5 :: x6 :: x7 :: x8 :: x9 :: x10 :: x11 :: x12 :: x13 :: x14 :: x15 :: x16 :: x17 :: x18 :: .string { data := #[] } :: .int .i64 0 :: x21 :: x22 :: x23 :: x24 :: x25 :: x26 :: x27 :: x28 :: x29 :: x30 :: x31 :: x32 :: x33 :: x34 :: x35 :: x36 :: x37 :: x38 :: x39 :: x40 :: x41 :: x42 :: x43 :: x44 :: x45 :: x46 :: x47 :: x48 :: x49 :: x50 :: x51 :: x52 :: x53 :: x54 :: x55 :: x56 :: x57 :: x58 :: x59 :: x60 :: x61 :: x62 :: x63 :: x64 :: x65 :: x66 :: x67 :: x68 :: x69 :: x70 :: x71 :: x72 :: x73 :: x74 :: x75 :: x76 :: x77 :: x78 :: x79 :: x80 :: x81 :: x82 :: x83 :: x84 :: x85 :: x86 :: x87 :: x88 :: x89 :: x90 :: x91 :: x92 :: x93 :: x94 :: x95 :: x96 :: x97 :: x98 :: x99 :: x100 :: x101 :: x102 :: x103 :: x104 :: x105 :: x106 :: x107 :: x108 :: x109 :: x110 :: x111 :: x112 :: x113 :: x114 :: x115 :: x116 :: x117 :: x118 :: x119 :: x120 :: x121 :: x122 :: x123 :: x124 :: x125 :: x126 :: x127 :: x128 :: x129 :: x130 :: x131 :: x132 :: x133 :: x134 :: x135 :: x136 :: x137 :: x138 :: x139 :: x140 :: x141 :: x142 :: x143 :: x144 :: x145 :: x146 :: x147 :: x148 :: x149 :: x150 :: x151 :: x152 :: x153 :: x154 :: x155 :: x156 :: x157 :: x158 :: x159 :: x160 :: x161 :: x162 :: x163 :: x164 :: x165 :: x166 :: x167 :: x168 :: x169 :: x170 :: x171 :: x172 :: x173 :: x174 :: x175 :: x176 :: x177 :: x178 :: x179 :: x180 :: x181 :: x182 :: x183 :: x184 :: x185 :: x186 :: x187 :: x188 :: x189 :: x190 :: x191 :: x192 :: x193 :: x194 :: x195 :: x196 :: x197 :: x198 :: x199 :: x200 :: x201 :: x202 :: x203 :: x204 :: x205 :: x206 :: x207 :: x208 :: x209 :: x210 :: x211 :: x212 :: x213 :: x214 :: x215 :: x216 :: x217 :: x218 :: x219 :: x220 :: x221 :: x222 :: x223 :: x224 :: x225 :: x226 :: x227 :: x228 :: x229 :: x230 :: x231 :: x232 :: x233 :: x234 :: x235 :: x236 :: x237 :: x238 :: x239 :: x240 :: x241 :: x242 :: x243 :: x244 :: x245 :: x246 :: x247 :: x248 :: x249 :: x250 :: x251 :: x252 :: x253 :: x254 :: x255 :: x256 :: x257 :: x258 :: x259 :: x260 :: x261 :: x262 :: x263 :: x264 :: x265 :: x266 :: x267 :: []), []⟩ wo := by
  have Hexit := Lib.hid hexit
  have Hh := Lib.hid hh
  clear hexit hh
  conv => arg 2; arg 1; whnf
  go_loopw [19, 20] (fun s y wr => ∃ n : Nat, n ≤ 8 ∧ y = .int .i64 (n : Int) ∧ s = .string (str ((R.list.take n).flatMap fun x => be 4 x.toNat)) ∧ Below wo.heap.size wo wr) (fun _ y _ => (8 - intOf y).toNat)
  case atStart => exact ⟨0, by omega, rfl, rfl, Below.refl _ _⟩
  case round =>
    obtain ⟨n, hn, rfl, rfl, hbe⟩ := hrel
    by_cases n8 : n < 8
    · skip
      have b8 : decide ((n : Int) < 8) = true := decide_eq_true (by omega)
      have c8 : (n : Int) < 8 := by omega
      have hcell : wr.cell? ⟨hb, n, none⟩ = some (v32 (R.list.getD n 0)) := (hbe.cell (p := ⟨hb, n, none⟩) hlt0).trans (Hh.out n n8)
      have hnx : (R.list.take (n + 1)).flatMap (fun x => be 4 x.toNat) = (R.list.take n).flatMap (fun x => be 4 x.toNat) ++ be 4 (R.list.getD n 0).toNat := by
        have : n = 0 ∨ n = 1 ∨ n = 2 ∨ n = 3 ∨ n = 4 ∨ n = 5 ∨ n = 6 ∨ n = 7 := by omega
        rcases this with rfl | rfl | rfl | rfl | rfl | rfl | rfl | rfl <;> simp [St.list]
      obtain ⟨acc, hacc⟩ : ∃ a, a = (R.list.take n).flatMap fun x => be 4 x.toNat := ⟨_, rfl⟩
      have hal : acc.length ≤ 32 := by rw [hacc]; exact flat_le R n
      rw [← hacc] at hnx ⊢
      generalize R.list.getD n 0 = q at *
      have hw : IntKind.u64.wrap (iw q) = iw q := by have := iw_bound q; rw [IntKind.wrap_u64]; omega
      have hadd := str_add Tryd.prog acc (be 4 q.toNat) (by rw [be_length]; omega)
      rw [← hnx] at hadd
      obtain ⟨acc2, hacc2⟩ : ∃ a, a = (R.list.take (n + 1)).flatMap fun x => be 4 x.toNat := ⟨_, rfl⟩
      rw [← hacc2] at hadd
      have Hadd := Lib.hid hadd
      have Hacc2 := Lib.hid hacc2
      have Hbe := Lib.hid hbe
      clear hbe hnx hacc hadd hacc2
      go_wp2_with fail
      refine (bytes_any q.toNat 4 _ (by omega) (by omega)).mono ?_
      rintro e w4 ⟨rfl, hb4⟩
      have Hbe4 := Lib.hid (Hbe.out.trans (hb4.mono Hbe.out.size))
      have ha := Hadd.out
      clear hb4 Hbe
      go_wp2_with fail
      go_roundw
      case rel => exact ⟨n + 1, by omega, by go_num, by rw [Hacc2.out], Hbe4.out⟩
      case measure => simp [intOf]; omega
    · skip
      have b8 : decide ((n : Int) < 8) = false := decide_eq_false (by omega)
      have hn8 : n = 8 := by omega
      have hres : (R.list.take n).flatMap (fun x => be 4 x.toNat) = outOf R := by rw [hn8]; rfl
      rw [hres]
      have Hbe := Lib.hid hbe
      clear hn8 hres hbe
      go_wp2_with fail
      exact Hexit.out _ _ _ _ _ _ _ _ _ _ _ _ _ _ Hbe.out

end Go.Proofs.YtinlciofhegciaaDoor

namespace Go.Proofs.YtinlciofhegciaaDoor
open Go.RowKit
set_option maxRecDepth 1000000 in
set_option maxHeartbeats 8000000 in
theorem refSum_any (l : List UInt8) (w : World) (hl : l.length ≤ 1099511627776) :
    Calls Tryd.prog 46 #[.string (str l)] w fun e w' => e = .returned (.string (str (sha l))) ∧ Below w.heap.size w w' := by
  have hsz := str_size l
  have hc1 : ({ data := #[128] } : ByteArray) = str [128] := rfl
  obtain ⟨x1, hx1⟩ : ∃ x, x = l ++ [(128 : UInt8)] := ⟨_, rfl⟩
  have h1l : x1.length = l.length + 1 := by rw [hx1]; simp
  have a1 := str_add Tryd.prog l [128] (by simp; omega)
  rw [← hx1] at a1
  have a2 := run_bytes_of Tryd.underlying_str Tryd.underlying_bytes Tryd.underlying_u8 x1
  have Hx1 := Lib.hid hx1
  clear hx1
  go_enter Tryd.func46, Tryd.ntmps46
  go_wp2_with (go_at_call 58; refine (ks_any _).mono ?_; rintro e w1 ⟨rfl, hk1, hb1⟩; have Hk1 := Lib.hid hk1; have Hb1 := Lib.hid hb1; clear hk1 hb1)
  have hH1 : Blk w1 w.heap.size 69 iv.cells := (Blk.of w _ _ iv.cells rfl).below Hb1.out (by simp)
  have hB1 : Below w.heap.size w w1 := ((Below.refl _ _).alloc (Nat.le_refl _) _).trans (Hb1.out.mono (by simp))
  have hK1 : Blk w1 (w.heap.size + 1) 69 (kList.map v32) := by have := Hk1.out; simpa using this
  have hR := row_bytes w1 5 x1 (by simp only [maxLen]; omega)
  rw [h1l] at hR
  have HH1 := Lib.hid hH1
  have HB1 := Lib.hid hB1
  have HK1 := Lib.hid hK1
  have HR := Lib.hid hR
  have hw1s : w.heap.size + 1 < w1.heap.size := hK1.lt
  clear hH1 hB1 hK1 hR Hk1 Hb1 a1 a2 hc1
  obtain ⟨zm, hzm⟩ : ∃ z, z = (119 - l.length % 64) % 64 := ⟨_, rfl⟩
  have Hzm := Lib.hid hzm
  clear hzm
  go_loopw [5] (fun v wr => ∃ z : Nat, z ≤ zm ∧ Row wr w1.heap.size 5 1 v (l.length + 1 + z) (vbytes (x1 ++ List.replicate z 0)) ∧ Below w1.heap.size w1 wr) (fun v _ => match v with | .slice _ n _ => (l.length + 100) - n | _ => 0)
  case atStart => exact ⟨0, by omega, by simpa using HR.out.1, HR.out.2⟩
  case round =>
    obtain ⟨wo, rfl⟩ : ∃ wo : World, wo = wr := ⟨_, rfl⟩
    obtain ⟨z, hz, hrow, hb⟩ := hrel
    obtain ⟨A, c, rfl⟩ := hrow.slice
    have Hrow := Lib.hid hrow
    have Hb := Lib.hid hb
    clear hrow hb HR
    have hzl : z ≤ 63 := by have := Hzm.out; omega
    obtain ⟨L, hL⟩ : ∃ L, L = x1 ++ List.replicate z (0 : UInt8) := ⟨_, rfl⟩
    have hLl : L.length = l.length + 1 + z := by rw [hL, List.length_append, h1l, List.length_replicate]
    have hL1 : x1 ++ List.replicate (z + 1) (0 : UInt8) = L ++ [0] := by rw [hL, List.replicate_succ', List.append_assoc]
    have hrow2 : Row wo w1.heap.size 5 1 (.slice A (l.length + 1 + z) c) (vbytes L).length (vbytes L) := by rw [vbytes_length, hLl, hL]; exact Hrow.out
    have Hrow2 := Lib.hid hrow2
    have HL := Lib.hid hL
    have HLl := Lib.hid hLl
    have HL1 := Lib.hid hL1
    clear hrow2 hL hLl hL1 Hrow
    by_cases hlt : z < zm
    · have hne : ((((l.length : Int) + 1 + (z : Int)) % 64) != 56) = true := by rw [bne_iff_ne]; have := Hzm.out; omega
      go_wp2_with (at_builtin; go_must (refine ap_one Tryd.underlying_bytes Tryd.info_u8 rfl Hrow2.out rfl (by omega) (by rw [vbytes_length, HLl.out]; omega) (Hb.out.size) rfl _ _ rfl rfl rfl ?_; intro v1 w2 hr1 hg1; rw [show (vbytes L ++ [Value.int .u8 0]).length = l.length + 1 + (z + 1) from by rw [List.length_append, vbytes_length, HLl.out]; rfl, show vbytes L ++ [Value.int .u8 0] = vbytes (x1 ++ List.replicate (z + 1) 0) from by rw [HL1.out, vbytes_append]; rfl] at hr1; obtain ⟨A1, c1, rfl⟩ := hr1.slice; have Hr1 := Lib.hid hr1; have Hb2 := Lib.hid (Hb.out.grown hg1 Hb.out.size (fun k hk => (Hrow2.out.block k hk).1)); clear hr1 hg1))
      go_roundw
      case rel => exact ⟨z + 1, by omega, Hr1.out, Hb2.out⟩
      case measure => simp; omega
    · obtain rfl : z = zm := by omega
      have hne : ((((l.length : Int) + 1 + (z : Int)) % 64) != 56) = false := by rw [bne_eq_false_iff_eq]; have := Hzm.out; omega
      have hmul : IntKind.u64.wrap ((l.length : Int) * 8) = ((8 * l.length : Nat) : Int) := by
        rw [IntKind.wrap_u64]; push_cast; omega
      have hlw : IntKind.u64.wrap (l.length : Int) = (l.length : Int) := by rw [IntKind.wrap_u64]; omega
      have hpl : L ++ be 8 (8 * l.length) = padOf l := by rw [HL.out, Hx1.out, Hzm.out, padOf]
      have Hpl := Lib.hid hpl
      clear hpl
      go_wp2_with (first | (go_at_call 13; refine (bytes_any (8 * l.length) 8 _ (by omega) (by omega)).mono ?_; rintro e w2 ⟨rfl, hb2⟩; have Hb2 := Lib.hid (Hb.out.trans (hb2.mono Hb.out.size)); have Hr2 := Lib.hid (Hrow2.out.below hb2); rw [vbytes_length] at Hr2; clear hb2) | (at_builtin; go_must (refine ap_str (l := L) (m := be 8 (8 * l.length)) Tryd.underlying_bytes Tryd.underlying_str Tryd.info_u8 Hr2.out (by rw [be_length, HLl.out]; omega) Hb2.out.size rfl _ _ rfl rfl rfl ?_; intro v1 w3 hr1 hg1; rw [Hpl.out] at hr1; obtain ⟨A1, c1, rfl⟩ := hr1.slice; have Hr3 := Lib.hid hr1; have Hb3 := Lib.hid (Hb2.out.grown hg1 Hb2.out.size (fun k hk => (Hr2.out.block k hk).1)); clear hr1 hg1)))
      have hpn : (padOf l).length = 64 * (l.length / 64) + (tailOf l).length := padOf_length l
      have htl : (tailOf l).length = l.length % 64 + 1 + (119 - l.length % 64) % 64 + 8 := tailOf_length l
      have hsha := sha_pad l
      obtain ⟨p, hp⟩ : ∃ p, p = padOf l := ⟨_, rfl⟩
      rw [← hp] at Hr3 hpn hsha ⊢
      have hp64 : p.length % 64 = 0 := by omega
      have hpos : 0 < p.length := by omega
      have hple : p.length ≤ 1099511628000 := by omega
      obtain ⟨g, cap, hv, hg1, hg2, hcap, hcells⟩ := Hr3.out.form hpos
      injection hv with hv1 _ hv2
      subst hv1 hv2
      have hbs : Bs w3 w.heap.size g iv p := by
        refine ⟨HH1.out.below Hb3.out (by omega), HK1.out.below Hb3.out (by omega), fun j hj => (hcells j _ ?_).1⟩
        simp [vbytes, List.getD_eq_getElem?_getD, hj]
      have hB3 : Below w.heap.size w w3 := HB1.out.trans (Hb3.out.mono HB1.out.size)
      have Hbs := Lib.hid hbs
      have HB3 := Lib.hid hB3
      have Hsha := Lib.hid hsha
      clear hcells hbs hB3 hsha Hr3 Hb3 HH1 HB1 HK1 HL HLl HL1 Hrow2 Hb Hzm Hpl hp hpn htl hne hmul hlw Hr2 Hb2 hsz Hx1
      have hgw : w.heap.size + 1 < g := by omega
      clear hw1s
      have hgs : g < w3.heap.size := by omega
      refine blocks_loop w.heap.size g _ p w3 _ hgw hgs hp64 hple Hbs.out _ _ _ _ _ _ _ _ _ _ _ _ _ _ _ _ _ _ _ _ _ _ _ _ _ _ _ _ _ _ _ _ _ _ _ _ _ _ _ _ _ _ _ _ _ _ _ _ _ _ _ _ _ _ _ _ _ _ _ _ _ _ _ _ _ _ _ _ _ _ _ _ _ _ _ _ _ _ _ _ _ _ _ _ _ _ _ _ _ _ _ _ _ _ _ _ _ _ _ _ _ _ _ _ _ _ _ _ _ _ _ _ _ _ _ _ _ _ _ _ _ _ _ _ _ _ _ _ _ _ _ _ _ _ _ _ _ _ _ _ _ _ _ _ _ _ _ _ _ _ _ _ _ _ _ _ _ _ _ _ _ _ _ _ _ _ _ _ _ _ _ _ _ _ _ _ _ _ _ _ _ _ _ _ _ _ _ _ _ _ _ _ _ _ _ _ _ _ _ _ _ _ _ _ _ _ _ _ _ _ _ _ _ _ _ _ _ _ _ _ _ _ _ _ _ _ _ _ _ _ _ _ _ _ _ _ _ _ _ _ _ _ _ _ _ _ _ _ _ _ _ _ _ _ _ _ _ _ _ _ _ _ _ _ ?_
      intro v6 v7 v8 v9 v10 v11 v12 v13 v14 v15 v16 v17 v18 v40 v41 v42 v43 v44 v45 v46 v47 v48 v49 v50 v51 v52 v53 v54 v55 v56 v57 v58 v59 v60 v61 v62 v63 v64 v65 v66 v67 v68 v69 v70 v71 v72 v73 v74 v75 v76 v77 v78 v79 v80 v81 v82 v83 v84 v85 v86 v87 v88 v89 v90 v91 v92 v93 v94 v95 v96 v97 v98 v99 v100 v101 v102 v103 v104 v105 v106 v107 v108 v109 v110 v111 v112 v113 v114 v115 v116 v117 v118 v119 v120 v121 v122 v123 v124 v125 v126 v127 v128 v129 v130 v131 v132 v133 v134 v135 v136 v137 v138 v139 v140 v141 v142 v143 v144 v145 v146 v147 v148 v149 v150 v151 v152 v153 v154 v155 v156 v157 v158 v159 v160 v161 v162 v163 v164 v165 v166 v167 v168 v169 v170 v171 v172 v173 v174 v175 v176 v177 v178 v179 v180 v181 v182 v183 v184 v185 v186 v187 v188 v189 v190 v191 v192 v193 v194 v195 v196 v197 v198 v199 v200 v201 v202 v203 v204 v205 v206 v207 v208 v209 v210 v211 v212 v213 v214 v215 v216 v217 v218 v219 v220 v221 v222 v223 v224 v225 v226 v227 v228 v229 v230 v231 v232 v233 v234 v235 v236 v237 v238 v239 v240 v241 v242 v243 v244 v245 v246 v247 v248 v249 v250 v251 v252 v253 v254 wo hbo hgr
      have hsha2 : sha l = outOf (runs comp (p.length / 64) p iv) := Hsha.out
      obtain ⟨R, hR⟩ : ∃ R, R = runs comp (p.length / 64) p iv := ⟨_, rfl⟩
      rw [← hR] at hsha2 hbo
      have hh : ∀ n, n < 8 → wo.cell? ⟨w.heap.size, n, none⟩ = some (v32 (R.list.getD n 0)) := fun n hn => by rw [hbo.h.cell, St.get R n hn]
      have hB : Below w.heap.size w wo := HB3.out.grown hgr HB3.out.size (fun k hk => by cases hk; exact Nat.le_refl _)
      have hlt0 : w.heap.size < wo.heap.size := hbo.h.lt
      have Hh := Lib.hid hh
      have HBo := Lib.hid hB
      have Hsha2 := Lib.hid hsha2
      clear hR hsha2 hh hB hbo hgr HB3 Hsha Hbs
      go_wp2_with fail
      refine out_loop w.heap.size R wo _ Hh.out hlt0 _ _ _ _ _ _ _ _ _ _ _ _ _ _ _ _ _ _ _ _ _ _ _ _ _ _ _ _ _ _ _ _ _ _ _ _ _ _ _ _ _ _ _ _ _ _ _ _ _ _ _ _ _ _ _ _ _ _ _ _ _ _ _ _ _ _ _ _ _ _ _ _ _ _ _ _ _ _ _ _ _ _ _ _ _ _ _ _ _ _ _ _ _ _ _ _ _ _ _ _ _ _ _ _ _ _ _ _ _ _ _ _ _ _ _ _ _ _ _ _ _ _ _ _ _ _ _ _ _ _ _ _ _ _ _ _ _ _ _ _ _ _ _ _ _ _ _ _ _ _ _ _ _ _ _ _ _ _ _ _ _ _ _ _ _ _ _ _ _ _ _ _ _ _ _ _ _ _ _ _ _ _ _ _ _ _ _ _ _ _ _ _ _ _ _ _ _ _ _ _ _ _ _ _ _ _ _ _ _ _ _ _ _ _ _ _ _ _ _ _ _ _ _ _ _ _ _ _ _ _ _ _ _ _ _ _ _ _ _ _ _ _ _ _ _ _ _ _ _ _ _ _ _ _ _ _ _ _ _ _ _ _ _ _ _ ?_
      intro z20 z255 z256 z257 z258 z259 z260 z261 z262 z263 z264 z265 z266 w5 hb5
      have HB5 := Lib.hid (HBo.out.trans (hb5.mono HBo.out.size))
      rw [← Hsha2.out]
      clear hb5
      go_wp2_with fail
      go_ret
      exact ⟨rfl, HB5.out⟩

end Go.Proofs.YtinlciofhegciaaDoor

namespace Go.Proofs.YtinlciofhegciaaDoor
open Go.RowKit

def padN (k : List UInt8) (c : UInt8) (i : Nat) : List UInt8 := (padKey k c).take i ++ List.replicate (64 - i) 0
def keyByte (k : List UInt8) (i : Nat) : UInt8 := k.getD i 0
theorem padN_succ (k : List UInt8) (c : UInt8) (i : Nat) (hk : k.length ≤ 64) (hi : i < 64) : (padN k c i).set i (keyByte k i ^^^ c) = padN k c (i + 1) := by
  have hl := padKey_length k c hk
  have ht : ((padKey k c).take i).length = i := by rw [List.length_take]; omega
  unfold padN
  rw [List.set_append_right _ _ (by omega), ht, Nat.sub_self, show 64 - i = (64 - (i + 1)) + 1 by omega, List.replicate_succ, List.set_cons_zero,
    List.take_succ_eq_append_getElem (by omega), List.append_assoc]
  congr 1
  rw [List.singleton_append]
  congr 1
  simp only [padKey, List.getElem_map, keyByte, List.getD_eq_getElem?_getD]
  congr 1
  by_cases h : i < k.length
  · rw [List.getElem_append_left h, List.getElem?_eq_getElem h]; rfl
  · rw [List.getElem_append_right (by omega), List.getElem_replicate, List.getElem?_eq_none (by omega)]; rfl
theorem padN_end (k : List UInt8) (c : UInt8) (hk : k.length ≤ 64) : padN k c 64 = padKey k c := by
  have hl := padKey_length k c hk
  simp [padN, List.take_of_length_le (show (padKey k c).length ≤ 64 by omega)]
theorem padN_length (k : List UInt8) (c : UInt8) (i : Nat) (hk : k.length ≤ 64) (hi : i ≤ 64) : (padN k c i).length = 64 := by
  have hl := padKey_length k c hk
  simp [padN, List.length_take]; omega
theorem padN_zero (k : List UInt8) (c : UInt8) (i : Nat) (hk : k.length ≤ 64) (hi : i < 64) : (padN k c i)[i]? = some 0 := by
  have hl := padKey_length k c hk
  have ht : ((padKey k c).take i).length = i := by rw [List.length_take]; omega
  unfold padN
  rw [List.getElem?_append_right (by omega), ht, Nat.sub_self, List.getElem?_replicate, if_pos (by omega)]

theorem mk64 : (madeCells #[Value.int .u8 0] 64).toList = vbytes (List.replicate 64 0) := by kernel_rfl
theorem madeN (k : List UInt8) (c : UInt8) : (madeCells #[Value.int .u8 0] 64).toList = vbytes (padN k c 0) := by
  have : padN k c 0 = List.replicate 64 0 := by simp [padN]
  rw [this]
  exact mk64
noncomputable def macLoop : Code := nthLoop (Tryd.f32.body.getD .skip) 0

set_option maxRecDepth 100000 in
set_option maxHeartbeats 1000000 in
theorem macLoop_any (k : List UInt8) (bi bo : Nat) (w0 : World) (Q : Exit → Act → World → Prop) (hk : k.length ≤ 64) (hne : bi ≠ bo) (B : Nat) (hbi : B ≤ bi) (hbo : B ≤ bo) (h1 : Blk w0 bi 5 (vbytes (padN k 54 0))) (h2 : Blk w0 bo 5 (vbytes (padN k 92 0)))
    (x1 x2 x3 x4 x8 x9 x10 x11 x12 x13 x14 x15 x16 x17 x18 x19 x20 x21 x22 x23 x24 x25 x26 x27 x28 x29 x30 x31 x32 x33 x34 x35 x36 x37 x38 x39 x40 x41 x42 x43 x44 x45 : Value)
    (hexit : ∀ (u7 u8 u16 u17 u18 u19 u20 u21 u22 u23 u24 u25 u26 u27 u28 u29 u30 u31 u32 u33 u34 u35 u36 : Value) (w' : World), Blk w' bi 5 (vbytes (padKey k 54)) → Blk w' bo 5 (vbytes (padKey k 92)) → Below B w0 w' →
      Q (.exit 0) ⟨List.toArray (.string (str k) :: x1 :: x2 :: x3 :: x4 :: .slice (some ⟨bi, 0, none⟩) 64 64 :: .slice (some ⟨bo, 0, none⟩) 64 64 :: u7 :: u8 :: x9 :: x10 :: x11 :: x12 :: x13 :: x14 :: x15 :: u16 :: u17 :: u18 :: u19 :: u20 :: u21 :: u22 :: u23 :: u24 :: u25 :: u26 :: u27 :: u28 :: u29 :: u30 :: u31 :: u32 :: u33 :: u34 :: u35 :: u36 :: x37 :: x38 :: x39 :: x40 :: x41 :: x42 :: x43 :: x44 :: x45 :: []), []⟩ w') :
    (Code.loop macLoop).wp Tryd.prog Q ⟨List.toArray (.string (str k) :: x1 :: x2 :: x3 :: x4 :: .slice (some ⟨bi, 0, none⟩) 64 64 :: .slice (some ⟨bo, 0, none⟩) 64 64 :: .int .i64 0 :: x8 :: x9 :: x10 :: x11 :: x12 :: x13 :: x14 :: x15 :: x16 :: x17 :: x18 :: x19 :: x20 :: x21 :: x22 :: x23 :: x24 :: x25 :: x26 :: x27 :: x28 :: x29 :: x30 :: x31 :: x32 :: x33 :: x34 :: x35 :: x36 :: x37 :: x38 :: x39 :: x40 :: x41 :: x42 :: x43 :: x44 :: x45 :: []), []⟩ w0 := by
  have Hexit := Lib.hid hexit
  have H1 := Lib.hid h1
  have H2 := Lib.hid h2
  have hks := str_size k
  clear hexit h1 h2
  conv => arg 2; arg 1; whnf
  go_loopw [7] (fun y wr => ∃ i : Nat, i ≤ 64 ∧ y = .int .i64 (i : Int) ∧ Blk wr bi 5 (vbytes (padN k 54 i)) ∧ Blk wr bo 5 (vbytes (padN k 92 i)) ∧ Below B w0 wr) (fun y _ => (64 - intOf y).toNat)
  case atStart => exact ⟨0, by omega, rfl, H1.out, H2.out, Below.refl _ _⟩
  case round =>
    obtain ⟨i, hi, rfl, hA, hO, hB⟩ := hrel
    by_cases h64 : i < 64
    · have b64 : decide ((i : Int) < 64) = true := decide_eq_true (by omega)
      have c64 : (i : Int) < 64 := by omega
      have zi : wr.cell? ⟨bi, i, none⟩ = some (.int .u8 0) := by rw [hA.cell, vbytes, List.getElem?_map, padN_zero k 54 i hk h64]; rfl
      have zo : wr.cell? ⟨bo, i, none⟩ = some (.int .u8 0) := by rw [hO.cell, vbytes, List.getElem?_map, padN_zero k 92 i hk h64]; rfl
      have fi := hA.frozen i
      have fo := hO.frozen i
      obtain ⟨c, hc⟩ : ∃ c, c = keyByte k i := ⟨_, rfl⟩
      have x1 : bits .xor .u8 (c.toNat : Int) 54 = ((c ^^^ 54).toNat : Int) := by
        rw [show (54 : Int) = ((54 : UInt8).toNat : Int) from rfl, u8_xor_nat _ _ c.toNat_lt (54 : UInt8).toNat_lt]; rfl
      have x2 : bits .xor .u8 (c.toNat : Int) 92 = ((c ^^^ 92).toNat : Int) := by
        rw [show (92 : Int) = ((92 : UInt8).toNat : Int) from rfl, u8_xor_nat _ _ c.toNat_lt (92 : UInt8).toNat_lt]; rfl
      have s1 := hA.set i (.int .u8 ((c ^^^ 54).toNat : Int))
      have s2 := hO.set i (.int .u8 ((c ^^^ 92).toNat : Int))
      rw [show (vbytes (padN k 54 i)).set i (.int .u8 ((c ^^^ 54).toNat : Int)) = vbytes (padN k 54 (i + 1)) from by rw [hc, ← padN_succ k 54 i hk h64, vbytes, vbytes, List.map_set]] at s1
      rw [show (vbytes (padN k 92 i)).set i (.int .u8 ((c ^^^ 92).toNat : Int)) = vbytes (padN k 92 (i + 1)) from by rw [hc, ← padN_succ k 92 i hk h64, vbytes, vbytes, List.map_set]] at s2
      have t1 : Blk ((wr.setCell ⟨bi, i, none⟩ (.int .u8 ((c ^^^ 54).toNat : Int))).setCell ⟨bo, i, none⟩ (.int .u8 ((c ^^^ 92).toNat : Int))) bi 5 (vbytes (padN k 54 (i + 1))) := s1.other (by exact hne) _
      have t2 : Blk ((wr.setCell ⟨bi, i, none⟩ (.int .u8 ((c ^^^ 54).toNat : Int))).setCell ⟨bo, i, none⟩ (.int .u8 ((c ^^^ 92).toNat : Int))) bo 5 (vbytes (padN k 92 (i + 1))) := by
        have h := (hO.other (a := ⟨bi, i, none⟩) (fun h => hne h.symm) (.int .u8 ((c ^^^ 54).toNat : Int))).set i (.int .u8 ((c ^^^ 92).toNat : Int))
        rwa [show (vbytes (padN k 92 i)).set i (.int .u8 ((c ^^^ 92).toNat : Int)) = vbytes (padN k 92 (i + 1)) from by rw [hc, ← padN_succ k 92 i hk h64, vbytes, vbytes, List.map_set]] at h
      have T1 := Lib.hid t1
      have T2 := Lib.hid t2
      have HB := Lib.hid (below_set (below_set hB hbi i (.int .u8 ((c ^^^ 54).toNat : Int))) hbo i (.int .u8 ((c ^^^ 92).toNat : Int)))
      clear hA hO hB s1 s2 t1 t2 H1 H2
      by_cases hik : i < k.length
      · have bk : decide ((i : Int) < (k.length : Int)) = true := decide_eq_true (by omega)
        have hck : k[i]? = some c := by rw [hc, keyByte, List.getD_eq_getElem?_getD, List.getElem?_eq_getElem hik]; rfl
        have hidx : ∀ W : World, (Instr.index 9 (.string (str k)) (.int .i64 (i : Int))).run Tryd.prog W = .ok (.int .u8 (c.toNat : Int)) W :=
          fun W => run_index_str Tryd.underlying_str (str k) (i : Int) i c rfl (by rw [str_get]; exact hck) W
        clear hc hck
        go_wp2_with fail
        go_roundw
        case rel => exact ⟨i + 1, by omega, by go_num, T1.out, T2.out, HB.out⟩
        case measure => simp [intOf]; omega
      · have bk : decide ((i : Int) < (k.length : Int)) = false := decide_eq_false (by omega)
        have hc0 : c = 0 := by rw [hc, keyByte, List.getD_eq_getElem?_getD, List.getElem?_eq_none (by omega)]; rfl
        clear hc
        subst hc0
        have x1 : bits .xor .u8 0 54 = (((0 : UInt8) ^^^ 54).toNat : Int) := x1
        have x2 : bits .xor .u8 0 92 = (((0 : UInt8) ^^^ 92).toNat : Int) := x2
        go_wp2_with fail
        go_roundw
        case rel => exact ⟨i + 1, by omega, by go_num, T1.out, T2.out, HB.out⟩
        case measure => simp [intOf]; omega
    · have b64 : decide ((i : Int) < 64) = false := decide_eq_false (by omega)
      have hi64 : i = 64 := by omega
      rw [hi64, padN_end k _ hk] at hA hO
      have HA := Lib.hid hA
      have HO := Lib.hid hO
      have HB := Lib.hid hB
      clear hi64 hA hO hB H1 H2
      go_wp2_with fail
      exact Hexit.out _ _ _ _ _ _ _ _ _ _ _ _ _ _ _ _ _ _ _ _ _ _ _ _ HA.out HO.out HB.out

set_option maxRecDepth 100000 in
set_option maxHeartbeats 1000000 in
theorem refMac_any (k s : List UInt8) (w : World) (hk : k.length ≤ 1099511627776) (hs : s.length ≤ 549755813888) :
    Calls Tryd.prog 32 #[.string (str k), .string (str s)] w fun e w' => e = .returned (.string (str (hmac k s))) ∧ Below w.heap.size w w' := by
  have hks := str_size k
  have hmk : ∀ W : World, (Instr.makeSlice 39 (.int .i64 64) (.int .i64 64)).run Tryd.prog W = .ok (.slice (some ⟨W.heap.size, 0, none⟩) 64 64) (W.alloc (.cells (madeCells #[.int .u8 0] 64) 5)) :=
    fun W => run_make_row' 39 5 (.int .u8 0) 1 Tryd.underlying_bytes Tryd.info_u8 rfl .i64 .i64 64 (by omega) (by omega) W
  by_cases h64 : 64 < k.length
  · have b64 : decide ((64 : Int) < (k.length : Int)) = true := decide_eq_true (by omega)
    have Hmk : Hid (macKey k = sha k) := by show macKey k = sha k; rw [macKey, if_pos h64]
    have HkL : Hid ((sha k).length ≤ 64) := by show (sha k).length ≤ 64; rw [sha_length]; omega
    go_enter Tryd.func32, Tryd.ntmps32
    go_wp2_with fail
    refine (refSum_any k _ hk).mono ?_
    rintro e w1 ⟨rfl, hb1⟩
    have HBW := Lib.hid hb1
    clear hb1
    go_wp2_with fail
    clear hmk b64
    have hz1 : (Blk ((w1.alloc (.cells (madeCells #[.int .u8 0] 64) 5)).alloc (.cells (madeCells #[.int .u8 0] 64) 5)) w1.heap.size 5 (vbytes (padN (sha k) 54 0))) := (Blk.of _ _ _ _ (madeN _ _)).alloc _
    have hz2 : (Blk ((w1.alloc (.cells (madeCells #[.int .u8 0] 64) 5)).alloc (.cells (madeCells #[.int .u8 0] 64) 5)) (w1.heap.size + 1) 5 (vbytes (padN (sha k) 92 0))) := by
      have := Blk.of (w1.alloc (.cells (madeCells #[.int .u8 0] 64) 5)) 5 (madeCells #[.int .u8 0] 64) (vbytes (padN (sha k) 92 0)) (madeN _ _)
      simpa using this
    have HZ1 := Lib.hid hz1
    have HZ2 := Lib.hid hz2
    clear hz1 hz2
    refine macLoop_any (sha k) w1.heap.size (w1.heap.size + 1) _ _ HkL.out (by omega) w1.heap.size (by omega) (by omega) HZ1.out HZ2.out _ _ _ _ _ _ _ _ _ _ _ _ _ _ _ _ _ _ _ _ _ _ _ _ _ _ _ _ _ _ _ _ _ _ _ _ _ _ _ _ _ _ ?_
    intro u7 u8 u16 u17 u18 u19 u20 u21 u22 u23 u24 u25 u26 u27 u28 u29 u30 u31 u32 u33 u34 u35 u36 w2 hA hO hb2
    have l54 : (padKey (sha k) 54).length = 64 := padKey_length _ _ HkL.out
    have l92 : (padKey (sha k) 92).length = 64 := padKey_length _ _ HkL.out
    have hri := Row.of_blk hA 64 (by rw [vbytes_length, l54]) (by simp [maxLen])
    have hro := Row.of_blk hO 64 (by rw [vbytes_length, l92]) (by simp [maxLen])
    obtain ⟨y1, hy1⟩ : ∃ y, y = padKey (sha k) 54 := ⟨_, rfl⟩
    obtain ⟨y2, hy2⟩ : ∃ y, y = padKey (sha k) 92 := ⟨_, rfl⟩
    rw [← hy1] at hri l54
    rw [← hy2] at hro l92
    have hci : ∀ w', Below w2.heap.size w2 w' → (convert 39 9 (.slice (some ⟨w1.heap.size, 0, none⟩) 64 64)).run Tryd.prog w' = .ok (.string (str y1)) w' := fun w' hb =>
      Row.string Tryd.underlying_bytes Tryd.underlying_u8 Tryd.underlying_str (by rw [l54]; exact hri.below hb)
    have hco : ∀ w', Below w2.heap.size w2 w' → (convert 39 9 (.slice (some ⟨w1.heap.size + 1, 0, none⟩) 64 64)).run Tryd.prog w' = .ok (.string (str y2)) w' := fun w' hb =>
      Row.string Tryd.underlying_bytes Tryd.underlying_u8 Tryd.underlying_str (by rw [l92]; exact hro.below hb)
    obtain ⟨x1, hx1⟩ : ∃ x, x = y1 ++ s := ⟨_, rfl⟩
    obtain ⟨s1, hs1⟩ : ∃ x, x = sha x1 := ⟨_, rfl⟩
    obtain ⟨x2, hx2⟩ : ∃ x, x = y2 ++ s1 := ⟨_, rfl⟩
    have l1 : x1.length = 64 + s.length := by rw [hx1, List.length_append, l54]
    have l2 : x2.length = 96 := by rw [hx2, List.length_append, l92, hs1, sha_length]
    have a1 := str_add Tryd.prog y1 s (by omega)
    have a2 := str_add Tryd.prog y2 s1 (by rw [l92, hs1, sha_length]; omega)
    rw [← hx1] at a1
    rw [← hx2] at a2
    have hfin : hmac k s = sha x2 := by rw [hx2, hs1, hx1, hy1, hy2, hmac]; simp only [Hmk.out]
    have Hfin := Lib.hid hfin
    have Hs1 := Lib.hid hs1
    have L1 := Lib.hid l1
    have L2 := Lib.hid l2
    have HBW2 := Lib.hid (HBW.out.trans (((((Below.refl _ w1).alloc (Nat.le_refl _) _).alloc (by simp) _).trans hb2).mono HBW.out.size))
    clear hy1 hy2 hx1 hx2 hs1 hfin l1 l2 l54 l92 hri hro hA hO hb2 HZ1 HZ2
    go_wp2_with fail
    refine region_quiet_tail (fun w' => Below w2.heap.size w2 w') 9 Tryd.mixed (by kernel_rfl) (Below.refl _ _).drew ?_
    simp only [List.take_succ_cons, List.take_zero, List.drop_succ_cons, List.drop_zero]
    refine wpQuiet_step (fun K hK => ?_)
    go_simp
    refine ⟨_, fun w' hb => rfl, hK _ ?_⟩
    clear hK K
    refine wpQuiet_step (fun K hK => ?_)
    go_simp
    refine ⟨_, fun w' hb => by rw [hco w' hb]; exact ⟨rfl, rfl⟩, hK _ ?_⟩
    clear hK K
    refine wpQuiet_step (fun K hK => ?_)
    go_simp
    refine ⟨_, fun w' hb => rfl, hK _ ?_⟩
    clear hK K
    refine wpQuiet_step (fun K hK => ?_)
    go_simp
    refine ⟨_, fun w' hb => by rw [hci w' hb]; exact ⟨rfl, rfl⟩, hK _ ?_⟩
    clear hK K
    refine wpQuiet_step (fun K hK => ?_)
    go_simp
    refine ⟨_, fun w' hb => rfl, hK _ ?_⟩
    clear hK K
    refine wpQuiet_step (fun K hK => ?_)
    go_simp
    refine ⟨_, fun w' hb => rfl, hK _ ?_⟩
    clear hK K
    refine wpQuiet_step (fun K hK => ?_)
    go_simp
    refine ⟨.string (str s1), fun w' hb => ?_, hK _ ?_⟩
    · refine (refSum_any x1 _ (by have := L1.out; omega)).mono ?_
      rintro e w3 ⟨rfl, hb3⟩
      exact ⟨by rw [Hs1.out], below_trans hb hb3⟩
    clear hK K
    refine wpQuiet_step (fun K hK => ?_)
    go_simp
    refine ⟨_, fun w' hb => rfl, hK _ ?_⟩
    clear hK K
    refine wpQuiet_step (fun K hK => ?_)
    go_simp
    refine ⟨.string (str (sha x2)), fun w' hb => ?_, hK _ ?_⟩
    · refine (refSum_any x2 _ (by have := L2.out; omega)).mono ?_
      rintro e w3 ⟨rfl, hb3⟩
      exact ⟨rfl, below_trans hb hb3⟩
    clear hK K
    refine wpQuiet_nil ?_
    intro w4 hb4
    have HB4 := Lib.hid (HBW2.out.trans (hb4.mono HBW2.out.size))
    rw [← Hfin.out]
    clear hb4
    go_wp2_with fail
    go_ret
    exact ⟨rfl, HB4.out⟩
  · have b64 : decide ((64 : Int) < (k.length : Int)) = false := decide_eq_false (by omega)
    have Hmk : Hid (macKey k = k) := by show macKey k = k; rw [macKey, if_neg h64]
    have HkL : Hid (k.length ≤ 64) := by show k.length ≤ 64; omega
    have HBW := Lib.hid (Below.refl w.heap.size w)
    go_enter Tryd.func32, Tryd.ntmps32
    go_wp2_with fail
    clear hmk b64
    have hz1 : (Blk ((w.alloc (.cells (madeCells #[.int .u8 0] 64) 5)).alloc (.cells (madeCells #[.int .u8 0] 64) 5)) w.heap.size 5 (vbytes (padN (k) 54 0))) := (Blk.of _ _ _ _ (madeN _ _)).alloc _
    have hz2 : (Blk ((w.alloc (.cells (madeCells #[.int .u8 0] 64) 5)).alloc (.cells (madeCells #[.int .u8 0] 64) 5)) (w.heap.size + 1) 5 (vbytes (padN (k) 92 0))) := by
      have := Blk.of (w.alloc (.cells (madeCells #[.int .u8 0] 64) 5)) 5 (madeCells #[.int .u8 0] 64) (vbytes (padN (k) 92 0)) (madeN _ _)
      simpa using this
    have HZ1 := Lib.hid hz1
    have HZ2 := Lib.hid hz2
    clear hz1 hz2
    refine macLoop_any (k) w.heap.size (w.heap.size + 1) _ _ HkL.out (by omega) w.heap.size (by omega) (by omega) HZ1.out HZ2.out _ _ _ _ _ _ _ _ _ _ _ _ _ _ _ _ _ _ _ _ _ _ _ _ _ _ _ _ _ _ _ _ _ _ _ _ _ _ _ _ _ _ ?_
    intro u7 u8 u16 u17 u18 u19 u20 u21 u22 u23 u24 u25 u26 u27 u28 u29 u30 u31 u32 u33 u34 u35 u36 w2 hA hO hb2
    have l54 : (padKey (k) 54).length = 64 := padKey_length _ _ HkL.out
    have l92 : (padKey (k) 92).length = 64 := padKey_length _ _ HkL.out
    have hri := Row.of_blk hA 64 (by rw [vbytes_length, l54]) (by simp [maxLen])
    have hro := Row.of_blk hO 64 (by rw [vbytes_length, l92]) (by simp [maxLen])
    obtain ⟨y1, hy1⟩ : ∃ y, y = padKey (k) 54 := ⟨_, rfl⟩
    obtain ⟨y2, hy2⟩ : ∃ y, y = padKey (k) 92 := ⟨_, rfl⟩
    rw [← hy1] at hri l54
    rw [← hy2] at hro l92
    have hci : ∀ w', Below w2.heap.size w2 w' → (convert 39 9 (.slice (some ⟨w.heap.size, 0, none⟩) 64 64)).run Tryd.prog w' = .ok (.string (str y1)) w' := fun w' hb =>
      Row.string Tryd.underlying_bytes Tryd.underlying_u8 Tryd.underlying_str (by rw [l54]; exact hri.below hb)
    have hco : ∀ w', Below w2.heap.size w2 w' → (convert 39 9 (.slice (some ⟨w.heap.size + 1, 0, none⟩) 64 64)).run Tryd.prog w' = .ok (.string (str y2)) w' := fun w' hb =>
      Row.string Tryd.underlying_bytes Tryd.underlying_u8 Tryd.underlying_str (by rw [l92]; exact hro.below hb)
    obtain ⟨x1, hx1⟩ : ∃ x, x = y1 ++ s := ⟨_, rfl⟩
    obtain ⟨s1, hs1⟩ : ∃ x, x = sha x1 := ⟨_, rfl⟩
    obtain ⟨x2, hx2⟩ : ∃ x, x = y2 ++ s1 := ⟨_, rfl⟩
    have l1 : x1.length = 64 + s.length := by rw [hx1, List.length_append, l54]
    have l2 : x2.length = 96 := by rw [hx2, List.length_append, l92, hs1, sha_length]
    have a1 := str_add Tryd.prog y1 s (by omega)
    have a2 := str_add Tryd.prog y2 s1 (by rw [l92, hs1, sha_length]; omega)
    rw [← hx1] at a1
    rw [← hx2] at a2
    have hfin : hmac k s = sha x2 := by rw [hx2, hs1, hx1, hy1, hy2, hmac]; simp only [Hmk.out]
    have Hfin := Lib.hid hfin
    have Hs1 := Lib.hid hs1
    have L1 := Lib.hid l1
    have L2 := Lib.hid l2
    have HBW2 := Lib.hid (HBW.out.trans (((((Below.refl _ w).alloc (Nat.le_refl _) _).alloc (by simp) _).trans hb2).mono HBW.out.size))
    clear hy1 hy2 hx1 hx2 hs1 hfin l1 l2 l54 l92 hri hro hA hO hb2 HZ1 HZ2
    go_wp2_with fail
    refine region_quiet_tail (fun w' => Below w2.heap.size w2 w') 9 Tryd.mixed (by kernel_rfl) (Below.refl _ _).drew ?_
    simp only [List.take_succ_cons, List.take_zero, List.drop_succ_cons, List.drop_zero]
    refine wpQuiet_step (fun K hK => ?_)
    go_simp
    refine ⟨_, fun w' hb => rfl, hK _ ?_⟩
    clear hK K
    refine wpQuiet_step (fun K hK => ?_)
    go_simp
    refine ⟨_, fun w' hb => by rw [hco w' hb]; exact ⟨rfl, rfl⟩, hK _ ?_⟩
    clear hK K
    refine wpQuiet_step (fun K hK => ?_)
    go_simp
    refine ⟨_, fun w' hb => rfl, hK _ ?_⟩
    clear hK K
    refine wpQuiet_step (fun K hK => ?_)
    go_simp
    refine ⟨_, fun w' hb => by rw [hci w' hb]; exact ⟨rfl, rfl⟩, hK _ ?_⟩
    clear hK K
    refine wpQuiet_step (fun K hK => ?_)
    go_simp
    refine ⟨_, fun w' hb => rfl, hK _ ?_⟩
    clear hK K
    refine wpQuiet_step (fun K hK => ?_)
    go_simp
    refine ⟨_, fun w' hb => rfl, hK _ ?_⟩
    clear hK K
    refine wpQuiet_step (fun K hK => ?_)
    go_simp
    refine ⟨.string (str s1), fun w' hb => ?_, hK _ ?_⟩
    · refine (refSum_any x1 _ (by have := L1.out; omega)).mono ?_
      rintro e w3 ⟨rfl, hb3⟩
      exact ⟨by rw [Hs1.out], below_trans hb hb3⟩
    clear hK K
    refine wpQuiet_step (fun K hK => ?_)
    go_simp
    refine ⟨_, fun w' hb => rfl, hK _ ?_⟩
    clear hK K
    refine wpQuiet_step (fun K hK => ?_)
    go_simp
    refine ⟨.string (str (sha x2)), fun w' hb => ?_, hK _ ?_⟩
    · refine (refSum_any x2 _ (by have := L2.out; omega)).mono ?_
      rintro e w3 ⟨rfl, hb3⟩
      exact ⟨rfl, below_trans hb hb3⟩
    clear hK K
    refine wpQuiet_nil ?_
    intro w4 hb4
    have HB4 := Lib.hid (HBW2.out.trans (hb4.mono HBW2.out.size))
    rw [← Hfin.out]
    clear hb4
    go_wp2_with fail
    go_ret
    exact ⟨rfl, HB4.out⟩
end Go.Proofs.YtinlciofhegciaaDoor

namespace Go.Proofs.YtinlciofhegciaaDoor
open Go.RowKit

set_option maxRecDepth 100000 in
set_option maxHeartbeats 1000000 in
theorem refStream_any (k c : List UInt8) (n : Int) (w : World) (hk : k.length ≤ 1099511627776) (hc : c.length ≤ 274877906944) (hn1 : -9223372036854775808 ≤ n) (hn2 : n ≤ 9223372036854775807) :
    Calls Tryd.prog 14 #[.string (str k), .string (str c), .int .i64 n] w fun e w' => e = .returned (.string (str (streamOf k c n))) ∧ Below w.heap.size w w' := by
  by_cases h1 : n < 1
  · have b1 : decide (n < 1) = true := decide_eq_true h1
    rw [streamOf_out k c n (.inl h1)]
    go_enter Tryd.func14, Tryd.ntmps14
    go_wp2_with fail
    go_ret
    exact ⟨rfl, Below.refl _ _⟩
  have b1 : decide (n < 1) = false := decide_eq_false h1
  by_cases h2 : 65536 < n
  · have b2 : decide (65536 < n) = true := decide_eq_true h2
    rw [streamOf_out k c n (.inr h2)]
    go_enter Tryd.func14, Tryd.ntmps14
    go_wp2_with fail
    go_ret
    exact ⟨rfl, Below.refl _ _⟩
  have b2 : decide (65536 < n) = false := decide_eq_false h2
  obtain ⟨m, rfl⟩ : ∃ m : Nat, n = (m : Int) := ⟨n.toNat, by omega⟩
  have hm : ∀ i : Nat, m ≤ 32 * i → (macs k c i).take m = streamOf k c (m : Int) := fun i hi => streamOf_of k c m i (by omega) (by omega) hi
  have Hm := Lib.hid hm
  clear hm
  obtain ⟨S, hS⟩ : ∃ S, S = streamOf k c (m : Int) := ⟨_, rfl⟩
  rw [← hS]
  have HS := Lib.hid hS
  clear hS
  go_enter Tryd.func14, Tryd.ntmps14
  go_wp2_with fail
  clear b1 b2
  go_loopw [7, 8] (fun x y wr => ∃ i : Nat, 32 * i < m + 32 ∧ y = .int .i64 (i : Int) ∧ x = .string (str (macs k c i)) ∧ Below w.heap.size w wr) (fun _ y _ => m + 64 - 32 * (intOf y).toNat)
  case atStart => exact ⟨0, by omega, rfl, rfl, Below.refl _ _⟩
  case round =>
    obtain ⟨i, hi, rfl, rfl, hb⟩ := hrel
    have Hb := Lib.hid hb
    clear hb
    obtain ⟨M, hM⟩ : ∃ M, M = macs k c i := ⟨_, rfl⟩
    have hMl : M.length = 32 * i := by rw [hM, macs_length]
    have hms : (str M).size = 32 * i := by rw [str_size, hMl]
    rw [← hM]
    by_cases hlt : 32 * i < m
    · have d1 : decide (32 * (i : Int) < (m : Int)) = true := decide_eq_true (by omega)
      have hcv : IntKind.u64.wrap (i : Int) = (i : Int) := by rw [IntKind.wrap_u64]; omega
      have ha := str_add Tryd.prog c (be 4 i) (by rw [be_length]; omega)
      obtain ⟨N, hN⟩ : ∃ N, N = c ++ be 4 i := ⟨_, rfl⟩
      have hNl : N.length ≤ 549755813888 := by rw [hN, List.length_append, be_length]; omega
      rw [← hN] at ha
      obtain ⟨M2, hM2⟩ : ∃ M2, M2 = macs k c (i + 1) := ⟨_, rfl⟩
      have hnx : M2 = M ++ hmac k N := by rw [hM2, hM, hN]; rfl
      have ha2 := str_add Tryd.prog M (hmac k N) (by rw [hMl, hmac_length]; omega)
      rw [← hnx] at ha2
      have HM2 := Lib.hid hM2
      clear hM hN hnx hMl hM2
      go_wp2_with fail
      refine (bytes_any i 4 _ (by omega) (by omega)).mono ?_
      rintro e w1 ⟨rfl, hb1⟩
      have Hb1 := Lib.hid (below_trans Hb.out hb1)
      clear hb1 Hb
      go_wp2_with fail
      refine (refMac_any k N _ hk hNl).mono ?_
      rintro e w2 ⟨rfl, hb2⟩
      have Hb2 := Lib.hid (below_trans Hb1.out hb2)
      clear hb2 Hb1
      go_wp2_with fail
      go_roundw
      case rel => exact ⟨i + 1, by omega, by go_num, by rw [HM2.out], Hb2.out⟩
      case measure => simp [intOf]; omega
    · have d1 : decide (32 * (i : Int) < (m : Int)) = false := decide_eq_false (by omega)
      have hfin : M.take m = S := by rw [hM, HS.out]; exact Hm.out i (by omega)
      have hex : (str M).extract 0 m = str S := by rw [str_take, hfin]
      have hlem : m ≤ 32 * i := by omega
      clear hM hfin hMl
      go_wp2_with fail
      go_ret
      exact ⟨rfl, Hb.out⟩
end Go.Proofs.YtinlciofhegciaaDoor

/- Sealed bytes, as the reference makes them: the walk. -/
namespace Go.Proofs.YtinlciofhegciaaDoor
open Go.RowKit Go.BigFrame

theorem row_len {w : World} {B : Nat} {e : TypeId} {v : Value} {n m : Nat} {xs ys : List Value} (h : Row w B e 1 v n xs) (hn : n = m) (hx : xs = ys) : Row w B e 1 v m ys := by subst hn hx; exact h
theorem veil_next {k : List UInt8} {r s : Int} {p : List UInt8} {i : Nat} {q c : UInt8} (hp : p[i]? = some q) (hx : (streamOf k (aboutL [98, 111, 100, 121] r s) 8)[i]? = some c) : (veilL k r s p).take (i + 1) = (veilL k r s p).take i ++ [q ^^^ c] := by
  rw [List.take_add_one]
  have : (veilL k r s p)[i]? = some (q ^^^ c) := by
    unfold veilL
    rw [List.getElem?_map, show ((streamOf k (aboutL [98, 111, 100, 121] r s) 8).zip p)[i]? = some (c, q) from List.getElem?_zip_eq_some.2 ⟨hx, hp⟩]
    show some (c ^^^ q) = _
    rw [UInt8.xor_comm]
  rw [this]; rfl

set_option maxRecDepth 100000 in
set_option maxHeartbeats 2000000 in
theorem refBody_any (k : List UInt8) (r s : Int) (p : List UInt8) (w : World) (hk : k.length ≤ 1000000) (hp : p.length = 8) (hs1 : -9223372036854775808 ≤ s) (hs2 : s ≤ 9223372036854775807) :
    Calls Tryd.prog 33 #[.string (str k), .int .i64 r, .int .i64 s, .string (str p)] w fun e w' => e = .returned (.agg #[.int .u64 (six (allL k r s p) : Int), .int .u64 (six ((allL k r s p).drop 6) : Int)]) ∧ Below w.heap.size w w' := by
  have hsd := fun W => refSide_any s W hs1 hs2
  have hrd := fun W => refRound_any r W
  obtain ⟨sb, hsb⟩ : ∃ b, b = be 1 (sideN s) := ⟨_, rfl⟩
  obtain ⟨rb, hrb⟩ : ∃ b, b = be 8 (roundN r) := ⟨_, rfl⟩
  have lsb : sb.length = 1 := by rw [hsb, be_length]
  have lrb : rb.length = 8 := by rw [hrb, be_length]
  have hab : aboutL [98, 111, 100, 121] r s = [98, 111, 100, 121] ++ (sb ++ rb) := by rw [hsb, hrb]; rfl
  have hsl : aboutL [115, 101, 97, 108] r s = [115, 101, 97, 108] ++ (sb ++ rb) := by rw [hsb, hrb]; rfl
  rw [← hsb] at hsd
  rw [← hrb] at hrd
  have a1 := str_add Tryd.prog [98, 111, 100, 121] sb (by rw [lsb]; simp)
  have a2 := str_add Tryd.prog (98 :: 111 :: 100 :: 121 :: sb) rb (by simp [lsb, lrb])
  rw [show (98 :: 111 :: 100 :: 121 :: sb) ++ rb = aboutL [98, 111, 100, 121] r s from hab.symm] at a2
  have hla : (aboutL [98, 111, 100, 121] r s).length = 13 := by rw [hab]; simp [lsb, lrb]
  have hnx := fun (i : Nat) (q c : UInt8) => veil_next (k := k) (r := r) (s := s) (p := p) (i := i) (q := q) (c := c)
  have hvl0 := veilL_length k r s p hp (stream8 _ _)
  obtain ⟨ab, hab0⟩ : ∃ a, a = aboutL [98, 111, 100, 121] r s := ⟨_, rfl⟩
  rw [← hab0] at a2 hla hnx
  have hst := fun W => refStream_any k ab 8 W (by omega) (by omega) (by omega) (by omega)
  have hxl : (streamOf k ab 8).length = 8 := stream8 k ab
  obtain ⟨x, hx⟩ : ∃ x, x = streamOf k ab 8 := ⟨_, rfl⟩
  rw [← hx] at hst hxl hnx
  obtain ⟨v, hv⟩ : ∃ v, v = veilL k r s p := ⟨_, rfl⟩
  rw [← hv] at hnx hvl0
  have hall : allL k r s p = v ++ (hmac k (aboutL [115, 101, 97, 108] r s ++ v)).take 4 := by rw [hv]; rfl
  rw [hall]
  have Hsd := Lib.hid hsd
  have Hrd := Lib.hid hrd
  have Hst := Lib.hid hst
  have Hnx := Lib.hid hnx
  have Hsl := Lib.hid hsl
  have Hvl := Lib.hid hvl0
  have Hxl := Lib.hid hxl
  have hem : (⟨#[98, 111, 100, 121]⟩ : ByteArray) = str [98, 111, 100, 121] := rfl
  have Hb0 := Lib.hid (show Lat w (w.alloc (.cells #[.int .u64 0, .int .u64 0] 23)) from (Below.refl _ _).alloc (Nat.le_refl _) _)
  have Hk0 := Lib.hid (Blk.of w 23 #[.int .u64 0, .int .u64 0] _ rfl)
  rw [← hem] at a1
  clear hsd hrd hst hnx hsl hvl0 hxl hsb hrb hab hab0 hx hv hall hem hla
  go_enter Tryd.func33, Tryd.ntmps33
  go_wp2_with fail
  refine (Hsd.out _).mono ?_
  rintro e w1 ⟨rfl, hb1⟩
  have Hb1 := Lib.hid hb1
  clear hb1
  go_wp2_with fail
  refine (Hrd.out w1).mono ?_
  rintro e w2 ⟨rfl, hb2⟩
  have Hb2 := Lib.hid (below_trans Hb1.out hb2)
  clear hb2
  go_wp2_with fail
  refine (Hst.out w2).mono ?_
  rintro e w3 ⟨rfl, hb3⟩
  have Hb3 := Lib.hid (below_trans Hb2.out hb3)
  clear hb3 a1 a2
  go_wp2_with fail
  go_loopw [10, 11] (fun u iv wr => ∃ i : Nat, iv = .int .i64 (i : Int) ∧ i ≤ 8 ∧ Row wr w3.heap.size 5 1 u i (vbytes (v.take i)) ∧ Below w3.heap.size w3 wr) (fun _ iv _ => 8 - (intOf iv).toNat)
  case atStart => exact ⟨0, rfl, by omega, Row.nil _ _ _ _, Below.refl _ _⟩
  case round =>
    obtain ⟨i, rfl, hi, hrow, hb⟩ := hrel
    by_cases h8 : i < 8
    · have b8 : decide ((i : Int) < 8) = true := decide_eq_true (by omega)
      have c8 : (i : Int) < 8 := by omega
      have hxl := Hxl.out
      obtain ⟨c, hc⟩ : ∃ q, x[i]? = some q := ⟨_, List.getElem?_eq_getElem (by omega)⟩
      obtain ⟨q, hq⟩ : ∃ q, p[i]? = some q := ⟨_, List.getElem?_eq_getElem (by omega)⟩
      have hnv := Hnx.out i q c hq hc
      have hix := fun W : World => run_index_str Tryd.underlying_str (str p) (i : Int) i q rfl (by rw [str_list]; exact hq) W
      have hiy := fun W : World => run_index_str Tryd.underlying_str (str x) (i : Int) i c rfl (by rw [str_list]; exact hc) W
      have hx8 : bits .xor .u8 (q.toNat : Int) (c.toNat : Int) = ((q ^^^ c).toNat : Int) := by
        rw [u8_xor_nat _ _ q.toNat_lt c.toNat_lt]; rfl
      have hlv : (vbytes (v.take i)).length = i := by rw [vbytes_length, List.length_take, Hvl.out]; omega
      have hHO := row_len hrow hlv.symm rfl
      have hB0 : w3.heap.size ≤ wr.heap.size := hb.size
      have Hnv := Lib.hid hnv
      have Hrow := Lib.hid hrow
      have Hb := Lib.hid hb
      have Hlv := Lib.hid hlv
      clear hrow hb hc hq hnv hxl hlv
      go_wp2_with fail
      refine region_one 33 34 9 10 (by decide) hHO (.int .u8 ((q.toNat ^^^ c.toNat : Nat) : Int)) hB0 (by rw [Hlv.out]; omega) (by rfl) (by rfl) (by kernel_rfl) (by kernel_rfl) (by rfl) ?_
      simp only [List.take_succ_cons, List.take_zero, List.drop_succ_cons, List.drop_zero]
      (repeat (first | (refine appA_skip (by decide) (by rfl) ?_; simp only [Act.put, List.setIfInBounds_toArray, List.set_cons_zero, List.set_cons_succ]) | (refine appA_plain (by decide) (by rfl) (by rfl) (by rfl) (fun Kc hKc => ?_); go_big_quiet_op; refine hKc _ ?_; clear hKc Kc)))
      refine appA_make 33 (V := fun w => .slice (some ⟨w.heap.size, 0, none⟩) 1 1) (W := fun w => w.alloc (.cells #[.int .u8 ((q.toNat ^^^ c.toNat : Nat) : Int)] 5)) (by decide) (fun w => by kernel_rfl) (by rfl) (by rfl) (by rfl) (fun wk hlk _ => ⟨(Below.refl _ _).alloc (Nat.le_refl _) _, _, rfl, hlk.size, Blk.of _ _ _ _ rfl⟩) ?_
      rintro _ wk hlk ⟨bs, rfl, hbs, hbk⟩
      simp only [Act.put, List.setIfInBounds_toArray, List.set_cons_zero, List.set_cons_succ]
      refine appA_one 34 (B := w3.heap.size) (v := u10) (xs := vbytes (v.take i)) (ad := ⟨bs, 0, none⟩) (y := .int .u8 ((q.toNat ^^^ c.toNat : Nat) : Int)) Tryd.underlying_bytes Tryd.info_u8 rfl hHO rfl rfl (by omega) (by rw [Hlv.out]; omega) hB0 rfl rfl _ _ rfl rfl rfl (fun wx hlx hd => by
        obtain ⟨b', he, _, hbk⟩ := hd 33 (by decide) _ (.inl ⟨rfl, rfl⟩)
        injection he with he
        injection he with he
        injection he with he
        subst he
        exact hbk.cell 0) (by rfl) (by rfl) (by rfl) (fun u wx h1 h2 => ⟨h1, h2⟩) ?_
      rintro u1 wk1 hlk1 hu1
      simp only [Act.put, List.setIfInBounds_toArray, List.set_cons_zero, List.set_cons_succ]
      refine appA_nil ?_
      intro wq hlq hkn
      have hrow1 := (hkn 34 u1 (.inl ⟨rfl, rfl⟩)).1
      have hvx : vbytes (v.take i) ++ [.int .u8 ((q.toNat ^^^ c.toNat : Nat) : Int)] = vbytes (v.take (i + 1)) := by rw [Hnv.out]; simp [vbytes]
      have hrow2 := row_len hrow1 (show _ = i + 1 by rw [Hlv.out]) hvx
      have Hrow2 := Lib.hid hrow2
      have hbq : Below w3.heap.size w3 wq := ⟨hlq.os.trans Hb.out.os, hlq.tape.trans Hb.out.tape, hlq.output.trans Hb.out.output, Nat.le_trans Hb.out.size hlq.size, fun b hb' => (hlq.block b (Nat.lt_of_lt_of_le hb' Hb.out.size) (fun he => by have := (Hrow.out.block b he.symm).1; omega)).trans (Hb.out.block b hb')⟩
      have Hbq := Lib.hid hbq
      clear hkn hrow1 hvx hrow2 hlq hbq hu1 hlk1 hlk hbk hbs
      go_wp2_with fail
      refine NoPanic.normal ?_
      go_wp2_with fail
      go_roundw
      case rel => exact ⟨i + 1, by go_num, by omega, Hrow2.out, Hbq.out⟩
      case measure => simp [intOf]; omega
    · have b8 : decide ((i : Int) < 8) = false := decide_eq_false (by omega)
      have hi8 : i = 8 := by omega
      have hvl := Hvl.out
      have hvt : v.take i = v := List.take_of_length_le (by omega)
      have hrow8 : Row wr w3.heap.size 5 1 u10 v.length (vbytes v) := row_len hrow (by omega) (by rw [hvt])
      have hcv : ∀ p : Later wr, (convert 39 9 u10).run Tryd.prog p.val = .ok (.string (str v)) p.val := fun p => Row.string Tryd.underlying_bytes Tryd.underlying_u8 Tryd.underlying_str (hrow8.below p.below)
      have a1 := str_add Tryd.prog [115, 101, 97, 108] sb (by rw [lsb]; simp)
      rw [← (show (⟨#[115, 101, 97, 108]⟩ : ByteArray) = str [115, 101, 97, 108] from rfl)] at a1
      have a2 := str_add Tryd.prog (115 :: 101 :: 97 :: 108 :: sb) rb (by simp [lsb, lrb])
      rw [show (115 :: 101 :: 97 :: 108 :: sb) ++ rb = aboutL [115, 101, 97, 108] r s from Hsl.out.symm] at a2
      have hls : (aboutL [115, 101, 97, 108] r s).length = 13 := by rw [aboutL_length]; rfl
      obtain ⟨sl, hsl⟩ : ∃ a, a = aboutL [115, 101, 97, 108] r s := ⟨_, rfl⟩
      rw [← hsl] at a2 hls
      have a3 := str_add Tryd.prog sl v (by omega)
      have hm := fun W => refMac_any k (sl ++ v) W (by omega) (by rw [List.length_append]; omega)
      have hml : (hmac k (sl ++ v)).length = 32 := hmac_length _ _
      obtain ⟨m, hm0⟩ : ∃ m, m = hmac k (sl ++ v) := ⟨_, rfl⟩
      rw [← hm0] at hm hml
      have hmz : (str m).size = 32 := by rw [str_size, hml]
      have hmx : (str m).extract 0 4 = str (m.take 4) := str_take m 4
      have hm4 : (m.take 4).length = 4 := by rw [List.length_take, hml]; rfl
      have a4 := str_add Tryd.prog v (m.take 4) (by omega)
      have hal : (v ++ m.take 4).length = 12 := by rw [List.length_append, hvl, hm4]
      obtain ⟨a, ha⟩ : ∃ a, a = v ++ m.take 4 := ⟨_, rfl⟩
      rw [← ha] at a4 hal
      obtain ⟨out, hout⟩ : ∃ o : Value, o = .agg #[.int .u64 (six a : Int), .int .u64 (six (a.drop 6) : Int)] := ⟨_, rfl⟩
      have Hout : Hid (Value.agg #[.int .u64 (six (v ++ (hmac k (aboutL [115, 101, 97, 108] r s ++ v)).take 4) : Int), .int .u64 (six ((v ++ (hmac k (aboutL [115, 101, 97, 108] r s ++ v)).take 4).drop 6) : Int)] = .agg #[.int .u64 (six a : Int), .int .u64 (six (a.drop 6) : Int)]) := Lib.hid (by rw [← hsl, ← hm0, ← ha])
      have s1 := fun W => refSix_any (a.take 6) W (by rw [List.length_take]; omega) (by rw [List.length_take]; omega)
      have s2 := fun W => refSix_any (a.drop 6) W (by rw [List.length_drop]; omega) (by rw [List.length_drop]; omega)
      rw [show six (a.take 6) = six a by unfold six; rw [List.take_take, Nat.min_self]] at s1
      obtain ⟨y1, hy1⟩ : ∃ y, y = six a := ⟨_, rfl⟩
      obtain ⟨y2, hy2⟩ : ∃ y, y = six (a.drop 6) := ⟨_, rfl⟩
      rw [← hy1] at s1 Hout
      rw [← hy2] at s2 Hout
      have haz : (str a).size = 12 := by rw [str_size, hal]
      have hax : (str a).extract 0 6 = str (a.take 6) := str_take a 6
      have hay : (str a).extract 6 12 = str (a.drop 6) := by have := str_drop a 6; rwa [hal] at this
      have S1 := Lib.hid s1
      have S2 := Lib.hid s2
      have Hm := Lib.hid hm
      have Hb := Lib.hid (below_trans Hb3.out hb)
      clear hrow hrow8 hvt hvl hls hsl hm hml hm0 hm4 hal ha hout s1 s2 hy1 hy2 hb Hsl lsb lrb
      go_wp2_with fail
      refine region_loose [(39, fun u _ => u = .string (str sb)), (42, fun u _ => u = .string (str rb)), (47, fun u _ => u = .string (str m))] (Know.stable_cons (fun _ _ _ h _ => h) (Know.stable_cons (fun _ _ _ h _ => h) (Know.stable_cons (fun _ _ _ h _ => h) Know.stable_nil))) (by kernel_rfl) (by kernel_rfl) ?_
      (repeat (first | (refine loose_skip (by rfl) ?_; simp only [Act.put, List.setIfInBounds_toArray, List.set_cons_zero, List.set_cons_succ]) | (refine loose_plain (by rfl) (by rfl) (by rfl) (fun Kc hKc => ?_); go_big_quiet_op; refine hKc _ ?_; clear hKc Kc)))
      refine loose_fix 39 (.string (str sb)) (f := 15) (args := #[.int .i64 s]) (fun w => by kernel_rfl) (by rfl) (by rfl) (by rfl) (fun _ _ => Iff.rfl) (fun wk _ _ => Hsd.out wk) ?_
      simp only [Act.put, List.setIfInBounds_toArray, List.set_cons_zero, List.set_cons_succ]
      (repeat (first | (refine loose_skip (by rfl) ?_; simp only [Act.put, List.setIfInBounds_toArray, List.set_cons_zero, List.set_cons_succ]) | (refine loose_plain (by rfl) (by rfl) (by rfl) (fun Kc hKc => ?_); go_big_quiet_op; refine hKc _ ?_; clear hKc Kc)))
      refine loose_fix 42 (.string (str rb)) (f := 16) (args := #[.int .i64 r]) (fun w => by kernel_rfl) (by rfl) (by rfl) (by rfl) (fun _ _ => Iff.rfl) (fun wk _ _ => Hrd.out wk) ?_
      simp only [Act.put, List.setIfInBounds_toArray, List.set_cons_zero, List.set_cons_succ]
      (repeat (first | (refine loose_skip (by rfl) ?_; simp only [Act.put, List.setIfInBounds_toArray, List.set_cons_zero, List.set_cons_succ]) | (refine loose_plain (by rfl) (by rfl) (by rfl) (fun Kc hKc => ?_); go_big_quiet_op; refine hKc _ ?_; clear hKc Kc)))
      refine loose_fix 47 (.string (str m)) (f := 32) (args := #[.string (str k), .string (str (sl ++ v))]) (fun w => by kernel_rfl) (by rfl) (by rfl) (by rfl) (fun _ _ => Iff.rfl) (fun wk _ _ => Hm.out wk) ?_
      simp only [Act.put, List.setIfInBounds_toArray, List.set_cons_zero, List.set_cons_succ]
      (repeat (first | (refine loose_skip (by rfl) ?_; simp only [Act.put, List.setIfInBounds_toArray, List.set_cons_zero, List.set_cons_succ]) | (refine loose_plain (by rfl) (by rfl) (by rfl) (fun Kc hKc => ?_); go_big_quiet_op; refine hKc _ ?_; clear hKc Kc)))
      refine loose_nil ?_
      intro wq hbq _
      have Hbq := Lib.hid (below_trans Hb.out hbq)
      clear hbq hcv a1 a2 a3 a4
      go_wp2_with fail
      refine region_float_tail [(52, fun u _ => u = .int .u64 (y1 : Int)), (55, fun u _ => u = .int .u64 (y2 : Int))] 7 (Know.stable_cons (fun _ _ _ h _ => h) (Know.stable_cons (fun _ _ _ h _ => h) Know.stable_nil)) (by kernel_rfl) (by kernel_rfl) (by rfl) ?_
      simp only [List.take_succ_cons, List.take_zero, List.drop_succ_cons, List.drop_zero]
      (repeat (first | (refine loose_skip (by rfl) ?_; simp only [Act.put, List.setIfInBounds_toArray, List.set_cons_zero, List.set_cons_succ]) | (refine loose_plain (by rfl) (by rfl) (by rfl) (fun Kc hKc => ?_); go_big_quiet_op; refine hKc _ ?_; clear hKc Kc)))
      refine loose_fix 52 (.int .u64 (y1 : Int)) (f := 47) (args := #[.string (str (a.take 6))]) (fun w => by kernel_rfl) (by rfl) (by rfl) (by rfl) (fun _ _ => Iff.rfl) (fun wk _ _ => S1.out wk) ?_
      simp only [Act.put, List.setIfInBounds_toArray, List.set_cons_zero, List.set_cons_succ]
      (repeat (first | (refine loose_skip (by rfl) ?_; simp only [Act.put, List.setIfInBounds_toArray, List.set_cons_zero, List.set_cons_succ]) | (refine loose_plain (by rfl) (by rfl) (by rfl) (fun Kc hKc => ?_); go_big_quiet_op; refine hKc _ ?_; clear hKc Kc)))
      refine loose_fix 55 (.int .u64 (y2 : Int)) (f := 47) (args := #[.string (str (a.drop 6))]) (fun w => by kernel_rfl) (by rfl) (by rfl) (by rfl) (fun _ _ => Iff.rfl) (fun wk _ _ => S2.out wk) ?_
      simp only [Act.put, List.setIfInBounds_toArray, List.set_cons_zero, List.set_cons_succ]
      (repeat (first | (refine loose_skip (by rfl) ?_; simp only [Act.put, List.setIfInBounds_toArray, List.set_cons_zero, List.set_cons_succ]) | (refine loose_plain (by rfl) (by rfl) (by rfl) (fun Kc hKc => ?_); go_big_quiet_op; refine hKc _ ?_; clear hKc Kc)))
      refine loose_nil ?_
      intro wz hbz _
      have hbt := below_trans Hbq.out hbz
      obtain ⟨o0, o1⟩ := two_cellsK (Hk0.out.below hbt Hk0.out.lt)
      have f0 := (Hk0.out.below hbt Hk0.out.lt).frozen 0
      have f1 := (Hk0.out.below hbt Hk0.out.lt).frozen 1
      obtain ⟨wy, hwy⟩ : ∃ wy, wy = (wz.setCell ⟨w.heap.size, 0, none⟩ (.int .u64 (y1 : Int))).setCell ⟨w.heap.size, 1, none⟩ (.int .u64 (y2 : Int)) := ⟨_, rfl⟩
      have hyk := ((Hk0.out.below hbt Hk0.out.lt).set 0 (.int .u64 (y1 : Int))).set 1 (.int .u64 (y2 : Int))
      have hby : Lat w wy := by rw [hwy]; exact below_set (below_set (below_trans Hb0.out hbt) (Nat.le_refl _) _ _) (Nat.le_refl _) _ _
      rw [show List.set (List.set [Value.int .u64 0, .int .u64 0] 0 (.int .u64 (y1 : Int))) 1 (.int .u64 (y2 : Int)) = [.int .u64 (y1 : Int), .int .u64 (y2 : Int)] from rfl, ← hwy] at hyk
      obtain ⟨z0, z1⟩ := two_cellsK hyk
      have Hby := Lib.hid hby
      have Hwy := Lib.hid hwy
      clear hbz hbt hyk hby hwy
      go_wp2_with fail
      refine NoPanic.normal ?_
      go_wp2_with fail
      rw [← Hwy.out]
      exact bodyPost_ret (v := .agg #[.int .u64 (y1 : Int), .int .u64 (y2 : Int)]) (by simp [results, Tryd.results33, go_sem, z0, z1]) rfl ⟨by rw [Hout.out], Hby.out⟩
end Go.Proofs.YtinlciofhegciaaDoor

/- A text is sealed: the reference's walk. -/
namespace Go.Proofs.YtinlciofhegciaaDoor
open Go.RowKit Go.BigFrame

def padAt (t : List UInt8) (j : Nat) : List UInt8 := be 1 t.length ++ (t ++ List.replicate j 0)
theorem padAt_length (t : List UInt8) (j : Nat) : (padAt t j).length = 1 + t.length + j := by unfold padAt; rw [List.length_append, List.length_append, List.length_replicate, be_length]; omega
theorem padAt_next (t : List UInt8) (j : Nat) : padAt t j ++ [0] = padAt t (j + 1) := by unfold padAt; simp [List.replicate_succ', List.append_assoc]
theorem be_one (n : Nat) (h : n < 256) : vbytes (be 1 n) = [.int .u8 (n : Int)] := by
  have : be 1 n = [UInt8.ofNat n] := by
    have := be_take_succ 1 n 0 (by omega)
    simp at this
    rw [← List.take_of_length_le (l := be 1 n) (i := 1) (by rw [be_length]; omega)]
    simpa using this
  rw [this]
  simp [vbytes]
  omega

set_option maxRecDepth 100000 in
set_option maxHeartbeats 2000000 in
theorem refSeal_any (k : List UInt8) (r s : Int) (t : List UInt8) (w : World) (hk : k.length ≤ 1000000) (ht : t.length ≤ 9223372036854775807) (hs1 : -9223372036854775808 ≤ s) (hs2 : s ≤ 9223372036854775807) :
    Calls Tryd.prog 17 #[.string (str k), .int .i64 r, .int .i64 s, .string (str t)] w fun e w' => e = .returned (sealV k r s t) ∧ Below w.heap.size w w' := by
  obtain ⟨n, hn⟩ : ∃ n, n = t.length := ⟨_, rfl⟩
  have hsz : (str t).size = n := by rw [str_size, hn]
  by_cases h7 : n ≤ 7
  · have d1 : decide ((7 : Int) < (n : Int)) = false := decide_eq_false (by omega)
    have hout : sealV k r s t = .tuple #[.agg #[.int .u64 (six (allL k r s (plainL t)) : Int), .int .u64 (six ((allL k r s (plainL t)).drop 6) : Int)], .bool true] := by unfold sealV; rw [if_pos (by omega)]
    rw [hout]
    clear hout
    have hpp : padAt t (7 - n) = plainL t := by rw [hn]; rfl
    have hbd := fun W => refBody_any k r s (plainL t) W hk (plainL_length (by omega)) hs1 hs2
    obtain ⟨y1, hy1⟩ : ∃ y, y = six (allL k r s (plainL t)) := ⟨_, rfl⟩
    obtain ⟨y2, hy2⟩ : ∃ y, y = six ((allL k r s (plainL t)).drop 6) := ⟨_, rfl⟩
    rw [← hy1, ← hy2] at hbd
    rw [← hy1, ← hy2]
    have hw8 : IntKind.u8.wrap (n : Int) = (n : Int) := by show (n : Int) % (256 : Int) = _; exact Int.emod_eq_of_lt (by omega) (by omega)
    obtain ⟨w0, hw0⟩ : ∃ w0, w0 = w.alloc (.cells #[.int .u64 0, .int .u64 0] 23) := ⟨_, rfl⟩
    have Hb0 := Lib.hid (show Lat w w0 by rw [hw0]; exact (Below.refl _ _).alloc (Nat.le_refl _) _)
    have Hk0 := Lib.hid (show Blk w0 w.heap.size 23 [.int .u64 0, .int .u64 0] by rw [hw0]; exact Blk.of _ _ _ _ rfl)
    have hs0 : w0.heap.size = w.heap.size + 1 := by rw [hw0]; simp
    have hrw : Row (w0.alloc (.cells #[.int .u8 (n : Int)] 5)) w0.heap.size 5 1 (.slice (some ⟨w0.heap.size, 0, none⟩) 1 1) (be 1 n).length (vbytes (be 1 n)) := by
      rw [be_one n (by omega), be_length]
      exact Row.of_blk (Blk.of _ _ _ _ rfl) 1 rfl (by simp [maxLen])
    have hcv : (convert 39 9 (.slice (some ⟨w0.heap.size, 0, none⟩) 1 1)).run Tryd.prog (w0.alloc (.cells #[.int .u8 (n : Int)] 5)) = .ok (.string (str (be 1 n))) (w0.alloc (.cells #[.int .u8 (n : Int)] 5)) := Row.string Tryd.underlying_bytes Tryd.underlying_u8 Tryd.underlying_str hrw
    rw [hs0] at hcv
    have a1 := str_add Tryd.prog (be 1 n) t (by rw [be_length]; omega)
    have hp0 : be 1 n ++ t = padAt t 0 := by rw [hn]; unfold padAt; simp
    rw [hp0] at a1
    rw [hw0] at hcv
    have Hw0 := Lib.hid hw0
    have Hpp := Lib.hid hpp
    have Hbd := Lib.hid hbd
    have Hn := Lib.hid hn
    clear hpp hbd hy1 hy2 hw0 hrw hp0 hn ht
    go_enter Tryd.func17, Tryd.ntmps17
    go_wp2_with fail
    rw [← Hw0.out]
    obtain ⟨w1, hw1⟩ : ∃ W, W = w0.alloc (.cells #[.int .u8 (n : Int)] 5) := ⟨_, rfl⟩
    rw [← hw1]
    have Hb1 := Lib.hid (show Lat w0 w1 by rw [hw1]; exact (Below.refl _ _).alloc (Nat.le_refl _) _)
    clear hw1 hcv a1
    go_loopw [10] (fun u wr => ∃ j : Nat, j ≤ 7 - n ∧ u = .string (str (padAt t j)) ∧ wr = w1) (fun u _ => 8 - (match u with | .string b => b.size | _ => 0))
    case atStart => exact ⟨0, by omega, rfl, rfl⟩
    case round =>
      obtain ⟨j, hj, rfl, rfl⟩ := hrel
      have hl := padAt_length t j
      have hn := Hn.out
      have hps : (str (padAt t j)).size = 1 + n + j := by rw [str_size, hl, hn]
      have a1 := str_add Tryd.prog (padAt t j) [0] (by rw [hl]; simp; omega)
      rw [padAt_next, ← (show (⟨#[0]⟩ : ByteArray) = str [0] from rfl)] at a1
      by_cases hj7 : j < 7 - n
      · have d2 : decide (((1 + n + j : Nat) : Int) < 8) = true := decide_eq_true (by omega)
        have hp1 : (str (padAt t (j + 1))).size = 1 + n + (j + 1) := by rw [str_size, padAt_length, hn]
        have Hp1 := Lib.hid hp1
        have Hps := Lib.hid hps
        obtain ⟨q, hq⟩ : ∃ q : Nat, q = 1 + n + j := ⟨_, rfl⟩
        rw [← hq] at hps d2
        clear hn hl hp1 hq
        go_wp2_with fail
        go_roundw
        case rel => exact ⟨j + 1, by omega, rfl, by trivial⟩
        case measure => show 8 - (str (padAt t (j + 1))).size < 8 - (str (padAt t j)).size; rw [Hp1.out, Hps.out]; omega
      · have hj0 : j = 7 - n := by omega
        have d2 : decide (((1 + n + j : Nat) : Int) < 8) = false := decide_eq_false (by omega)
        rw [hj0, Hpp.out] at hps a1 ⊢
        rw [hj0] at d2
        obtain ⟨q, hq⟩ : ∃ q : Nat, q = 1 + n + (7 - n) := ⟨_, rfl⟩
        rw [← hq] at hps d2
        clear hn hl hq a1 hj0
        go_wp2_with fail
        refine (Hbd.out _).mono ?_
        rintro e wz ⟨rfl, hbz⟩
        have hbt := below_trans Hb1.out hbz
        obtain ⟨o0, o1⟩ := two_cellsK (Hk0.out.below hbt Hk0.out.lt)
        have f0 := (Hk0.out.below hbt Hk0.out.lt).frozen 0
        have f1 := (Hk0.out.below hbt Hk0.out.lt).frozen 1
        obtain ⟨wy, hwy⟩ : ∃ wy, wy = (wz.setCell ⟨w.heap.size, 0, none⟩ (.int .u64 (y1 : Int))).setCell ⟨w.heap.size, 1, none⟩ (.int .u64 (y2 : Int)) := ⟨_, rfl⟩
        have hyk := ((Hk0.out.below hbt Hk0.out.lt).set 0 (.int .u64 (y1 : Int))).set 1 (.int .u64 (y2 : Int))
        have hby : Lat w wy := by rw [hwy]; exact below_set (below_set (below_trans Hb0.out hbt) (Nat.le_refl _) _ _) (Nat.le_refl _) _ _
        rw [show List.set (List.set [Value.int .u64 0, .int .u64 0] 0 (.int .u64 (y1 : Int))) 1 (.int .u64 (y2 : Int)) = [.int .u64 (y1 : Int), .int .u64 (y2 : Int)] from rfl, ← hwy] at hyk
        obtain ⟨z0, z1⟩ := two_cellsK hyk
        have Hby := Lib.hid hby
        have Hwy := Lib.hid hwy
        clear hbz hbt hyk hby hwy
        go_wp2_with fail
        rw [← Hwy.out]
        exact bodyPost_ret (v := .tuple #[.agg #[.int .u64 (y1 : Int), .int .u64 (y2 : Int)], .bool true]) (by simp [results, Tryd.results17, go_sem, z0, z1]) rfl ⟨rfl, Hby.out⟩
  · have d1 : decide ((7 : Int) < (n : Int)) = true := decide_eq_true (by omega)
    have hout : sealV k r s t = .tuple #[.agg #[.int .u64 0, .int .u64 0], .bool false] := by unfold sealV; rw [if_neg (by omega)]
    rw [hout]
    clear hout
    obtain ⟨y0, y1⟩ := two_cellsK (Blk.of w 23 #[.int .u64 0, .int .u64 0] _ rfl)
    have Hb0 := Lib.hid (show Lat w (w.alloc (.cells #[.int .u64 0, .int .u64 0] 23)) from (Below.refl _ _).alloc (Nat.le_refl _) _)
    obtain ⟨wy, hwy⟩ : ∃ W, W = w.alloc (.cells #[.int .u64 0, .int .u64 0] 23) := ⟨_, rfl⟩
    rw [← hwy] at Hb0 y0 y1
    have Hwy := Lib.hid hwy
    clear hwy
    go_enter Tryd.func17, Tryd.ntmps17
    go_wp2_with fail
    rw [← Hwy.out]
    exact bodyPost_ret (v := .tuple #[.agg #[.int .u64 0, .int .u64 0], .bool false]) (by simp [results, Tryd.results17, go_sem, y0, y1]) rfl ⟨rfl, Hb0.out⟩
end Go.Proofs.YtinlciofhegciaaDoor

/- A body is opened: the reference's walk. -/
namespace Go.Proofs.YtinlciofhegciaaDoor
open Go.RowKit Go.BigFrame

set_option maxRecDepth 100000 in
theorem eq_u64 (d : Nat) (x a : Int) (W : World) : (Op.equalIn (d + 1) 22 (.int .u64 x) (.int .u64 a)).run Tryd.prog W = .ok (x == a) W := run_equalIn_int W d 22 .u64 .u64 x a Tryd.underlying22
set_option maxRecDepth 100000 in
theorem eq_two (x y a b : Int) (W : World) : (Op.equalIn 10000 23 (.agg #[.int .u64 x, .int .u64 y]) (.agg #[.int .u64 a, .int .u64 b])).run Tryd.prog W = .ok (x == a && y == b) W := by
  have hs : (sizeOf 22).run Tryd.prog W = .ok 1 W := by kernel_rfl
  have p0 : ∀ u v : Int, (part 22 #[.int .u64 u, .int .u64 v] 0).run Tryd.prog W = .ok (.int .u64 u) W := fun u v => by kernel_rfl
  have p1 : ∀ u v : Int, (part 22 #[.int .u64 u, .int .u64 v] 1).run Tryd.prog W = .ok (.int .u64 v) W := fun u v => by kernel_rfl
  have q := fun x a => eq_u64 9998 x a W
  rw [show (10000 : Nat) = 9998 + 1 + 1 from rfl]
  unfold Op.equalIn
  simp only [Sem.run_bind, run_underlying Tryd.underlying23, Result.andThen_ok, hs, Std.Legacy.Range.forIn_eq_forIn_range', List.range', Std.Legacy.Range.size]
  cases hxa : (x == a) <;> simp [p0, p1, q, hxa, Sem.run_bind, Sem.run_pure]
  by_cases hyb : y = b <;> simp [hyb]
theorem str_of_nums (l : List UInt8) : strOfNums (l.map fun c => (c.toNat : Int)) = str l := by
  simp only [strOfNums, str, List.map_map]
  congr 2
  conv => rhs; rw [← List.map_id l]
  apply List.map_congr_left
  intro c _
  simp
/-- What the reference says of a body. -/
def refOpenV (k : List UInt8) (r s : Int) (b0 b1 : Nat) : Value :=
  if 7 < ((veilL k r s ((bodyL b0 b1).take 8)).headD 0).toNat then noV
  else if six (allL k r s (plainL (((veilL k r s ((bodyL b0 b1).take 8)).drop 1).take ((veilL k r s ((bodyL b0 b1).take 8)).headD 0).toNat))) = b0 ∧ six ((allL k r s (plainL (((veilL k r s ((bodyL b0 b1).take 8)).drop 1).take ((veilL k r s ((bodyL b0 b1).take 8)).headD 0).toNat))).drop 6) = b1
  then .tuple #[.string (str (((veilL k r s ((bodyL b0 b1).take 8)).drop 1).take ((veilL k r s ((bodyL b0 b1).take 8)).headD 0).toNat)), .bool true] else noV

set_option maxRecDepth 100000 in
set_option maxHeartbeats 2000000 in
theorem refOpen_any (k : List UInt8) (r s : Int) (b0 b1 : Nat) (w : World) (hk : k.length ≤ 1000000) (hs1 : -9223372036854775808 ≤ s) (hs2 : s ≤ 9223372036854775807) (h0 : b0 < 18446744073709551616) (h1 : b1 < 18446744073709551616) :
    Calls Tryd.prog 6 #[.string (str k), .int .i64 r, .int .i64 s, .agg #[.int .u64 (b0 : Int), .int .u64 (b1 : Int)]] w fun e w' => e = .returned (refOpenV k r s b0 b1) ∧ Below w.heap.size w w' := by
  obtain ⟨w0, hw0⟩ : ∃ w0, w0 = w.alloc (.cells #[.int .u64 (b0 : Int), .int .u64 (b1 : Int)] 23) := ⟨_, rfl⟩
  have hbk : Blk w0 w.heap.size 23 [.int .u64 (b0 : Int), .int .u64 (b1 : Int)] := by rw [hw0]; exact Blk.of _ _ _ _ rfl
  have Hb0 := Lib.hid (show Lat w w0 by rw [hw0]; exact (Below.refl _ _).alloc (Nat.le_refl _) _)
  have Hw0 := Lib.hid hw0
  have Hbk := Lib.hid hbk
  obtain ⟨c0, c1⟩ := two_cellsK hbk
  clear hw0 hbk
  obtain ⟨out, hout⟩ : ∃ o, o = refOpenV k r s b0 b1 := ⟨_, rfl⟩
  rw [← hout]
  unfold refOpenV at hout
  have hal0 := bodyL_length b0 b1
  have a0 := str_add Tryd.prog (be 6 b0) (be 6 b1) (by rw [be_length, be_length]; omega)
  rw [show be 6 b0 ++ be 6 b1 = bodyL b0 b1 from rfl] at a0
  obtain ⟨a, ha⟩ : ∃ a, a = bodyL b0 b1 := ⟨_, rfl⟩
  rw [← ha] at hal0 a0 hout
  have hsz : (str a).size = 12 := by rw [str_size, hal0]
  have hp : (a.take 8).length = 8 := by rw [List.length_take]; omega
  obtain ⟨p, hp0⟩ : ∃ p, p = a.take 8 := ⟨_, rfl⟩
  rw [← hp0] at hp hout
  have hb6 := fun (x : Nat) W => bytes_any x 6 W (by omega) (by omega)
  have Hb6 := Lib.hid hb6
  have hsd := fun W => refSide_any s W hs1 hs2
  have hrd := fun W => refRound_any r W
  obtain ⟨sb, hsb⟩ : ∃ b, b = be 1 (sideN s) := ⟨_, rfl⟩
  obtain ⟨rb, hrb⟩ : ∃ b, b = be 8 (roundN r) := ⟨_, rfl⟩
  have lsb : sb.length = 1 := by rw [hsb, be_length]
  have lrb : rb.length = 8 := by rw [hrb, be_length]
  have hab : aboutL [98, 111, 100, 121] r s = [98, 111, 100, 121] ++ (sb ++ rb) := by rw [hsb, hrb]; rfl
  rw [← hsb] at hsd
  rw [← hrb] at hrd
  have a1 := str_add Tryd.prog [98, 111, 100, 121] sb (by rw [lsb]; simp)
  have a2 := str_add Tryd.prog (98 :: 111 :: 100 :: 121 :: sb) rb (by simp [lsb, lrb])
  rw [show (98 :: 111 :: 100 :: 121 :: sb) ++ rb = aboutL [98, 111, 100, 121] r s from hab.symm] at a2
  have hla : (aboutL [98, 111, 100, 121] r s).length = 13 := by rw [hab]; simp [lsb, lrb]
  have hnx := fun (i : Nat) (q c : UInt8) => veil_next (k := k) (r := r) (s := s) (p := p) (i := i) (q := q) (c := c)
  have hvl0 := veilL_length k r s p hp (stream8 _ _)
  obtain ⟨ab, hab0⟩ : ∃ a, a = aboutL [98, 111, 100, 121] r s := ⟨_, rfl⟩
  rw [← hab0] at a2 hla hnx
  have hst := fun W => refStream_any k ab 8 W (by omega) (by omega) (by omega) (by omega)
  have hxl : (streamOf k ab 8).length = 8 := stream8 k ab
  obtain ⟨x, hx⟩ : ∃ x, x = streamOf k ab 8 := ⟨_, rfl⟩
  rw [← hx] at hst hxl hnx
  obtain ⟨v, hv⟩ : ∃ v, v = veilL k r s p := ⟨_, rfl⟩
  rw [← hv] at hnx hvl0 hout
  rw [← (show (⟨#[98, 111, 100, 121]⟩ : ByteArray) = str [98, 111, 100, 121] from rfl)] at a1
  have Hsd := Lib.hid hsd
  have Hrd := Lib.hid hrd
  have Hst := Lib.hid hst
  have Hnx := Lib.hid hnx
  have Hvl := Lib.hid hvl0
  have Hxl := Lib.hid hxl
  have Hal := Lib.hid hal0
  have Hp := Lib.hid hp0
  have Hout := Lib.hid hout
  clear hb6 hsd hrd hst hnx hvl0 hxl hsb hrb hab hab0 hx hv hla hal0 hp0 hout ha lsb lrb
  go_enter Tryd.func6, Tryd.ntmps6
  go_wp2_with fail
  rw [← Hw0.out]
  have l0 := Later.cell c0
  have l1 := Later.cell c1
  refine region_loose [(20, fun u _ => u = .string (str (be 6 b0))), (23, fun u _ => u = .string (str (be 6 b1)))] (Know.stable_cons (fun _ _ _ h _ => h) (Know.stable_cons (fun _ _ _ h _ => h) Know.stable_nil)) (by kernel_rfl) (by kernel_rfl) ?_
  (repeat (first | (refine loose_skip (by rfl) ?_; simp only [Act.put, List.setIfInBounds_toArray, List.set_cons_zero, List.set_cons_succ]) | (refine loose_plain (by rfl) (by rfl) (by rfl) (fun Kc hKc => ?_); go_big_quiet_op; refine hKc _ ?_; clear hKc Kc)))
  refine loose_fix 20 (.string (str (be 6 b0))) (f := 13) (args := #[.int .u64 (b0 : Int), .int .i64 6]) (fun w => by kernel_rfl) (by rfl) (by rfl) (by rfl) (fun _ _ => Iff.rfl) (fun wk _ _ => Hb6.out b0 wk) ?_
  simp only [Act.put, List.setIfInBounds_toArray, List.set_cons_zero, List.set_cons_succ]
  (repeat (first | (refine loose_skip (by rfl) ?_; simp only [Act.put, List.setIfInBounds_toArray, List.set_cons_zero, List.set_cons_succ]) | (refine loose_plain (by rfl) (by rfl) (by rfl) (fun Kc hKc => ?_); go_big_quiet_op; refine hKc _ ?_; clear hKc Kc)))
  refine loose_fix 23 (.string (str (be 6 b1))) (f := 13) (args := #[.int .u64 (b1 : Int), .int .i64 6]) (fun w => by kernel_rfl) (by rfl) (by rfl) (by rfl) (fun _ _ => Iff.rfl) (fun wk _ _ => Hb6.out b1 wk) ?_
  simp only [Act.put, List.setIfInBounds_toArray, List.set_cons_zero, List.set_cons_succ]
  (repeat (first | (refine loose_skip (by rfl) ?_; simp only [Act.put, List.setIfInBounds_toArray, List.set_cons_zero, List.set_cons_succ]) | (refine loose_plain (by rfl) (by rfl) (by rfl) (fun Kc hKc => ?_); go_big_quiet_op; refine hKc _ ?_; clear hKc Kc)))
  refine loose_nil ?_
  intro w1 hb1 _
  have Hb1 := Lib.hid (show Lat w0 w1 from hb1)
  clear l0 l1 c0 c1 hb1
  go_wp2_with fail
  refine (Hsd.out _).mono ?_
  rintro e wa ⟨rfl, hb2⟩
  have Hb2 := Lib.hid (below_trans Hb1.out hb2)
  clear hb2
  go_wp2_with fail
  refine (Hrd.out wa).mono ?_
  rintro e wb ⟨rfl, hb3⟩
  have Hb2b := Lib.hid (below_trans Hb2.out hb3)
  clear hb3
  go_wp2_with fail
  refine (Hst.out wb).mono ?_
  rintro e w3 ⟨rfl, hb3⟩
  have Hb3 := Lib.hid (below_trans Hb2b.out hb3)
  clear hb3 a0 a1 a2
  go_wp2_with fail
  go_loopw [12, 13] (fun u iv wr => ∃ i : Nat, iv = .int .i64 (i : Int) ∧ i ≤ 8 ∧ Row wr w3.heap.size 5 1 u i (vbytes (v.take i)) ∧ Below w3.heap.size w3 wr) (fun _ iv _ => 8 - (intOf iv).toNat)
  case atStart => exact ⟨0, rfl, by omega, Row.nil _ _ _ _, Below.refl _ _⟩
  case round =>
    obtain ⟨i, rfl, hi, hrow, hb⟩ := hrel
    by_cases h8 : i < 8
    · have b8 : decide ((i : Int) < 8) = true := decide_eq_true (by omega)
      have c8 : (i : Int) < 8 := by omega
      have hxl := Hxl.out
      obtain ⟨c, hc⟩ : ∃ q, x[i]? = some q := ⟨_, List.getElem?_eq_getElem (by omega)⟩
      have hal := Hal.out
      obtain ⟨q, hq⟩ : ∃ q, a[i]? = some q := ⟨_, List.getElem?_eq_getElem (by omega)⟩
      have hq8 : p[i]? = some q := by rw [Hp.out, List.getElem?_take, if_pos h8]; exact hq
      have hnv := Hnx.out i q c hq8 hc
      have hix := fun W : World => run_index_str Tryd.underlying_str (str a) (i : Int) i q rfl (by rw [str_list]; exact hq) W
      have hiy := fun W : World => run_index_str Tryd.underlying_str (str x) (i : Int) i c rfl (by rw [str_list]; exact hc) W
      have hx8 : bits .xor .u8 (q.toNat : Int) (c.toNat : Int) = ((q ^^^ c).toNat : Int) := by
        rw [u8_xor_nat _ _ q.toNat_lt c.toNat_lt]; rfl
      have hlv : (vbytes (v.take i)).length = i := by rw [vbytes_length, List.length_take, Hvl.out]; omega
      have hHO := row_len hrow hlv.symm rfl
      have hB0 : w3.heap.size ≤ wr.heap.size := hb.size
      have Hnv := Lib.hid hnv
      have Hrow := Lib.hid hrow
      have Hb := Lib.hid hb
      have Hlv := Lib.hid hlv
      clear hrow hb hc hq hq8 hnv hxl hlv hal
      go_wp2_with fail
      refine region_one 45 46 9 10 (by decide) hHO (.int .u8 ((q.toNat ^^^ c.toNat : Nat) : Int)) hB0 (by rw [Hlv.out]; omega) (by rfl) (by rfl) (by kernel_rfl) (by kernel_rfl) (by rfl) ?_
      simp only [List.take_succ_cons, List.take_zero, List.drop_succ_cons, List.drop_zero]
      (repeat (first | (refine appA_skip (by decide) (by rfl) ?_; simp only [Act.put, List.setIfInBounds_toArray, List.set_cons_zero, List.set_cons_succ]) | (refine appA_plain (by decide) (by rfl) (by rfl) (by rfl) (fun Kc hKc => ?_); go_big_quiet_op; refine hKc _ ?_; clear hKc Kc)))
      refine appA_make 45 (V := fun w => .slice (some ⟨w.heap.size, 0, none⟩) 1 1) (W := fun w => w.alloc (.cells #[.int .u8 ((q.toNat ^^^ c.toNat : Nat) : Int)] 5)) (by decide) (fun w => by kernel_rfl) (by rfl) (by rfl) (by rfl) (fun wk hlk _ => ⟨(Below.refl _ _).alloc (Nat.le_refl _) _, _, rfl, hlk.size, Blk.of _ _ _ _ rfl⟩) ?_
      rintro _ wk hlk ⟨bs, rfl, hbs, hbk⟩
      simp only [Act.put, List.setIfInBounds_toArray, List.set_cons_zero, List.set_cons_succ]
      refine appA_one 46 (B := w3.heap.size) (v := u12) (xs := vbytes (v.take i)) (ad := ⟨bs, 0, none⟩) (y := .int .u8 ((q.toNat ^^^ c.toNat : Nat) : Int)) Tryd.underlying_bytes Tryd.info_u8 rfl hHO rfl rfl (by omega) (by rw [Hlv.out]; omega) hB0 rfl rfl _ _ rfl rfl rfl (fun wx hlx hd => by
        obtain ⟨b', he, _, hbk⟩ := hd 45 (by decide) _ (.inl ⟨rfl, rfl⟩)
        injection he with he
        injection he with he
        injection he with he
        subst he
        exact hbk.cell 0) (by rfl) (by rfl) (by rfl) (fun u wx h1 h2 => ⟨h1, h2⟩) ?_
      rintro u1 wk1 hlk1 hu1
      simp only [Act.put, List.setIfInBounds_toArray, List.set_cons_zero, List.set_cons_succ]
      refine appA_nil ?_
      intro wq hlq hkn
      have hrow1 := (hkn 46 u1 (.inl ⟨rfl, rfl⟩)).1
      have hvx : vbytes (v.take i) ++ [.int .u8 ((q.toNat ^^^ c.toNat : Nat) : Int)] = vbytes (v.take (i + 1)) := by rw [Hnv.out]; simp [vbytes]
      have hrow2 := row_len hrow1 (show _ = i + 1 by rw [Hlv.out]) hvx
      have Hrow2 := Lib.hid hrow2
      have hbq : Below w3.heap.size w3 wq := ⟨hlq.os.trans Hb.out.os, hlq.tape.trans Hb.out.tape, hlq.output.trans Hb.out.output, Nat.le_trans Hb.out.size hlq.size, fun b hb' => (hlq.block b (Nat.lt_of_lt_of_le hb' Hb.out.size) (fun he => by have := (Hrow.out.block b he.symm).1; omega)).trans (Hb.out.block b hb')⟩
      have Hbq := Lib.hid hbq
      clear hkn hrow1 hvx hrow2 hlq hbq hu1 hlk1 hlk hbk hbs
      go_wp2_with fail
      refine NoPanic.normal ?_
      go_wp2_with fail
      go_roundw
      case rel => exact ⟨i + 1, by go_num, by omega, Hrow2.out, Hbq.out⟩
      case measure => simp [intOf]; omega
    · have b8 : decide ((i : Int) < 8) = false := decide_eq_false (by omega)
      have hvl := Hvl.out
      have hi8 : i = 8 := by omega
      have hvt : v.take i = v := List.take_of_length_le (by omega)
      have hrow8 : Row wr w3.heap.size 5 1 u12 8 (vbytes v) := row_len hrow hi8 (by rw [hvt])
      obtain ⟨g, cap, hu, _, _, hcap, hcells⟩ := hrow8.form (by omega)
      subst hu
      obtain ⟨c, hc⟩ : ∃ c, v[0]? = some c := ⟨_, List.getElem?_eq_getElem (by omega)⟩
      have hh : v.headD 0 = c := by
        cases v with
        | nil => simp at hc
        | cons x l => simp at hc; simp [hc]
      have hc0 := (hcells 0 (.int .u8 (c.toNat : Int)) (by rw [vbytes, List.getElem?_map, hc]; rfl)).1
      obtain ⟨n, hn⟩ : ∃ n, n = c.toNat := ⟨_, rfl⟩
      have hn8 : n < 256 := by rw [hn]; exact c.toNat_lt
      have hout2 := Hout.out
      rw [hh, ← hn] at hout2
      rw [← hn] at hc0
      have Hout2 := Lib.hid hout2
      have Hb := Lib.hid (below_trans Hb3.out hb)
      have Hrow8 := Lib.hid hrow8
      have hcells' : ∀ j, j < 8 → wr.cell? ⟨g, j, none⟩ = some (.int .u8 ((v.getD j 0).toNat : Int)) := fun j hj => (hcells j _ (by rw [vbytes, List.getElem?_map, List.getElem?_eq_getElem (by omega), List.getD_eq_getElem?_getD, List.getElem?_eq_getElem (by omega)]; rfl)).1
      have Hcl := Lib.hid hcells'
      clear hrow hrow8 hvt hcells hcells' hc hh hn hout2 hb hi8
      by_cases h7 : 7 < n
      · have d1 : decide ((7 : Int) < (n : Int)) = true := decide_eq_true (by omega)
        go_wp2_with fail
        go_ret2
        exact ⟨by rw [Hout2.out, if_pos h7]; rfl, below_trans Hb0.out Hb.out⟩
      · have d1 : decide ((7 : Int) < (n : Int)) = false := decide_eq_false (by omega)
        have e1 : (1 : Int) ≤ 1 + (n : Int) := by omega
        have e2 : (1 : Int) + (n : Int) ≤ (cap : Int) := by omega
        obtain ⟨l, hl⟩ : ∃ l, l = (v.drop 1).take n := ⟨_, rfl⟩
        have hll : l.length = n := by rw [hl, List.length_take, List.length_drop]; omega
        have hcv : (convert 39 9 (.slice (some ⟨g, 1, none⟩) n (cap - 1))).run Tryd.prog wr = .ok (.string (str l)) wr := by
          have hx := run_convert_bytes_arg (P := Tryd.prog) wr 39 5 Tryd.underlying_bytes Tryd.underlying_u8 g 1 n (cap - 1) (l.map fun c => (c.toNat : Int)) (by simp [hll]) (fun j hj => ?_) 9 Tryd.underlying_str
          · rw [hx, str_of_nums]
          · rw [Hcl.out (1 + j) (by omega)]
            congr 2
            rw [List.getD_eq_getElem?_getD, List.getD_eq_getElem?_getD, List.getElem?_map, hl, List.getElem?_take, if_pos hj, List.getElem?_drop, List.getElem?_eq_getElem (by omega : 1 + j < v.length)]
            rfl
        have hout3 : out = if six (allL k r s (plainL l)) = b0 ∧ six ((allL k r s (plainL l)).drop 6) = b1 then .tuple #[.string (str l), .bool true] else noV := by rw [Hout2.out, if_neg h7, hl]
        have hsv : sealV k r s l = .tuple #[.agg #[.int .u64 (six (allL k r s (plainL l)) : Int), .int .u64 (six ((allL k r s (plainL l)).drop 6) : Int)], .bool true] := by unfold sealV; rw [if_pos (by omega)]
        have hse := fun W => refSeal_any k r s l W hk (by omega) hs1 hs2
        obtain ⟨y1, hy1⟩ : ∃ y, y = six (allL k r s (plainL l)) := ⟨_, rfl⟩
        obtain ⟨y2, hy2⟩ : ∃ y, y = six ((allL k r s (plainL l)).drop 6) := ⟨_, rfl⟩
        rw [hsv, ← hy1, ← hy2] at hse
        rw [← hy1, ← hy2] at hout3
        have Hse := Lib.hid hse
        have Hout3 := Lib.hid hout3
        clear hsv hse hout3 hy1 hy2 hll hl Hout2
        go_wp2_with fail
        refine (Hse.out wr).mono ?_
        rintro e wz ⟨rfl, hbz⟩
        have Hbz := Lib.hid (below_trans Hb.out hbz)
        have hlk := Hbk.out.lt
        have hbk2 := fun o => two_cellsK ((Hbk.out.below Hbz.out hlk).alloc o)
        have k0 := fun o => (hbk2 o).1
        have k1 := fun o => (hbk2 o).2
        clear hbz hcv hbk2
        have heq := fun W => eq_two (y1 : Int) (y2 : Int) (b0 : Int) (b1 : Int) W
        by_cases hyy : y1 = b0 ∧ y2 = b1
        · have hout4 : out = .tuple #[.string (str l), .bool true] := by rw [Hout3.out, if_pos hyy]
          have Hout4 := Lib.hid hout4
          have hb4 : ((y1 : Int) == (b0 : Int) && (y2 : Int) == (b1 : Int)) = true := by rw [hyy.1, hyy.2]; simp
          rw [hb4] at heq
          clear hyy hout4 hb4
          go_wp2_with fail
          go_ret2
          exact ⟨by rw [Hout4.out]; rfl, below_trans Hb0.out (below_trans Hbz.out ((Below.refl _ _).alloc (Nat.le_refl _) _))⟩
        · have hout4 : out = noV := by rw [Hout3.out, if_neg hyy]
          have Hout4 := Lib.hid hout4
          have hb4 : ((y1 : Int) == (b0 : Int) && (y2 : Int) == (b1 : Int)) = false := by
            cases h : ((y1 : Int) == (b0 : Int) && (y2 : Int) == (b1 : Int)) with
            | false => rfl
            | true => simp at h; exact absurd ⟨by omega, by omega⟩ hyy
          rw [hb4] at heq
          clear hyy hout4 hb4
          go_wp2_with fail
          go_ret2
          exact ⟨by rw [Hout4.out]; rfl, below_trans Hb0.out (below_trans Hbz.out ((Below.refl _ _).alloc (Nat.le_refl _) _))⟩
end Go.Proofs.YtinlciofhegciaaDoor

/- What a body says: the plain law, begun. -/
namespace Go.Proofs.YtinlciofhegciaaDoor
open Go.RowKit

theorem dropWhile_nil (f : UInt8 → Bool) : ∀ l : List UInt8, l.dropWhile f = [] ↔ ∀ b ∈ l, f b = true
  | [] => by simp
  | c :: l => by
    rw [List.dropWhile_cons]
    cases h : f c with
    | true => simp [h, dropWhile_nil f l]
    | false => simp [h]
theorem takeWhile_all (f : UInt8 → Bool) : ∀ (l : List UInt8) (b : UInt8), b ∈ l.takeWhile f → f b = true
  | [], b, h => by simp at h
  | c :: l, b, h => by
    rw [List.takeWhile_cons] at h
    cases hc : f c with
    | true =>
      rw [hc] at h
      rcases List.mem_cons.1 (by simpa using h) with rfl | h
      · exact hc
      · exact takeWhile_all f l b h
    | false => rw [hc] at h; simp at h
theorem trimB_nil (l : List UInt8) : Lib.trimB l 0 = [] ↔ ∀ b ∈ l, b = 0 := by
  unfold Lib.trimB Lib.trimLeftB Lib.trimRightB
  rw [dropWhile_nil]
  constructor
  · intro h b hb
    have hb' : b ∈ l.reverse.takeWhile (· == 0) ++ l.reverse.dropWhile (· == 0) := by rw [List.takeWhile_append_dropWhile]; simpa using hb
    rcases List.mem_append.1 hb' with h1 | h1
    · have := takeWhile_all _ _ _ h1
      simpa using this
    · have := h b (by simpa using h1)
      simpa using this
  · intro h b hb
    have h1 : b ∈ l.reverse := (List.dropWhile_sublist _).subset (by simpa using hb)
    simp [h b (by simpa using h1)]
theorem foldN_snoc (l : List UInt8) (c : UInt8) : foldN (l ++ [c]) = foldN l * 256 + c.toNat := by unfold foldN; rw [List.foldl_append]; rfl
theorem foldN_inj : ∀ (n : Nat) (l m : List UInt8), l.length = n → m.length = n → foldN l = foldN m → l = m := by
  intro n
  induction n with
  | zero => intro l m hl hm _; rw [List.eq_nil_of_length_eq_zero hl, List.eq_nil_of_length_eq_zero hm]
  | succ n ih =>
    intro l m hl hm h
    obtain ⟨l', c, rfl⟩ : ∃ l' c, l = l' ++ [c] := ⟨l.dropLast, l.getLast (by intro h0; rw [h0] at hl; cases hl), (List.dropLast_concat_getLast _).symm⟩
    obtain ⟨m', d, rfl⟩ : ∃ l' c, m = l' ++ [c] := ⟨m.dropLast, m.getLast (by intro h0; rw [h0] at hm; cases hm), (List.dropLast_concat_getLast _).symm⟩
    rw [foldN_snoc, foldN_snoc] at h
    have hc : c.toNat < 256 := c.toNat_lt
    have hd : d.toNat < 256 := d.toNat_lt
    simp at hl hm
    rw [ih l' m' hl hm (by omega), UInt8.toNat_inj.1 (show c.toNat = d.toNat by omega)]
theorem six_inj {l m : List UInt8} (hl : 6 ≤ l.length) (hm : 6 ≤ m.length) (h : six l = six m) : l.take 6 = m.take 6 :=
  foldN_inj 6 _ _ (by rw [List.length_take]; omega) (by rw [List.length_take]; omega) h
theorem six_lt (l : List UInt8) : six l < 281474976710656 := foldN_take_lt l 6 (by omega)
theorem fold_be : ∀ (k n acc : Nat), (be k n).foldl (fun n c => n * 256 + c.toNat) acc = acc * 256 ^ k + n % 256 ^ k
  | 0, n, acc => by simp [be, Nat.mod_one]
  | k + 1, n, acc => by
    have m1 : n % 256 ^ (k + 1) = n % 256 ^ k + 256 ^ k * (n / 256 ^ k % 256) := Nat.mod_pow_succ
    have m2 : 256 ^ (k + 1) = 256 ^ k * 256 := Nat.pow_succ 256 k
    rw [be, List.foldl_cons, fold_be k n, UInt8.toNat_ofNat', m1, m2, Nat.add_mul]
    have e1 : acc * 256 * 256 ^ k = acc * (256 ^ k * 256) := by rw [Nat.mul_assoc, Nat.mul_comm 256]
    have e2 : n / 256 ^ k % 2 ^ 8 * 256 ^ k = 256 ^ k * (n / 256 ^ k % 256) := by rw [Nat.mul_comm]
    rw [e1, e2]
    generalize acc * (256 ^ k * 256) = x1
    generalize 256 ^ k * (n / 256 ^ k % 256) = x2
    generalize n % 256 ^ k = x3
    omega
theorem six_be {b : Nat} (m : List UInt8) (h : b < 281474976710656) : six (be 6 b ++ m) = b := by
  have h1 : six (be 6 b ++ m) = foldN (be 6 b) := by unfold six foldN; rw [List.take_left' (be_length 6 b)]
  rw [h1, foldN, fold_be]
  have : 256 ^ 6 = 281474976710656 := by decide
  rw [this, Nat.mod_eq_of_lt h]
  omega
/-- A veil twice is none. -/
theorem xor_back {a b : UInt8} : a ^^^ (a ^^^ b) = b := by rw [← UInt8.xor_assoc, UInt8.xor_self, UInt8.zero_xor]
theorem veil_back (k : List UInt8) (r s : Int) (t : List UInt8) (ht : t.length = 8) : veilL k r s (veilL k r s t) = t := by
  have hx : (streamOf k (aboutL [98, 111, 100, 121] r s) 8).length = 8 := stream8 _ _
  have hv := veilL_length k r s t ht hx
  refine List.ext_getElem? fun i => ?_
  unfold veilL at *
  generalize streamOf k (aboutL [98, 111, 100, 121] r s) 8 = x at *
  rcases Nat.lt_or_ge i 8 with hi | hi
  · obtain ⟨q, hq⟩ : ∃ q, x[i]? = some q := ⟨_, List.getElem?_eq_getElem (by omega)⟩
    obtain ⟨c, hc⟩ : ∃ c, t[i]? = some c := ⟨_, List.getElem?_eq_getElem (by omega)⟩
    have h1 : ((x.zip t).map fun p => p.1 ^^^ p.2)[i]? = some (q ^^^ c) := by
      rw [List.getElem?_map, show (x.zip t)[i]? = some (q, c) from List.getElem?_zip_eq_some.2 ⟨hq, hc⟩]; rfl
    rw [List.getElem?_map, show (x.zip ((x.zip t).map fun p => p.1 ^^^ p.2))[i]? = some (q, q ^^^ c) from List.getElem?_zip_eq_some.2 ⟨hq, h1⟩, hc]
    show some (q ^^^ (q ^^^ c)) = _
    rw [xor_back]
  · rw [List.getElem?_eq_none (by rw [List.length_map, List.length_zip, hv, hx]; omega), List.getElem?_eq_none (by omega)]
theorem signL_length (k : List UInt8) (r s : Int) (t : List UInt8) : (signL k r s t).length = 4 := by unfold signL; rw [List.length_take, hmac_length]; rfl
/-- The text's plain bytes are these just if nothing stands behind it. -/
theorem plain_iff {v : List UInt8} (hv : v.length = 8) (hn : (v.headD 0).toNat ≤ 7) : plainL ((v.drop 1).take (v.headD 0).toNat) = v ↔ ∀ b ∈ v.drop (1 + (v.headD 0).toNat), b = 0 := by
  cases v with
  | nil => cases hv
  | cons h v =>
    simp only [List.headD_cons, List.drop_succ_cons, List.drop_zero] at *
    have hl : v.length = 7 := by simpa using hv
    have hx : (v.take h.toNat).length = h.toNat := by rw [List.length_take]; omega
    have hb : be 1 h.toNat = [h] := by simp [be]
    unfold plainL
    rw [hx, hb, List.singleton_append, List.cons.injEq, show 1 + h.toNat = h.toNat + 1 by omega, List.drop_succ_cons]
    have hd : (v.drop h.toNat).length = 7 - h.toNat := by rw [List.length_drop, hl]
    constructor
    · rintro ⟨_, he⟩
      have h2 : List.replicate (7 - h.toNat) 0 = v.drop h.toNat := by
        have h3 : v.take h.toNat ++ List.replicate (7 - h.toNat) 0 = v.take h.toNat ++ v.drop h.toNat := by rw [he, List.take_append_drop]
        exact List.append_cancel_left h3
      intro b hb
      rw [← h2] at hb
      exact (List.mem_replicate.1 hb).2
    · intro he
      refine ⟨rfl, ?_⟩
      have h2 : v.drop h.toNat = List.replicate (7 - h.toNat) 0 := List.eq_replicate_iff.2 ⟨hd, he⟩
      rw [← h2, List.take_append_drop]
/-- Two numbers of six bytes: a body. -/
theorem body_iff {b0 b1 : Nat} {m : List UInt8} (hm : m.length = 12) : (six m = b0 ∧ six (m.drop 6) = b1) ↔ (b0 < 281474976710656 ∧ b1 < 281474976710656 ∧ m = bodyL b0 b1) := by
  constructor
  · rintro ⟨rfl, rfl⟩
    refine ⟨six_lt _, six_lt _, ?_⟩
    have h1 : six m = six (be 6 (six m)) := by rw [← List.append_nil (be 6 (six m)), six_be _ (six_lt _)]
    have h2 : six (m.drop 6) = six (be 6 (six (m.drop 6))) := by rw [← List.append_nil (be 6 (six (m.drop 6))), six_be _ (six_lt _)]
    have t1 := six_inj (by omega) (by rw [be_length]; omega) h1
    have t2 := six_inj (by rw [List.length_drop]; omega) (by rw [be_length]; omega) h2
    rw [List.take_of_length_le (l := be 6 _) (by rw [be_length]; omega)] at t1 t2
    rw [List.take_of_length_le (l := m.drop 6) (by rw [List.length_drop]; omega)] at t2
    unfold bodyL
    rw [← t1, ← t2, List.take_append_drop]
  · rintro ⟨h0, h1, rfl⟩
    unfold bodyL
    refine ⟨six_be _ h0, ?_⟩
    rw [List.drop_left' (be_length 6 b0), ← List.append_nil (be 6 b1), six_be _ h1]
theorem all_iff {k : List UInt8} {r s : Int} {p a : List UInt8} (hp : p.length = 8) (ha : a.length = 12) : allL k r s p = a ↔ (p = veilL k r s (a.take 8) ∧ signL k r s (a.take 8) = a.drop 8) := by
  have hv := veilL_length k r s p hp (stream8 _ _)
  have ht : (a.take 8).length = 8 := by rw [List.length_take]; omega
  unfold allL
  constructor
  · intro h
    have h1 : veilL k r s p = a.take 8 := by rw [← h, List.take_left' hv]
    have h2 : signL k r s (veilL k r s p) = a.drop 8 := by rw [← h, List.drop_left' hv]
    rw [h1] at h2
    exact ⟨by rw [← h1, veil_back k r s p hp], h2⟩
  · rintro ⟨rfl, h2⟩
    rw [veil_back k r s _ ht, h2, List.take_append_drop]
theorem allL_length {k : List UInt8} {r s : Int} {p : List UInt8} (hp : p.length = 8) : (allL k r s p).length = 12 := by
  unfold allL; rw [List.length_append, veilL_length k r s p hp (stream8 _ _), signL_length]
/-- What a body says is the document's. -/
theorem open_same (k : List UInt8) (r s : Int) (b0 b1 : Nat) : openV k r s b0 b1 = refOpenV k r s b0 b1 := by
  have hal := bodyL_length b0 b1
  unfold openV refOpenV
  have hv := veilL_length k r s ((bodyL b0 b1).take 8) (by rw [List.length_take]; omega) (stream8 _ _)
  obtain ⟨v, hvd⟩ : ∃ v, v = veilL k r s ((bodyL b0 b1).take 8) := ⟨_, rfl⟩
  rw [← hvd] at hv ⊢
  by_cases h7 : 7 < (v.headD 0).toNat
  · rw [if_pos h7]
    split
    · rfl
    · split
      · rfl
      · rw [if_pos (.inl h7)]
  · rw [if_neg h7]
    have hx : ((v.drop 1).take (v.headD 0).toNat).length ≤ 7 := by rw [List.length_take, List.length_drop]; omega
    have hp := plainL_length hx
    have hiff : (six (allL k r s (plainL ((v.drop 1).take (v.headD 0).toNat))) = b0 ∧ six ((allL k r s (plainL ((v.drop 1).take (v.headD 0).toNat))).drop 6) = b1) ↔ (b0 < 281474976710656 ∧ b1 < 281474976710656 ∧ (Lib.trimB (v.drop (1 + (v.headD 0).toNat)) 0 = [] ∧ signL k r s ((bodyL b0 b1).take 8) = (bodyL b0 b1).drop 8)) := by
      rw [body_iff (allL_length hp), all_iff hp hal, ← hvd, plain_iff hv (by omega), trimB_nil]
    by_cases hB : 281474976710656 ≤ b0 ∨ 281474976710656 ≤ b1
    · rw [if_pos hB, if_neg (fun h => by have := hiff.1 h; omega)]
    · rw [if_neg hB]
      by_cases hs : signL k r s ((bodyL b0 b1).take 8) = (bodyL b0 b1).drop 8
      · rw [if_neg (by simpa using hs)]
        by_cases ht : Lib.trimB (v.drop (1 + (v.headD 0).toNat)) 0 = []
        · rw [if_neg (fun h => h.elim (fun h => h7 h) (fun h => h ht)), if_pos (hiff.2 ⟨by omega, by omega, ht, hs⟩)]
        · rw [if_pos (.inr ht), if_neg (fun h => ht (hiff.1 h).2.2.1)]
      · rw [if_pos hs, if_neg (fun h => hs (hiff.1 h).2.2.2)]
/-- What a body says is sealed to just that body. -/
theorem open_sealed {k : List UInt8} {r s : Int} {b0 b1 : Nat} : refOpenV k r s b0 b1 = noV ∨ ∃ t : List UInt8, t.length ≤ 7 ∧ refOpenV k r s b0 b1 = .tuple #[.string (str t), .bool true] ∧ sealV k r s t = .tuple #[.agg #[.int .u64 (b0 : Int), .int .u64 (b1 : Int)], .bool true] := by
  unfold refOpenV
  have hv := veilL_length k r s ((bodyL b0 b1).take 8) (by rw [List.length_take, bodyL_length]; rfl) (stream8 _ _)
  obtain ⟨v, hvd⟩ : ∃ v, v = veilL k r s ((bodyL b0 b1).take 8) := ⟨_, rfl⟩
  rw [← hvd] at hv ⊢
  by_cases h7 : 7 < (v.headD 0).toNat
  · rw [if_pos h7]; exact .inl rfl
  · rw [if_neg h7]
    split
    · rename_i h
      have hx : ((v.drop 1).take (v.headD 0).toNat).length ≤ 7 := by rw [List.length_take, List.length_drop]; omega
      refine .inr ⟨_, hx, rfl, ?_⟩
      unfold sealV
      rw [if_pos hx, h.1, h.2]
    · exact .inl rfl
end Go.Proofs.YtinlciofhegciaaDoor

/- A round's place: the program's walk. -/
namespace Go.Proofs.YtinlciofhegciaaDoor
open Go.RowKit Go.BigFrame

def placeN (k : List UInt8) (r : Int) : Nat := six (hmac k ([112, 108, 97, 99, 101] ++ be 8 (roundN r)))
set_option maxRecDepth 100000 in
set_option maxHeartbeats 1000000 in
theorem place_any (k : List UInt8) (r : Int) (w : World) (hk : k.length ≤ 1000000) :
    Calls Tryd.prog 8 #[.string (str k), .int .i64 r] w fun e w' => e = .returned (.int .u64 (placeN k r : Int)) ∧ Below w.heap.size w w' := by
  have hr := round_val r
  obtain ⟨rb, hrb⟩ : ∃ b, b = be 8 (roundN r) := ⟨_, rfl⟩
  have lrb : rb.length = 8 := by rw [hrb, be_length]
  have hb := fun W => sbytes_any (roundN r) 8 W (by omega) (by omega)
  have hpl : placeN k r = six (hmac k (112 :: 108 :: 97 :: 99 :: 101 :: rb)) := by rw [hrb]; rfl
  rw [← hrb] at hb
  have a1 := str_add Tryd.prog [112, 108, 97, 99, 101] rb (by simp [lrb])
  rw [← (show (⟨#[112, 108, 97, 99, 101]⟩ : ByteArray) = str [112, 108, 97, 99, 101] from rfl)] at a1
  have hm := fun W => macTop_any k (112 :: 108 :: 97 :: 99 :: 101 :: rb) W (by omega) (by simp [lrb])
  have hml : (hmac k (112 :: 108 :: 97 :: 99 :: 101 :: rb)).length = 32 := hmac_length _ _
  obtain ⟨m, hm0⟩ : ∃ m, m = hmac k (112 :: 108 :: 97 :: 99 :: 101 :: rb) := ⟨_, rfl⟩
  rw [← hm0] at hm hml hpl
  have h6 := fun W => number6_any m W (by omega) (by omega)
  rw [hpl]
  have Hb := Lib.hid hb
  have Hm := Lib.hid hm
  have H6 := Lib.hid h6
  clear hb hm h6 hm0 hpl hrb
  go_enter Tryd.func8, Tryd.ntmps8
  go_wp2_with fail
  refine (Hb.out w).mono ?_
  rintro e w1 ⟨rfl, hb1⟩
  have Hb1 := Lib.hid hb1
  clear hb1
  go_wp2_with fail
  refine (Hm.out w1).mono ?_
  rintro e w2 ⟨rfl, hb2⟩
  have Hb2 := Lib.hid (below_trans Hb1.out hb2)
  clear hb2
  go_wp2_with fail
  refine (H6.out w2).mono ?_
  rintro e w3 ⟨rfl, hb3⟩
  have Hb3 := Lib.hid (below_trans Hb2.out hb3)
  clear hb3
  go_wp2_with fail
  go_ret
  exact ⟨rfl, Hb3.out⟩
end Go.Proofs.YtinlciofhegciaaDoor

/- What is sealed is opened: plain; the small text's places. -/
namespace Go.Proofs.YtinlciofhegciaaDoor
open Go.RowKit

theorem seal_open (k : List UInt8) (r s : Int) (t : List UInt8) (ht : t.length ≤ 7) : refOpenV k r s (six (allL k r s (plainL t))) (six ((allL k r s (plainL t)).drop 6)) = .tuple #[.string (str t), .bool true] := by
  have hp := plainL_length ht
  have hl : (allL k r s (plainL t)).length = 12 := allL_length hp
  obtain ⟨_, _, hb⟩ := (body_iff (b0 := six (allL k r s (plainL t))) (b1 := six ((allL k r s (plainL t)).drop 6)) hl).1 ⟨rfl, rfl⟩
  have hv := veilL_length k r s (plainL t) hp (stream8 _ _)
  have h8 : (bodyL (six (allL k r s (plainL t))) (six ((allL k r s (plainL t)).drop 6))).take 8 = veilL k r s (plainL t) := by
    rw [← hb]; unfold allL; rw [List.take_left' hv]
  have hh : ((plainL t).headD 0).toNat = t.length := by
    have : be 1 t.length = [UInt8.ofNat t.length] := by simp [be]
    unfold plainL
    rw [this, List.singleton_append, List.headD_cons, UInt8.toNat_ofNat']
    omega
  have ht2 : ((plainL t).drop 1).take t.length = t := by
    unfold plainL
    rw [List.drop_left' (be_length 1 _), List.take_left' rfl]
  unfold refOpenV
  rw [h8, veil_back k r s _ hp, hh, if_neg (by omega), ht2, if_pos ⟨rfl, rfl⟩]
theorem places_differ : placeN [107] 1 ≠ placeN [107] 2 := by decide +kernel
end Go.Proofs.YtinlciofhegciaaDoor

/- The small text: law13.awake. -/
namespace Go.Proofs.YtinlciofhegciaaDoor
open Go.RowKit Go.BigFrame

set_option maxRecDepth 100000 in
set_option maxHeartbeats 1000000 in
theorem awake13_any (w : World) : Calls Tryd.prog 4 #[] w fun e w' => e = .returned (.bool true) ∧ Below w.heap.size w w' := by
  have hs := fun W => seal_any [107] 1 0 [97, 98, 99] W (by simp) (by simp)
  have hsv : sealV [107] 1 0 [97, 98, 99] = .tuple #[.agg #[.int .u64 (six (allL [107] 1 0 (plainL [97, 98, 99])) : Int), .int .u64 (six ((allL [107] 1 0 (plainL [97, 98, 99])).drop 6) : Int)], .bool true] := by unfold sealV; rw [if_pos (by simp)]
  have hop := seal_open [107] 1 0 [97, 98, 99] (by simp)
  have b1 := six_lt (allL [107] 1 0 (plainL [97, 98, 99]))
  have b2 := six_lt ((allL [107] 1 0 (plainL [97, 98, 99])).drop 6)
  obtain ⟨y1, hy1⟩ : ∃ y, y = six (allL [107] 1 0 (plainL [97, 98, 99])) := ⟨_, rfl⟩
  obtain ⟨y2, hy2⟩ : ∃ y, y = six ((allL [107] 1 0 (plainL [97, 98, 99])).drop 6) := ⟨_, rfl⟩
  rw [← hy1, ← hy2] at hsv hop
  rw [← hy1] at b1
  rw [← hy2] at b2
  rw [hsv] at hs
  have ho := fun W => open_any [107] 1 0 y1 y2 W (by simp) (by omega) (by omega)
  rw [open_same, hop] at ho
  have hp1 := fun W => place_any [107] 1 W (by simp)
  have hp2 := fun W => place_any [107] 2 W (by simp)
  have hne : ((placeN [107] 1 : Int) != (placeN [107] 2 : Int)) = true := by
    rw [bne_iff_ne]
    intro h
    exact places_differ (by exact_mod_cast h)
  obtain ⟨z1, hz1⟩ : ∃ z, z = placeN [107] 1 := ⟨_, rfl⟩
  obtain ⟨z2, hz2⟩ : ∃ z, z = placeN [107] 2 := ⟨_, rfl⟩
  rw [← hz1] at hp1 hne
  rw [← hz2] at hp2 hne
  have Hs := Lib.hid hs
  have Ho := Lib.hid ho
  have Hp1 := Lib.hid hp1
  have Hp2 := Lib.hid hp2
  clear hs ho hp1 hp2 hsv hop hy1 hy2 hz1 hz2
  go_enter Tryd.func4, Tryd.ntmps4
  go_wp2_with fail
  refine (Hs.out w).mono ?_
  rintro e w1 ⟨rfl, hb1⟩
  have Hb1 := Lib.hid (show Lat w (w1.alloc (.cells #[.int .u64 (y1 : Int), .int .u64 (y2 : Int)] 23)) from below_trans hb1 ((Below.refl _ _).alloc (Nat.le_refl _) _))
  clear hb1
  go_wp2_with fail
  refine (Ho.out _).mono ?_
  rintro e w2 ⟨rfl, hb2⟩
  have Hb2 := Lib.hid (below_trans Hb1.out hb2)
  clear hb2
  have hq : ((str [97, 98, 99]).toList == [97, 98, 99]) = true := by rw [str_toList]; rfl
  go_wp2_with fail
  refine (Hp1.out w2).mono ?_
  rintro e w3 ⟨rfl, hb3⟩
  have Hb3 := Lib.hid (below_trans Hb2.out hb3)
  clear hb3
  go_wp2_with fail
  refine (Hp2.out w3).mono ?_
  rintro e w4 ⟨rfl, hb4⟩
  have Hb4 := Lib.hid (below_trans Hb3.out hb4)
  clear hb4
  go_wp2_with fail
  go_ret
  exact ⟨rfl, Hb4.out⟩
end Go.Proofs.YtinlciofhegciaaDoor

/- What a body says is the document's: the law's walk. -/
namespace Go.Proofs.YtinlciofhegciaaDoor
open Go.RowKit Go.BigFrame

set_option maxRecDepth 100000 in
set_option maxHeartbeats 2000000 in
theorem opens_walk (k : List UInt8) (r s : Int) (t : List UInt8) (b0 b1 : Nat) (w : World) (hk : k.length < 9223372036854775807) (hs1 : -9223372036854775808 ≤ s) (hs2 : s ≤ 9223372036854775807) (h0 : b0 < 18446744073709551616) (h1 : b1 < 18446744073709551616) :
    Calls Tryd.prog 3 #[.string (str k), .agg #[.int .i64 r, .int .i64 s, .string (str t), .int .u64 (b0 : Int), .int .u64 (b1 : Int)]] w fun e w' => e = .returned (.bool true) ∧ Below w.heap.size w w' := by
  obtain ⟨n, hn⟩ : ∃ n, n = k.length := ⟨_, rfl⟩
  have hsz : (str k).size = n := by rw [str_size, hn]
  have hnl : n < 9223372036854775807 := by omega
  obtain ⟨w0, hw0⟩ : ∃ w0, w0 = w.alloc (.cells #[.int .i64 r, .int .i64 s, .string (str t), .int .u64 (b0 : Int), .int .u64 (b1 : Int)] 25) := ⟨_, rfl⟩
  have hbk : Blk w0 w.heap.size 25 [.int .i64 r, .int .i64 s, .string (str t), .int .u64 (b0 : Int), .int .u64 (b1 : Int)] := by rw [hw0]; exact Blk.of _ _ _ _ rfl
  have hfive : ∀ W, Lat w0 W → W.cell? ⟨w.heap.size, 0, none⟩ = some (.int .i64 r) ∧ W.cell? ⟨w.heap.size, 1, none⟩ = some (.int .i64 s) ∧ W.cell? ⟨w.heap.size, 3, none⟩ = some (.int .u64 (b0 : Int)) ∧ W.cell? ⟨w.heap.size, 4, none⟩ = some (.int .u64 (b1 : Int)) := fun W hl => by
    have h := hbk.below hl hbk.lt
    exact ⟨h.cell 0, h.cell 1, h.cell 3, h.cell 4⟩
  have Hf := Lib.hid hfive
  have Hb0 := Lib.hid (show Lat w w0 by rw [hw0]; exact (Below.refl _ _).alloc (Nat.le_refl _) _)
  have Hw0 := Lib.hid hw0
  have Hn := Lib.hid hn
  clear hw0 hbk hfive hn
  go_enter Tryd.func3, Tryd.ntmps3
  go_wp2_with fail
  rw [← Hw0.out]
  refine (awake13_any w0).mono ?_
  rintro e w1 ⟨rfl, hb1⟩
  obtain ⟨c0, c1, c3, c4⟩ := Hf.out w1 hb1
  have Hb1 := Lib.hid hb1
  clear hb1
  by_cases h1000 : 1000 < n
  · have d1 : decide ((1000 : Int) < (n : Int)) = true := decide_eq_true (by omega)
    go_wp2_with fail
    go_ret
    exact ⟨rfl, below_trans Hb0.out Hb1.out⟩
  · have d1 : decide ((1000 : Int) < (n : Int)) = false := decide_eq_false (by omega)
    have hk2 : k.length ≤ 1000000 := by have := Hn.out; omega
    go_wp2_with fail
    have ho := fun W => open_any k r s b0 b1 W hk2 h0 h1
    have hro := fun W => refOpen_any k r s b0 b1 W hk2 hs1 hs2 h0 h1
    rw [open_same] at ho
    rcases open_sealed (k := k) (r := r) (s := s) (b0 := b0) (b1 := b1) with hov | ⟨x, hxl, hov, hsv⟩
    · rw [hov] at ho hro
      unfold noV at ho hro
      refine (ho w1).mono ?_
      rintro e w2 ⟨rfl, hb2⟩
      have Hb2 := Lib.hid (below_trans Hb1.out hb2)
      obtain ⟨c0, c1, c3, c4⟩ := Hf.out w2 Hb2.out
      clear hb2
      go_wp2_with fail
      refine (hro w2).mono ?_
      rintro e w3 ⟨rfl, hb3⟩
      have Hb3 := Lib.hid (below_trans Hb2.out hb3)
      clear hb3
      go_wp2_with fail
      go_ret
      exact ⟨rfl, below_trans Hb0.out Hb3.out⟩
    · rw [hov] at ho hro
      have hse := fun W => seal_any k r s x W hk2 (by omega)
      rw [hsv] at hse
      have heq := fun W => eq_two (b0 : Int) (b1 : Int) (b0 : Int) (b1 : Int) W
      simp only [beq_self_eq_true, Bool.and_self] at heq
      have Ho := Lib.hid ho
      have Hro := Lib.hid hro
      have Hse := Lib.hid hse
      clear hov hsv ho hro hse
      refine (Ho.out w1).mono ?_
      rintro e w2 ⟨rfl, hb2⟩
      have Hb2 := Lib.hid (below_trans Hb1.out hb2)
      obtain ⟨c0, c1, c3, c4⟩ := Hf.out w2 Hb2.out
      clear hb2
      go_wp2_with fail
      refine (Hro.out w2).mono ?_
      rintro e w3 ⟨rfl, hb3⟩
      have Hb3 := Lib.hid (below_trans Hb2.out hb3)
      obtain ⟨c0, c1, c3, c4⟩ := Hf.out w3 Hb3.out
      clear hb3
      go_wp2_with fail
      refine (Hse.out w3).mono ?_
      rintro e w4 ⟨rfl, hb4⟩
      have Hb4 := Lib.hid (below_trans Hb3.out hb4)
      have hfa := fun o => Hf.out (w4.alloc o) (below_trans Hb4.out ((Below.refl _ _).alloc (Nat.le_refl _) o))
      have c3 := fun o => (hfa o).2.2.1
      have c4 := fun o => (hfa o).2.2.2
      clear hb4 hfa
      go_wp2_with fail
      go_ret
      exact ⟨rfl, below_trans Hb0.out (below_trans Hb4.out ((Below.refl _ _).alloc (Nat.le_refl _) _))⟩
end Go.Proofs.YtinlciofhegciaaDoor
