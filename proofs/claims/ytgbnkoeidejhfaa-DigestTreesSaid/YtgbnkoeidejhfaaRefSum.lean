import Derived.Test.YtgbnkoeidejhfaaRsO
namespace Go.Proofs.Ytgbnkoeidejhfaa
open Go.RowKit
set_option maxRecDepth 1000000 in
set_option maxHeartbeats 8000000 in
theorem refSum_any (l : List UInt8) (w : World) (hl : l.length ≤ 1099511627776) :
    Calls Try.prog 12 #[.string (str l)] w fun e w' => e = .returned (.string (str (sha l))) ∧ Below w.heap.size w w' := by
  have hsz := str_size l
  have hc1 : ({ data := #[128] } : ByteArray) = str [128] := rfl
  obtain ⟨x1, hx1⟩ : ∃ x, x = l ++ [(128 : UInt8)] := ⟨_, rfl⟩
  have h1l : x1.length = l.length + 1 := by rw [hx1]; simp
  have a1 := str_add Try.prog l [128] (by simp; omega)
  rw [← hx1] at a1
  have a2 := run_bytes_of Try.underlying_str Try.underlying_bytes Try.underlying_u8 x1
  have Hx1 := Lib.hid hx1
  clear hx1
  go_enter Try.func12, Try.ntmps12
  go_wp2_with (go_at_call 28; refine (ks_any _).mono ?_; rintro e w1 ⟨rfl, hk1, hb1⟩; have Hk1 := Lib.hid hk1; have Hb1 := Lib.hid hb1; clear hk1 hb1)
  have hH1 : Blk w1 w.heap.size 50 iv.cells := (Blk.of w _ _ iv.cells rfl).below Hb1.out (by simp)
  have hB1 : Below w.heap.size w w1 := ((Below.refl _ _).alloc (Nat.le_refl _) _).trans (Hb1.out.mono (by simp))
  have hK1 : Blk w1 (w.heap.size + 1) 50 (kList.map v32) := by have := Hk1.out; simpa using this
  have hR := row_bytes w1 5 x1 (by simp only [maxLen]; omega)
  rw [h1l] at hR
  have HH1 := Lib.hid hH1
  have HB1 := Lib.hid hB1
  have HK1 := Lib.hid hK1
  have HR := Lib.hid hR
  have hw1s : w.heap.size + 1 < w1.heap.size := hK1.lt
  clear hH1 hB1 hK1 hR Hk1 Hb1 a1 a2 hc1
  obtain ⟨zm, hzm⟩ : ∃ z, z = (119 - l.length % 64) % 64 := ⟨_, rfl⟩
  have Hzm := Lib.hid hzm
  clear hzm
  go_loopw [5] (fun v wr => ∃ z : Nat, z ≤ zm ∧ Row wr w1.heap.size 5 1 v (l.length + 1 + z) (vbytes (x1 ++ List.replicate z 0)) ∧ Below w1.heap.size w1 wr) (fun v _ => match v with | .slice _ n _ => (l.length + 100) - n | _ => 0)
  case atStart => exact ⟨0, by omega, by simpa using HR.out.1, HR.out.2⟩
  case round =>
    obtain ⟨wo, rfl⟩ : ∃ wo : World, wo = wr := ⟨_, rfl⟩
    obtain ⟨z, hz, hrow, hb⟩ := hrel
    obtain ⟨A, c, rfl⟩ := hrow.slice
    have Hrow := Lib.hid hrow
    have Hb := Lib.hid hb
    clear hrow hb HR
    have hzl : z ≤ 63 := by have := Hzm.out; omega
    obtain ⟨L, hL⟩ : ∃ L, L = x1 ++ List.replicate z (0 : UInt8) := ⟨_, rfl⟩
    have hLl : L.length = l.length + 1 + z := by rw [hL, List.length_append, h1l, List.length_replicate]
    have hL1 : x1 ++ List.replicate (z + 1) (0 : UInt8) = L ++ [0] := by rw [hL, List.replicate_succ', List.append_assoc]
    have hrow2 : Row wo w1.heap.size 5 1 (.slice A (l.length + 1 + z) c) (vbytes L).length (vbytes L) := by rw [vbytes_length, hLl, hL]; exact Hrow.out
    have Hrow2 := Lib.hid hrow2
    have HL := Lib.hid hL
    have HLl := Lib.hid hLl
    have HL1 := Lib.hid hL1
    clear hrow2 hL hLl hL1 Hrow
    by_cases hlt : z < zm
    · have hne : ((((l.length : Int) + 1 + (z : Int)) % 64) != 56) = true := by rw [bne_iff_ne]; have := Hzm.out; omega
      go_wp2_with (at_builtin; go_must (refine ap_one Try.underlying_bytes Try.info_u8 rfl Hrow2.out rfl (by omega) (by rw [vbytes_length, HLl.out]; omega) (Hb.out.size) rfl _ _ rfl rfl rfl ?_; intro v1 w2 hr1 hg1; rw [show (vbytes L ++ [Value.int .u8 0]).length = l.length + 1 + (z + 1) from by rw [List.length_append, vbytes_length, HLl.out]; rfl, show vbytes L ++ [Value.int .u8 0] = vbytes (x1 ++ List.replicate (z + 1) 0) from by rw [HL1.out, vbytes_append]; rfl] at hr1; obtain ⟨A1, c1, rfl⟩ := hr1.slice; have Hr1 := Lib.hid hr1; have Hb2 := Lib.hid (Hb.out.grown hg1 Hb.out.size (fun k hk => (Hrow2.out.block k hk).1)); clear hr1 hg1))
      go_roundw
      case rel => exact ⟨z + 1, by omega, Hr1.out, Hb2.out⟩
      case measure => simp; omega
    · obtain rfl : z = zm := by omega
      have hne : ((((l.length : Int) + 1 + (z : Int)) % 64) != 56) = false := by rw [bne_eq_false_iff_eq]; have := Hzm.out; omega
      have hmul : IntKind.u64.wrap ((l.length : Int) * 8) = ((8 * l.length : Nat) : Int) := by
        rw [IntKind.wrap_u64]; push_cast; omega
      have hlw : IntKind.u64.wrap (l.length : Int) = (l.length : Int) := by rw [IntKind.wrap_u64]; omega
      have hpl : L ++ be 8 (8 * l.length) = padOf l := by rw [HL.out, Hx1.out, Hzm.out, padOf]
      have Hpl := Lib.hid hpl
      clear hpl
      go_wp2_with (first | (go_at_call 29; refine (bytes_any (8 * l.length) 8 _ (by omega) (by omega)).mono ?_; rintro e w2 ⟨rfl, hb2⟩; have Hb2 := Lib.hid (Hb.out.trans (hb2.mono Hb.out.size)); have Hr2 := Lib.hid (Hrow2.out.below hb2); rw [vbytes_length] at Hr2; clear hb2) | (at_builtin; go_must (refine ap_str (l := L) (m := be 8 (8 * l.length)) Try.underlying_bytes Try.underlying_str Try.info_u8 Hr2.out (by rw [be_length, HLl.out]; omega) Hb2.out.size rfl _ _ rfl rfl rfl ?_; intro v1 w3 hr1 hg1; rw [Hpl.out] at hr1; obtain ⟨A1, c1, rfl⟩ := hr1.slice; have Hr3 := Lib.hid hr1; have Hb3 := Lib.hid (Hb2.out.grown hg1 Hb2.out.size (fun k hk => (Hr2.out.block k hk).1)); clear hr1 hg1)))
      have hpn : (padOf l).length = 64 * (l.length / 64) + (tailOf l).length := padOf_length l
      have htl : (tailOf l).length = l.length % 64 + 1 + (119 - l.length % 64) % 64 + 8 := tailOf_length l
      have hsha := sha_pad l
      obtain ⟨p, hp⟩ : ∃ p, p = padOf l := ⟨_, rfl⟩
      rw [← hp] at Hr3 hpn hsha ⊢
      have hp64 : p.length % 64 = 0 := by omega
      have hpos : 0 < p.length := by omega
      have hple : p.length ≤ 1099511628000 := by omega
      obtain ⟨g, cap, hv, hg1, hg2, hcap, hcells⟩ := Hr3.out.form hpos
      injection hv with hv1 _ hv2
      subst hv1 hv2
      have hbs : Bs w3 w.heap.size g iv p := by
        refine ⟨HH1.out.below Hb3.out (by omega), HK1.out.below Hb3.out (by omega), fun j hj => (hcells j _ ?_).1⟩
        simp [vbytes, List.getD_eq_getElem?_getD, hj]
      have hB3 : Below w.heap.size w w3 := HB1.out.trans (Hb3.out.mono HB1.out.size)
      have Hbs := Lib.hid hbs
      have HB3 := Lib.hid hB3
      have Hsha := Lib.hid hsha
      clear hcells hbs hB3 hsha Hr3 Hb3 HH1 HB1 HK1 HL HLl HL1 Hrow2 Hb Hzm Hpl hp hpn htl hne hmul hlw Hr2 Hb2 hsz Hx1
      have hgw : w.heap.size + 1 < g := by omega
      clear hw1s
      have hgs : g < w3.heap.size := by omega
      refine blocks_loop w.heap.size g _ p w3 _ hgw hgs hp64 hple Hbs.out _ _ _ _ _ _ _ _ _ _ _ _ _ _ _ _ _ _ _ _ _ _ _ _ _ _ _ _ _ _ _ _ _ _ _ _ _ _ _ _ _ _ _ _ _ _ _ _ _ _ _ _ _ _ _ _ _ _ _ _ _ _ _ _ _ _ _ _ _ _ _ _ _ _ _ _ _ _ _ _ _ _ _ _ _ _ _ _ _ _ _ _ _ _ _ _ _ _ _ _ _ _ _ _ _ _ _ _ _ _ _ _ _ _ _ _ _ _ _ _ _ _ _ _ _ _ _ _ _ _ _ _ _ _ _ _ _ _ _ _ _ _ _ _ _ _ _ _ _ _ _ _ _ _ _ _ _ _ _ _ _ _ _ _ _ _ _ _ _ _ _ _ _ _ _ _ _ _ _ _ _ _ _ _ _ _ _ _ _ _ _ _ _ _ _ _ _ _ _ _ _ _ _ _ _ _ _ _ _ _ _ _ _ _ _ _ _ _ _ _ _ _ _ _ _ _ _ _ _ _ _ _ _ _ _ _ _ _ _ _ _ _ _ _ _ _ _ _ _ _ _ _ _ _ _ _ _ _ _ _ _ _ _ _ ?_
      intro v6 v7 v8 v9 v10 v11 v12 v13 v14 v15 v16 v17 v18 v40 v41 v42 v43 v44 v45 v46 v47 v48 v49 v50 v51 v52 v53 v54 v55 v56 v57 v58 v59 v60 v61 v62 v63 v64 v65 v66 v67 v68 v69 v70 v71 v72 v73 v74 v75 v76 v77 v78 v79 v80 v81 v82 v83 v84 v85 v86 v87 v88 v89 v90 v91 v92 v93 v94 v95 v96 v97 v98 v99 v100 v101 v102 v103 v104 v105 v106 v107 v108 v109 v110 v111 v112 v113 v114 v115 v116 v117 v118 v119 v120 v121 v122 v123 v124 v125 v126 v127 v128 v129 v130 v131 v132 v133 v134 v135 v136 v137 v138 v139 v140 v141 v142 v143 v144 v145 v146 v147 v148 v149 v150 v151 v152 v153 v154 v155 v156 v157 v158 v159 v160 v161 v162 v163 v164 v165 v166 v167 v168 v169 v170 v171 v172 v173 v174 v175 v176 v177 v178 v179 v180 v181 v182 v183 v184 v185 v186 v187 v188 v189 v190 v191 v192 v193 v194 v195 v196 v197 v198 v199 v200 v201 v202 v203 v204 v205 v206 v207 v208 v209 v210 v211 v212 v213 v214 v215 v216 v217 v218 v219 v220 v221 v222 v223 v224 v225 v226 v227 v228 v229 v230 v231 v232 v233 v234 v235 v236 v237 v238 v239 v240 v241 v242 v243 v244 v245 v246 v247 v248 v249 v250 v251 v252 v253 v254 wo hbo hgr
      have hsha2 : sha l = outOf (runs comp (p.length / 64) p iv) := Hsha.out
      obtain ⟨R, hR⟩ : ∃ R, R = runs comp (p.length / 64) p iv := ⟨_, rfl⟩
      rw [← hR] at hsha2 hbo
      have hh : ∀ n, n < 8 → wo.cell? ⟨w.heap.size, n, none⟩ = some (v32 (R.list.getD n 0)) := fun n hn => by rw [hbo.h.cell, St.get R n hn]
      have hB : Below w.heap.size w wo := HB3.out.grown hgr HB3.out.size (fun k hk => by cases hk; exact Nat.le_refl _)
      have hlt0 : w.heap.size < wo.heap.size := hbo.h.lt
      have Hh := Lib.hid hh
      have HBo := Lib.hid hB
      have Hsha2 := Lib.hid hsha2
      clear hR hsha2 hh hB hbo hgr HB3 Hsha Hbs
      go_wp2_with fail
      refine out_loop w.heap.size R wo _ Hh.out hlt0 _ _ _ _ _ _ _ _ _ _ _ _ _ _ _ _ _ _ _ _ _ _ _ _ _ _ _ _ _ _ _ _ _ _ _ _ _ _ _ _ _ _ _ _ _ _ _ _ _ _ _ _ _ _ _ _ _ _ _ _ _ _ _ _ _ _ _ _ _ _ _ _ _ _ _ _ _ _ _ _ _ _ _ _ _ _ _ _ _ _ _ _ _ _ _ _ _ _ _ _ _ _ _ _ _ _ _ _ _ _ _ _ _ _ _ _ _ _ _ _ _ _ _ _ _ _ _ _ _ _ _ _ _ _ _ _ _ _ _ _ _ _ _ _ _ _ _ _ _ _ _ _ _ _ _ _ _ _ _ _ _ _ _ _ _ _ _ _ _ _ _ _ _ _ _ _ _ _ _ _ _ _ _ _ _ _ _ _ _ _ _ _ _ _ _ _ _ _ _ _ _ _ _ _ _ _ _ _ _ _ _ _ _ _ _ _ _ _ _ _ _ _ _ _ _ _ _ _ _ _ _ _ _ _ _ _ _ _ _ _ _ _ _ _ _ _ _ _ _ _ _ _ _ _ _ _ _ _ _ _ _ _ _ _ _ ?_
      intro z20 z255 z256 z257 z258 z259 z260 z261 z262 z263 z264 z265 z266 w5 hb5
      have HB5 := Lib.hid (HBo.out.trans (hb5.mono HBo.out.size))
      rw [← Hsha2.out]
      clear hb5
      go_wp2_with fail
      go_ret
      exact ⟨rfl, HB5.out⟩

end Go.Proofs.Ytgbnkoeidejhfaa
