/- append of one element to a row, and where the row lies then. -/
import Derived.Test.YtgbnkoeidejhfaaOwn
namespace Go.Proofs.Ytgbnkoeidejhfaa
open Go.RowKit

theorem run_append_rowW {P : Program} (w : World) (B : Nat) (t t2 ty e : TypeId) (d2 : TypeDesc) (ht : P.underlying t = some (.slice e)) (ht2 : P.underlying t2 = some d2) (hd2 : (match d2 with | .slice _ => true | .string => true | _ => false) = true)
    (i : TypeInfo) (z : Value) (sz bytes : Nat) (hi : P.info? e = some i) (hz : i.zero = some z) (hsz : i.size = sz) (hby : i.bytes = bytes) (hzs : z.cells.size = sz) (hpos : 0 < sz)
    (v : Value) (n : Nat) (xs : List Value) (hown : Row w B e sz v n xs) (x : Value) (m : Nat) (news : List Value) (hnl : news.length = m * sz) (hlen : ∀ w : World, (Builtin.lenOf x).run P w = .ok m w)
    (hf : (Builtin.firstCells sz m x).run P w = .ok news.toArray w) (hf' : (Builtin.firstCells sz m x).run P w.drew = .ok news.toArray w.drew) (h1 : ∀ u ∈ news, u.oneCell' = true)
    (h63 : n + m ≤ maxLen) (hbytes : (n + m) * bytes ≤ 140737488355328) (hB : B ≤ w.heap.size) :
    ∃ v' w', (Builtin.append_ #[t, t2] ty #[v, x]).run P w = .ok v' w' ∧ Row w' B e sz v' (n + m) (xs ++ news) ∧ w.grownBy w' v.ownBlock ∧ (v'.ownBlock = v.ownBlock ∨ v'.ownBlock = some w.heap.size) := by
  subst hsz
  subst hby
  have hsmall : n + m ≤ 9223372036854775807 := by simp only [maxLen] at h63; omega
  have hxl := hown.1
  have hall : (xs ++ news).length = (n + m) * i.size := by rw [List.length_append, hxl, hnl, Nat.add_mul]
  have hgrown : ∀ (old : Nat), old < n + m → ∀ (row : Option Nat),
      Row (w.drew.alloc (.cells (xs.toArray ++ news.toArray ++ Builtin.zeroCells z.cells (grownCap w (n + m) old e - (n + m))) e)) B e i.size (.slice (some ⟨w.heap.size, 0, none⟩) (n + m) (grownCap w (n + m) old e)) (n + m) (xs ++ news) ∧
      w.grownBy (w.drew.alloc (.cells (xs.toArray ++ news.toArray ++ Builtin.zeroCells z.cells (grownCap w (n + m) old e - (n + m))) e)) row := by
    intro old ho row
    have hge := grownCap_ge w (n + m) old e
    have hcm : grownCap w (n + m) old e ≤ maxLen := grownCap_le_maxLen w (n + m) old e h63
    refine ⟨⟨hall, .inr ⟨w.heap.size, _, _, (0, 0), rfl, hB, heap_alloc_new w.drew _, fun o _ => by simp, hge, hcm, ?_, ?_⟩⟩, ⟨rfl, rfl, rfl, by simp, fun k hk _ => Below.heap_alloc w.drew _ k hk⟩⟩
    · simp only [Array.size_append, List.size_toArray, size_zeroCells, hzs, hxl, hnl, ← Nat.add_mul]
      congr 1
      omega
    · simp only [Array.toList_append, List.append_assoc]
      rw [← List.append_assoc, ← hall]
      exact List.take_left
  rcases hown.2 with ⟨rfl, rfl⟩ | ⟨g, cap, cur, fz, rfl, hbg, hg, hloose, hnc, hcm, hcs, htake⟩
  · obtain rfl : xs = [] := List.eq_nil_of_length_eq_zero (by simpa using hxl)
    by_cases hm : m = 0
    · subst hm
      obtain rfl : news = [] := List.eq_nil_of_length_eq_zero (by simpa using hnl)
      refine ⟨.slice none 0 0, w, ?_, Row.nil w B e i.size, grown_refl _ _, .inl rfl⟩
      cases d2 <;> simp at hd2
      all_goals simp [Builtin.append_, run_underlying ht, run_underlying ht2, sizeOf, typeInfo, hi, hlen, hf]
      all_goals simp [Builtin.lenOf]
    · have hn0 : ¬ (0 + m ≤ 0) := by omega
      have h63' : ¬ (9223372036854775807 < (m : Int)) := by omega
      have h48 := growslice_fits (need := 0 + m) (old := 0) (by omega) hbytes
      have h48' : ¬ (281474976710656 < Builtin.nextslicecap m 0 * i.bytes) := by simp only [Nat.zero_add] at h48; omega
      have hgr := hgrown 0 (by omega) (Value.ownBlock (.slice none 0 0))
      refine ⟨_, _, ?_, hgr.1, hgr.2, .inr rfl⟩
      cases d2 <;> simp at hd2
      all_goals simp [Builtin.append_, run_underlying ht, run_underlying ht2, sizeOf, typeInfo, zeroValue, hi, hz, hlen, hm, h63', h48', Question.forced, hf', newRow, grownCap, run_firstCells_none]
  · by_cases hroom : n + m ≤ cap
    · have hfit : n * i.size + news.length ≤ cur.size := by rw [hnl, hcs, ← Nat.add_mul]; exact Nat.mul_le_mul_right _ hroom
      obtain ⟨arr, ha, hb, hc⟩ := setCells_heap g e fz news (n * i.size) w cur hg hfit
      have hst := run_storeCells_cells (P := P) g (n * i.size) news 0 w (fun j hj => by
          have : (n * i.size + 0 + j) < cur.size := by omega
          simp [World.cell?, hg]; omega) (fun j hj => by
          have := hloose (n * i.size + 0 + j) (by omega)
          simpa [World.frozen?, hg] using this) h1
      simp only [Nat.add_zero] at hst
      refine ⟨.slice (some ⟨g, 0, none⟩) (n + m) cap, _, ?_, ⟨hall, .inr ⟨g, cap, arr, fz, rfl, hbg, ha, ?_, hroom, hcm, ?_, ?_⟩⟩, hc, .inl rfl⟩
      · cases d2 <;> simp at hd2
        all_goals simp [Builtin.append_, run_underlying ht, run_underlying ht2, sizeOf, typeInfo, hi, hlen, hroom, hf, Addr.add_lit, hst]
      · have hs : arr.size = cur.size := by
          have := congrArg List.length hb
          simp at this; omega
        rw [hs]; exact hloose
      · have := congrArg List.length hb
        simp at this; omega
      · rw [hb, htake, ← hall]
        exact List.take_left
    · have hholds : ∀ j u, xs[j]? = some u → w.drew.cell? ((⟨g, 0, none⟩ : Addr).add j) = some u := by
        intro j u hu
        have hadd : (⟨g, 0, none⟩ : Addr).add j = ⟨g, j, none⟩ := by unfold Addr.add; split <;> simp_all
        rw [hadd]
        rw [← htake, List.getElem?_take] at hu
        split at hu
        · have hj : cur[j]? = some u := by simpa using hu
          show w.cell? _ = _
          simp [World.cell?, hg, hj]
        · cases hu
      have hfo := run_firstCells_some (P := P) w.drew i.size n ⟨g, 0, none⟩ n cap xs hxl hholds
      have h63' : ¬ (9223372036854775807 < ((n : Int) + (m : Int))) := by omega
      have h48 := growslice_fits (need := n + m) (old := cap) (by omega) hbytes
      have h48' : ¬ (281474976710656 < Builtin.nextslicecap (n + m) cap * i.bytes) := by omega
      have hgr := hgrown cap (by omega) (Value.ownBlock (.slice (some ⟨g, 0, none⟩) n cap))
      refine ⟨_, _, ?_, hgr.1, hgr.2, .inr rfl⟩
      cases d2 <;> simp at hd2
      all_goals simp [Builtin.append_, run_underlying ht, run_underlying ht2, sizeOf, typeInfo, zeroValue, hi, hz, hlen, hroom, h63', h48', Question.forced, hf', hfo, newRow, grownCap]
      all_goals (congr 2; apply Array.ext'; simp [List.append_assoc])
section
variable {P : Program} {ops : Array Oper} {rest : List Oper} {o : Oper} {a : Act} {Q : Exit → Act → World → Prop}
theorem ap_oneW {W : World} {B : Nat} {t e : TypeId} {z : Value} {bytes : Nat} (ht : P.underlying t = some (.slice e)) (hinfo : (P.info? e).map (fun i => (i.zero, i.size, i.bytes)) = some (some z, 1, bytes)) (hz : z.cells.size = 1)
    {v y : Value} {xs : List Value} (HO : Row W B e 1 v xs.length xs) (h1 : y.oneCell' = true) (hb0 : 0 < bytes) (hl : (xs.length + 1) * bytes ≤ 140737488355328) (hB : B ≤ W.heap.size)
    (hgd : o.guard = none) (s x : Operand) (ho : o.op = .call { callee := .builtin .append, args := #[s, x], argTypes := #[t, t] }) (hs : a.eval s = v) (hx : a.eval x = .slice (some ⟨W.heap.size, 0, none⟩) 1 1)
    (h : ∀ v1 w1, Row w1 B e 1 v1 (xs ++ [y]).length (xs ++ [y]) → W.grownBy w1 v.ownBlock → (v1.ownBlock = v.ownBlock ∨ v1.ownBlock = some (W.heap.size + 1)) → wpList P ops Q rest (a.put o.dst v1) w1) :
    wpList P ops Q (o :: rest) a (W.alloc (.cells #[y] e)) := by
  obtain ⟨i, hi, hz3⟩ := Option.map_eq_some_iff.1 hinfo
  simp only [Prod.mk.injEq] at hz3
  obtain ⟨hz0, hz1, hz2⟩ := hz3
  have hlen : xs.length + 1 ≤ 140737488355328 := Nat.le_trans (Nat.le_mul_of_pos_right _ hb0) hl
  have hcell := cell_one_new W y e
  have HO' : Row (W.alloc (.cells #[y] e)) B e 1 v xs.length xs := HO.kept (row := none) (grown_alloc W _ _) (by cases v.ownBlock <;> simp)
  obtain ⟨v', w', hr, hrow, hg, hw⟩ := run_append_rowW (P := P) (W.alloc (.cells #[y] e)) B t t o.type e (.slice e) ht ht rfl i z 1 bytes hi hz0 hz1 hz2 hz (by omega) v xs.length xs HO' (.slice (some ⟨W.heap.size, 0, none⟩) 1 1) 1 [y]
    rfl (fun w => by simp [Builtin.lenOf]) (run_firstCells_some (P := P) _ 1 1 _ 1 1 [y] rfl hcell) (run_firstCells_some (P := P) _ 1 1 _ 1 1 [y] rfl (fun j u hj => hcell j u hj)) (by simpa using h1) (by simp only [maxLen]; omega) hl (by simp; omega)
  refine wpList_plain hgd fun K hK => ?_
  unfold Oper.wp execOp
  simp only [ho, resolve, invoke, builtin, Sem.run_bind, Sem.run_pure, Result.andThen_ok, List.map_toArray, List.map_cons, List.map_nil, hs, hx, hr]
  refine hK _ _ (h v' w' (by simpa using hrow) ?_ (by simpa using hw))
  exact ⟨hg.os, hg.tape, hg.output, by have := hg.size; simp at this; omega, fun k hk hne => by
    rw [hg.block k (by simp; omega) hne]; exact Below.heap_alloc W _ k hk⟩
end
end Go.Proofs.Ytgbnkoeidejhfaa
