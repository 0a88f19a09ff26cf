/- A row that the call owns, whatever lies marked behind it; append of a slice's cells, or of a string's bytes, to it. -/
import Derived.Test.YtgbnkoeidejhfaaKit
import Derived.Lib.AppendStr
import Derived.Lib.ConvBytes
import Derived.Laws.IdiomCopy
namespace Go.Proofs.Ytgbnkoeidejhfaa
open Go.RowKit

/-- No cell of the block is frozen. -/
def Loose (n : Nat) (fz : Nat × Nat) : Prop := ∀ o, o < n → (decide (fz.1 ≤ o) && decide (o < fz.2)) = false

/-- The slice v of n elements of sz cells owns the cells xs; its block lies from B on. -/
def Row (w : World) (B : Nat) (e : TypeId) (sz : Nat) (v : Value) (n : Nat) (xs : List Value) : Prop :=
  xs.length = n * sz ∧ ((v = .slice none 0 0 ∧ n = 0) ∨
    ∃ g cap cur fz, v = .slice (some ⟨g, 0, none⟩) n cap ∧ B ≤ g ∧ w.heap[g]? = some (.cells cur e fz) ∧ Loose cur.size fz ∧ n ≤ cap ∧ cap ≤ maxLen ∧ cur.size = cap * sz ∧ cur.toList.take (n * sz) = xs)

theorem Row.nil (w : World) (B : Nat) (e : TypeId) (sz : Nat) : Row w B e sz (.slice none 0 0) 0 [] := ⟨by simp, .inl ⟨rfl, rfl⟩⟩
theorem Row.block {w : World} {B : Nat} {e : TypeId} {sz n : Nat} {v : Value} {xs : List Value} (h : Row w B e sz v n xs) (k : Nat) (hk : v.ownBlock = some k) : B ≤ k ∧ k < w.heap.size := by
  rcases h.2 with ⟨rfl, _⟩ | ⟨g, cap, cur, fz, rfl, hb, hg, _⟩
  · simp [Value.ownBlock] at hk
  · simp [Value.ownBlock] at hk
    subst hk
    exact ⟨hb, (Array.getElem?_eq_some_iff.1 hg).1⟩
theorem Row.kept {w w1 : World} {B : Nat} {e : TypeId} {sz n : Nat} {v : Value} {xs : List Value} (h : Row w B e sz v n xs) {row : Option Nat} (hg : w.grownBy w1 row) (hne : v.ownBlock = none ∨ v.ownBlock ≠ row) : Row w1 B e sz v n xs := by
  refine ⟨h.1, ?_⟩
  rcases h.2 with hn | ⟨g, cap, cur, fz, rfl, hb, hgg, rest⟩
  · exact .inl hn
  · exact .inr ⟨g, cap, cur, fz, rfl, hb, (hg.block g (Array.getElem?_eq_some_iff.1 hgg).1 (by simpa [Value.ownBlock] using hne)).trans hgg, rest⟩
theorem Row.below {w w1 : World} {B : Nat} {e : TypeId} {sz n : Nat} {v : Value} {xs : List Value} (h : Row w B e sz v n xs) (hb : Below w.heap.size w w1) : Row w1 B e sz v n xs :=
  h.kept (grownBy_of_below hb none) (by cases v.ownBlock <;> simp)
theorem Row.slice {w : World} {B : Nat} {e : TypeId} {sz n : Nat} {v : Value} {xs : List Value} (h : Row w B e sz v n xs) : ∃ A c, v = .slice A n c := by
  rcases h.2 with ⟨rfl, rfl⟩ | ⟨g, cap, cur, fz, rfl, _⟩
  · exact ⟨none, 0, rfl⟩
  · exact ⟨_, cap, rfl⟩
/-- Where there is an element, the row lies in a block. -/
theorem Row.form {w : World} {B : Nat} {e : TypeId} {sz n : Nat} {v : Value} {xs : List Value} (h : Row w B e sz v n xs) (hn : 0 < n) :
    ∃ g cap, v = .slice (some ⟨g, 0, none⟩) n cap ∧ B ≤ g ∧ g < w.heap.size ∧ n ≤ cap ∧ (∀ j u, xs[j]? = some u → w.cell? ⟨g, j, none⟩ = some u ∧ w.frozen? ⟨g, j, none⟩ = false) := by
  rcases h.2 with ⟨_, h0⟩ | ⟨g, cap, cur, fz, rfl, hb, hg, hl, hnc, _, hcs, ht⟩
  · omega
  · refine ⟨g, cap, rfl, hb, (Array.getElem?_eq_some_iff.1 hg).1, hnc, fun j u hu => ?_⟩
    rw [← ht, List.getElem?_take] at hu
    split at hu
    · have hj : cur[j]? = some u := by simpa using hu
      refine ⟨by simp [World.cell?, hg, hj], ?_⟩
      have := hl j (Array.getElem?_eq_some_iff.1 hj).1
      simpa [World.frozen?, hg] using this
    · cases hu

theorem setCells_heap (g : Nat) (e : TypeId) (fz : Nat × Nat) : ∀ (vs : List Value) (o : Nat) (w : World) (cur : Array Value), w.heap[g]? = some (.cells cur e fz) → o + vs.length ≤ cur.size →
    ∃ arr : Array Value, (w.setCells g o vs).heap[g]? = some (.cells arr e fz) ∧ arr.toList = cur.toList.take o ++ vs ++ cur.toList.drop (o + vs.length) ∧ w.grownBy (w.setCells g o vs) (some g)
  | [], o, w, cur, h, _ => ⟨cur, h, by simp, grown_refl _ _⟩
  | v :: r, o, w, cur, h, hl => by
    have hl' : o + (r.length + 1) ≤ cur.size := hl
    have h1 : (w.setCell ⟨g, o, none⟩ v).heap[g]? = some (.cells (cur.setIfInBounds o v) e fz) := by simp [World.setCell, Array.getElem?_modify, h]
    obtain ⟨arr, ha, hb, hc⟩ := setCells_heap g e fz r (o + 1) (w.setCell ⟨g, o, none⟩ v) (cur.setIfInBounds o v) h1 (by simp; omega)
    refine ⟨arr, ha, ?_, grown_trans (grown_set w g o v) hc⟩
    rw [hb]
    have hlen : o < cur.toList.length := by simp; omega
    have e1 : (cur.setIfInBounds o v).toList = cur.toList.set o v := by simp
    rw [e1, List.take_set, List.drop_set_of_lt (by omega)]
    have e2 : (cur.toList.take (o + 1)).set o v = cur.toList.take o ++ [v] := by
      rw [List.take_succ_eq_append_getElem hlen, List.set_append_right _ _ (by simp; omega)]
      have : min o cur.size = o := by simp at hlen; omega
      simp [List.length_take, this]
    rw [e2]
    simp [Nat.add_assoc, Nat.add_comm 1]

theorem run_append_row {P : Program} (w : World) (B : Nat) (t t2 ty e : TypeId) (d2 : TypeDesc) (ht : P.underlying t = some (.slice e)) (ht2 : P.underlying t2 = some d2) (hd2 : (match d2 with | .slice _ => true | .string => true | _ => false) = true)
    (i : TypeInfo) (z : Value) (sz bytes : Nat) (hi : P.info? e = some i) (hz : i.zero = some z) (hsz : i.size = sz) (hby : i.bytes = bytes) (hzs : z.cells.size = sz) (hpos : 0 < sz)
    (v : Value) (n : Nat) (xs : List Value) (hown : Row w B e sz v n xs) (x : Value) (m : Nat) (news : List Value) (hnl : news.length = m * sz) (hlen : ∀ w : World, (Builtin.lenOf x).run P w = .ok m w)
    (hf : (Builtin.firstCells sz m x).run P w = .ok news.toArray w) (hf' : (Builtin.firstCells sz m x).run P w.drew = .ok news.toArray w.drew) (h1 : ∀ u ∈ news, u.oneCell' = true)
    (h63 : n + m ≤ maxLen) (hbytes : (n + m) * bytes ≤ 140737488355328) (hB : B ≤ w.heap.size) :
    ∃ v' w', (Builtin.append_ #[t, t2] ty #[v, x]).run P w = .ok v' w' ∧ Row w' B e sz v' (n + m) (xs ++ news) ∧ w.grownBy w' v.ownBlock := by
  subst hsz
  subst hby
  have hsmall : n + m ≤ 9223372036854775807 := by simp only [maxLen] at h63; omega
  have hxl := hown.1
  have hall : (xs ++ news).length = (n + m) * i.size := by rw [List.length_append, hxl, hnl, Nat.add_mul]
  have hgrown : ∀ (old : Nat), old < n + m → ∀ (row : Option Nat),
      Row (w.drew.alloc (.cells (xs.toArray ++ news.toArray ++ Builtin.zeroCells z.cells (grownCap w (n + m) old e - (n + m))) e)) B e i.size (.slice (some ⟨w.heap.size, 0, none⟩) (n + m) (grownCap w (n + m) old e)) (n + m) (xs ++ news) ∧
      w.grownBy (w.drew.alloc (.cells (xs.toArray ++ news.toArray ++ Builtin.zeroCells z.cells (grownCap w (n + m) old e - (n + m))) e)) row := by
    intro old ho row
    have hge := grownCap_ge w (n + m) old e
    have hcm : grownCap w (n + m) old e ≤ maxLen := grownCap_le_maxLen w (n + m) old e h63
    refine ⟨⟨hall, .inr ⟨w.heap.size, _, _, (0, 0), rfl, hB, heap_alloc_new w.drew _, fun o _ => by simp, hge, hcm, ?_, ?_⟩⟩, ⟨rfl, rfl, rfl, by simp, fun k hk _ => Below.heap_alloc w.drew _ k hk⟩⟩
    · simp only [Array.size_append, List.size_toArray, size_zeroCells, hzs, hxl, hnl, ← Nat.add_mul]
      congr 1
      omega
    · simp only [Array.toList_append, List.append_assoc]
      rw [← List.append_assoc, ← hall]
      exact List.take_left
  rcases hown.2 with ⟨rfl, rfl⟩ | ⟨g, cap, cur, fz, rfl, hbg, hg, hloose, hnc, hcm, hcs, htake⟩
  · obtain rfl : xs = [] := List.eq_nil_of_length_eq_zero (by simpa using hxl)
    by_cases hm : m = 0
    · subst hm
      obtain rfl : news = [] := List.eq_nil_of_length_eq_zero (by simpa using hnl)
      refine ⟨.slice none 0 0, w, ?_, Row.nil w B e i.size, grown_refl _ _⟩
      cases d2 <;> simp at hd2
      all_goals simp [Builtin.append_, run_underlying ht, run_underlying ht2, sizeOf, typeInfo, hi, hlen, hf]
      all_goals simp [Builtin.lenOf]
    · have hn0 : ¬ (0 + m ≤ 0) := by omega
      have h63' : ¬ (9223372036854775807 < (m : Int)) := by omega
      have h48 := growslice_fits (need := 0 + m) (old := 0) (by omega) hbytes
      have h48' : ¬ (281474976710656 < Builtin.nextslicecap m 0 * i.bytes) := by simp only [Nat.zero_add] at h48; omega
      have hgr := hgrown 0 (by omega) (Value.ownBlock (.slice none 0 0))
      refine ⟨_, _, ?_, hgr.1, hgr.2⟩
      cases d2 <;> simp at hd2
      all_goals simp [Builtin.append_, run_underlying ht, run_underlying ht2, sizeOf, typeInfo, zeroValue, hi, hz, hlen, hm, h63', h48', Question.forced, hf', newRow, grownCap, run_firstCells_none]
  · by_cases hroom : n + m ≤ cap
    · have hfit : n * i.size + news.length ≤ cur.size := by rw [hnl, hcs, ← Nat.add_mul]; exact Nat.mul_le_mul_right _ hroom
      obtain ⟨arr, ha, hb, hc⟩ := setCells_heap g e fz news (n * i.size) w cur hg hfit
      have hst := run_storeCells_cells (P := P) g (n * i.size) news 0 w (fun j hj => by
          have : (n * i.size + 0 + j) < cur.size := by omega
          simp [World.cell?, hg]; omega) (fun j hj => by
          have := hloose (n * i.size + 0 + j) (by omega)
          simpa [World.frozen?, hg] using this) h1
      simp only [Nat.add_zero] at hst
      refine ⟨.slice (some ⟨g, 0, none⟩) (n + m) cap, _, ?_, ⟨hall, .inr ⟨g, cap, arr, fz, rfl, hbg, ha, ?_, hroom, hcm, ?_, ?_⟩⟩, hc⟩
      · cases d2 <;> simp at hd2
        all_goals simp [Builtin.append_, run_underlying ht, run_underlying ht2, sizeOf, typeInfo, hi, hlen, hroom, hf, Addr.add_lit, hst]
      · have hs : arr.size = cur.size := by
          have := congrArg List.length hb
          simp at this; omega
        rw [hs]; exact hloose
      · have := congrArg List.length hb
        simp at this; omega
      · rw [hb, htake, ← hall]
        exact List.take_left
    · have hholds : ∀ j u, xs[j]? = some u → w.drew.cell? ((⟨g, 0, none⟩ : Addr).add j) = some u := by
        intro j u hu
        have hadd : (⟨g, 0, none⟩ : Addr).add j = ⟨g, j, none⟩ := by unfold Addr.add; split <;> simp_all
        rw [hadd]
        rw [← htake, List.getElem?_take] at hu
        split at hu
        · have hj : cur[j]? = some u := by simpa using hu
          show w.cell? _ = _
          simp [World.cell?, hg, hj]
        · cases hu
      have hfo := run_firstCells_some (P := P) w.drew i.size n ⟨g, 0, none⟩ n cap xs hxl hholds
      have h63' : ¬ (9223372036854775807 < ((n : Int) + (m : Int))) := by omega
      have h48 := growslice_fits (need := n + m) (old := cap) (by omega) hbytes
      have h48' : ¬ (281474976710656 < Builtin.nextslicecap (n + m) cap * i.bytes) := by omega
      have hgr := hgrown cap (by omega) (Value.ownBlock (.slice (some ⟨g, 0, none⟩) n cap))
      refine ⟨_, _, ?_, hgr.1, hgr.2⟩
      cases d2 <;> simp at hd2
      all_goals simp [Builtin.append_, run_underlying ht, run_underlying ht2, sizeOf, typeInfo, zeroValue, hi, hz, hlen, hroom, h63', h48', Question.forced, hf', hfo, newRow, grownCap]
      all_goals (congr 2; apply Array.ext'; simp [List.append_assoc])
section
variable {P : Program} {ops : Array Oper} {rest : List Oper} {o : Oper} {a : Act} {Q : Exit → Act → World → Prop}
/-- append(v, s...) of a string's bytes. -/
theorem ap_str {W : World} {B : Nat} {t t2 e : TypeId} (ht : P.underlying t = some (.slice e)) (ht2 : P.underlying t2 = some .string) (hinfo : (P.info? e).map (fun i => (i.zero, i.size, i.bytes)) = some (some (.int .u8 0), 1, 1))
    {v : Value} {l m : List UInt8} (HO : Row W B e 1 v l.length (vbytes l)) (hl : l.length + m.length ≤ 140737488355328) (hB : B ≤ W.heap.size)
    (hgd : o.guard = none) (s x : Operand) (ho : o.op = .call { callee := .builtin .append, args := #[s, x], argTypes := #[t, t2] }) (hs : a.eval s = v) (hx : a.eval x = .string (str m))
    (h : ∀ v1 w1, Row w1 B e 1 v1 (l ++ m).length (vbytes (l ++ m)) → W.grownBy w1 v.ownBlock → wpList P ops Q rest (a.put o.dst v1) w1) :
    wpList P ops Q (o :: rest) a W := by
  obtain ⟨i, hi, hz3⟩ := Option.map_eq_some_iff.1 hinfo
  simp only [Prod.mk.injEq] at hz3
  obtain ⟨hz0, hz1, hz2⟩ := hz3
  have hmax : l.length + m.length ≤ maxLen := by simp only [maxLen]; omega
  obtain ⟨v', w', hr, hrow, hg⟩ := run_append_row (P := P) W B t t2 o.type e .string ht ht2 rfl i (.int .u8 0) 1 1 hi hz0 hz1 hz2 rfl (by omega) v l.length (vbytes l) HO (.string (str m)) m.length (vbytes m)
    (by rw [vbytes_length]; omega) (fun w => by simp [Builtin.lenOf, str_size])
    (by have := Lib.run_firstCells_string (P := P) W 1 (str m); rw [str_size] at this; rw [this]; simp [Lib.strCells, vbytes, str])
    (by have := Lib.run_firstCells_string (P := P) W.drew 1 (str m); rw [str_size] at this; rw [this]; simp [Lib.strCells, vbytes, str])
    (by intro u hu; simp only [vbytes, List.mem_map] at hu; obtain ⟨c, _, rfl⟩ := hu; rfl) hmax (by omega) hB
  refine wpList_plain hgd fun K hK => ?_
  unfold Oper.wp execOp
  simp only [ho, resolve, invoke, builtin, Sem.run_bind, Sem.run_pure, Result.andThen_ok, List.map_toArray, List.map_cons, List.map_nil, hs, hx, hr]
  refine hK _ _ (h v' w' ?_ hg)
  rw [vbytes_append, List.length_append]; exact hrow
/-- append(v, y) of one element of one cell: the world is that in which y's own block was laid. -/
theorem ap_one {W : World} {B : Nat} {t e : TypeId} {z : Value} {bytes : Nat} (ht : P.underlying t = some (.slice e)) (hinfo : (P.info? e).map (fun i => (i.zero, i.size, i.bytes)) = some (some z, 1, bytes)) (hz : z.cells.size = 1)
    {v y : Value} {xs : List Value} (HO : Row W B e 1 v xs.length xs) (h1 : y.oneCell' = true) (hb0 : 0 < bytes) (hl : (xs.length + 1) * bytes ≤ 140737488355328) (hB : B ≤ W.heap.size)
    (hgd : o.guard = none) (s x : Operand) (ho : o.op = .call { callee := .builtin .append, args := #[s, x], argTypes := #[t, t] }) (hs : a.eval s = v) (hx : a.eval x = .slice (some ⟨W.heap.size, 0, none⟩) 1 1)
    (h : ∀ v1 w1, Row w1 B e 1 v1 (xs ++ [y]).length (xs ++ [y]) → W.grownBy w1 v.ownBlock → wpList P ops Q rest (a.put o.dst v1) w1) :
    wpList P ops Q (o :: rest) a (W.alloc (.cells #[y] e)) := by
  obtain ⟨i, hi, hz3⟩ := Option.map_eq_some_iff.1 hinfo
  simp only [Prod.mk.injEq] at hz3
  obtain ⟨hz0, hz1, hz2⟩ := hz3
  have hlen : xs.length + 1 ≤ 140737488355328 := Nat.le_trans (Nat.le_mul_of_pos_right _ hb0) hl
  have hcell := cell_one_new W y e
  have HO' : Row (W.alloc (.cells #[y] e)) B e 1 v xs.length xs := HO.kept (row := none) (grown_alloc W _ _) (by cases v.ownBlock <;> simp)
  obtain ⟨v', w', hr, hrow, hg⟩ := run_append_row (P := P) (W.alloc (.cells #[y] e)) B t t o.type e (.slice e) ht ht rfl i z 1 bytes hi hz0 hz1 hz2 hz (by omega) v xs.length xs HO' (.slice (some ⟨W.heap.size, 0, none⟩) 1 1) 1 [y]
    rfl (fun w => by simp [Builtin.lenOf]) (run_firstCells_some (P := P) _ 1 1 _ 1 1 [y] rfl hcell) (run_firstCells_some (P := P) _ 1 1 _ 1 1 [y] rfl (fun j u hj => hcell j u hj)) (by simpa using h1) (by simp only [maxLen]; omega) hl (by simp; omega)
  refine wpList_plain hgd fun K hK => ?_
  unfold Oper.wp execOp
  simp only [ho, resolve, invoke, builtin, Sem.run_bind, Sem.run_pure, Result.andThen_ok, List.map_toArray, List.map_cons, List.map_nil, hs, hx, hr]
  refine hK _ _ (h v' w' (by simpa using hrow) ?_)
  exact ⟨hg.os, hg.tape, hg.output, by have := hg.size; simp at this; omega, fun k hk hne => by
    rw [hg.block k (by simp; omega) hne]; exact Below.heap_alloc W _ k hk⟩
end

/-- What '[]byte(s)' has made. -/
theorem row_bytes (w : World) (e : TypeId) (l : List UInt8) (hl : l.length ≤ maxLen) :
    Row (Lib.bytesWorld w e (str l)) w.heap.size e 1 (.slice (some ⟨w.heap.size, 0, none⟩) l.length (grownCap w l.length 0 e)) l.length (vbytes l) ∧ Below w.heap.size w (Lib.bytesWorld w e (str l)) := by
  have hsz : (str l).size = l.length := str_size l
  have hge := grownCap_ge w l.length 0 e
  have hcs : (Lib.bytesCells w e (str l)).size = grownCap w l.length 0 e := by
    simp only [Lib.bytesCells, Array.size_append, Array.size_map, Array.size_replicate]
    have : (str l).data.size = l.length := by simp [str]
    rw [this, hsz]; omega
  refine ⟨⟨by rw [vbytes_length]; omega, .inr ⟨w.heap.size, grownCap w l.length 0 e, Lib.bytesCells w e (str l), _, rfl, Nat.le_refl _, Lib.bytesWorld_at_new w e (str l), ?_, hge, grownCap_le_maxLen w _ _ _ hl, by rw [hcs]; omega, ?_⟩⟩, ⟨rfl, rfl, rfl, by rw [Lib.bytesWorld_size]; omega, fun k hk => Lib.bytesWorld_at_old w e _ k hk⟩⟩
  · intro o ho
    simp; omega
  · simp only [Lib.bytesCells, Array.toList_append, Array.toList_map, Nat.mul_one]
    rw [List.take_left' (by simp [str])]
    simp [vbytes, str]
theorem run_bytes_of {P : Program} {src dst e : TypeId} (hs : P.underlying src = some .string) (hd : P.underlying dst = some (.slice e)) (he : P.underlying e = some (.int .u8)) (l : List UInt8) (w : World) :
    (convert src dst (.string (str l))).run P w = .ok (.slice (some ⟨w.heap.size, 0, none⟩) l.length (grownCap w l.length 0 e)) (Lib.bytesWorld w e (str l)) := by
  have := Lib.run_convert_string_bytes (P := P) w src dst e (str l) hs hd he
  rwa [str_size] at this
/-- string(v). -/
theorem Row.string {P : Program} {w : World} {B : Nat} {src dst e : TypeId} {v : Value} {l : List UInt8} (hs : P.underlying src = some (.slice e)) (he : P.underlying e = some (.int .u8)) (hd : P.underlying dst = some .string)
    (h : Row w B e 1 v l.length (vbytes l)) : (convert src dst v).run P w = .ok (.string (str l)) w := by
  rcases Nat.eq_zero_or_pos l.length with h0 | h0
  · obtain rfl : l = [] := List.eq_nil_of_length_eq_zero h0
    obtain ⟨A, c, rfl⟩ := h.slice
    cases A with
    | none => exact run_convert_bytes_nil w src e hs he 0 c dst hd
    | some ad =>
      rcases h.2 with ⟨hn, _⟩ | ⟨g, cap, cur, fz, hv, _⟩
      · cases hn
      · injection hv with hv _ _
        injection hv with hv
        subst hv
        have hx := run_convert_bytes_arg (P := P) w src e hs he g 0 0 c [] rfl (fun i hi => by omega) dst hd
        exact hx
  · obtain ⟨g, cap, rfl, _, _, _, hc⟩ := h.form h0
    have hx := run_convert_bytes_arg (P := P) w src e hs he g 0 l.length cap (l.map fun c => (c.toNat : Int)) (by simp) (fun i hi => ?_) dst hd
    · rw [hx]
      congr 2
      simp only [strOfNums, str, List.map_map]
      congr 2
      conv => rhs; rw [← List.map_id l]
      apply List.map_congr_left
      intro c _
      simp
    · have := (hc i (.int .u8 ((l.map fun c => (c.toNat : Int)).getD i 0)) (by simp [vbytes, hi])).1
      simpa using this

/-- An element of one cell is stored. -/
theorem Row.store {w : World} {B : Nat} {e : TypeId} {g n cap : Nat} {xs : List Value} (h : Row w B e 1 (.slice (some ⟨g, 0, none⟩) n cap) n xs) (j : Nat) (u : Value) :
    Row (w.setCell ⟨g, j, none⟩ u) B e 1 (.slice (some ⟨g, 0, none⟩) n cap) n (xs.set j u) := by
  refine ⟨by rw [List.length_set]; exact h.1, ?_⟩
  rcases h.2 with ⟨hn, _⟩ | ⟨g', cap', cur, fz, hv, hb, hg, hl, hnc, hcm, hcs, ht⟩
  · cases hn
  · injection hv with hv _ hc
    injection hv with hv
    injection hv with hv
    subst hv hc
    refine .inr ⟨g, cap, cur.setIfInBounds j u, fz, rfl, hb, by simp [World.setCell, Array.getElem?_modify, hg], by simpa using hl, hnc, hcm, by simpa using hcs, ?_⟩
    rw [← ht, Array.toList_setIfInBounds, List.take_set]

end Go.Proofs.Ytgbnkoeidejhfaa
