/- A strings.Builder that the call has made: what a walk says of it. -/
import Derived.Test.YtgbnkoeidejhfaaShelf
import Derived.Test.YtgbnkoeidejhfaaShelfB
import Derived.Test.YtgbnkoeidejhfaaKit
namespace Go.Proofs.Ytgbnkoeidejhfaa
open Go.RowKit

/-- Builder b holds the bytes l; it and its buffer lie from b on. -/
def Bld (w : World) (b : Nat) (l : List UInt8) : Prop := Lib.IsBuilderF 71 5 b b (Lib.byteCells l) w

theorem Bld.at_below {T e : TypeId} {B b : Nat} {p : Value} {bs : List Value} {w w1 : World} (h : Lib.BuilderAtF T e B b p bs w) (hb : Below w.heap.size w w1) : Lib.BuilderAtF T e B b p bs w1 := by
  have hlt := h.lt
  obtain ⟨hB, v, hc, hown, hne⟩ := h
  exact ⟨hB, v, (hb.block b hlt).trans hc, hown.kept (grownBy_of_below hb none) (by cases v.ownBlock <;> simp), hne⟩
theorem Bld.below {w w1 : World} {b : Nat} {l : List UInt8} (h : Bld w b l) (hb : Below w.heap.size w w1) : Bld w1 b l :=
  h.imp (fun x => Bld.at_below x hb) (fun x => Bld.at_below x hb)
theorem Bld.new (w : World) : Bld (w.alloc (.cells #[.pointer none, .slice none 0 0] 71)) w.heap.size [] :=
  .inl ⟨Nat.le_refl _, .slice none 0 0, heap_alloc_new w _, World.ownsRowF_nil _ _ _ _, by simp [Value.ownBlock]⟩
theorem Bld.lt {w : World} {b : Nat} {l : List UInt8} (h : Bld w b l) : b < w.heap.size := h.elim (·.lt) (·.lt)
theorem Bld.write (b : Nat) (l m : List UInt8) (w : World) (h : Bld w b l) (hl : l.length + m.length ≤ 140737488355328) :
    Calls Try.prog 33 #[.pointer (some ⟨b, 0, none⟩), .string (str m)] w fun e w' => e = .returned (.tuple #[.int .i64 (m.length : Int), .nilIface]) ∧ Bld w' b (l ++ m) ∧ Below b w w' := by
  refine (Try.bl_WriteString b b _ (str m) w h (by rw [str_size]; simpa [Lib.byteCells] using hl) (Nat.le_of_lt h.lt)).mono ?_
  rintro e w' ⟨rfl, h1, h2⟩
  refine ⟨by rw [str_size], .inr ?_, h2⟩
  have : Lib.byteCells (l ++ m) = Lib.byteCells l ++ Lib.strCells (str m) := by simp [Lib.byteCells, Lib.strCells, str]
  rw [this]; exact h1
theorem Bld.string (b : Nat) (l : List UInt8) (w : World) (h : Bld w b l) :
    Calls Try.prog 35 #[.pointer (some ⟨b, 0, none⟩)] w fun e w' => e = .returned (.string (str l)) ∧ Bld w' b l ∧ Below b w w' :=
  (Try.Builder_String_any_f b b l w h (Nat.le_of_lt h.lt)).mono fun _ _ ⟨he, h1, h2⟩ => ⟨he, h1, h2⟩
end Go.Proofs.Ytgbnkoeidejhfaa
