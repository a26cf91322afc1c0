/- awake: what it computes. No conditions. -/
import Derived.Test.YtnbdlkjphdfkpaaHX
import Derived.Lib.SlBytesConst
namespace Go.Proofs.Ytnbdlkjphdfkpaa
open Go Go.RowKit H Go.Proofs.YtnbdlkjphdfkpaaW.PrintWords

/-- The batches of awake. -/
def awl : List S41 := [⟨0, 0, 5, 0, 0, true, false, false, [[97]]⟩, ⟨1, 0, 5, 1, 0, true, true, true, []⟩]

theorem aw1 : model_Committed.f 0 awl 1 = some [] := by kernel_rfl
theorem aw2 : model_Committed.f 0 awl 2 = some [⟨0, 5, ⟨#[97]⟩⟩] := by kernel_rfl
theorem aw3 : model_Stable.f 0 awl 1 = some 0 := by kernel_rfl
theorem aw4 : model_Stable.f 0 awl 2 = some 2 := by kernel_rfl

theorem block_cells {w : World} {b : Nat} {arr : Array Value} {t : TypeId} {fr : Nat × Nat} (h : w.heap[b]? = some (.cells arr t fr)) (c : List Value) (k m : Nat) (hc : c = (arr.toList.drop k).take m) :
    ∀ i u, c[i]? = some u → w.cell? ((⟨b, 0, none⟩ : Addr).add (k + i)) = some u := by
  subst hc
  intro i u hu
  rw [List.getElem?_take] at hu
  split at hu
  · rw [List.getElem?_drop] at hu
    have : arr[k + i]? = some u := by rw [← Array.getElem?_toList]; exact hu
    have hadd : (⟨b, 0, none⟩ : Addr).add (k + i) = ⟨b, k + i, none⟩ := by simp [add_plain]
    rw [hadd]
    simp [World.cell?, h, this]
  · cases hu

/-- The cells of awake's batches. -/
def awCells (n : Nat) : Array Value :=
  #[Value.int IntKind.i64 0, Value.int IntKind.i64 0, Value.int IntKind.u64 5, Value.int IntKind.i64 0,
                Value.int IntKind.i64 0, Value.bool true, Value.bool false, Value.bool false,
                Value.slice (some { block := n + 1, off := 0 }) 1 1, Value.int IntKind.i64 1,
                Value.int IntKind.i64 0, Value.int IntKind.u64 5, Value.int IntKind.i64 1, Value.int IntKind.i64 0,
                Value.bool true, Value.bool true, Value.bool true, Value.slice none 0 0]

theorem aw_reads {w : World} {n : Nat} (hb0 : w.heap[n]? = some (.cells #[Value.int IntKind.u8 97] 5 (1, 2))) (hb1 : w.heap[n + 1]? = some (.cells #[Value.slice (some { block := n, off := 0 }) 1 1] 47)) (hb2 : w.heap[n + 1 + 1]? = some (.cells (awCells n) 41)) :
    Kd.C k41 w (some ⟨n + 1 + 1, 0, none⟩) 2 awl := by
  have r1 : Kd.C (Kd.int .u8) w (some ⟨n, 0, none⟩) 1 [97] := by
    refine ⟨rfl, by decide, fun _ => ⟨_, rfl, ?_⟩⟩
    intro j p hj
    match j, hj with
    | 0, hj =>
      obtain rfl := Option.some.inj hj
      refine ⟨[.int .u8 97], rfl, rfl, block_cells hb0 _ 0 1 rfl⟩
  have r2 : Kd.C (Kd.slice 5 (Kd.int .u8)) w (some ⟨n + 1, 0, none⟩) 1 [[97]] := by
    refine ⟨rfl, by decide, fun _ => ⟨_, rfl, ?_⟩⟩
    intro j p hj
    match j, hj with
    | 0, hj =>
      obtain rfl := Option.some.inj hj
      exact ⟨[.slice (some ⟨n, 0, none⟩) 1 1], rfl, ⟨_, 1, rfl, Nat.le_refl _, r1⟩, block_cells hb1 _ 0 1 rfl⟩
  refine ⟨rfl, by decide, fun _ => ⟨_, rfl, ?_⟩⟩
  intro j p hj
  match j, hj with
  | 0, hj =>
    obtain rfl := Option.some.inj hj
    exact ⟨_, rfl, k41_mk w _ (A8 := some ⟨n + 1, 0, none⟩) (c8 := 1) (Nat.le_refl _) r2, block_cells hb2 _ 0 9 rfl⟩
  | 1, hj =>
    obtain rfl := Option.some.inj hj
    exact ⟨_, rfl, k41_mk w _ (A8 := none) (c8 := 0) (Nat.le_refl _) ⟨rfl, by decide, fun h => absurd h (by decide)⟩, block_cells hb2 _ 9 9 rfl⟩

theorem aw_world (w : World) : ∀ w3, (((w.alloc (Obj.cells #[Value.int IntKind.u8 97] 5 (1, 2))).alloc (Obj.cells #[Value.slice (some { block := w.heap.size, off := 0 }) 1 1] 47)).alloc (Obj.cells (awCells w.heap.size) 41)) = w3 →
    Below w.heap.size w w3 ∧ Kd.C k41 w3 (some ⟨w.heap.size + 1 + 1, 0, none⟩) 2 awl := by
  rintro w3 rfl
  have h1 : ∀ (v : World) (o : Obj), (v.alloc o).heap = v.heap.push o := fun _ _ => rfl
  have h0 : ∀ (v : World) (o : Obj), (v.alloc o).heap.size = v.heap.size + 1 := fun v o => by rw [h1, Array.size_push]
  refine ⟨(((Below.refl _ _).alloc (Nat.le_refl _) _).alloc (by rw [h0]; omega) _).alloc (by rw [h0, h0]; omega) _, aw_reads ?_ ?_ ?_⟩
  · rw [h1, Array.getElem?_push, if_neg (by rw [h0, h0]; omega), h1, Array.getElem?_push, if_neg (by rw [h0]; omega), h1, Array.getElem?_push, if_pos rfl]
  · rw [h1, Array.getElem?_push, if_neg (by rw [h0, h0]; omega), h1, Array.getElem?_push, if_pos (by rw [h0])]
  · rw [h1, Array.getElem?_push, if_pos (by rw [h0, h0])]

end Go.Proofs.Ytnbdlkjphdfkpaa
