/- This session's texts for the claim, joined and shortened by this session's own program pack.py: what the claim does not need is struck. Part: GUses. -/
import Derived.Test.YtkdfilpinlebbaaDoorQSpec04
import Derived.Test.YtkdfilpinlebbaaDoorProg
import Derived.WalkKit
import Derived.Below
import Derived.Deep.WholeRow
set_option linter.unusedVariables false
set_option linter.unusedSimpArgs false
namespace Go.Proofs.YtkdfilpinlebbaaDoor.G
open Go.RowKit
def mostU (k : Nat) : Int := if k = 0 then 0 else mostI k
def useL (k : Nat) : List Value := [.string ⟨(kword k).toArray⟩, .bool (ownB k), .bool (numB k), .bool (txtB k), .int .i64 (mostU k)]
def useV (k : Nat) : Value := .agg (useL k).toArray
def usesA : Array Value := ((List.range 21).flatMap useL).toArray
def useC (s : ByteArray) (a b c : Bool) (m : Int) : Value := .agg #[.string s, .bool a, .bool b, .bool c, .int .i64 m]
attribute [-go_sem] Instr.build
theorem b53 (w : World) (s : ByteArray) (a b c : Bool) (m : Int) : (Instr.build 53 #[(0, .string s), (1, .bool a), (2, .bool b), (3, .bool c), (4, .int .i64 m)]).run Tryd.prog w = .ok (useC s a b c m) w :=
  run_build w _ _ _ (by kernel_rfl)
theorem b53z (w : World) : (Instr.build 53 #[]).run Tryd.prog w = .ok (useV 0) w := run_build w _ _ _ (by kernel_rfl)
theorem b54 (w : World) : (Instr.build 54 #[(0, useV 0), (1, useC { data := #[112, 114, 111, 99, 101, 115, 115] } true false false (-1)), (2, useC { data := #[114, 101, 103, 105, 115, 116, 101, 114, 115] } true false false (-1)), (3, useC { data := #[112, 97, 103, 101] } true false false 63), (4, useC { data := #[116, 97, 98, 108, 101] } true false false (-1)), (5, useC { data := #[99, 111, 117, 110, 116, 101, 114] } true false false (-1)), (6, useC { data := #[112, 101, 110, 100, 105, 110, 103] } true false false (-1)), (7, useC { data := #[110, 111, 100, 101] } true true false (-1)), (8, useC { data := #[98, 108, 111, 99, 107] } true true false 63), (9, useC { data := #[101, 110, 116, 114, 121] } true true true (-1)), (10, useC { data := #[108, 105, 115, 116, 105, 110, 103] } true true false (-1)), (11, useC { data := #[112, 105, 112, 101] } true true false (-1)), (12, useC { data := #[108, 111, 99, 107] } true true false (-1)), (13, useC { data := #[116, 101, 114, 109, 105, 110, 97, 108] } false true false (-1)), (14, useC { data := #[97, 99, 99, 111, 117, 110, 116] } false false true (-1)), (15, useC { data := #[99, 108, 111, 99, 107] } false false false (-1)), (16, useC { data := #[112, 111, 114, 116] } false true false (-1)), (17, useC { data := #[98, 111, 120] } false false true (-1)), (18, useC { data := #[111, 117, 116] } true true false 1073741824), (19, useC { data := #[115, 104, 101, 108, 108] } true false false (-1)), (20, useC { data := #[101, 112, 111, 99, 104] } false false false (-1))]).run Tryd.prog w = .ok (.agg usesA) w := run_build w _ _ _ (by kernel_rfl)
theorem st54 (w : World) : (storeCells ⟨w.heap.size, 0, none⟩ usesA.toList 0).run Tryd.prog (w.alloc (.cells Tryd.zeroCells54 54)) = .ok () (w.alloc (.cells usesA 54)) :=
  run_storeCells_new w 54 _ usesA (by kernel_rfl) (by kernel_rfl) (by kernel_rfl)
theorem usesA_size : usesA.size = 105 := by kernel_rfl
set_option maxHeartbeats 8000000 in
set_option maxRecDepth 100000 in
theorem uses_calls (w : World) : Calls Tryd.prog 27 #[] w fun e w' => e = .returned (.agg usesA) ∧ Below w.heap.size w w' := by
  have h1 := b53
  have h0 := b53z
  have h4 := b54
  have h5 := st54
  have h6 := usesA_size
  go_enter Tryd.func27, Tryd.ntmps27
  go_wp2
  clear h1 h0 h4 h5 h6
  refine bodyPost_ret (v := .agg usesA) ?_ rfl ⟨rfl, (Below.refl _ w).alloc (Nat.le_refl _) _⟩
  exact results_cell_row rfl _ _ w.heap.size 54 usesA (0, 0) _ (by rfl) (heap_alloc_last w _) Tryd.underlying54 rfl (by kernel_rfl)
theorem uses_index (w : World) : ∀ (k : Nat), k ≤ 20 → (Instr.index 54 (.agg usesA) (.int .i64 (k : Int))).run Tryd.prog w = .ok (useV k) w
  | 0, _ => by kernel_rfl
  | 1, _ => by kernel_rfl
  | 2, _ => by kernel_rfl
  | 3, _ => by kernel_rfl
  | 4, _ => by kernel_rfl
  | 5, _ => by kernel_rfl
  | 6, _ => by kernel_rfl
  | 7, _ => by kernel_rfl
  | 8, _ => by kernel_rfl
  | 9, _ => by kernel_rfl
  | 10, _ => by kernel_rfl
  | 11, _ => by kernel_rfl
  | 12, _ => by kernel_rfl
  | 13, _ => by kernel_rfl
  | 14, _ => by kernel_rfl
  | 15, _ => by kernel_rfl
  | 16, _ => by kernel_rfl
  | 17, _ => by kernel_rfl
  | 18, _ => by kernel_rfl
  | 19, _ => by kernel_rfl
  | 20, _ => by kernel_rfl
  | k + 21, h => absurd h (by omega)
end Go.Proofs.YtkdfilpinlebbaaDoor.G
