/- This session's texts for the claim, joined and shortened by this session's own program pack.py: what the claim does not need is struck. Part: GLibO. -/
import Derived.Test.YtkdfilpinlebbaaDoorQShelf
import Derived.Test.YtkdfilpinlebbaaDoorQW0
import Derived.WalkSmall
import Derived.Lib.AppendIntMem
set_option linter.unusedVariables false
set_option linter.unusedSimpArgs false
namespace Go.Proofs.YtkdfilpinlebbaaDoor.G
open Go.RowKit Go.Shelf Go.Proofs.YtkdfilpinlebbaaDoorW.PrintWords
def GG (w : World) : Prop := Lib.TabIs Tryd.prog w "internal/strconv.uint64pow10" .u64 Lib.pow10Tab ∧ (∃ m, w.cell? ⟨0, 0, none⟩ = some (.int .i64 m)) ∧
  (∃ t p, w.var? Tryd.prog "strconv.ErrSyntax" = some #[.iface t p]) ∧ (∃ t p, w.var? Tryd.prog "strconv.ErrRange" = some #[.iface t p])
theorem gPow : Tryd.prog.globalNamed "internal/strconv.uint64pow10" = some 1 := by kernel_rfl
theorem gSyn : Tryd.prog.globalNamed "strconv.ErrSyntax" = some 2 := by kernel_rfl
theorem gRan : Tryd.prog.globalNamed "strconv.ErrRange" = some 3 := by kernel_rfl
theorem GG_below {w w1 : World} (h : GG w) (hb : Below w.heap.size w w1) : GG w1 := by
  obtain ⟨h1, ⟨m, h2⟩, ⟨t1, p1, h3⟩, ⟨t2, p2, h4⟩⟩ := h
  have l1 : 1 < w.heap.size := World.block_lt_of_cell? w _ (Lib.TabIs.cell h1 gPow 0 (by decide))
  have l2 := World.block_lt_of_cell? w _ h2
  have l3 := World.block_lt_of_cell? w _ (World.var?_cell gSyn h3 0)
  have l4 := World.block_lt_of_cell? w _ (World.var?_cell gRan h4 0)
  exact ⟨var?_below hb gPow l1 h1, ⟨m, (hb.cell l2).trans h2⟩, ⟨t1, p1, var?_below hb gSyn l3 h3⟩, ⟨t2, p2, var?_below hb gRan l4 h4⟩⟩
def g_Itoa.f (a0 : Int) : Option ByteArray := if -9223372036854775808 ≤ a0 then (if a0 ≤ 9223372036854775807 then some ⟨(Lib.itoa a0).toArray⟩ else none) else none
theorem g_Itoa.calls (a0 : Int) (r : ByteArray) (w : World) (h : g_Itoa.f a0 = some r) (hgg : GG w) :
    Calls Tryd.prog 29 #[.int .i64 a0] w fun e w' => e = .returned (.string r) ∧ Below w.heap.size w w' := by
  unfold g_Itoa.f at h
  split at h
  · split at h
    · injection h with h
      subst h
      refine (Tryd.strconv_Itoa a0 ‹_› ‹_› w hgg.1).mono ?_
      rintro e w' ⟨rfl, k, os, rfl⟩
      exact ⟨rfl, Lib.below_grow _ w (Nat.le_refl _) k os⟩
    · cases h
  · cases h
def g_strcmp.f (a0 a1 : ByteArray) : Option Int := some (Lib.compareBytes a0.data.toList a1.data.toList)
theorem g_strcmp.calls (a0 a1 : ByteArray) (r : Int) (w : World) (h : g_strcmp.f a0 a1 = some r) :
    Calls Tryd.prog 52 #[.string a0, .string a1] w fun e w' => e = .returned (.int .i64 r) ∧ Drawn0 w w' := by
  unfold g_strcmp.f at h
  injection h with h
  subst h
  refine (Tryd.strings_Compare a0 a1 w).mono ?_
  rintro e w' ⟨rfl, rfl⟩
  exact ⟨rfl, Drawn0.refl _⟩
end Go.Proofs.YtkdfilpinlebbaaDoor.G
