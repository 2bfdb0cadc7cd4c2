/- The library's functions below the laws, told as the printed functions are told; and the one table that they read. -/
import Derived.Test.YtpkiiconadbmfaaDoorShelf
import Derived.Test.YtpkiiconadbmfaaDoorWWords
import Derived.WalkSmall
import Derived.Lib.AppendIntMem
set_option linter.unusedVariables false
set_option linter.unusedSimpArgs false
namespace Go.Proofs.YtpkiiconadbmfaaDoor.G
open Go.RowKit Go.Shelf Go.Proofs.YtpkiiconadbmfaaDoorW.PrintWords

/-- The table of powers lies as it was laid. -/
def GG (w : World) : Prop := Lib.TabIs Tryd.prog w "internal/strconv.uint64pow10" .u64 Lib.pow10Tab
theorem gPow : Tryd.prog.globalNamed "internal/strconv.uint64pow10" = some 2 := by kernel_rfl
theorem GG_below {w w1 : World} (h : GG w) (hb : Below w.heap.size w w1) : GG w1 := by
  have hlt : 2 < w.heap.size := by
    have hc := Lib.TabIs.cell h gPow 0 (by decide)
    exact World.block_lt_of_cell? w _ hc
  exact var?_below hb gPow hlt h

def g_Itoa.f (a0 : Int) : Option ByteArray := if -9223372036854775808 ≤ a0 then (if a0 ≤ 9223372036854775807 then some ⟨(Lib.itoa a0).toArray⟩ else none) else none
theorem g_Itoa.calls (a0 : Int) (r : ByteArray) (w : World) (h : g_Itoa.f a0 = some r) (hgg : GG w) :
    Calls Tryd.prog 37 #[.int .i64 a0] w fun e w' => e = .returned (.string r) ∧ Below w.heap.size w w' := by
  unfold g_Itoa.f at h
  split at h
  · split at h
    · injection h with h
      subst h
      refine (Tryd.strconv_Itoa a0 ‹_› ‹_› w hgg).mono ?_
      rintro e w' ⟨rfl, k, os, rfl⟩
      exact ⟨rfl, Lib.below_grow _ w (Nat.le_refl _) k os⟩
    · cases h
  · cases h

theorem bl_irr : ∀ x : List UInt8, Op.bytesLess x x = false
  | [] => rfl
  | a :: x => by simp [Op.bytesLess, bl_irr x]
theorem bl_ne {x y : List UInt8} (h : Op.bytesLess x y = true) : (y == x) = false := by
  rw [beq_eq_false_iff_ne]
  rintro rfl
  rw [bl_irr] at h
  cases h
theorem bl_tri : ∀ x y : List UInt8, Op.bytesLess x y = false → Op.bytesLess y x = false → x = y
  | [], [], _, _ => rfl
  | [], _ :: _, h, _ => by simp [Op.bytesLess] at h
  | _ :: _, [], _, h => by simp [Op.bytesLess] at h
  | a :: x, b :: y, h, k => by
    simp only [Op.bytesLess, Bool.or_eq_false_iff, decide_eq_false_iff_not, Bool.and_eq_false_iff, beq_eq_false_iff_ne] at h k
    have hab : a = b := by
      have h1 := UInt8.not_lt.1 h.1
      have h2 := UInt8.not_lt.1 k.1
      exact UInt8.le_antisymm h2 h1
    subst hab
    rw [bl_tri x y (h.2.resolve_left (fun e => e rfl)) (k.2.resolve_left (fun e => e rfl))]
theorem bl_eq {x y : List UInt8} (h : Op.bytesLess x y = false) (k : Op.bytesLess y x = false) : (y == x) = true := by
  rw [bl_tri x y h k]
  simp

def g_strcmp.f (a0 a1 : ByteArray) : Option Int := some (Lib.compareBytes a0.data.toList a1.data.toList)
theorem g_strcmp.calls (a0 a1 : ByteArray) (r : Int) (w : World) (h : g_strcmp.f a0 a1 = some r) :
    Calls Tryd.prog 43 #[.string a0, .string a1] w fun e w' => e = .returned (.int .i64 r) ∧ Drawn0 w w' := by
  unfold g_strcmp.f at h
  injection h with h
  subst h
  refine (Tryd.strings_Compare a0 a1 w).mono ?_
  rintro e w' ⟨rfl, rfl⟩
  exact ⟨rfl, Drawn0.refl _⟩

def g_Join.f (l0 : List ByteArray) (a1 : ByteArray) : Option ByteArray :=
  if (Lib.join (l0.map (·.data.toList)) a1.data.toList).length ≤ 140737488355328 then (if l0.length ≤ 140737488355328 then some ⟨(Lib.join (l0.map (·.data.toList)) a1.data.toList).toArray⟩ else none) else none
theorem g_Join.calls (A0 : Option Addr) (c0 : Nat) (l0 : List ByteArray) (a1 : ByteArray) (r : ByteArray) (w : World) (hr0 : Kd.C Kd.string w A0 l0.length l0) (hc0 : l0.length ≤ c0) (h : g_Join.f l0 a1 = some r) :
    Calls Tryd.prog 38 #[.slice A0 l0.length c0, .string a1] w fun e w' => e = .returned (.string r) ∧ Below w.heap.size w w' := by
  unfold g_Join.f at h
  split at h
  · rename_i hj
    split at h
    · rename_i hl
      injection h with h
      subst h
      cases l0 with
      | nil =>
        refine (Tryd.strings_Join_none A0 c0 a1 w).mono ?_
        rintro e w' ⟨rfl, rfl⟩
        exact ⟨by simp [Lib.join], Below.refl _ _⟩
      | cons x l =>
        obtain ⟨ad, rfl, h0⟩ := Kd.at_string hr0 0 (by omega) (by simp)
        have hsp : ad.spot = none := by
          unfold World.cell? Addr.add at h0
          simp at h0
          cases hh : w.heap[ad.block]? with
          | none => simp [hh] at h0
          | some o =>
            cases o <;> simp [hh] at h0
            exact h0.1
        obtain ⟨b, o, sp⟩ := ad
        simp only at hsp
        subst hsp
        refine (Tryd.strings_Join b o c0 (x :: l) a1 w ?_ (World.block_lt_of_cell? w _ h0) hl hc0 hj).mono ?_
        · intro j y hy
          have hjl : j < (x :: l).length := (List.getElem?_eq_some_iff.1 hy).1
          obtain ⟨ad', he, hcell⟩ := Kd.at_string hr0 (j : Int) (by omega) (by omega)
          cases he
          have hrd : rdOf ByteArray.empty (x :: l) (j : Int) = y := by simp [rdOf, hy]
          rw [hrd] at hcell
          have ha : (⟨b, o, none⟩ : Addr).add (j : Int).toNat = ⟨b, o + j, none⟩ := by
            unfold Addr.add
            split
            · rename_i h
              have : j = 0 := by simpa using h
              subst this
              rfl
            · simp
          rw [ha] at hcell
          exact hcell
        · rintro e w' ⟨rfl, hb⟩
          exact ⟨rfl, hb⟩
    · cases h
  · cases h

end Go.Proofs.YtpkiiconadbmfaaDoor.G
