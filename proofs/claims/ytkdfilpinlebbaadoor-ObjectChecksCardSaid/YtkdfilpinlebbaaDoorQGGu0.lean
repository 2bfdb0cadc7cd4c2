/- This session's texts for the claim, joined and shortened by this session's own program pack.py: what the claim does not need is struck. Part: GGu0. -/
import Derived.Test.YtkdfilpinlebbaaDoorQSpec04
import Derived.Lib.IndexBytes
import Derived.Lib.IndexAny
set_option linter.unusedVariables false
set_option linter.unusedSimpArgs false
namespace Go.Proofs.YtkdfilpinlebbaaDoor.G
open Go
theorem upto_cons (p : UInt8 → Bool) (c : UInt8) (r : List UInt8) : upto p (c :: r) = if p c then [] else c :: upto p r := by
  unfold upto
  rw [List.takeWhile_cons]
  cases p c <;> rfl
theorem past_cons (p : UInt8 → Bool) (c : UInt8) (r : List UInt8) : past p (c :: r) = if p c then r else past p r := by
  unfold past
  rw [List.dropWhile_cons]
  cases p c <;> rfl
theorem upto_take (p : UInt8 → Bool) : ∀ s : List UInt8, s.take (upto p s).length = upto p s
  | [] => rfl
  | c :: r => by
    rw [upto_cons]
    cases p c
    · simp [upto_take p r]
    · simp
theorem past_drop (p : UInt8 → Bool) : ∀ s : List UInt8, s.any p = true → s.drop ((upto p s).length + 1) = past p s
  | [], h => by cases h
  | c :: r, h => by
    rw [upto_cons, past_cons]
    cases hc : p c
    · have h' : r.any p = true := by simpa [hc] using h
      simp [past_drop p r h']
    · simp
theorem past_none (p : UInt8 → Bool) : ∀ s : List UInt8, s.any p = false → past p s = []
  | [], _ => rfl
  | c :: r, h => by
    rw [List.any_cons, Bool.or_eq_false_iff] at h
    rw [past_cons, h.1]
    exact past_none p r h.2
theorem upto_none (p : UInt8 → Bool) : ∀ s : List UInt8, s.any p = false → upto p s = s
  | [], _ => rfl
  | c :: r, h => by
    rw [List.any_cons, Bool.or_eq_false_iff] at h
    rw [upto_cons, h.1, upto_none p r h.2]
    rfl
theorem upto_len (p : UInt8 → Bool) (s : List UInt8) : (upto p s).length ≤ s.length := by
  rw [← upto_take p s, List.length_take]
  omega
theorem past_len (p : UInt8 → Bool) (s : List UInt8) : (past p s).length ≤ s.length := by
  unfold past
  rw [List.length_tail]
  have := (List.dropWhile_suffix (l := s) (fun c => !p c)).length_le
  omega
theorem upto_lt (p : UInt8 → Bool) : ∀ s : List UInt8, s.any p = true → (upto p s).length < s.length
  | [], h => by cases h
  | c :: r, h => by
    rw [upto_cons]
    cases hc : p c
    · have h' : r.any p = true := by simpa [hc] using h
      simp [upto_lt p r h']
    · simp
theorem indexByte_upto : ∀ s : List UInt8, Lib.indexByte s 32 = if s.any sp then ((upto sp s).length : Int) else -1
  | [] => rfl
  | c :: r => by
    have ih := indexByte_upto r
    rw [Lib.indexByte, ih, upto_cons, List.any_cons]
    cases hc : sp c
    · have h1 : (c == 32) = false := hc
      rw [h1, Bool.false_or]
      cases r.any sp
      · rfl
      · have : ¬ (((upto sp r).length : Int) == -1) = true := by rw [beq_iff_eq]; omega
        simp only [if_true, Bool.false_eq_true, if_false, this]
        simp
    · have h1 : (c == 32) = true := hc
      rw [h1]
      simp
theorem indexAny_upto : ∀ s : List UInt8, Lib.indexAny s [32, 35] = if s.any sh then ((upto sh s).length : Int) else -1
  | [] => rfl
  | c :: r => by
    have ih := indexAny_upto r
    have hcon : ([32, 35] : List UInt8).contains c = sh c := by
      unfold sh
      rw [List.contains_cons, List.contains_cons]
      simp
    rw [Lib.indexAny, ih, upto_cons, List.any_cons, hcon]
    cases hc : sh c
    · rw [Bool.false_or]
      cases r.any sh
      · rfl
      · have : ¬ (((upto sh r).length : Int) == -1) = true := by rw [beq_iff_eq]; omega
        simp only [if_true, Bool.false_eq_true, if_false, this]
        simp
    · simp
theorem cut32 (s : List UInt8) : (Lib.cut s [32]).1 = upto sp s ∧ (Lib.cut s [32]).2.1 = past sp s := by
  unfold Lib.cut
  rw [Lib.index_one, indexByte_upto]
  cases h : s.any sp
  · rw [if_neg (show ¬ (false = true) by decide), if_neg (by decide), upto_none sp s h, past_none sp s h]
    exact ⟨rfl, rfl⟩
  · rw [if_pos rfl, if_pos (by omega)]
    simp only [Int.toNat_natCast, List.length_cons, List.length_nil, Nat.zero_add]
    exact ⟨upto_take sp s, past_drop sp s h⟩
def Asc (s : List UInt8) : Prop := ∀ c ∈ s, c.toNat < 128
theorem asc_past {s : List UInt8} (h : Asc s) (p : UInt8 → Bool) : Asc (past p s) := fun c hc => h c (by
  have h1 : (s.dropWhile fun c => !p c) <:+ s := List.dropWhile_suffix _
  exact h1.subset (List.mem_of_mem_tail hc))
end Go.Proofs.YtkdfilpinlebbaaDoor.G
