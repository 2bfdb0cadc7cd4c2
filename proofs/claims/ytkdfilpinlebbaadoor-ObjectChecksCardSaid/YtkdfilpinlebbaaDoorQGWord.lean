/- This session's texts for the claim, joined and shortened by this session's own program pack.py: what the claim does not need is struck. Part: GWord. -/
import Derived.Test.YtkdfilpinlebbaaDoorQSpec04
import Derived.Test.YtkdfilpinlebbaaDoorQShelf
import Derived.WalkKit
import Derived.Below
import Derived.Lib.DecodeN
set_option linter.unusedVariables false
set_option linter.unusedSimpArgs false
namespace Go.Proofs.YtkdfilpinlebbaaDoor.G
open Go.RowKit Go.Shelf
theorem get_bang (s : ByteArray) (i : Nat) (h : i < s.size) : s.get! i = s[i] := by
  show s.data[i]! = s.data[i]
  rw [getElem!_pos]
theorem dec_lo (s : ByteArray) (pos : Nat) (h : pos < s.size) (hb : (s[pos]'h).toNat < 128) : Utf8.decode s pos = ((s[pos]'h).toNat, 1) := by
  rw [Lib.decode_at, get_bang s pos h]
  unfold Lib.decodeN
  rw [if_pos hb]
theorem dec_hi (s : ByteArray) (pos : Nat) (h : pos < s.size) (hb : ¬ (s[pos]'h).toNat < 128) : 128 ≤ (Utf8.decode s pos).1 := by
  rw [Lib.decode_at, get_bang s pos h]
  unfold Lib.decodeN
  rw [if_neg hb]
  repeat' split
  all_goals (simp only; omega)
def oddR (r : Nat) : Bool := decide (r ≤ 32) || decide (126 < r) || r == 47
theorem odd_calls (r : Nat) (hr : r ≤ 1114111) (W : World) : Calls Tryd.prog 47 (#[.int .i32 (r : Int)] ++ #[]) W fun e w' => e = .returned (.bool (oddR r)) ∧ w' = W := by
  by_cases h1 : r ≤ 32
  · have e : oddR r = true := by simp [oddR, h1]
    rw [e]
    have h1' : (r : Int) ≤ 32 := by omega
    go_enter Tryd.func47, Tryd.ntmps47
    go_wp2
    go_ret
    exact ⟨rfl, rfl⟩
  · by_cases h2 : 126 < r
    · have e : oddR r = true := by simp [oddR, h2]
      rw [e]
      have h1' : ¬ (r : Int) ≤ 32 := by omega
      have h2' : (126 : Int) < (r : Int) := by omega
      go_enter Tryd.func47, Tryd.ntmps47
      go_wp2
      go_ret
      exact ⟨rfl, rfl⟩
    · have h1' : ¬ (r : Int) ≤ 32 := by omega
      have h2' : ¬ (126 : Int) < (r : Int) := by omega
      by_cases h3 : r = 47
      · subst h3
        go_enter Tryd.func47, Tryd.ntmps47
        go_wp2
        go_ret
        exact ⟨rfl, rfl⟩
      · have e : oddR r = false := by simp [oddR, h1, h2, h3]
        rw [e]
        have h3' : ((r : Int) == 47) = false := beq_eq_false_iff_ne.2 (by omega)
        go_enter Tryd.func47, Tryd.ntmps47
        go_wp2
        go_ret
        exact ⟨rfl, rfl⟩
def goodC (c : UInt8) : Bool := decide (33 ≤ c.toNat) && decide (c.toNat ≤ 126) && c.toNat != 47
theorem goodC_lo {c : UInt8} (h : goodC c = true) : c.toNat < 128 ∧ oddR c.toNat = false := by
  unfold goodC at h
  unfold oddR
  simp only [Bool.and_eq_true, decide_eq_true_eq, bne_iff_ne] at h
  refine ⟨by omega, ?_⟩
  simp only [Bool.or_eq_false_iff, decide_eq_false_iff_not, beq_eq_false_iff_ne]
  exact ⟨⟨by omega, by omega⟩, h.2⟩
theorem goodC_not {c : UInt8} (h : goodC c = false) (hl : c.toNat < 128) : oddR c.toNat = true := by
  unfold goodC at h
  unfold oddR
  simp only [Bool.and_eq_false_iff, decide_eq_false_iff_not, bne_eq_false_iff_eq] at h
  simp only [Bool.or_eq_true, decide_eq_true_eq, beq_iff_eq]
  omega
theorem idx_word (s : ByteArray) : ∀ (d pos : Nat), s.size - pos = d → pos ≤ s.size → decide (0 ≤ Lib.idxFuncFrom oddR true s d pos) = (s.data.toList.drop pos).any (fun c => !goodC c) := by
  intro d
  induction d with
  | zero =>
    intro pos hd hp
    obtain rfl : pos = s.size := by omega
    rw [List.drop_of_length_le (by simp)]
    rfl
  | succ d ih =>
    intro pos hd hp
    have hlt : pos < s.size := by omega
    have hl : pos < s.data.toList.length := by simpa using hlt
    have hx : s.data.toList[pos] = s[pos] := rfl
    rw [List.drop_eq_getElem_cons hl, List.any_cons, hx]
    unfold Lib.idxFuncFrom
    rw [if_pos hlt]
    by_cases hb : (s[pos]'hlt).toNat < 128
    · rw [dec_lo s pos hlt hb]
      cases hg : goodC s[pos] with
      | true =>
        rw [(goodC_lo hg).2, if_neg (by decide), ih (pos + 1) (by omega) (by omega)]
        rfl
      | false =>
        rw [goodC_not hg hb, if_pos rfl]
        simp
    · have h1 := dec_hi s pos hlt hb
      have h2 : oddR (Utf8.decode s pos).1 = true := by
        unfold oddR
        simp only [Bool.or_eq_true, decide_eq_true_eq]
        omega
      have h3 : goodC s[pos] = false := by
        cases hg : goodC s[pos] with
        | false => rfl
        | true => exact absurd (goodC_lo hg).1 hb
      rw [h2, if_pos rfl, h3]
      simp
theorem idx_word0 (s : ByteArray) : decide (0 ≤ Lib.idxFunc oddR true s) = s.data.toList.any (fun c => !goodC c) := by
  have := idx_word s s.size 0 (by omega) (by omega)
  rw [List.drop_zero] at this
  exact this
theorem eg47 : ∀ args w, (callFunc 47 args).run Tryd.prog w = .ok (.enter 47 args) w := enters_of Tryd.func47 (by kernel_rfl) rfl
def g_Word.f (a0 : ByteArray) : Option Bool := some (wordL a0.data.toList)
theorem g_Word.calls (a0 : ByteArray) (r : Bool) (w : World) (h : g_Word.f a0 = some r) :
    Calls Tryd.prog 21 #[.string a0] w fun e w' => e = .returned (.bool r) ∧ Below w.heap.size w w' := by
  unfold g_Word.f at h
  injection h with h
  subst h
  have hsz : a0.data.toList.length = a0.size := by simp
  by_cases h0 : a0.size = 0
  · have e : wordL a0.data.toList = false := by
      unfold wordL
      rw [hsz, h0]
      rfl
    rw [e]
    have hnil : a0.data.toList = [] := List.length_eq_zero_iff.1 (by rw [hsz]; exact h0)
    have hem : (a0.toList == ([] : List UInt8)) = true := by rw [Lib.toList_data, hnil]; rfl
    have hem2 : a0.toList.isEmpty = true := by rw [Lib.toList_data, hnil]; rfl
    clear hsz hnil
    go_enter Tryd.func21, Tryd.ntmps21
    go_wp2
    go_ret
    exact ⟨rfl, Below.refl _ _⟩
  · have hnil : a0.data.toList ≠ [] := fun h => h0 (by rw [← hsz, h]; rfl)
    have hem : (a0.toList == ([] : List UInt8)) = false := by rw [Lib.toList_data]; exact beq_eq_false_iff_ne.2 hnil
    have hem2 : a0.toList.isEmpty = false := by
      rw [Lib.toList_data]
      simpa using hnil
    by_cases h1 : a0.size ≤ 32
    · have hcall := Tryd.strings_ContainsFunc_runes 47 #[] eg47 oddR a0 w (fun W x hx hb => (odd_calls x hx W).mono fun e w' ⟨he, hw⟩ => ⟨he, 0, hw⟩)
      rw [idx_word0] at hcall
      have e : wordL a0.data.toList = !(a0.data.toList.any fun c => !goodC c) := by
        unfold wordL
        rw [hsz]
        have c1 : decide (1 ≤ a0.size) = true := decide_eq_true (by omega)
        have c2 : decide (a0.size ≤ 32) = true := decide_eq_true h1
        rw [c1, c2, Bool.true_and, Bool.true_and, List.not_any_eq_all_not]
        simp [goodC]
      rw [e]
      have h1' : (a0.size : Int) ≤ 32 := by omega
      cases hq : (a0.data.toList.any fun c => !goodC c) <;> rw [hq] at hcall <;> clear hsz hnil hq e
      · go_enter Tryd.func21, Tryd.ntmps21
        go_wp2_with (go_at_call 48; refine hcall.mono ?_; rintro e w' ⟨rfl, hb⟩)
        go_ret
        exact ⟨rfl, hb⟩
      · go_enter Tryd.func21, Tryd.ntmps21
        go_wp2_with (go_at_call 48; refine hcall.mono ?_; rintro e w' ⟨rfl, hb⟩)
        go_ret
        exact ⟨rfl, hb⟩
    · have e : wordL a0.data.toList = false := by
        unfold wordL
        rw [hsz]
        simp [h1]
      rw [e]
      have h1' : ¬ (a0.size : Int) ≤ 32 := by omega
      clear hsz hnil
      go_enter Tryd.func21, Tryd.ntmps21
      go_wp2
      go_ret
      exact ⟨rfl, Below.refl _ _⟩
end Go.Proofs.YtkdfilpinlebbaaDoor.G
