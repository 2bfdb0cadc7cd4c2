/- Lists of whole numbers: how long their common beginning is, and their order. Plain laws. -/
import Derived.Test.YtpkiiconadbmfaaDoorMath03
import Derived.Lib.Bytealg
set_option linter.unusedVariables false
set_option linter.unusedSimpArgs false
namespace Go.Proofs.YtpkiiconadbmfaaDoor.G

/-! ### Common beginnings, orders of lists -/
/-- How many numbers two lists have in common at their beginnings. -/
def cm : List Int → List Int → Nat
  | x :: a, y :: b => if x = y then cm a b + 1 else 0
  | _, _ => 0
/-- The order of lists. -/
def cmpL : List Int → List Int → Int
  | [], [] => 0
  | [], _ :: _ => -1
  | _ :: _, [] => 1
  | x :: a, y :: b => if x < y then -1 else if x > y then 1 else cmpL a b

theorem cm_cons (x y : Int) (a b : List Int) : cm (x :: a) (y :: b) = if x = y then cm a b + 1 else 0 := rfl
theorem cm_le : ∀ a b : List Int, cm a b ≤ a.length ∧ cm a b ≤ b.length
  | [], _ => by simp [cm]
  | _ :: _, [] => by simp [cm]
  | x :: a, y :: b => by
    have := cm_le a b
    unfold cm
    split <;> simp <;> omega
theorem cm_comm : ∀ a b : List Int, cm a b = cm b a
  | [], [] => rfl
  | [], _ :: _ => rfl
  | _ :: _, [] => rfl
  | x :: a, y :: b => by
    unfold cm
    rw [cm_comm a b]
    by_cases h : x = y
    · rw [if_pos h, if_pos h.symm]
    · rw [if_neg h, if_neg (fun e => h e.symm)]
theorem cm_prefix : ∀ a b : List Int, cm a b = b.length ↔ b <+: a
  | [], [] => by simp [cm]
  | _ :: _, [] => by simp [cm]
  | [], y :: b => by simp [cm]
  | x :: a, y :: b => by
    unfold cm
    by_cases h : x = y
    · rw [if_pos h]
      subst h
      have := cm_prefix a b
      simp [this]
    · rw [if_neg h]
      simp
      intro e
      exact absurd e.symm h
theorem cm_take : ∀ a b : List Int, a.take (cm a b) = b.take (cm a b)
  | [], _ => by simp [cm]
  | _ :: _, [] => by simp [cm]
  | x :: a, y :: b => by
    unfold cm
    by_cases h : x = y
    · rw [if_pos h]
      subst h
      simp [cm_take a b]
    · rw [if_neg h]
      simp
theorem cm_greatest : ∀ (a b c : List Int), c <+: a → c <+: b → c <+: a.take (cm a b)
  | a, b, [], _, _ => by simp
  | [], b, z :: c, h, _ => by simp at h
  | x :: a, [], z :: c, _, h => by simp at h
  | x :: a, y :: b, z :: c, h, k => by
    obtain ⟨h1, h2⟩ := List.cons_prefix_cons.1 h
    obtain ⟨k1, k2⟩ := List.cons_prefix_cons.1 k
    subst h1
    subst k1
    unfold cm
    rw [if_pos rfl, List.take_succ_cons]
    exact List.cons_prefix_cons.2 ⟨rfl, cm_greatest a b c h2 k2⟩
theorem cm_drop (a b : List Int) (i : Nat) (h : i ≤ cm a b) : cm a b = i + cm (a.drop i) (b.drop i) := by
  induction i generalizing a b with
  | zero => simp
  | succ i ih =>
    cases a with
    | nil => simp [cm] at h
    | cons x a =>
      cases b with
      | nil => simp [cm] at h
      | cons y b =>
        rw [List.drop_succ_cons, List.drop_succ_cons]
        rw [cm_cons] at h ⊢
        by_cases e : x = y
        · rw [if_pos e] at h ⊢
          rw [ih a b (Nat.le_of_succ_le_succ h)]
          omega
        · rw [if_neg e] at h
          exact absurd h (Nat.not_succ_le_zero _)

theorem cm_self : ∀ a : List Int, cm a a = a.length
  | [] => rfl
  | x :: a => by rw [cm_cons, if_pos rfl, cm_self a]; rfl
theorem cmpL_cons (x y : Int) (a b : List Int) : cmpL (x :: a) (y :: b) = if x < y then -1 else if x > y then 1 else cmpL a b := rfl
theorem cmpL_range : ∀ a b : List Int, cmpL a b = -1 ∨ cmpL a b = 0 ∨ cmpL a b = 1
  | [], [] => Or.inr (Or.inl rfl)
  | [], _ :: _ => Or.inl rfl
  | _ :: _, [] => Or.inr (Or.inr rfl)
  | x :: a, y :: b => by
    rw [cmpL_cons]
    split
    · exact Or.inl rfl
    · split
      · exact Or.inr (Or.inr rfl)
      · exact cmpL_range a b
theorem cmpL_anti : ∀ a b : List Int, cmpL b a = -cmpL a b
  | [], [] => rfl
  | [], _ :: _ => rfl
  | _ :: _, [] => rfl
  | x :: a, y :: b => by
    have ih := cmpL_anti a b
    rw [cmpL_cons, cmpL_cons]
    rcases Int.lt_trichotomy x y with h | h | h
    · rw [if_neg (by omega), if_pos (by omega), if_pos h]
      rfl
    · rw [if_neg (by omega), if_neg (by omega), if_neg (by omega), if_neg (by omega), ih]
    · rw [if_pos h, if_neg (by omega), if_pos h]
theorem cmpL_zero : ∀ a b : List Int, cmpL a b = 0 ↔ a = b
  | [], [] => by simp [cmpL]
  | [], _ :: _ => by simp [cmpL]
  | _ :: _, [] => by simp [cmpL]
  | x :: a, y :: b => by
    have ih := cmpL_zero a b
    rw [cmpL_cons]
    rcases Int.lt_trichotomy x y with h | h | h
    · rw [if_pos h]
      constructor
      · intro g
        exact absurd g (by decide)
      · intro g
        injection g with g1 g2
        omega
    · subst h
      rw [if_neg (by omega), if_neg (by omega), ih]
      simp
    · rw [if_neg (by omega), if_pos h]
      constructor
      · intro g
        exact absurd g (by decide)
      · intro g
        injection g with g1 g2
        omega
theorem cmpL_trans : ∀ a b c : List Int, cmpL a b ≤ 0 → cmpL b c ≤ 0 → cmpL a c ≤ 0
  | [], _, [], _, _ => by simp [cmpL]
  | [], _, _ :: _, _, _ => by simp [cmpL]
  | x :: a, [], c, h, _ => by simp [cmpL] at h
  | x :: a, y :: b, [], _, h => by simp [cmpL] at h
  | x :: a, y :: b, z :: c, h, k => by
    have ih := cmpL_trans a b c
    rw [cmpL_cons] at h k ⊢
    split at h <;> split at k <;> (try split at h) <;> (try split at k) <;> first
      | (exact absurd h (by decide))
      | (exact absurd k (by decide))
      | (rw [if_pos (by omega)]; decide)
      | (rw [if_neg (by omega), if_neg (by omega)]; exact ih h k)
theorem cmpL_prefix : ∀ a b : List Int, a <+: b → cmpL a b ≤ 0
  | [], [], _ => by simp [cmpL]
  | [], _ :: _, _ => by simp [cmpL]
  | x :: a, [], h => by simp at h
  | x :: a, y :: b, h => by
    obtain ⟨h1, h2⟩ := List.cons_prefix_cons.1 h
    subst h1
    rw [cmpL_cons, if_neg (by omega), if_neg (by omega)]
    exact cmpL_prefix a b h2
/-- What lies between two lists begins with their common beginning. -/
theorem cmpL_between : ∀ a b c : List Int, cmpL a b ≤ 0 → cmpL b c ≤ 0 → a.take (cm a c) <+: b
  | [], _, _, _, _ => by simp
  | x :: a, _, [], _, _ => by simp [cm]
  | x :: a, [], z :: c, h, _ => by simp [cmpL] at h
  | x :: a, y :: b, z :: c, h, k => by
    have ih := cmpL_between a b c
    rw [cm_cons]
    by_cases e : x = z
    · subst e
      rw [if_pos rfl, List.take_succ_cons]
      rw [cmpL_cons] at h k
      have hxy : ¬ x > y := by
        intro g
        rw [if_neg (by omega), if_pos g] at h
        exact absurd h (by decide)
      have hyx : ¬ y > x := by
        intro g
        rw [if_neg (by omega), if_pos g] at k
        exact absurd k (by decide)
      obtain rfl : x = y := by omega
      rw [if_neg (by omega), if_neg (by omega)] at h k
      exact List.cons_prefix_cons.2 ⟨rfl, ih h k⟩
    · rw [if_neg e]
      simp
/-- The order of the library's bytes is the order of the bytes' numbers. -/
theorem compareBytes_cmpL : ∀ a b : List UInt8, Lib.compareBytes a b = cmpL (a.map fun c => (c.toNat : Int)) (b.map fun c => (c.toNat : Int))
  | [], [] => rfl
  | [], _ :: _ => rfl
  | _ :: _, [] => rfl
  | x :: a, y :: b => by
    rw [List.map_cons, List.map_cons, cmpL_cons, ← compareBytes_cmpL a b]
    simp only [Lib.compareBytes, UInt8.lt_iff_toNat_lt, Int.ofNat_lt, gt_iff_lt]
theorem bytesLess_cmpL : ∀ a b : List UInt8, Op.bytesLess a b = true ↔ cmpL (a.map fun c => (c.toNat : Int)) (b.map fun c => (c.toNat : Int)) = -1
  | [], [] => by simp [Op.bytesLess, cmpL]
  | [], _ :: _ => by simp [Op.bytesLess, cmpL]
  | _ :: _, [] => by simp [Op.bytesLess, cmpL]
  | x :: a, y :: b => by
    have ih := bytesLess_cmpL a b
    rw [List.map_cons, List.map_cons, cmpL_cons]
    rcases Nat.lt_trichotomy x.toNat y.toNat with h | h | h
    · rw [if_pos (by omega)]
      have : x < y := UInt8.lt_iff_toNat_lt.2 h
      simp [Op.bytesLess, this]
    · rw [if_neg (by omega), if_neg (by omega), ← ih]
      have : x = y := UInt8.toNat_inj.1 h
      subst this
      have hx : ¬ x < x := by rw [UInt8.lt_iff_toNat_lt]; omega
      simp [Op.bytesLess, hx]
    · rw [if_neg (by omega), if_pos (by omega)]
      have h1 : ¬ x < y := by rw [UInt8.lt_iff_toNat_lt]; omega
      have h2 : y < x := UInt8.lt_iff_toNat_lt.2 h
      have h3 : x ≠ y := by
        intro e
        subst e
        omega
      simp [Op.bytesLess, h1, h3]
theorem map_inj (a b : List UInt8) : (a.map fun c => (c.toNat : Int)) = (b.map fun c => (c.toNat : Int)) ↔ a = b := by
  constructor
  · intro h
    induction a generalizing b with
    | nil => cases b with
      | nil => rfl
      | cons y b => simp at h
    | cons x a ih => cases b with
      | nil => simp at h
      | cons y b =>
        rw [List.map_cons, List.map_cons] at h
        injection h with h1 h2
        rw [UInt8.toNat_inj.1 (Int.ofNat.inj h1), ih b h2]
  · intro h
    rw [h]

end Go.Proofs.YtpkiiconadbmfaaDoor.G
