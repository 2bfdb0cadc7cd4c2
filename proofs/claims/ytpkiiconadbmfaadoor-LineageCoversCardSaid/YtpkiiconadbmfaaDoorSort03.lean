/- Sorting and the tops of names, in plain words. -/
import Derived.Test.YtpkiiconadbmfaaDoorFun03d
import Derived.Lib.SlicesCompact
set_option linter.unusedVariables false
set_option linter.unusedSimpArgs false
namespace Go.Proofs.YtpkiiconadbmfaaDoor.G
open Go.RowKit Go.Lib

/-! ### Compact -/
section
variable {α : Type} [Inhabited α] [DecidableEq α]
theorem mem_compact (d : Array α) (x : α) : ∀ m, x ∈ compactUpTo d m ↔ ∃ j, j < m ∧ d[j]! = x
  | 0 => by simp [compactUpTo]
  | m + 1 => by
    rw [compactUpTo_succ, List.mem_append, mem_compact d x m]
    constructor
    · rintro (⟨j, hj, e⟩ | h)
      · exact ⟨j, Nat.lt_succ_of_lt hj, e⟩
      · split at h
        · exact ⟨m, Nat.lt_succ_self m, (List.mem_singleton.1 h).symm⟩
        · cases h
    · rintro ⟨j, hj, e⟩
      by_cases hjm : j < m
      · exact Or.inl ⟨j, hjm, e⟩
      · have hje : j = m := by omega
        subst hje
        by_cases hk : keeps d j = true
        · rw [if_pos hk]
          exact Or.inr (List.mem_singleton.2 e.symm)
        · left
          have hk0 : j ≠ 0 := fun h0 => hk (by subst h0; simp [keeps])
          have hsame : d[j]! = d[j - 1]! := Classical.byContradiction fun h => hk (keeps_pos h)
          exact ⟨j - 1, by omega, hsame ▸ e⟩
theorem nodup_compact (d : Array α) (le : α → α → Prop) (anti : ∀ x y, le x y → le y x → x = y) (hs : ∀ i j, i ≤ j → j < d.size → le d[i]! d[j]!) : ∀ m, m ≤ d.size → (compactUpTo d m).Nodup
  | 0, _ => by simp [compactUpTo]
  | m + 1, hm => by
    rw [compactUpTo_succ]
    have ih := nodup_compact d le anti hs m (by omega)
    split
    · rename_i hk
      rw [List.nodup_append]
      refine ⟨ih, by simp, ?_⟩
      intro a ha b hb
      rw [List.mem_singleton.1 hb]
      obtain ⟨j, hj, e⟩ := (mem_compact d a m).1 ha
      intro hab
      subst e
      have h1 : le d[m - 1]! d[m]! := hs (m - 1) m (by omega) (by omega)
      have h2 : le d[j]! d[m - 1]! := hs j (m - 1) (by omega) (by omega)
      rw [hab] at h2
      have heq := anti _ _ h1 h2
      unfold keeps at hk
      simp at hk
      rcases hk with h | h
      · omega
      · exact h heq.symm
    · rw [List.append_nil]
      exact ih
end

/-! ### The order of names -/
theorem Kn_le_anti {a b : ByteArray} (h : Kn a b ≤ 0) (k : Kn b a ≤ 0) : a = b := by
  have e := Kn_anti a b
  exact (Kn_zero a b).1 (by omega)
/-- Strings of a size that the machine can hold. -/
abbrev S := { s : ByteArray // Sz s }
instance : Inhabited S := ⟨⟨B [], sz_nil⟩⟩
instance : DecidableEq S := fun a b => if h : a.val.data.toList = b.val.data.toList then isTrue (Subtype.ext (data_eq h)) else isFalse fun e => h (by rw [e])
def cf (x y : S) : Int := Kn x.val y.val
def sle (x y : S) : Bool := !decide (cf y x < 0)
theorem sle_iff (x y : S) : sle x y = true ↔ Kn x.val y.val ≤ 0 := by
  unfold sle cf
  have e := Kn_anti x.val y.val
  simp
  omega
def sorted (l : List S) : List S := l.mergeSort sle
def uniq (l : List S) : List S := compactUpTo (sorted l).toArray (sorted l).length
theorem sle_trans (a b c : S) (h : sle a b = true) (k : sle b c = true) : sle a c = true := by
  rw [sle_iff] at *
  exact Kn_trans h k
theorem sle_total (a b : S) : (sle a b || sle b a) = true := by
  rw [Bool.or_eq_true, sle_iff, sle_iff]
  have e := Kn_anti a.val b.val
  omega
theorem mem_uniq (l : List S) (x : S) : x ∈ uniq l ↔ x ∈ l := by
  unfold uniq
  rw [mem_compact]
  have hp : (sorted l).Perm l := List.mergeSort_perm l sle
  rw [← hp.mem_iff]
  constructor
  · rintro ⟨j, hj, e⟩
    rw [← e]
    have : (sorted l).toArray[j]! = (sorted l)[j] := by simp [hj]
    rw [this]
    exact List.getElem_mem hj
  · intro h
    obtain ⟨j, hj, e⟩ := List.getElem_of_mem h
    refine ⟨j, hj, ?_⟩
    have : (sorted l).toArray[j]! = (sorted l)[j] := by simp [hj]
    rw [this]
    exact e
theorem nodup_uniq (l : List S) : (uniq l).Nodup := by
  unfold uniq
  have hs : (sorted l).Pairwise fun a b => sle a b = true := List.pairwise_mergeSort sle_trans sle_total l
  refine nodup_compact _ (fun x y => sle x y = true) (fun x y h k => Subtype.ext (Kn_le_anti ((sle_iff x y).1 h) ((sle_iff y x).1 k))) ?_ _ (by simp)
  intro i j hij hj
  have hj' : j < (sorted l).length := by simpa using hj
  have hi' : i < (sorted l).length := by omega
  have e1 : (sorted l).toArray[i]! = (sorted l)[i] := by simp [hi']
  have e2 : (sorted l).toArray[j]! = (sorted l)[j] := by simp [hj']
  rw [e1, e2]
  by_cases h : i = j
  · subst h
    rw [sle_iff]
    have := (Kn_zero (sorted l)[i].val (sorted l)[i].val).2 rfl
    omega
  · exact List.pairwise_iff_getElem.1 hs i j hi' hj' (by omega)

/-! ### Tops -/
def topP (l : List ByteArray) (n : ByteArray) : Bool := !(l.any fun o => !(o.toList == n.toList) && Wn n o)
def tops (l : List ByteArray) : List ByteArray := l.filter (topP l)
theorem toList_inj {a b : ByteArray} (h : a.toList = b.toList) : a = b := by
  rw [Lib.toList_data, Lib.toList_data] at h
  exact data_eq h
theorem topP_iff (l : List ByteArray) (n : ByteArray) : topP l n = true ↔ ∀ o ∈ l, Wn n o = true → o = n := by
  unfold topP
  rw [Bool.not_eq_true', List.any_eq_false]
  constructor
  · intro h o ho hw
    apply Classical.byContradiction
    intro hne
    refine h o ho ?_
    rw [Bool.and_eq_true]
    refine ⟨?_, hw⟩
    rw [Bool.not_eq_true', beq_eq_false_iff_ne]
    exact fun e => hne (toList_inj e)
  · intro h o ho hc
    rw [Bool.and_eq_true] at hc
    have := h o ho hc.2
    subst this
    simp at hc
theorem len_lt_of_within {x o : ByteArray} (h : Wn x o = true) (hne : o ≠ x) : (O o).length < (O x).length := by
  obtain ⟨h1, h2, h3⟩ := (Wn_iff _ _).1 h
  rcases Nat.lt_or_ge (O o).length (O x).length with h | h
  · exact h
  · exact absurd (V_eq h2 h1 (List.IsPrefix.eq_of_length_le h3 h)) hne
theorem tops_cover (l : List ByteArray) (n : ByteArray) : ∀ (d : Nat) (x : ByteArray), (O x).length ≤ d → x ∈ l → Wn n x = true → ∃ t ∈ tops l, Wn n t = true := by
  intro d
  induction d with
  | zero =>
    intro x hd hx hw
    refine ⟨x, List.mem_filter.2 ⟨hx, (topP_iff l x).2 fun o ho hwo => ?_⟩, hw⟩
    apply Classical.byContradiction
    intro hne
    have := len_lt_of_within hwo hne
    omega
  | succ d ih =>
    intro x hd hx hw
    by_cases ht : topP l x = true
    · exact ⟨x, List.mem_filter.2 ⟨hx, ht⟩, hw⟩
    · have hex : ∃ o ∈ l, Wn x o = true ∧ o ≠ x := by
        apply Classical.byContradiction
        intro hno
        refine ht ((topP_iff l x).2 fun o ho hwo => Classical.byContradiction fun hne => hno ⟨o, ho, hwo, hne⟩)
      obtain ⟨o, ho, hwo, hne⟩ := hex
      have := len_lt_of_within hwo hne
      exact ih o (by omega) ho (Wn_trans hw hwo)
theorem tops_any (l : List ByteArray) (n : ByteArray) : (tops l).any (Wn n) = l.any (Wn n) := by
  rw [Bool.eq_iff_iff, List.any_eq_true, List.any_eq_true]
  constructor
  · rintro ⟨x, hx, hw⟩
    exact ⟨x, (List.mem_filter.1 hx).1, hw⟩
  · rintro ⟨x, hx, hw⟩
    exact tops_cover l n _ x (Nat.le_refl _) hx hw
theorem tops_apart {l : List ByteArray} {a b : ByteArray} (ha : a ∈ tops l) (hb : b ∈ tops l) (hne : a ≠ b) : Wn a b = false := by
  have h := (topP_iff l a).1 (List.mem_filter.1 ha).2 b (List.mem_filter.1 hb).1
  cases hw : Wn a b with
  | false => rfl
  | true => exact absurd (h hw).symm hne

/-! ### The tops of what Sort answers -/
def toS (l : List ByteArray) (h : ∀ x ∈ l, Sz x) : List S := l.attach.map fun x => ⟨x.1, h x.1 x.2⟩
theorem toS_val (l : List ByteArray) (h : ∀ x ∈ l, Sz x) : (toS l h).map (·.val) = l := by
  unfold toS
  rw [List.map_map]
  exact List.attach_map_subtype_val l
def sortOf (l : List ByteArray) (h : ∀ x ∈ l, Sz x) : List ByteArray := (uniq (toS l h)).map (·.val)
theorem sortOf_mem (l : List ByteArray) (h : ∀ x ∈ l, Sz x) (x : ByteArray) : x ∈ sortOf l h ↔ x ∈ l := by
  unfold sortOf
  rw [List.mem_map]
  constructor
  · rintro ⟨y, hy, rfl⟩
    have := (mem_uniq (toS l h) y).1 hy
    rw [← toS_val l h]
    exact List.mem_map_of_mem this
  · intro hx
    rw [← toS_val l h] at hx
    obtain ⟨y, hy, e⟩ := List.mem_map.1 hx
    exact ⟨y, (mem_uniq (toS l h) y).2 hy, e⟩
theorem sortOf_len (l : List ByteArray) (h : ∀ x ∈ l, Sz x) : (sortOf l h).length ≤ l.length := by
  unfold sortOf uniq compactUpTo sorted
  rw [List.length_map, List.length_map]
  refine Nat.le_trans (List.length_filter_le _ _) ?_
  rw [List.length_range, List.length_mergeSort]
  unfold toS
  rw [List.length_map, List.length_attach]
  exact Nat.le_refl _
theorem sortOf_nodup (l : List ByteArray) (h : ∀ x ∈ l, Sz x) : (sortOf l h).Nodup := by
  unfold sortOf
  have hn := nodup_uniq (toS l h)
  unfold List.Nodup at hn ⊢
  rw [List.pairwise_map]
  exact hn.imp fun hab e => hab (Subtype.ext e)
def topsOf (l : List ByteArray) (h : ∀ x ∈ l, Sz x) : List ByteArray := tops (sortOf l h)
theorem topsOf_mem (l : List ByteArray) (h : ∀ x ∈ l, Sz x) (x : ByteArray) (hx : x ∈ topsOf l h) : x ∈ l := (sortOf_mem l h x).1 (List.mem_filter.1 hx).1
theorem topsOf_len (l : List ByteArray) (h : ∀ x ∈ l, Sz x) : (topsOf l h).length ≤ l.length := Nat.le_trans (List.length_filter_le _ _) (sortOf_len l h)
theorem topsOf_any (l : List ByteArray) (h : ∀ x ∈ l, Sz x) (n : ByteArray) : (topsOf l h).any (Wn n) = l.any (Wn n) := by
  unfold topsOf
  rw [tops_any, Bool.eq_iff_iff, List.any_eq_true, List.any_eq_true]
  exact ⟨fun ⟨x, hx, hw⟩ => ⟨x, (sortOf_mem l h x).1 hx, hw⟩, fun ⟨x, hx, hw⟩ => ⟨x, (sortOf_mem l h x).2 hx, hw⟩⟩
theorem topsOf_apart (l : List ByteArray) (h : ∀ x ∈ l, Sz x) (i j : Nat) (hi : i < (topsOf l h).length) (hj : j < (topsOf l h).length) (hij : i ≠ j) : Wn (topsOf l h)[i] (topsOf l h)[j] = false := by
  have hn : (topsOf l h).Nodup := (sortOf_nodup l h).filter _
  refine tops_apart (List.getElem_mem hi) (List.getElem_mem hj) ?_
  intro e
  rcases Nat.lt_or_gt_of_ne hij with hlt | hlt
  · exact List.pairwise_iff_getElem.1 hn i j hi hj hlt e
  · exact List.pairwise_iff_getElem.1 hn j i hj hi hlt e.symm
end Go.Proofs.YtpkiiconadbmfaaDoor.G
