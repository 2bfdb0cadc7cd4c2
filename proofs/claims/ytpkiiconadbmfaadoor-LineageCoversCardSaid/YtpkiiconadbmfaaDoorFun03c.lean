/- What the printed functions of layer 3 answer, in plain words: common beginnings, orders of lists. -/
import Derived.Test.YtpkiiconadbmfaaDoorFun03b
import Derived.Test.YtpkiiconadbmfaaDoorOrd03
set_option linter.unusedVariables false
set_option linter.unusedSimpArgs false
namespace Go.Proofs.YtpkiiconadbmfaaDoor.G
open Go.RowKit Go.Proofs.YtpkiiconadbmfaaDoorW.PrintWords Go.Proofs.YtpkiiconadbmfaaDoorW.PrintLast Go.Proofs.YtpkiiconadbmfaaDoorW.PrintMore Go.Proofs.YtpkiiconadbmfaaDoor.PA

theorem common_loop (a b : List Int) (ha : a.length ≤ 1000000) : ∀ (d i : Nat), i ≤ cm a b → cm a b - i = d → Ev (fun k => lineage_common.l0 k a b (i : Int)) ((cm a b : Nat) : Int) := by
  intro d
  have hle := cm_le a b
  induction d with
  | zero =>
    intro i hi hd
    have hie : cm a b = i := by omega
    refine Ev.step (fun k => by rw [lineage_common.l0]) ?_
    rw [hie]
    by_cases h1 : i < a.length
    · refine Ev.pos (by omega) ?_
      by_cases h2 : i < b.length
      · refine Ev.pos (by omega) (Ev.pos (by omega) (Ev.neg ?_ (Ev.now _)))
        rw [rd_nat a i h1, rd_nat b i h2]
        intro e
        have hdr := cm_drop a b i (by omega)
        rw [List.drop_eq_getElem_cons h1, List.drop_eq_getElem_cons h2, cm_cons, if_pos e] at hdr
        omega
      · exact Ev.neg (by omega) (Ev.now _)
    · exact Ev.neg (by omega) (Ev.now _)
  | succ d ih =>
    intro i hi hd
    have h1 : i < a.length := by omega
    have h2 : i < b.length := by omega
    have hdr := cm_drop a b i hi
    rw [List.drop_eq_getElem_cons h1, List.drop_eq_getElem_cons h2] at hdr
    have heq : a[i] = b[i] := by
      apply Classical.byContradiction
      intro hne
      have : cm (a[i] :: a.drop (i + 1)) (b[i] :: b.drop (i + 1)) = 0 := by rw [cm_cons, if_neg hne]
      omega
    refine Ev.step (fun k => by rw [lineage_common.l0]) (Ev.pos (by omega) (Ev.pos (by omega) (Ev.pos (by omega) (Ev.pos ?_ ?_))))
    · rw [rd_nat a i h1, rd_nat b i h2]
      exact heq
    · rw [w64 ((i : Int) + 1) (by omega) (by omega)]
      exact ih (i + 1) (by omega) (by omega)

theorem common_ev (a b : List Int) (ha : a.length ≤ 1000000) : Ev (fun k => lineage_common.f k a b) ((cm a b : Nat) : Int) :=
  Ev.congr (fun k => by rw [lineage_common.f]; rfl) (common_loop a b ha (cm a b) 0 (by omega) (by omega))

theorem cmp_ev (x y : Int) : cmp_Compare_int.f x y = some (if x < y then -1 else if x > y then 1 else 0) := by
  unfold cmp_Compare_int.f cmp_isNaN_int.f
  simp
  split
  · rfl
  · split <;> rfl

theorem scompare_loop (a b : List Int) (ha : a.length ≤ 1000000) : ∀ (d i : Nat), i ≤ a.length → i ≤ b.length → a.length - i = d →
    Ev (fun k => slices_Compare_int_int.l0 k a b a (a.length : Int) (i : Int)) (cmpL (a.drop i) (b.drop i)) := by
  intro d
  induction d with
  | zero =>
    intro i hi hb hd
    obtain rfl : i = a.length := by omega
    refine Ev.step (fun k => by rw [slices_Compare_int_int.l0]) (Ev.neg (by omega) ?_)
    rw [List.drop_length]
    by_cases h : a.length < b.length
    · refine Ev.pos (by omega) (Ev.val (Ev.now _) ?_)
      rw [List.drop_eq_getElem_cons h]
      rfl
    · refine Ev.neg (by omega) (Ev.val (Ev.now _) ?_)
      rw [List.drop_of_length_le (by omega)]
      rfl
  | succ d ih =>
    intro i hi hb hd
    have h1 : i < a.length := by omega
    refine Ev.step (fun k => by rw [slices_Compare_int_int.l0]) (Ev.pos (by omega) (Ev.pos (by omega) (Ev.pos (by omega) ?_)))
    rw [List.drop_eq_getElem_cons h1]
    by_cases h2 : i < b.length
    · refine Ev.neg (by omega) (Ev.pos (by omega) (Ev.bind (Ev.const (cmp_ev _ _)) ?_))
      rw [List.drop_eq_getElem_cons h2, rd_nat a i h1, rd_nat b i h2]
      unfold cmpL
      by_cases hlt : a[i] < b[i]
      · rw [if_pos hlt]
        refine Ev.neg (by decide) (Ev.val (Ev.now _) ?_)
        rw [if_pos hlt]
      · by_cases hgt : a[i] > b[i]
        · rw [if_neg hlt, if_pos hgt]
          refine Ev.neg (by decide) (Ev.val (Ev.now _) ?_)
          rw [if_neg hlt, if_pos hgt]
        · rw [if_neg hlt, if_neg hgt]
          refine Ev.pos rfl ?_
          rw [if_neg hlt, if_neg hgt, w64 ((i : Int) + 1) (by omega) (by omega)]
          exact ih (i + 1) (by omega) (by omega) (by omega)
    · refine Ev.pos (by omega) (Ev.val (Ev.now _) ?_)
      rw [List.drop_of_length_le (l := b) (by omega)]
      rfl

theorem scompare_ev (a b : List Int) (ha : a.length ≤ 1000000) : Ev (fun k => slices_Compare_int_int.f k a b) (cmpL a b) := by
  refine Ev.congr (fun k => by rw [slices_Compare_int_int.f]) ?_
  have := scompare_loop a b ha a.length 0 (by omega) (by omega) (by omega)
  simpa using this

theorem same_loop (a b : List Int) (ha : a.length ≤ 1000000) (hab : a = b) : ∀ (d i : Nat), i ≤ a.length → a.length - i = d → Ev (fun k => replevinlaw03_same.l0 k a b (i : Int)) true := by
  subst hab
  intro d
  induction d with
  | zero =>
    intro i hi hd
    exact Ev.step (fun k => by rw [replevinlaw03_same.l0]) (Ev.neg (by omega) (Ev.now _))
  | succ d ih =>
    intro i hi hd
    refine Ev.step (fun k => by rw [replevinlaw03_same.l0]) (Ev.pos (by omega) (Ev.pos (by omega) (Ev.pos (by omega) (Ev.pos rfl ?_))))
    rw [w64 ((i : Int) + 1) (by omega) (by omega)]
    exact ih (i + 1) (by omega) (by omega)
theorem same_ev (a : List Int) (ha : a.length ≤ 1000000) : Ev (fun k => replevinlaw03_same.f k a a) true := by
  refine Ev.congr (fun k => by rw [replevinlaw03_same.f]) ?_
  exact Ev.pos rfl (same_loop a a ha rfl a.length 0 (by omega) (by omega))

end Go.Proofs.YtpkiiconadbmfaaDoor.G
