/- The law of layer 3 in plain words: Compares. -/
import Derived.Test.YtpkiiconadbmfaaDoorFun03d
import Derived.Test.YtpkiiconadbmfaaDoorPA8
set_option linter.unusedVariables false
set_option linter.unusedSimpArgs false
namespace Go.Proofs.YtpkiiconadbmfaaDoor.G
open Go.RowKit Go.Proofs.YtpkiiconadbmfaaDoorW.PrintWords Go.Proofs.YtpkiiconadbmfaaDoorW.PrintLast Go.Proofs.YtpkiiconadbmfaaDoorW.PrintMore Go.Proofs.YtpkiiconadbmfaaDoor.PA

theorem rcompare_loop (a b : List Int) (ha : a.length ≤ 1000000) : ∀ (d i : Nat), i ≤ a.length → i ≤ b.length → a.length - i = d →
    Ev (fun k => replevinref03_Compare.l0 k a b (i : Int)) (cmpL (a.drop i) (b.drop i)) := by
  intro d
  induction d with
  | zero =>
    intro i hi hb hd
    obtain rfl : i = a.length := by omega
    refine Ev.step (fun k => by rw [replevinref03_Compare.l0]) (Ev.neg (by omega) (Ev.step (fun k => by rw [replevinref03_Compare.j2]) (Ev.neg (by decide) ?_)))
    rw [List.drop_length]
    by_cases h : a.length < b.length
    · refine Ev.pos (by omega) (Ev.val (Ev.now _) ?_)
      rw [List.drop_eq_getElem_cons h]
      rfl
    · refine Ev.neg (by omega) (Ev.neg (by omega) (Ev.val (Ev.now _) ?_))
      rw [List.drop_of_length_le (by omega)]
      rfl
  | succ d ih =>
    intro i hi hb hd
    have h1 : i < a.length := by omega
    refine Ev.step (fun k => by rw [replevinref03_Compare.l0]) (Ev.pos (by omega) (Ev.step (fun k => by rw [replevinref03_Compare.j2]) ?_))
    rw [List.drop_eq_getElem_cons h1]
    by_cases h2 : i < b.length
    · refine Ev.pos (by simp; omega) (Ev.pos (by omega) (Ev.pos (by omega) (Ev.pos (by omega) ?_)))
      rw [List.drop_eq_getElem_cons h2, rd_nat a i h1, rd_nat b i h2]
      unfold cmpL
      by_cases hlt : a[i] < b[i]
      · refine Ev.pos hlt (Ev.val (Ev.now _) ?_)
        rw [if_pos hlt]
      · refine Ev.neg hlt ?_
        by_cases hgt : a[i] > b[i]
        · refine Ev.pos hgt (Ev.val (Ev.now _) ?_)
          rw [if_neg hlt, if_pos hgt]
        · refine Ev.neg hgt ?_
          rw [if_neg hlt, if_neg hgt, w64 ((i : Int) + 1) (by omega) (by omega)]
          exact ih (i + 1) (by omega) (by omega) (by omega)
    · refine Ev.neg (by simp; omega) (Ev.neg (by omega) (Ev.pos (by omega) (Ev.val (Ev.now _) ?_)))
      rw [List.drop_of_length_le (l := b) (by omega)]
      rfl

theorem rcompare_ev (a b : ByteArray) (ha : Sz a) (hb : Sz b) : Ev (fun k => replevinref03_Compare.f k a b) (Kn a b) := by
  refine Ev.congr (fun k => by rw [replevinref03_Compare.f]) (Ev.bind (rparse_ev a ha) (Ev.bind (rparse_ev b hb) ?_))
  have hbl : (Op.bytesLess a.toList b.toList = true) ↔ cmpL (bytesL a) (bytesL b) = -1 := by rw [Lib.toList_data, Lib.toList_data]; exact bytesLess_cmpL _ _
  have hbr : (Op.bytesLess b.toList a.toList = true) ↔ cmpL (bytesL b) (bytesL a) = -1 := by rw [Lib.toList_data, Lib.toList_data]; exact bytesLess_cmpL _ _
  have va : (parseL a.data.toList).2.2 = 0 ↔ V a = true := by unfold V; simp
  have vb : (parseL b.data.toList).2.2 = 0 ↔ V b = true := by unfold V; simp
  unfold Kn
  by_cases h1 : V a = true
  · rw [if_pos h1]
    refine Ev.pos (va.2 h1) (Ev.step (fun k => by rw [replevinref03_Compare.j0]) ?_)
    by_cases h2 : V b = true
    · rw [if_pos h2]
      refine Ev.neg (by rw [vb.2 h2]; decide) ?_
      exact rcompare_loop (O a) (O b) (okL_len (okO a)) (O a).length 0 (Nat.zero_le _) (Nat.zero_le _) rfl
    · rw [if_neg h2]
      have hne : ¬ (parseL b.data.toList).2.2 = 0 := fun e => h2 (vb.1 e)
      exact Ev.pos (by simp [hne]) (Ev.pos (va.2 h1) (Ev.now _))
  · rw [if_neg h1]
    have hne : ¬ (parseL a.data.toList).2.2 = 0 := fun e => h1 (va.1 e)
    refine Ev.neg hne (Ev.step (fun k => by rw [replevinref03_Compare.j0]) (Ev.pos rfl (Ev.neg hne ?_)))
    by_cases h2 : V b = true
    · rw [if_pos h2]
      exact Ev.pos (vb.2 h2) (Ev.now _)
    · rw [if_neg h2]
      have hneb : ¬ (parseL b.data.toList).2.2 = 0 := fun e => h2 (vb.1 e)
      refine Ev.neg hneb (Ev.ite (fun h => Ev.val (Ev.now _) (hbl.1 h).symm) (fun h => Ev.ite (fun g => Ev.val (Ev.now _) ?_) (fun g => Ev.val (Ev.now _) ?_)))
      · have := hbr.1 g
        have an := cmpL_anti (bytesL a) (bytesL b)
        omega
      · have h' : ¬ cmpL (bytesL a) (bytesL b) = -1 := fun e => h (hbl.2 e)
        have g' : ¬ cmpL (bytesL b) (bytesL a) = -1 := fun e => g (hbr.2 e)
        have an := cmpL_anti (bytesL a) (bytesL b)
        have rg := cmpL_range (bytesL a) (bytesL b)
        omega

theorem LineageCompares_pure : replevinlaw03_LineageCompares.Pure := by
  intro a0 a1 a2 _ _ _
  refine Ev.rounds ?_
  obtain ⟨a, ea, sa⟩ := short_sz a0
  obtain ⟨b, eb, sb⟩ := short_sz a1
  obtain ⟨c, ec, sc⟩ := short_sz a2
  have hneg : Kn b a = wrap64 (-Kn a b) := by
    have rg := Kn_range a b
    rw [w64 _ (by omega) (by omega)]
    exact Kn_anti a b
  have hzero : ((Kn a b == 0) != (a.toList == b.toList)) = false := by
    have h1 : (Kn a b == 0) = (a.toList == b.toList) := by
      rw [Bool.eq_iff_iff, beq_iff_eq, beq_iff_eq, Kn_zero, Lib.toList_data, Lib.toList_data]
      exact ⟨fun h => by rw [h], data_eq⟩
    rw [h1]
    exact bne_refl' _
  have last : Ev (fun k => replevinlaw03_LineageCompares.j2 k a b c (Kn a b) (Kn b c) false) true := by
    refine Ev.step (fun k => by rw [replevinlaw03_LineageCompares.j2]) ?_
    refine Ev.neg (by decide) (Ev.bind (lcommon_ev a c sa sc) (Ev.bind (Ev.const (lvalid a sa)) (Ev.ite (fun ha => Ev.bind (Ev.const (lvalid c sc)) (Ev.ite (fun hc => Ev.ite (fun _ => Ev.now _) (fun h1 => Ev.ite (fun _ => Ev.now _) (fun h2 => ?_))) (fun _ => Ev.now _))) (fun _ => Ev.now _))))
    refine Ev.bind (within_ev b (Cn a c) sb (Cn_sz a c)) (Ev.val (Ev.now _) (Kn_between ha hc (Int.not_lt.1 h1) (Int.not_lt.1 h2)))
  have mid : Ev (fun k => replevinlaw03_LineageCompares.j1 k a b c (Kn a b) (Kn b c) false) true := by
    refine Ev.step (fun k => by rw [replevinlaw03_LineageCompares.j1]) ?_
    refine Ev.neg (by decide) (Ev.bind (within_ev b a sb sa) (Ev.ite (fun h => ?_) (fun _ => last)))
    have := Kn_prefix h
    rw [decide_eq_false (show ¬ Kn a b > 0 from Int.not_lt.2 this)]
    exact last
  refine Ev.congr (fun k => by rw [replevinlaw03_LineageCompares.f]) ?_
  refine Ev.bind (Ev.const ea) (Ev.bind (Ev.const eb) (Ev.bind (Ev.const ec) (Ev.bind (lcompare_ev a b sa sb) (Ev.bind (lcompare_ev b c sb sc) (Ev.bind known_ev (Ev.pos rfl ?_))))))
  refine Ev.bind (rcompare_ev a b sa sb) (Ev.pos rfl (Ev.bind (lcompare_ev b a sb sa) (Ev.pos hneg (Ev.step (fun k => by rw [replevinlaw03_LineageCompares.j0]) ?_))))
  rw [hzero]
  refine Ev.neg (by decide) (Ev.ite (fun h1 => Ev.ite (fun h2 => Ev.bind (lcompare_ev a c sa sc) ?_) (fun _ => mid)) (fun _ => mid))
  rw [decide_eq_false (show ¬ Kn a c > 0 from Int.not_lt.2 (Kn_trans h1 h2))]
  exact mid


end Go.Proofs.YtpkiiconadbmfaaDoor.G
