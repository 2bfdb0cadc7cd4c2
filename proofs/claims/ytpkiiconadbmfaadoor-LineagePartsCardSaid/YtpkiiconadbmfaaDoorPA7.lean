/- Printed for this claim by this session's own program, out of the kit's print, with the contracts of other functions proved by hand. -/
import Derived.Test.YtpkiiconadbmfaaDoorPA0
import Derived.Test.YtpkiiconadbmfaaDoorPA4
namespace Go.Proofs.YtpkiiconadbmfaaDoor.PA
open Go.RowKit Go.Proofs.YtpkiiconadbmfaaDoor.G Go.Proofs.YtpkiiconadbmfaaDoorW.PrintWords Go.Proofs.YtpkiiconadbmfaaDoorW.PrintLast Go.Proofs.YtpkiiconadbmfaaDoorW.PrintMore
attribute [local go_sem] max2_int min2_int max_two min_two max_three min_three max_four min_four   -- for this text's walks alone
set_option linter.unusedVariables false
set_option linter.unusedSimpArgs false

/-! ### replevinref03_Compare: function 23 -/
mutual
def replevinref03_Compare.j0 : Nat → ByteArray → ByteArray → List Int → Int → List Int → Int → Bool → Option (Int)
  | 0, _, _, _, _, _, _, _ => none
  | k + 1, x0, x1, x5, x7, x8, x10, x29 => if x29 = true then (if x7 = 0 then (some (-1)) else (if x10 = 0 then (some 1) else (if (Op.bytesLess x0.toList x1.toList) = true then (some (-1)) else (if (Op.bytesLess x1.toList x0.toList) = true then (some 1) else (some 0))))) else (replevinref03_Compare.l0 k x5 x8 0)
def replevinref03_Compare.l0 : Nat → List Int → List Int → Int → Option (Int)
  | 0, _, _, _ => none
  | k + 1, x5, x8, x11 => if x11 < (x5.length : Int) then (replevinref03_Compare.j2 k x5 x8 x11 (decide (x11 < (x8.length : Int)))) else (replevinref03_Compare.j2 k x5 x8 x11 false)
def replevinref03_Compare.j2 : Nat → List Int → List Int → Int → Bool → Option (Int)
  | 0, _, _, _, _ => none
  | k + 1, x5, x8, x11, x49 => if x49 = true then (if 0 ≤ x11 then (if x11 < (x5.length : Int) then (if x11 < (x8.length : Int) then (if (rd x5 x11) < (rd x8 x11) then (some (-1)) else (if (rd x5 x11) > (rd x8 x11) then (some 1) else (replevinref03_Compare.l0 k x5 x8 (wrap64 (x11 + 1))))) else (none)) else (none)) else (none)) else (if (x5.length : Int) < (x8.length : Int) then (some (-1)) else (if (x5.length : Int) > (x8.length : Int) then (some 1) else (some 0)))
end
def replevinref03_Compare.f (k : Nat) (a0 : ByteArray) (a1 : ByteArray) : Option (Int) := (replevinref03_Parse.f k a0).bind fun bt290 => ((replevinref03_Parse.f k a1).bind fun bt295 => (if bt290.2.2 = 0 then (replevinref03_Compare.j0 k a0 a1 bt290.1 bt290.2.2 bt295.1 bt295.2.2 (bt295.2.2 != 0)) else (replevinref03_Compare.j0 k a0 a1 bt290.1 bt290.2.2 bt295.1 bt295.2.2 true)))
theorem replevinref03_Compare.mono_l : ∀ k, (∀ y0 y1 y2 y3 y4 y5 y6, LeO (replevinref03_Compare.j0 k y0 y1 y2 y3 y4 y5 y6) (replevinref03_Compare.j0 (k + 1) y0 y1 y2 y3 y4 y5 y6)) ∧ (∀ y0 y1 y2, LeO (replevinref03_Compare.l0 k y0 y1 y2) (replevinref03_Compare.l0 (k + 1) y0 y1 y2)) ∧ (∀ y0 y1 y2 y3, LeO (replevinref03_Compare.j2 k y0 y1 y2 y3) (replevinref03_Compare.j2 (k + 1) y0 y1 y2 y3))
  | 0 => ⟨fun _ _ _ _ _ _ _ r h => by simp [replevinref03_Compare.j0] at h, fun _ _ _ r h => by simp [replevinref03_Compare.l0] at h, fun _ _ _ _ r h => by simp [replevinref03_Compare.j2] at h⟩
  | k + 1 => by
    obtain ⟨ih0, ih1, ih2⟩ := replevinref03_Compare.mono_l k
    refine ⟨?_, ?_, ?_⟩
    · intro y0 y1 y2 y3 y4 y5 y6
      unfold replevinref03_Compare.j0
      repeat' first
      | (with_reducible exact ih0 _ _ _ _ _ _ _)
      | (with_reducible exact ih1 _ _ _)
      | (with_reducible exact ih2 _ _ _ _)
      | (with_reducible exact replevinref03_Parse.mono _ _)
      | (with_reducible exact LeO.refl _)
      | (with_reducible exact LeO.none _)
      | (with_reducible refine LeO.ite ?_ ?_)
      | (with_reducible refine LeO.bind ?_ (fun _ => ?_))
      | exact ih0 _ _ _ _ _ _ _
      | exact ih1 _ _ _
      | exact ih2 _ _ _ _
      | exact replevinref03_Parse.mono _ _
      | exact LeO.none _
      | refine LeO.ite ?_ ?_
      | refine LeO.bind ?_ (fun _ => ?_)
    · intro y0 y1 y2
      unfold replevinref03_Compare.l0
      repeat' first
      | (with_reducible exact ih0 _ _ _ _ _ _ _)
      | (with_reducible exact ih1 _ _ _)
      | (with_reducible exact ih2 _ _ _ _)
      | (with_reducible exact replevinref03_Parse.mono _ _)
      | (with_reducible exact LeO.refl _)
      | (with_reducible exact LeO.none _)
      | (with_reducible refine LeO.ite ?_ ?_)
      | (with_reducible refine LeO.bind ?_ (fun _ => ?_))
      | exact ih0 _ _ _ _ _ _ _
      | exact ih1 _ _ _
      | exact ih2 _ _ _ _
      | exact replevinref03_Parse.mono _ _
      | exact LeO.none _
      | refine LeO.ite ?_ ?_
      | refine LeO.bind ?_ (fun _ => ?_)
    · intro y0 y1 y2 y3
      unfold replevinref03_Compare.j2
      repeat' first
      | (with_reducible exact ih0 _ _ _ _ _ _ _)
      | (with_reducible exact ih1 _ _ _)
      | (with_reducible exact ih2 _ _ _ _)
      | (with_reducible exact replevinref03_Parse.mono _ _)
      | (with_reducible exact LeO.refl _)
      | (with_reducible exact LeO.none _)
      | (with_reducible refine LeO.ite ?_ ?_)
      | (with_reducible refine LeO.bind ?_ (fun _ => ?_))
      | exact ih0 _ _ _ _ _ _ _
      | exact ih1 _ _ _
      | exact ih2 _ _ _ _
      | exact replevinref03_Parse.mono _ _
      | exact LeO.none _
      | refine LeO.ite ?_ ?_
      | refine LeO.bind ?_ (fun _ => ?_)
theorem replevinref03_Compare.mono : ∀ a0 a1 k, LeO (replevinref03_Compare.f k a0 a1) (replevinref03_Compare.f (k + 1) a0 a1) := by
  intro a0 a1 k
  obtain ⟨ih0, ih1, ih2⟩ := replevinref03_Compare.mono_l k
  unfold replevinref03_Compare.f
  repeat' first
      | (with_reducible exact ih0 _ _ _ _ _ _ _)
      | (with_reducible exact ih1 _ _ _)
      | (with_reducible exact ih2 _ _ _ _)
      | (with_reducible exact replevinref03_Parse.mono _ _)
      | (with_reducible exact LeO.refl _)
      | (with_reducible exact LeO.none _)
      | (with_reducible refine LeO.ite ?_ ?_)
      | (with_reducible refine LeO.bind ?_ (fun _ => ?_))
      | exact ih0 _ _ _ _ _ _ _
      | exact ih1 _ _ _
      | exact ih2 _ _ _ _
      | exact replevinref03_Parse.mono _ _
      | exact LeO.none _
      | refine LeO.ite ?_ ?_
      | refine LeO.bind ?_ (fun _ => ?_)
set_option maxHeartbeats 8000000 in
set_option maxRecDepth 100000 in
theorem replevinref03_Compare.calls (k : Nat) (a0 : ByteArray) (a1 : ByteArray) (r : Int) (w : World) (h : replevinref03_Compare.f k a0 a1 = some r) :
    Calls Tryd.prog 23 #[.string a0, .string a1] w fun e w' => e = .returned (.int .i64 r) ∧ Below w.heap.size w w' := by
  have HB := Aside0.mk (Below.refl w.heap.size w)
  have H : ((replevinref03_Parse.f k a0).bind fun bt290 => ((replevinref03_Parse.f k a1).bind fun bt295 => (if bt290.2.2 = 0 then (replevinref03_Compare.j0 k a0 a1 bt290.1 bt290.2.2 bt295.1 bt295.2.2 (bt295.2.2 != 0)) else (replevinref03_Compare.j0 k a0 a1 bt290.1 bt290.2.2 bt295.1 bt295.2.2 true)))) = some r := h
  clear h
  replace H := Option.bind_eq_some_iff.mp H
  obtain ⟨⟨t290, t291, t292⟩, A30, H⟩ := H
  replace H : ((replevinref03_Parse.f k a1).bind fun bt295 => (if t292 = 0 then (replevinref03_Compare.j0 k a0 a1 t290 t292 bt295.1 bt295.2.2 (bt295.2.2 != 0)) else (replevinref03_Compare.j0 k a0 a1 t290 t292 bt295.1 bt295.2.2 true))) = some r := H
  have A3 := Aside0.mk A30
  clear A30
  replace H := Option.bind_eq_some_iff.mp H
  obtain ⟨⟨t295, t296, t297⟩, A40, H⟩ := H
  replace H : (if t292 = 0 then (replevinref03_Compare.j0 k a0 a1 t290 t292 t295 t297 (t297 != 0)) else (replevinref03_Compare.j0 k a0 a1 t290 t292 t295 t297 true)) = some r := H
  have A4 := Aside0.mk A40
  clear A40
  have HC5 := Aside0.mk H
  clear H
  go_enter Tryd.func23, Tryd.ntmps23
  go_upto_region 3 with (first | (go_at_call 24; (with_reducible refine (replevinref03_Parse.calls k a0 t290 t291 t292 _ A3.out).mono ?_); rintro e w6 ⟨v293, rfl, ho0, hb⟩; have n0_ := Aside0.mk (Kd.R_lower ho0 (below_size (by repeat (first | (with_reducible first | exact HB.out | apply below_alloc | apply pw_below_drewN | apply below_drew1) | exact HB.out)))); have n1_ := Aside0.mk (below_step (by repeat (first | (with_reducible first | exact HB.out | apply below_alloc | apply pw_below_drewN | apply below_drew1) | exact HB.out)) hb); clear HB; have HO294 := n0_; have HB := n1_; clear n0_ n1_; (try clear hb); (try clear hb2); (try clear hk); (try clear hi); (try clear ho0)) | (go_at_call 24; (with_reducible refine (replevinref03_Parse.calls k a1 t295 t296 t297 _ A4.out).mono ?_); rintro e w7 ⟨v298, rfl, ho0, hb⟩; have n0_ := Aside0.mk (Kd.R_elder' (by (with_reducible repeat (first | apply Kd.R_alloc | apply Kd.R_drewN | apply Kd.R_drew)); exact HO294.out) (Kd.R_base ho0) hb); have n1_ := Aside0.mk (Kd.R_lower (Kd.R_new' ho0 (Kd.R_lt (by (with_reducible repeat (first | apply Kd.R_alloc | apply Kd.R_drewN | apply Kd.R_drew)); exact HO294.out))) (below_size (by repeat (first | (with_reducible first | exact HB.out | apply below_alloc | apply pw_below_drewN | apply below_drew1) | exact HB.out)))); have n2_ := Aside0.mk (below_step (by repeat (first | (with_reducible first | exact HB.out | apply below_alloc | apply pw_below_drewN | apply below_drew1) | exact HB.out)) hb); clear HO294; clear HB; have HO294 := n0_; have HO299 := n1_; have HB := n2_; clear n0_ n1_ n2_; (try clear hb); (try clear hb2); (try clear hk); (try clear hi); (try clear ho0)))
  repeat (go_quiet (first | (go_at_call 24; (with_reducible refine (replevinref03_Parse.calls k a0 t290 t291 t292 _ A3.out).mono ?_); rintro e w6 ⟨v293, rfl, ho0, hb⟩; have n0_ := Aside0.mk (Kd.R_lower ho0 (below_size (by repeat (first | (with_reducible first | exact HB.out | apply below_alloc | apply pw_below_drewN | apply below_drew1) | exact HB.out)))); have n1_ := Aside0.mk (below_step (by repeat (first | (with_reducible first | exact HB.out | apply below_alloc | apply pw_below_drewN | apply below_drew1) | exact HB.out)) hb); clear HB; have HO294 := n0_; have HB := n1_; clear n0_ n1_; (try clear hb); (try clear hb2); (try clear hk); (try clear hi); (try clear ho0)) | (go_at_call 24; (with_reducible refine (replevinref03_Parse.calls k a1 t295 t296 t297 _ A4.out).mono ?_); rintro e w7 ⟨v298, rfl, ho0, hb⟩; have n0_ := Aside0.mk (Kd.R_elder' (by (with_reducible repeat (first | apply Kd.R_alloc | apply Kd.R_drewN | apply Kd.R_drew)); exact HO294.out) (Kd.R_base ho0) hb); have n1_ := Aside0.mk (Kd.R_lower (Kd.R_new' ho0 (Kd.R_lt (by (with_reducible repeat (first | apply Kd.R_alloc | apply Kd.R_drewN | apply Kd.R_drew)); exact HO294.out))) (below_size (by repeat (first | (with_reducible first | exact HB.out | apply below_alloc | apply pw_below_drewN | apply below_drew1) | exact HB.out)))); have n2_ := Aside0.mk (below_step (by repeat (first | (with_reducible first | exact HB.out | apply below_alloc | apply pw_below_drewN | apply below_drew1) | exact HB.out)) hb); clear HO294; clear HB; have HO294 := n0_; have HO299 := n1_; have HB := n2_; clear n0_ n1_ n2_; (try clear hb); (try clear hb2); (try clear hk); (try clear hi); (try clear ho0))); go_upto_region 3 with (first | (go_at_call 24; (with_reducible refine (replevinref03_Parse.calls k a0 t290 t291 t292 _ A3.out).mono ?_); rintro e w6 ⟨v293, rfl, ho0, hb⟩; have n0_ := Aside0.mk (Kd.R_lower ho0 (below_size (by repeat (first | (with_reducible first | exact HB.out | apply below_alloc | apply pw_below_drewN | apply below_drew1) | exact HB.out)))); have n1_ := Aside0.mk (below_step (by repeat (first | (with_reducible first | exact HB.out | apply below_alloc | apply pw_below_drewN | apply below_drew1) | exact HB.out)) hb); clear HB; have HO294 := n0_; have HB := n1_; clear n0_ n1_; (try clear hb); (try clear hb2); (try clear hk); (try clear hi); (try clear ho0)) | (go_at_call 24; (with_reducible refine (replevinref03_Parse.calls k a1 t295 t296 t297 _ A4.out).mono ?_); rintro e w7 ⟨v298, rfl, ho0, hb⟩; have n0_ := Aside0.mk (Kd.R_elder' (by (with_reducible repeat (first | apply Kd.R_alloc | apply Kd.R_drewN | apply Kd.R_drew)); exact HO294.out) (Kd.R_base ho0) hb); have n1_ := Aside0.mk (Kd.R_lower (Kd.R_new' ho0 (Kd.R_lt (by (with_reducible repeat (first | apply Kd.R_alloc | apply Kd.R_drewN | apply Kd.R_drew)); exact HO294.out))) (below_size (by repeat (first | (with_reducible first | exact HB.out | apply below_alloc | apply pw_below_drewN | apply below_drew1) | exact HB.out)))); have n2_ := Aside0.mk (below_step (by repeat (first | (with_reducible first | exact HB.out | apply below_alloc | apply pw_below_drewN | apply below_drew1) | exact HB.out)) hb); clear HO294; clear HB; have HO294 := n0_; have HO299 := n1_; have HB := n2_; clear n0_ n1_ n2_; (try clear hb); (try clear hb2); (try clear hk); (try clear hi); (try clear ho0))))
  (try simp only [Act.put, List.setIfInBounds_toArray, List.set_cons_zero, List.set_cons_succ])
  go_cut [29] (fun v29 wc => ∃ (kq : Nat) (x29_4 : Bool), v29 = .bool x29_4 ∧ Aside0 (replevinref03_Compare.j0 kq a0 a1 t290 t292 t295 t297 x29_4 = some r) ∧ Aside0 (kq ≤ k) ∧ Aside0 (Kd.R (Kd.int .i64) 3 wc w.heap.size (fun k_ => some k_ ≠ (v298 : Value).ownBlock) v293 t290) ∧ Aside0 (Kd.R (Kd.int .i64) 3 wc w.heap.size (fun k_ => some k_ ≠ (v293 : Value).ownBlock) v298 t295) ∧ Aside0 (Below w.heap.size w wc))
  case first =>
    have H := HC5.out
    clear HC5
    by_cases c8 : t292 = 0
    · rw [if_pos c8] at H
      have c8b0 : (t292 == 0) = true := beq_iff_eq.mpr c8
      have c8b1 : (t292 != 0) = false := bne_eq_false_iff_eq.mpr c8
      clear c8
      (first | rw [c8b0] | (simp only [i64_w, i32_w]; rw [c8b0]) | skip)
      have H' := Aside0.mk H
      clear H
      go_wp2
      repeat (go_quiet (fail); try go_wp2)
      go_meet
      case rel => exact ⟨_, ((t297 != 0)), (by first | rfl | (simp; done) | (simp [*]; done)), H', ⟨by first | omega | exact Nat.le_refl _⟩, ⟨by (with_reducible repeat (first | apply Kd.R_alloc | apply Kd.R_drewN | apply Kd.R_drew)); exact Kd.R_mono HO294.out (fun _ hk => hk.2)⟩, ⟨by (with_reducible repeat (first | apply Kd.R_alloc | apply Kd.R_drewN | apply Kd.R_drew)); exact Kd.R_mono HO299.out (fun _ hk => hk.2)⟩, ⟨by repeat (first | (with_reducible first | exact HB.out | apply below_alloc | apply pw_below_drewN | apply below_drew1) | exact HB.out)⟩⟩
    · rw [if_neg c8] at H
      have c8b0 : (t292 == 0) = false := beq_eq_false_iff_ne.mpr c8
      have c8b1 : (t292 != 0) = true := bne_iff_ne.mpr c8
      (first | rw [c8b0] | (simp only [i64_w, i32_w]; rw [c8b0]) | skip)
      have H' := Aside0.mk H
      clear H
      go_wp2
      repeat (go_quiet (fail); try go_wp2)
      go_meet
      case rel => exact ⟨_, (true), (by first | rfl | (simp; done) | (simp [*]; done)), H', ⟨by first | omega | exact Nat.le_refl _⟩, ⟨by (with_reducible repeat (first | apply Kd.R_alloc | apply Kd.R_drewN | apply Kd.R_drew)); exact Kd.R_mono HO294.out (fun _ hk => hk.2)⟩, ⟨by (with_reducible repeat (first | apply Kd.R_alloc | apply Kd.R_drewN | apply Kd.R_drew)); exact Kd.R_mono HO299.out (fun _ hk => hk.2)⟩, ⟨by repeat (first | (with_reducible first | exact HB.out | apply below_alloc | apply pw_below_drewN | apply below_drew1) | exact HB.out)⟩⟩
  case rest =>
    clear HC5
    try clear c2
    try clear p2
    try clear c8
    try clear c8b0
    try clear c8b1
    obtain ⟨kq, x29_4, rfl, HA, HJ4, HO_5, HO_8, HB⟩ := hcut
    cases kq with
    | zero => exact absurd HA.out (by simp [replevinref03_Compare.j0])
    | succ kj4 =>
      have H := HA.out
      clear HA
      simp only [replevinref03_Compare.j0] at H
      by_cases c9 : x29_4 = true
      · subst c9
        have H1 : (if t292 = 0 then (some (-1)) else (if t297 = 0 then (some 1) else (if (Op.bytesLess a0.toList a1.toList) = true then (some (-1)) else (if (Op.bytesLess a1.toList a0.toList) = true then (some 1) else (some 0))))) = some r := by rw [if_pos rfl] at H; exact H
        clear H
        have H := H1
        clear H1
        by_cases c10 : t292 = 0
        · rw [if_pos c10] at H
          have c10b0 : (t292 == 0) = true := beq_iff_eq.mpr c10
          have c10b1 : (t292 != 0) = false := bne_eq_false_iff_eq.mpr c10
          clear c10
          obtain rfl := Option.some.inj H
          go_wp2
          repeat (go_quiet (fail); try go_wp2)
          go_ret
          exact ⟨by first | rfl | (simp [errW_none, errW_some] <;> rfl) | (simp [*, errW_none, errW_some] <;> rfl), by repeat (first | (with_reducible first | exact HB.out | apply below_alloc | apply pw_below_drewN | apply below_drew1) | exact HB.out)⟩
        · rw [if_neg c10] at H
          have c10b0 : (t292 == 0) = false := beq_eq_false_iff_ne.mpr c10
          have c10b1 : (t292 != 0) = true := bne_iff_ne.mpr c10
          by_cases c11 : t297 = 0
          · rw [if_pos c11] at H
            have c11b0 : (t297 == 0) = true := beq_iff_eq.mpr c11
            have c11b1 : (t297 != 0) = false := bne_eq_false_iff_eq.mpr c11
            clear c11
            obtain rfl := Option.some.inj H
            go_wp2
            repeat (go_quiet (fail); try go_wp2)
            go_ret
            exact ⟨by first | rfl | (simp [errW_none, errW_some] <;> rfl) | (simp [*, errW_none, errW_some] <;> rfl), by repeat (first | (with_reducible first | exact HB.out | apply below_alloc | apply pw_below_drewN | apply below_drew1) | exact HB.out)⟩
          · rw [if_neg c11] at H
            have c11b0 : (t297 == 0) = false := beq_eq_false_iff_ne.mpr c11
            have c11b1 : (t297 != 0) = true := bne_iff_ne.mpr c11
            by_cases c12 : (Op.bytesLess a0.toList a1.toList) = true
            · rw [if_pos c12] at H
              have c12b0 : (Op.bytesLess a0.toList a1.toList) = true := c12
              have c12b8 : (a1.toList == a0.toList) = false := bl_ne c12b0
              clear c12
              obtain rfl := Option.some.inj H
              go_wp2
              repeat (go_quiet (fail); try go_wp2)
              go_ret
              exact ⟨by first | rfl | (simp [errW_none, errW_some] <;> rfl) | (simp [*, errW_none, errW_some] <;> rfl), by repeat (first | (with_reducible first | exact HB.out | apply below_alloc | apply pw_below_drewN | apply below_drew1) | exact HB.out)⟩
            · rw [if_neg c12] at H
              have c12b0 : (Op.bytesLess a0.toList a1.toList) = false := by simpa using c12
              try have c12b8 : (a1.toList == a0.toList) = true := bl_eq c12b0 (by assumption)
              clear c12
              by_cases c13 : (Op.bytesLess a1.toList a0.toList) = true
              · rw [if_pos c13] at H
                have c13b0 : (Op.bytesLess a1.toList a0.toList) = true := c13
                have c13b8 : (a0.toList == a1.toList) = false := bl_ne c13b0
                clear c13
                obtain rfl := Option.some.inj H
                go_wp2
                repeat (go_quiet (fail); try go_wp2)
                go_ret
                exact ⟨by first | rfl | (simp [errW_none, errW_some] <;> rfl) | (simp [*, errW_none, errW_some] <;> rfl), by repeat (first | (with_reducible first | exact HB.out | apply below_alloc | apply pw_below_drewN | apply below_drew1) | exact HB.out)⟩
              · rw [if_neg c13] at H
                have c13b0 : (Op.bytesLess a1.toList a0.toList) = false := by simpa using c13
                try have c13b8 : (a0.toList == a1.toList) = true := bl_eq c13b0 (by assumption)
                clear c13
                obtain rfl := Option.some.inj H
                go_wp2
                repeat (go_quiet (fail); try go_wp2)
                go_ret
                exact ⟨by first | rfl | (simp [errW_none, errW_some] <;> rfl) | (simp [*, errW_none, errW_some] <;> rfl), by repeat (first | (with_reducible first | exact HB.out | apply below_alloc | apply pw_below_drewN | apply below_drew1) | exact HB.out)⟩
      · replace c9 := Bool.eq_false_iff.mpr c9
        subst c9
        have H1 : (replevinref03_Compare.l0 kj4 t290 t295 0) = some r := by rw [if_neg (show ¬ (false = true) by decide)] at H; exact H
        clear H
        have H := H1
        clear H1
        have H' := Aside0.mk H
        clear H
        go_wp2
        repeat (go_quiet (fail); try go_wp2)
        go_loopg [11] kj4 (fun kq v11 w' => ∃ (x11_2 : Int), v11 = .int .i64 x11_2 ∧ Aside0 (replevinref03_Compare.l0 kq t290 t295 x11_2 = some r) ∧ Aside0 (kq ≤ kj4) ∧ Aside0 (Kd.R (Kd.int .i64) 3 w' w.heap.size (fun k_ => some k_ ≠ (v298 : Value).ownBlock) v293 t290) ∧ Aside0 (Kd.R (Kd.int .i64) 3 w' w.heap.size (fun k_ => some k_ ≠ (v293 : Value).ownBlock) v298 t295) ∧ Aside0 (Below w.heap.size w w'))
        case atStart => exact ⟨(0), (by first | rfl | (simp; done) | (simp [*]; done)), H', ⟨Nat.le_refl _⟩, ⟨by (with_reducible repeat (first | apply Kd.R_alloc | apply Kd.R_drewN | apply Kd.R_drew)); exact HO_5.out⟩, ⟨by (with_reducible repeat (first | apply Kd.R_alloc | apply Kd.R_drewN | apply Kd.R_drew)); exact HO_8.out⟩, ⟨by repeat (first | (with_reducible first | exact HB.out | apply below_alloc | apply pw_below_drewN | apply below_drew1) | exact HB.out)⟩⟩
        case round =>
          clear H'
          try clear c1
          try clear c2
          try clear p2
          try clear c8
          try clear c8b0
          try clear c8b1
          try clear c9
          try clear c10
          try clear c10b0
          try clear c10b1
          try clear c11
          try clear c11b0
          try clear c11b1
          try clear c12
          try clear c12b0
          try clear c13
          try clear c13b0
          try clear p2
          obtain ⟨x11_2, rfl, HA, HK2, HO_5, HO_8, HB⟩ := hrel
          cases gk with
          | zero => exact absurd HA.out (by simp [replevinref03_Compare.l0])
          | succ k2 =>
            have H := HA.out
            clear HA
            simp only [replevinref03_Compare.l0] at H
            have HC14 := Aside0.mk H
            clear H
            go_upto_region 14 with (fail)
            repeat (go_quiet (fail); go_upto_region 14 with (fail))
            go_cut [49] (fun v49 wc => ∃ (kq : Nat) (x49_13 : Bool), v49 = .bool x49_13 ∧ Aside0 (replevinref03_Compare.j2 kq t290 t295 x11_2 x49_13 = some r) ∧ Aside0 (kq ≤ k2) ∧ Aside0 (Kd.R (Kd.int .i64) 3 wc w.heap.size (fun k_ => some k_ ≠ (v298 : Value).ownBlock) v293 t290) ∧ Aside0 (Kd.R (Kd.int .i64) 3 wc w.heap.size (fun k_ => some k_ ≠ (v293 : Value).ownBlock) v298 t295) ∧ Aside0 (Below w.heap.size w wc))
            case first =>
              have H := HC14.out
              clear HC14
              by_cases c15 : x11_2 < (t290.length : Int)
              · rw [if_pos c15] at H
                have c15b0 : decide (x11_2 < (t290.length : Int)) = true := decide_eq_true c15
                clear c15
                (first | rw [c15b0] | (simp only [i64_w, i32_w]; rw [c15b0]) | skip)
                have H' := Aside0.mk H
                clear H
                obtain ⟨Ao16, co16, eo16⟩ := Kd.R_slice HO_5.out
                subst eo16
                obtain ⟨Ao17, co17, eo17⟩ := Kd.R_slice HO_8.out
                subst eo17
                go_wp2
                repeat (go_quiet (fail); try go_wp2)
                go_meet
                case rel => exact ⟨_, (decide (x11_2 < (t295.length : Int))), (by first | rfl | (simp; done) | (simp [*]; done)), H', ⟨by have := HJ4.out; have := HK2.out; first | omega | exact Nat.le_refl _⟩, ⟨by (with_reducible repeat (first | apply Kd.R_alloc | apply Kd.R_drewN | apply Kd.R_drew)); exact HO_5.out⟩, ⟨by (with_reducible repeat (first | apply Kd.R_alloc | apply Kd.R_drewN | apply Kd.R_drew)); exact HO_8.out⟩, ⟨by repeat (first | (with_reducible first | exact HB.out | apply below_alloc | apply pw_below_drewN | apply below_drew1) | exact HB.out)⟩⟩
              · rw [if_neg c15] at H
                have c15b0 : decide (x11_2 < (t290.length : Int)) = false := decide_eq_false c15
                clear c15
                (first | rw [c15b0] | (simp only [i64_w, i32_w]; rw [c15b0]) | skip)
                have H' := Aside0.mk H
                clear H
                obtain ⟨Ao18, co18, eo18⟩ := Kd.R_slice HO_5.out
                subst eo18
                go_wp2
                repeat (go_quiet (fail); try go_wp2)
                go_meet
                case rel => exact ⟨_, (false), (by first | rfl | (simp; done) | (simp [*]; done)), H', ⟨by have := HJ4.out; have := HK2.out; first | omega | exact Nat.le_refl _⟩, ⟨by (with_reducible repeat (first | apply Kd.R_alloc | apply Kd.R_drewN | apply Kd.R_drew)); exact HO_5.out⟩, ⟨by (with_reducible repeat (first | apply Kd.R_alloc | apply Kd.R_drewN | apply Kd.R_drew)); exact HO_8.out⟩, ⟨by repeat (first | (with_reducible first | exact HB.out | apply below_alloc | apply pw_below_drewN | apply below_drew1) | exact HB.out)⟩⟩
            case rest =>
              clear HC14
              try clear c1
              try clear c2
              try clear p2
              try clear c8
              try clear c8b0
              try clear c8b1
              try clear c9
              try clear c10
              try clear c10b0
              try clear c10b1
              try clear c11
              try clear c11b0
              try clear c11b1
              try clear c12
              try clear c12b0
              try clear c13
              try clear c13b0
              try clear c15
              try clear c15b0
              try clear p2
              obtain ⟨kq, x49_13, rfl, HA, HJ13, HO_5, HO_8, HB⟩ := hcut
              cases kq with
              | zero => exact absurd HA.out (by simp [replevinref03_Compare.j2])
              | succ kj13 =>
                have H := HA.out
                clear HA
                simp only [replevinref03_Compare.j2] at H
                by_cases c19 : x49_13 = true
                · subst c19
                  have H1 : (if 0 ≤ x11_2 then (if x11_2 < (t290.length : Int) then (if x11_2 < (t295.length : Int) then (if (rd t290 x11_2) < (rd t295 x11_2) then (some (-1)) else (if (rd t290 x11_2) > (rd t295 x11_2) then (some 1) else (replevinref03_Compare.l0 kj13 t290 t295 (wrap64 (x11_2 + 1))))) else (none)) else (none)) else (none)) = some r := by rw [if_pos rfl] at H; exact H
                  clear H
                  have H := H1
                  clear H1
                  by_cases c20 : 0 ≤ x11_2
                  · rw [if_pos c20] at H
                    have c20b0 : decide (0 ≤ x11_2) = true := decide_eq_true c20
                    clear c20
                    by_cases c21 : x11_2 < (t290.length : Int)
                    · rw [if_pos c21] at H
                      have c21b0 : decide (x11_2 < (t290.length : Int)) = true := decide_eq_true c21
                      clear c21
                      by_cases c22 : x11_2 < (t295.length : Int)
                      · rw [if_pos c22] at H
                        have c22b0 : decide (x11_2 < (t295.length : Int)) = true := decide_eq_true c22
                        clear c22
                        by_cases c23 : (rd t290 x11_2) < (rd t295 x11_2)
                        · rw [if_pos c23] at H
                          have c23b0 : decide ((rd t290 x11_2) < (rd t295 x11_2)) = true := decide_eq_true c23
                          clear c23
                          obtain rfl := Option.some.inj H
                          obtain ⟨Ao24, co24, eo24⟩ := Kd.R_slice HO_5.out
                          subst eo24
                          have p300 : 0 ≤ (x11_2 : Int) := of_decide_eq_true (by first | (with_reducible assumption) | assumption)
                          have q300 : x11_2 < (t290.length : Int) := of_decide_eq_true (by first | (with_reducible assumption) | assumption)
                          obtain ⟨ad300, e300, hx300_0⟩ := Kd.at_int (Kd.R_reads' HO_5.out).2.2 x11_2 p300 q300
                          cases e300
                          replace p300 := eq_true p300
                          replace q300 := eq_true q300
                          obtain ⟨Ao25, co25, eo25⟩ := Kd.R_slice HO_8.out
                          subst eo25
                          have p301 : 0 ≤ (x11_2 : Int) := of_decide_eq_true (by first | (with_reducible assumption) | assumption)
                          have q301 : x11_2 < (t295.length : Int) := of_decide_eq_true (by first | (with_reducible assumption) | assumption)
                          obtain ⟨ad301, e301, hx301_0⟩ := Kd.at_int (Kd.R_reads' HO_8.out).2.2 x11_2 p301 q301
                          cases e301
                          replace p301 := eq_true p301
                          replace q301 := eq_true q301
                          go_wp2
                          repeat (go_quiet (fail); try go_wp2)
                          go_ret
                          exact ⟨by first | rfl | (simp [errW_none, errW_some] <;> rfl) | (simp [*, errW_none, errW_some] <;> rfl), by repeat (first | (with_reducible first | exact HB.out | apply below_alloc | apply pw_below_drewN | apply below_drew1) | exact HB.out)⟩
                        · rw [if_neg c23] at H
                          have c23b0 : decide ((rd t290 x11_2) < (rd t295 x11_2)) = false := decide_eq_false c23
                          clear c23
                          by_cases c26 : (rd t290 x11_2) > (rd t295 x11_2)
                          · rw [if_pos c26] at H
                            have c26b0 : decide ((rd t295 x11_2) < (rd t290 x11_2)) = true := decide_eq_true c26
                            clear c26
                            obtain rfl := Option.some.inj H
                            obtain ⟨Ao27, co27, eo27⟩ := Kd.R_slice HO_5.out
                            subst eo27
                            have p300 : 0 ≤ (x11_2 : Int) := of_decide_eq_true (by first | (with_reducible assumption) | assumption)
                            have q300 : x11_2 < (t290.length : Int) := of_decide_eq_true (by first | (with_reducible assumption) | assumption)
                            obtain ⟨ad300, e300, hx300_0⟩ := Kd.at_int (Kd.R_reads' HO_5.out).2.2 x11_2 p300 q300
                            cases e300
                            replace p300 := eq_true p300
                            replace q300 := eq_true q300
                            obtain ⟨Ao28, co28, eo28⟩ := Kd.R_slice HO_8.out
                            subst eo28
                            have p301 : 0 ≤ (x11_2 : Int) := of_decide_eq_true (by first | (with_reducible assumption) | assumption)
                            have q301 : x11_2 < (t295.length : Int) := of_decide_eq_true (by first | (with_reducible assumption) | assumption)
                            obtain ⟨ad301, e301, hx301_0⟩ := Kd.at_int (Kd.R_reads' HO_8.out).2.2 x11_2 p301 q301
                            cases e301
                            replace p301 := eq_true p301
                            replace q301 := eq_true q301
                            have p302 : 0 ≤ (x11_2 : Int) := of_decide_eq_true (by first | (with_reducible assumption) | assumption)
                            have q302 : x11_2 < (t290.length : Int) := of_decide_eq_true (by first | (with_reducible assumption) | assumption)
                            obtain ⟨ad302, e302, hx302_0⟩ := Kd.at_int (Kd.R_reads' HO_5.out).2.2 x11_2 p302 q302
                            obtain rfl : ad300 = ad302 := (by injection e302)
                            replace p302 := eq_true p302
                            replace q302 := eq_true q302
                            have p303 : 0 ≤ (x11_2 : Int) := of_decide_eq_true (by first | (with_reducible assumption) | assumption)
                            have q303 : x11_2 < (t295.length : Int) := of_decide_eq_true (by first | (with_reducible assumption) | assumption)
                            obtain ⟨ad303, e303, hx303_0⟩ := Kd.at_int (Kd.R_reads' HO_8.out).2.2 x11_2 p303 q303
                            obtain rfl : ad301 = ad303 := (by injection e303)
                            replace p303 := eq_true p303
                            replace q303 := eq_true q303
                            go_wp2
                            repeat (go_quiet (fail); try go_wp2)
                            go_ret
                            exact ⟨by first | rfl | (simp [errW_none, errW_some] <;> rfl) | (simp [*, errW_none, errW_some] <;> rfl), by repeat (first | (with_reducible first | exact HB.out | apply below_alloc | apply pw_below_drewN | apply below_drew1) | exact HB.out)⟩
                          · rw [if_neg c26] at H
                            have c26b0 : decide ((rd t295 x11_2) < (rd t290 x11_2)) = false := decide_eq_false c26
                            clear c26
                            have H' := Aside0.mk H
                            clear H
                            obtain ⟨Ao29, co29, eo29⟩ := Kd.R_slice HO_5.out
                            subst eo29
                            have p300 : 0 ≤ (x11_2 : Int) := of_decide_eq_true (by first | (with_reducible assumption) | assumption)
                            have q300 : x11_2 < (t290.length : Int) := of_decide_eq_true (by first | (with_reducible assumption) | assumption)
                            obtain ⟨ad300, e300, hx300_0⟩ := Kd.at_int (Kd.R_reads' HO_5.out).2.2 x11_2 p300 q300
                            cases e300
                            replace p300 := eq_true p300
                            replace q300 := eq_true q300
                            obtain ⟨Ao30, co30, eo30⟩ := Kd.R_slice HO_8.out
                            subst eo30
                            have p301 : 0 ≤ (x11_2 : Int) := of_decide_eq_true (by first | (with_reducible assumption) | assumption)
                            have q301 : x11_2 < (t295.length : Int) := of_decide_eq_true (by first | (with_reducible assumption) | assumption)
                            obtain ⟨ad301, e301, hx301_0⟩ := Kd.at_int (Kd.R_reads' HO_8.out).2.2 x11_2 p301 q301
                            cases e301
                            replace p301 := eq_true p301
                            replace q301 := eq_true q301
                            have p302 : 0 ≤ (x11_2 : Int) := of_decide_eq_true (by first | (with_reducible assumption) | assumption)
                            have q302 : x11_2 < (t290.length : Int) := of_decide_eq_true (by first | (with_reducible assumption) | assumption)
                            obtain ⟨ad302, e302, hx302_0⟩ := Kd.at_int (Kd.R_reads' HO_5.out).2.2 x11_2 p302 q302
                            obtain rfl : ad300 = ad302 := (by injection e302)
                            replace p302 := eq_true p302
                            replace q302 := eq_true q302
                            have p303 : 0 ≤ (x11_2 : Int) := of_decide_eq_true (by first | (with_reducible assumption) | assumption)
                            have q303 : x11_2 < (t295.length : Int) := of_decide_eq_true (by first | (with_reducible assumption) | assumption)
                            obtain ⟨ad303, e303, hx303_0⟩ := Kd.at_int (Kd.R_reads' HO_8.out).2.2 x11_2 p303 q303
                            obtain rfl : ad301 = ad303 := (by injection e303)
                            replace p303 := eq_true p303
                            replace q303 := eq_true q303
                            go_wp2
                            repeat (go_quiet (fail); try go_wp2)
                            go_roundg kj13
                            case measure => have := HJ4.out; have := HK2.out; have := HJ13.out; omega
                            case rel => exact ⟨(wrap64 (x11_2 + 1)), (by first | rfl | (simp; done) | (simp [*]; done)), H', ⟨by have := HJ4.out; have := HK2.out; have := HJ13.out; omega⟩, ⟨by (with_reducible repeat (first | apply Kd.R_alloc | apply Kd.R_drewN | apply Kd.R_drew)); exact HO_5.out⟩, ⟨by (with_reducible repeat (first | apply Kd.R_alloc | apply Kd.R_drewN | apply Kd.R_drew)); exact HO_8.out⟩, ⟨by repeat (first | (with_reducible first | exact HB.out | apply below_alloc | apply pw_below_drewN | apply below_drew1) | exact HB.out)⟩⟩
                      · rw [if_neg c22] at H
                        exact absurd H (by simp)
                    · rw [if_neg c21] at H
                      exact absurd H (by simp)
                  · rw [if_neg c20] at H
                    exact absurd H (by simp)
                · replace c19 := Bool.eq_false_iff.mpr c19
                  subst c19
                  have H1 : (if (t290.length : Int) < (t295.length : Int) then (some (-1)) else (if (t290.length : Int) > (t295.length : Int) then (some 1) else (some 0))) = some r := by rw [if_neg (show ¬ (false = true) by decide)] at H; exact H
                  clear H
                  have H := H1
                  clear H1
                  by_cases c31 : (t290.length : Int) < (t295.length : Int)
                  · rw [if_pos c31] at H
                    have c31b0 : decide ((t290.length : Int) < (t295.length : Int)) = true := decide_eq_true c31
                    have c31b1 : decide (t290.length < t295.length) = true := decide_eq_true (Int.ofNat_lt.mp c31)
                    clear c31
                    obtain rfl := Option.some.inj H
                    obtain ⟨Ao32, co32, eo32⟩ := Kd.R_slice HO_5.out
                    subst eo32
                    obtain ⟨Ao33, co33, eo33⟩ := Kd.R_slice HO_8.out
                    subst eo33
                    go_wp2
                    repeat (go_quiet (fail); try go_wp2)
                    go_ret
                    exact ⟨by first | rfl | (simp [errW_none, errW_some] <;> rfl) | (simp [*, errW_none, errW_some] <;> rfl), by repeat (first | (with_reducible first | exact HB.out | apply below_alloc | apply pw_below_drewN | apply below_drew1) | exact HB.out)⟩
                  · rw [if_neg c31] at H
                    have c31b0 : decide ((t290.length : Int) < (t295.length : Int)) = false := decide_eq_false c31
                    have c31b1 : decide (t290.length < t295.length) = false := decide_eq_false (fun h => c31 (Int.ofNat_lt.mpr h))
                    clear c31
                    by_cases c34 : (t290.length : Int) > (t295.length : Int)
                    · rw [if_pos c34] at H
                      have c34b0 : decide ((t295.length : Int) < (t290.length : Int)) = true := decide_eq_true c34
                      have c34b1 : decide (t295.length < t290.length) = true := decide_eq_true (Int.ofNat_lt.mp c34)
                      clear c34
                      obtain rfl := Option.some.inj H
                      obtain ⟨Ao35, co35, eo35⟩ := Kd.R_slice HO_5.out
                      subst eo35
                      obtain ⟨Ao36, co36, eo36⟩ := Kd.R_slice HO_8.out
                      subst eo36
                      go_wp2
                      repeat (go_quiet (fail); try go_wp2)
                      go_ret
                      exact ⟨by first | rfl | (simp [errW_none, errW_some] <;> rfl) | (simp [*, errW_none, errW_some] <;> rfl), by repeat (first | (with_reducible first | exact HB.out | apply below_alloc | apply pw_below_drewN | apply below_drew1) | exact HB.out)⟩
                    · rw [if_neg c34] at H
                      have c34b0 : decide ((t295.length : Int) < (t290.length : Int)) = false := decide_eq_false c34
                      have c34b1 : decide (t295.length < t290.length) = false := decide_eq_false (fun h => c34 (Int.ofNat_lt.mpr h))
                      clear c34
                      obtain rfl := Option.some.inj H
                      obtain ⟨Ao37, co37, eo37⟩ := Kd.R_slice HO_5.out
                      subst eo37
                      obtain ⟨Ao38, co38, eo38⟩ := Kd.R_slice HO_8.out
                      subst eo38
                      go_wp2
                      repeat (go_quiet (fail); try go_wp2)
                      go_ret
                      exact ⟨by first | rfl | (simp [errW_none, errW_some] <;> rfl) | (simp [*, errW_none, errW_some] <;> rfl), by repeat (first | (with_reducible first | exact HB.out | apply below_alloc | apply pw_below_drewN | apply below_drew1) | exact HB.out)⟩

end Go.Proofs.YtpkiiconadbmfaaDoor.PA
