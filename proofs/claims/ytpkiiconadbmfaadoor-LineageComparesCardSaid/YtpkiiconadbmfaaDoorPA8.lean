/- Printed for this claim by this session's own program, out of the kit's print, with the contracts of other functions proved by hand. -/
import Derived.Test.YtpkiiconadbmfaaDoorPA0
import Derived.Test.YtpkiiconadbmfaaDoorPA2
import Derived.Test.YtpkiiconadbmfaaDoorPA3
import Derived.Test.YtpkiiconadbmfaaDoorPA7
namespace Go.Proofs.YtpkiiconadbmfaaDoor.PA
open Go.RowKit Go.Proofs.YtpkiiconadbmfaaDoor.G Go.Proofs.YtpkiiconadbmfaaDoorW.PrintWords Go.Proofs.YtpkiiconadbmfaaDoorW.PrintLast Go.Proofs.YtpkiiconadbmfaaDoorW.PrintMore
attribute [local go_sem] max2_int min2_int max_two min_two max_three min_three max_four min_four   -- for this text's walks alone
set_option linter.unusedVariables false
set_option linter.unusedSimpArgs false

/-! ### replevinlaw03_LineageCompares: function 6 -/
mutual
def replevinlaw03_LineageCompares.j0 : Nat → ByteArray → ByteArray → ByteArray → Int → Int → Bool → Option (Bool)
  | 0, _, _, _, _, _, _ => none
  | k + 1, x0, x1, x2, x7, x8, x46 => if x46 = true then (some false) else (if x7 ≤ 0 then (if x8 ≤ 0 then ((lineage_Compare.f k x0 x2).bind fun t312 => (replevinlaw03_LineageCompares.j1 k x0 x1 x2 x7 x8 (decide (t312 > 0)))) else (replevinlaw03_LineageCompares.j1 k x0 x1 x2 x7 x8 false)) else (replevinlaw03_LineageCompares.j1 k x0 x1 x2 x7 x8 false))
def replevinlaw03_LineageCompares.j1 : Nat → ByteArray → ByteArray → ByteArray → Int → Int → Bool → Option (Bool)
  | 0, _, _, _, _, _, _ => none
  | k + 1, x0, x1, x2, x7, x8, x58 => if x58 = true then (some false) else ((lineage_Within.f k x1 x0).bind fun t313 => (if t313 = true then (replevinlaw03_LineageCompares.j2 k x0 x1 x2 x7 x8 (decide (x7 > 0))) else (replevinlaw03_LineageCompares.j2 k x0 x1 x2 x7 x8 false)))
def replevinlaw03_LineageCompares.j2 : Nat → ByteArray → ByteArray → ByteArray → Int → Int → Bool → Option (Bool)
  | 0, _, _, _, _, _, _ => none
  | k + 1, x0, x1, x2, x7, x8, x65 => if x65 = true then (some false) else ((lineage_Common.f k x0 x2).bind fun t314 => ((lineage_Valid.f x0).bind fun t315 => (if t315 = true then ((lineage_Valid.f x2).bind fun t316 => (if t316 = true then (if x7 > 0 then (some true) else (if x8 > 0 then (some true) else ((lineage_Within.f k x1 t314).bind fun t317 => (some t317)))) else (some true))) else (some true))))
end
def replevinlaw03_LineageCompares.f (k : Nat) (a0 : ByteArray) (a1 : ByteArray) (a2 : ByteArray) : Option (Bool) := (replevinlaw03_short.f a0).bind fun t304 => ((replevinlaw03_short.f a1).bind fun t305 => ((replevinlaw03_short.f a2).bind fun t306 => ((lineage_Compare.f k t304 t305).bind fun t307 => ((lineage_Compare.f k t305 t306).bind fun t308 => ((replevinlaw03_known.f k).bind fun t309 => (if t309 = true then ((replevinref03_Compare.f k t304 t305).bind fun t310 => (if t307 = t310 then ((lineage_Compare.f k t305 t304).bind fun t311 => (if t311 = (wrap64 (-t307)) then (replevinlaw03_LineageCompares.j0 k t304 t305 t306 t307 t308 ((t307 == 0) != (t304.toList == t305.toList))) else (replevinlaw03_LineageCompares.j0 k t304 t305 t306 t307 t308 true))) else (replevinlaw03_LineageCompares.j0 k t304 t305 t306 t307 t308 true))) else (replevinlaw03_LineageCompares.j0 k t304 t305 t306 t307 t308 true)))))))
theorem replevinlaw03_LineageCompares.mono_l : ∀ k, (∀ y0 y1 y2 y3 y4 y5, LeO (replevinlaw03_LineageCompares.j0 k y0 y1 y2 y3 y4 y5) (replevinlaw03_LineageCompares.j0 (k + 1) y0 y1 y2 y3 y4 y5)) ∧ (∀ y0 y1 y2 y3 y4 y5, LeO (replevinlaw03_LineageCompares.j1 k y0 y1 y2 y3 y4 y5) (replevinlaw03_LineageCompares.j1 (k + 1) y0 y1 y2 y3 y4 y5)) ∧ (∀ y0 y1 y2 y3 y4 y5, LeO (replevinlaw03_LineageCompares.j2 k y0 y1 y2 y3 y4 y5) (replevinlaw03_LineageCompares.j2 (k + 1) y0 y1 y2 y3 y4 y5))
  | 0 => ⟨fun _ _ _ _ _ _ r h => by simp [replevinlaw03_LineageCompares.j0] at h, fun _ _ _ _ _ _ r h => by simp [replevinlaw03_LineageCompares.j1] at h, fun _ _ _ _ _ _ r h => by simp [replevinlaw03_LineageCompares.j2] at h⟩
  | k + 1 => by
    obtain ⟨ih0, ih1, ih2⟩ := replevinlaw03_LineageCompares.mono_l k
    refine ⟨?_, ?_, ?_⟩
    · intro y0 y1 y2 y3 y4 y5
      unfold replevinlaw03_LineageCompares.j0
      repeat' first
      | (with_reducible exact ih0 _ _ _ _ _ _)
      | (with_reducible exact ih1 _ _ _ _ _ _)
      | (with_reducible exact ih2 _ _ _ _ _ _)
      | (with_reducible exact lineage_Common.mono _ _ _)
      | (with_reducible exact lineage_Compare.mono _ _ _)
      | (with_reducible exact lineage_Within.mono _ _ _)
      | (with_reducible exact replevinlaw03_known.mono _)
      | (with_reducible exact replevinref03_Compare.mono _ _ _)
      | (with_reducible exact LeO.refl _)
      | (with_reducible exact LeO.none _)
      | (with_reducible refine LeO.ite ?_ ?_)
      | (with_reducible refine LeO.bind ?_ (fun _ => ?_))
      | exact ih0 _ _ _ _ _ _
      | exact ih1 _ _ _ _ _ _
      | exact ih2 _ _ _ _ _ _
      | exact lineage_Common.mono _ _ _
      | exact lineage_Compare.mono _ _ _
      | exact lineage_Within.mono _ _ _
      | exact replevinlaw03_known.mono _
      | exact replevinref03_Compare.mono _ _ _
      | exact LeO.none _
      | refine LeO.ite ?_ ?_
      | refine LeO.bind ?_ (fun _ => ?_)
    · intro y0 y1 y2 y3 y4 y5
      unfold replevinlaw03_LineageCompares.j1
      repeat' first
      | (with_reducible exact ih0 _ _ _ _ _ _)
      | (with_reducible exact ih1 _ _ _ _ _ _)
      | (with_reducible exact ih2 _ _ _ _ _ _)
      | (with_reducible exact lineage_Common.mono _ _ _)
      | (with_reducible exact lineage_Compare.mono _ _ _)
      | (with_reducible exact lineage_Within.mono _ _ _)
      | (with_reducible exact replevinlaw03_known.mono _)
      | (with_reducible exact replevinref03_Compare.mono _ _ _)
      | (with_reducible exact LeO.refl _)
      | (with_reducible exact LeO.none _)
      | (with_reducible refine LeO.ite ?_ ?_)
      | (with_reducible refine LeO.bind ?_ (fun _ => ?_))
      | exact ih0 _ _ _ _ _ _
      | exact ih1 _ _ _ _ _ _
      | exact ih2 _ _ _ _ _ _
      | exact lineage_Common.mono _ _ _
      | exact lineage_Compare.mono _ _ _
      | exact lineage_Within.mono _ _ _
      | exact replevinlaw03_known.mono _
      | exact replevinref03_Compare.mono _ _ _
      | exact LeO.none _
      | refine LeO.ite ?_ ?_
      | refine LeO.bind ?_ (fun _ => ?_)
    · intro y0 y1 y2 y3 y4 y5
      unfold replevinlaw03_LineageCompares.j2
      repeat' first
      | (with_reducible exact ih0 _ _ _ _ _ _)
      | (with_reducible exact ih1 _ _ _ _ _ _)
      | (with_reducible exact ih2 _ _ _ _ _ _)
      | (with_reducible exact lineage_Common.mono _ _ _)
      | (with_reducible exact lineage_Compare.mono _ _ _)
      | (with_reducible exact lineage_Within.mono _ _ _)
      | (with_reducible exact replevinlaw03_known.mono _)
      | (with_reducible exact replevinref03_Compare.mono _ _ _)
      | (with_reducible exact LeO.refl _)
      | (with_reducible exact LeO.none _)
      | (with_reducible refine LeO.ite ?_ ?_)
      | (with_reducible refine LeO.bind ?_ (fun _ => ?_))
      | exact ih0 _ _ _ _ _ _
      | exact ih1 _ _ _ _ _ _
      | exact ih2 _ _ _ _ _ _
      | exact lineage_Common.mono _ _ _
      | exact lineage_Compare.mono _ _ _
      | exact lineage_Within.mono _ _ _
      | exact replevinlaw03_known.mono _
      | exact replevinref03_Compare.mono _ _ _
      | exact LeO.none _
      | refine LeO.ite ?_ ?_
      | refine LeO.bind ?_ (fun _ => ?_)
theorem replevinlaw03_LineageCompares.mono : ∀ a0 a1 a2 k, LeO (replevinlaw03_LineageCompares.f k a0 a1 a2) (replevinlaw03_LineageCompares.f (k + 1) a0 a1 a2) := by
  intro a0 a1 a2 k
  obtain ⟨ih0, ih1, ih2⟩ := replevinlaw03_LineageCompares.mono_l k
  unfold replevinlaw03_LineageCompares.f
  repeat' first
      | (with_reducible exact ih0 _ _ _ _ _ _)
      | (with_reducible exact ih1 _ _ _ _ _ _)
      | (with_reducible exact ih2 _ _ _ _ _ _)
      | (with_reducible exact lineage_Common.mono _ _ _)
      | (with_reducible exact lineage_Compare.mono _ _ _)
      | (with_reducible exact lineage_Within.mono _ _ _)
      | (with_reducible exact replevinlaw03_known.mono _)
      | (with_reducible exact replevinref03_Compare.mono _ _ _)
      | (with_reducible exact LeO.refl _)
      | (with_reducible exact LeO.none _)
      | (with_reducible refine LeO.ite ?_ ?_)
      | (with_reducible refine LeO.bind ?_ (fun _ => ?_))
      | exact ih0 _ _ _ _ _ _
      | exact ih1 _ _ _ _ _ _
      | exact ih2 _ _ _ _ _ _
      | exact lineage_Common.mono _ _ _
      | exact lineage_Compare.mono _ _ _
      | exact lineage_Within.mono _ _ _
      | exact replevinlaw03_known.mono _
      | exact replevinref03_Compare.mono _ _ _
      | exact LeO.none _
      | refine LeO.ite ?_ ?_
      | refine LeO.bind ?_ (fun _ => ?_)
set_option maxHeartbeats 8000000 in
set_option maxRecDepth 100000 in
theorem replevinlaw03_LineageCompares.calls (k : Nat) (a0 : ByteArray) (a1 : ByteArray) (a2 : ByteArray) (r : Bool) (w : World) (h : replevinlaw03_LineageCompares.f k a0 a1 a2 = some r) (hgg : GG w) :
    Calls Tryd.prog 6 #[.string a0, .string a1, .string a2] w fun e w' => e = .returned (.bool r) ∧ Below w.heap.size w w' := by
  have HGG := Aside0.mk hgg
  clear hgg
  have HB := Aside0.mk (Below.refl w.heap.size w)
  have H : ((replevinlaw03_short.f a0).bind fun t304 => ((replevinlaw03_short.f a1).bind fun t305 => ((replevinlaw03_short.f a2).bind fun t306 => ((lineage_Compare.f k t304 t305).bind fun t307 => ((lineage_Compare.f k t305 t306).bind fun t308 => ((replevinlaw03_known.f k).bind fun t309 => (if t309 = true then ((replevinref03_Compare.f k t304 t305).bind fun t310 => (if t307 = t310 then ((lineage_Compare.f k t305 t304).bind fun t311 => (if t311 = (wrap64 (-t307)) then (replevinlaw03_LineageCompares.j0 k t304 t305 t306 t307 t308 ((t307 == 0) != (t304.toList == t305.toList))) else (replevinlaw03_LineageCompares.j0 k t304 t305 t306 t307 t308 true))) else (replevinlaw03_LineageCompares.j0 k t304 t305 t306 t307 t308 true))) else (replevinlaw03_LineageCompares.j0 k t304 t305 t306 t307 t308 true)))))))) = some r := h
  clear h
  replace H := Option.bind_eq_some_iff.mp H
  obtain ⟨t304, A40, H⟩ := H
  replace H : ((replevinlaw03_short.f a1).bind fun t305 => ((replevinlaw03_short.f a2).bind fun t306 => ((lineage_Compare.f k t304 t305).bind fun t307 => ((lineage_Compare.f k t305 t306).bind fun t308 => ((replevinlaw03_known.f k).bind fun t309 => (if t309 = true then ((replevinref03_Compare.f k t304 t305).bind fun t310 => (if t307 = t310 then ((lineage_Compare.f k t305 t304).bind fun t311 => (if t311 = (wrap64 (-t307)) then (replevinlaw03_LineageCompares.j0 k t304 t305 t306 t307 t308 ((t307 == 0) != (t304.toList == t305.toList))) else (replevinlaw03_LineageCompares.j0 k t304 t305 t306 t307 t308 true))) else (replevinlaw03_LineageCompares.j0 k t304 t305 t306 t307 t308 true))) else (replevinlaw03_LineageCompares.j0 k t304 t305 t306 t307 t308 true))))))) = some r := H
  have A4 := Aside0.mk A40
  clear A40
  replace H := Option.bind_eq_some_iff.mp H
  obtain ⟨t305, A50, H⟩ := H
  replace H : ((replevinlaw03_short.f a2).bind fun t306 => ((lineage_Compare.f k t304 t305).bind fun t307 => ((lineage_Compare.f k t305 t306).bind fun t308 => ((replevinlaw03_known.f k).bind fun t309 => (if t309 = true then ((replevinref03_Compare.f k t304 t305).bind fun t310 => (if t307 = t310 then ((lineage_Compare.f k t305 t304).bind fun t311 => (if t311 = (wrap64 (-t307)) then (replevinlaw03_LineageCompares.j0 k t304 t305 t306 t307 t308 ((t307 == 0) != (t304.toList == t305.toList))) else (replevinlaw03_LineageCompares.j0 k t304 t305 t306 t307 t308 true))) else (replevinlaw03_LineageCompares.j0 k t304 t305 t306 t307 t308 true))) else (replevinlaw03_LineageCompares.j0 k t304 t305 t306 t307 t308 true)))))) = some r := H
  have A5 := Aside0.mk A50
  clear A50
  replace H := Option.bind_eq_some_iff.mp H
  obtain ⟨t306, A60, H⟩ := H
  replace H : ((lineage_Compare.f k t304 t305).bind fun t307 => ((lineage_Compare.f k t305 t306).bind fun t308 => ((replevinlaw03_known.f k).bind fun t309 => (if t309 = true then ((replevinref03_Compare.f k t304 t305).bind fun t310 => (if t307 = t310 then ((lineage_Compare.f k t305 t304).bind fun t311 => (if t311 = (wrap64 (-t307)) then (replevinlaw03_LineageCompares.j0 k t304 t305 t306 t307 t308 ((t307 == 0) != (t304.toList == t305.toList))) else (replevinlaw03_LineageCompares.j0 k t304 t305 t306 t307 t308 true))) else (replevinlaw03_LineageCompares.j0 k t304 t305 t306 t307 t308 true))) else (replevinlaw03_LineageCompares.j0 k t304 t305 t306 t307 t308 true))))) = some r := H
  have A6 := Aside0.mk A60
  clear A60
  replace H := Option.bind_eq_some_iff.mp H
  obtain ⟨t307, A70, H⟩ := H
  replace H : ((lineage_Compare.f k t305 t306).bind fun t308 => ((replevinlaw03_known.f k).bind fun t309 => (if t309 = true then ((replevinref03_Compare.f k t304 t305).bind fun t310 => (if t307 = t310 then ((lineage_Compare.f k t305 t304).bind fun t311 => (if t311 = (wrap64 (-t307)) then (replevinlaw03_LineageCompares.j0 k t304 t305 t306 t307 t308 ((t307 == 0) != (t304.toList == t305.toList))) else (replevinlaw03_LineageCompares.j0 k t304 t305 t306 t307 t308 true))) else (replevinlaw03_LineageCompares.j0 k t304 t305 t306 t307 t308 true))) else (replevinlaw03_LineageCompares.j0 k t304 t305 t306 t307 t308 true)))) = some r := H
  have A7 := Aside0.mk A70
  clear A70
  replace H := Option.bind_eq_some_iff.mp H
  obtain ⟨t308, A80, H⟩ := H
  replace H : ((replevinlaw03_known.f k).bind fun t309 => (if t309 = true then ((replevinref03_Compare.f k t304 t305).bind fun t310 => (if t307 = t310 then ((lineage_Compare.f k t305 t304).bind fun t311 => (if t311 = (wrap64 (-t307)) then (replevinlaw03_LineageCompares.j0 k t304 t305 t306 t307 t308 ((t307 == 0) != (t304.toList == t305.toList))) else (replevinlaw03_LineageCompares.j0 k t304 t305 t306 t307 t308 true))) else (replevinlaw03_LineageCompares.j0 k t304 t305 t306 t307 t308 true))) else (replevinlaw03_LineageCompares.j0 k t304 t305 t306 t307 t308 true))) = some r := H
  have A8 := Aside0.mk A80
  clear A80
  have HC9 := Aside0.mk H
  clear H
  go_enter Tryd.func6, Tryd.ntmps6
  go_upto_region 3 with (first | ((with_reducible refine gate_callee (f := 17) rfl ?_); refine goesL_ (some 11) rfl rfl Tryd.func17 (by kernel_rfl) rfl #[.string a0] rfl (by (try simp only [List.map_toArray, List.map_cons, List.map_nil]); first | done | rfl | (simp only [List.length_drop, List.length_take]; rfl)) ?_; (with_reducible refine (replevinlaw03_short.calls a0 t304 _ A4.out).mono ?_); rintro e w10 ⟨rfl, hb⟩; refine ⟨_, rfl, ?_⟩; have n0_ := Aside0.mk (below_step (by repeat (first | (with_reducible first | exact HB.out | apply below_alloc | apply pw_below_drewN | apply below_drew1) | exact HB.out)) hb); clear HB; have HB := n0_; clear n0_; (try clear hb); (try clear hb2); (try clear hk); (try clear hi)) | ((with_reducible refine gate_callee (f := 17) rfl ?_); refine goesL_ (some 13) rfl rfl Tryd.func17 (by kernel_rfl) rfl #[.string a1] rfl (by (try simp only [List.map_toArray, List.map_cons, List.map_nil]); first | done | rfl | (simp only [List.length_drop, List.length_take]; rfl)) ?_; (with_reducible refine (replevinlaw03_short.calls a1 t305 _ A5.out).mono ?_); rintro e w11 ⟨rfl, hb⟩; refine ⟨_, rfl, ?_⟩; have n0_ := Aside0.mk (below_step (by repeat (first | (with_reducible first | exact HB.out | apply below_alloc | apply pw_below_drewN | apply below_drew1) | exact HB.out)) hb); clear HB; have HB := n0_; clear n0_; (try clear hb); (try clear hb2); (try clear hk); (try clear hi)) | ((with_reducible refine gate_callee (f := 17) rfl ?_); refine goesL_ (some 15) rfl rfl Tryd.func17 (by kernel_rfl) rfl #[.string a2] rfl (by (try simp only [List.map_toArray, List.map_cons, List.map_nil]); first | done | rfl | (simp only [List.length_drop, List.length_take]; rfl)) ?_; (with_reducible refine (replevinlaw03_short.calls a2 t306 _ A6.out).mono ?_); rintro e w12 ⟨rfl, hb⟩; refine ⟨_, rfl, ?_⟩; have n0_ := Aside0.mk (below_step (by repeat (first | (with_reducible first | exact HB.out | apply below_alloc | apply pw_below_drewN | apply below_drew1) | exact HB.out)) hb); clear HB; have HB := n0_; clear n0_; (try clear hb); (try clear hb2); (try clear hk); (try clear hi)) | ((with_reducible refine gate_callee (f := 22) rfl ?_); refine goesL_ (some 18) rfl rfl Tryd.func22 (by kernel_rfl) rfl #[.string t304, .string t305] rfl (by (try simp only [List.map_toArray, List.map_cons, List.map_nil]); first | done | rfl | (simp only [List.length_drop, List.length_take]; rfl)) ?_; (with_reducible refine (lineage_Compare.calls k t304 t305 t307 _ A7.out).mono ?_); rintro e w13 ⟨rfl, hb⟩; refine ⟨_, rfl, ?_⟩; have n0_ := Aside0.mk (below_step (by repeat (first | (with_reducible first | exact HB.out | apply below_alloc | apply pw_below_drewN | apply below_drew1) | exact HB.out)) hb); clear HB; have HB := n0_; clear n0_; (try clear hb); (try clear hb2); (try clear hk); (try clear hi)) | ((with_reducible refine gate_callee (f := 22) rfl ?_); refine goesL_ (some 21) rfl rfl Tryd.func22 (by kernel_rfl) rfl #[.string t305, .string t306] rfl (by (try simp only [List.map_toArray, List.map_cons, List.map_nil]); first | done | rfl | (simp only [List.length_drop, List.length_take]; rfl)) ?_; (with_reducible refine (lineage_Compare.calls k t305 t306 t308 _ A8.out).mono ?_); rintro e w14 ⟨rfl, hb⟩; refine ⟨_, rfl, ?_⟩; have n0_ := Aside0.mk (below_step (by repeat (first | (with_reducible first | exact HB.out | apply below_alloc | apply pw_below_drewN | apply below_drew1) | exact HB.out)) hb); clear HB; have HB := n0_; clear n0_; (try clear hb); (try clear hb2); (try clear hk); (try clear hi)))
  (try simp only [Act.put, List.setIfInBounds_toArray, List.set_cons_zero, List.set_cons_succ])
  go_cut [46] (fun v46 wc => ∃ (kq : Nat) (x46_8 : Bool), v46 = .bool x46_8 ∧ Aside0 (replevinlaw03_LineageCompares.j0 kq t304 t305 t306 t307 t308 x46_8 = some r) ∧ Aside0 (kq ≤ k) ∧ Aside0 (Below w.heap.size w wc))
  case first =>
    have H := HC9.out
    clear HC9
    replace H := Option.bind_eq_some_iff.mp H
    obtain ⟨t309, A150, H⟩ := H
    replace H : (if t309 = true then ((replevinref03_Compare.f k t304 t305).bind fun t310 => (if t307 = t310 then ((lineage_Compare.f k t305 t304).bind fun t311 => (if t311 = (wrap64 (-t307)) then (replevinlaw03_LineageCompares.j0 k t304 t305 t306 t307 t308 ((t307 == 0) != (t304.toList == t305.toList))) else (replevinlaw03_LineageCompares.j0 k t304 t305 t306 t307 t308 true))) else (replevinlaw03_LineageCompares.j0 k t304 t305 t306 t307 t308 true))) else (replevinlaw03_LineageCompares.j0 k t304 t305 t306 t307 t308 true)) = some r := H
    have A15 := Aside0.mk A150
    clear A150
    by_cases c16 : t309 = true
    · subst c16
      have H1 : ((replevinref03_Compare.f k t304 t305).bind fun t310 => (if t307 = t310 then ((lineage_Compare.f k t305 t304).bind fun t311 => (if t311 = (wrap64 (-t307)) then (replevinlaw03_LineageCompares.j0 k t304 t305 t306 t307 t308 ((t307 == 0) != (t304.toList == t305.toList))) else (replevinlaw03_LineageCompares.j0 k t304 t305 t306 t307 t308 true))) else (replevinlaw03_LineageCompares.j0 k t304 t305 t306 t307 t308 true))) = some r := by rw [if_pos rfl] at H; exact H
      clear H
      have H := H1
      clear H1
      replace H := Option.bind_eq_some_iff.mp H
      obtain ⟨t310, A170, H⟩ := H
      replace H : (if t307 = t310 then ((lineage_Compare.f k t305 t304).bind fun t311 => (if t311 = (wrap64 (-t307)) then (replevinlaw03_LineageCompares.j0 k t304 t305 t306 t307 t308 ((t307 == 0) != (t304.toList == t305.toList))) else (replevinlaw03_LineageCompares.j0 k t304 t305 t306 t307 t308 true))) else (replevinlaw03_LineageCompares.j0 k t304 t305 t306 t307 t308 true)) = some r := H
      have A17 := Aside0.mk A170
      clear A170
      by_cases c18 : t307 = t310
      · rw [if_pos c18] at H
        have c18b0 : (t307 == t310) = true := beq_iff_eq.mpr c18
        have c18b1 : (t307 != t310) = false := bne_eq_false_iff_eq.mpr c18
        clear c18
        (first | rw [c18b0] | (simp only [i64_w, i32_w]; rw [c18b0]) | skip)
        replace H := Option.bind_eq_some_iff.mp H
        obtain ⟨t311, A190, H⟩ := H
        replace H : (if t311 = (wrap64 (-t307)) then (replevinlaw03_LineageCompares.j0 k t304 t305 t306 t307 t308 ((t307 == 0) != (t304.toList == t305.toList))) else (replevinlaw03_LineageCompares.j0 k t304 t305 t306 t307 t308 true)) = some r := H
        have A19 := Aside0.mk A190
        clear A190
        by_cases c20 : t311 = (wrap64 (-t307))
        · rw [if_pos c20] at H
          have c20b0 : (t311 == (wrap64 (-t307))) = true := beq_iff_eq.mpr c20
          have c20b1 : (t311 != (wrap64 (-t307))) = false := bne_eq_false_iff_eq.mpr c20
          clear c20
          have H' := Aside0.mk H
          clear H
          go_wp2_with (first | ((with_reducible refine gate_callee (f := 12) rfl ?_); refine goesL_ (some 22) rfl rfl Tryd.func12 (by kernel_rfl) rfl #[] rfl (by (try simp only [List.map_toArray, List.map_cons, List.map_nil]); first | done | rfl | (simp only [List.length_drop, List.length_take]; rfl)) ?_; (with_reducible refine (replevinlaw03_known.calls k  true _ A15.out (GG_below HGG.out (by repeat (first | (with_reducible first | exact HB.out | apply below_alloc | apply pw_below_drewN | apply below_drew1) | exact HB.out)))).mono ?_); rintro e w21 ⟨rfl, hb⟩; refine ⟨_, rfl, ?_⟩; have n0_ := Aside0.mk (below_step (by repeat (first | (with_reducible first | exact HB.out | apply below_alloc | apply pw_below_drewN | apply below_drew1) | exact HB.out)) hb); clear HB; have HB := n0_; clear n0_; (try clear hb); (try clear hb2); (try clear hk); (try clear hi)) | (go_at_call 23; (with_reducible refine (replevinref03_Compare.calls k t304 t305 t310 _ A17.out).mono ?_); rintro e w22 ⟨rfl, hb⟩; have n0_ := Aside0.mk (below_step (by repeat (first | (with_reducible first | exact HB.out | apply below_alloc | apply pw_below_drewN | apply below_drew1) | exact HB.out)) hb); clear HB; have HB := n0_; clear n0_; (try clear hb); (try clear hb2); (try clear hk); (try clear hi)) | (go_at_call 22; (with_reducible refine (lineage_Compare.calls k t305 t304 t311 _ A19.out).mono ?_); rintro e w23 ⟨rfl, hb⟩; have n0_ := Aside0.mk (below_step (by repeat (first | (with_reducible first | exact HB.out | apply below_alloc | apply pw_below_drewN | apply below_drew1) | exact HB.out)) hb); clear HB; have HB := n0_; clear n0_; (try clear hb); (try clear hb2); (try clear hk); (try clear hi)))
          go_meet
          case rel => exact ⟨_, (((t307 == 0) != (t304.toList == t305.toList))), (by first | rfl | (simp; done) | (simp [*]; done)), H', ⟨by first | omega | exact Nat.le_refl _⟩, ⟨by repeat (first | (with_reducible first | exact HB.out | apply below_alloc | apply pw_below_drewN | apply below_drew1) | exact HB.out)⟩⟩
        · rw [if_neg c20] at H
          have c20b0 : (t311 == (wrap64 (-t307))) = false := beq_eq_false_iff_ne.mpr c20
          have c20b1 : (t311 != (wrap64 (-t307))) = true := bne_iff_ne.mpr c20
          have H' := Aside0.mk H
          clear H
          go_wp2_with (first | ((with_reducible refine gate_callee (f := 12) rfl ?_); refine goesL_ (some 22) rfl rfl Tryd.func12 (by kernel_rfl) rfl #[] rfl (by (try simp only [List.map_toArray, List.map_cons, List.map_nil]); first | done | rfl | (simp only [List.length_drop, List.length_take]; rfl)) ?_; (with_reducible refine (replevinlaw03_known.calls k  true _ A15.out (GG_below HGG.out (by repeat (first | (with_reducible first | exact HB.out | apply below_alloc | apply pw_below_drewN | apply below_drew1) | exact HB.out)))).mono ?_); rintro e w24 ⟨rfl, hb⟩; refine ⟨_, rfl, ?_⟩; have n0_ := Aside0.mk (below_step (by repeat (first | (with_reducible first | exact HB.out | apply below_alloc | apply pw_below_drewN | apply below_drew1) | exact HB.out)) hb); clear HB; have HB := n0_; clear n0_; (try clear hb); (try clear hb2); (try clear hk); (try clear hi)) | (go_at_call 23; (with_reducible refine (replevinref03_Compare.calls k t304 t305 t310 _ A17.out).mono ?_); rintro e w25 ⟨rfl, hb⟩; have n0_ := Aside0.mk (below_step (by repeat (first | (with_reducible first | exact HB.out | apply below_alloc | apply pw_below_drewN | apply below_drew1) | exact HB.out)) hb); clear HB; have HB := n0_; clear n0_; (try clear hb); (try clear hb2); (try clear hk); (try clear hi)) | (go_at_call 22; (with_reducible refine (lineage_Compare.calls k t305 t304 t311 _ A19.out).mono ?_); rintro e w26 ⟨rfl, hb⟩; have n0_ := Aside0.mk (below_step (by repeat (first | (with_reducible first | exact HB.out | apply below_alloc | apply pw_below_drewN | apply below_drew1) | exact HB.out)) hb); clear HB; have HB := n0_; clear n0_; (try clear hb); (try clear hb2); (try clear hk); (try clear hi)))
          go_meet
          case rel => exact ⟨_, (true), (by first | rfl | (simp; done) | (simp [*]; done)), H', ⟨by first | omega | exact Nat.le_refl _⟩, ⟨by repeat (first | (with_reducible first | exact HB.out | apply below_alloc | apply pw_below_drewN | apply below_drew1) | exact HB.out)⟩⟩
      · rw [if_neg c18] at H
        have c18b0 : (t307 == t310) = false := beq_eq_false_iff_ne.mpr c18
        have c18b1 : (t307 != t310) = true := bne_iff_ne.mpr c18
        (first | rw [c18b0] | (simp only [i64_w, i32_w]; rw [c18b0]) | skip)
        have H' := Aside0.mk H
        clear H
        go_wp2_with (first | ((with_reducible refine gate_callee (f := 12) rfl ?_); refine goesL_ (some 22) rfl rfl Tryd.func12 (by kernel_rfl) rfl #[] rfl (by (try simp only [List.map_toArray, List.map_cons, List.map_nil]); first | done | rfl | (simp only [List.length_drop, List.length_take]; rfl)) ?_; (with_reducible refine (replevinlaw03_known.calls k  true _ A15.out (GG_below HGG.out (by repeat (first | (with_reducible first | exact HB.out | apply below_alloc | apply pw_below_drewN | apply below_drew1) | exact HB.out)))).mono ?_); rintro e w27 ⟨rfl, hb⟩; refine ⟨_, rfl, ?_⟩; have n0_ := Aside0.mk (below_step (by repeat (first | (with_reducible first | exact HB.out | apply below_alloc | apply pw_below_drewN | apply below_drew1) | exact HB.out)) hb); clear HB; have HB := n0_; clear n0_; (try clear hb); (try clear hb2); (try clear hk); (try clear hi)) | (go_at_call 23; (with_reducible refine (replevinref03_Compare.calls k t304 t305 t310 _ A17.out).mono ?_); rintro e w28 ⟨rfl, hb⟩; have n0_ := Aside0.mk (below_step (by repeat (first | (with_reducible first | exact HB.out | apply below_alloc | apply pw_below_drewN | apply below_drew1) | exact HB.out)) hb); clear HB; have HB := n0_; clear n0_; (try clear hb); (try clear hb2); (try clear hk); (try clear hi)))
        go_meet
        case rel => exact ⟨_, (true), (by first | rfl | (simp; done) | (simp [*]; done)), H', ⟨by first | omega | exact Nat.le_refl _⟩, ⟨by repeat (first | (with_reducible first | exact HB.out | apply below_alloc | apply pw_below_drewN | apply below_drew1) | exact HB.out)⟩⟩
    · replace c16 := Bool.eq_false_iff.mpr c16
      subst c16
      have H1 : (replevinlaw03_LineageCompares.j0 k t304 t305 t306 t307 t308 true) = some r := by rw [if_neg (show ¬ (false = true) by decide)] at H; exact H
      clear H
      have H := H1
      clear H1
      have H' := Aside0.mk H
      clear H
      go_wp2_with (first | ((with_reducible refine gate_callee (f := 12) rfl ?_); refine goesL_ (some 22) rfl rfl Tryd.func12 (by kernel_rfl) rfl #[] rfl (by (try simp only [List.map_toArray, List.map_cons, List.map_nil]); first | done | rfl | (simp only [List.length_drop, List.length_take]; rfl)) ?_; (with_reducible refine (replevinlaw03_known.calls k  false _ A15.out (GG_below HGG.out (by repeat (first | (with_reducible first | exact HB.out | apply below_alloc | apply pw_below_drewN | apply below_drew1) | exact HB.out)))).mono ?_); rintro e w29 ⟨rfl, hb⟩; refine ⟨_, rfl, ?_⟩; have n0_ := Aside0.mk (below_step (by repeat (first | (with_reducible first | exact HB.out | apply below_alloc | apply pw_below_drewN | apply below_drew1) | exact HB.out)) hb); clear HB; have HB := n0_; clear n0_; (try clear hb); (try clear hb2); (try clear hk); (try clear hi)))
      go_meet
      case rel => exact ⟨_, (true), (by first | rfl | (simp; done) | (simp [*]; done)), H', ⟨by first | omega | exact Nat.le_refl _⟩, ⟨by repeat (first | (with_reducible first | exact HB.out | apply below_alloc | apply pw_below_drewN | apply below_drew1) | exact HB.out)⟩⟩
  case rest =>
    clear HC9
    try clear c1
    try clear c2
    try clear p2
    try clear c6
    try clear p6
    try clear c12
    try clear c16
    try clear c17
    try clear c18
    try clear c18b0
    try clear c18b1
    try clear c20
    try clear c20b0
    try clear c20b1
    try clear c22
    obtain ⟨kq, x46_8, rfl, HA, HJ8, HB⟩ := hcut
    cases kq with
    | zero => exact absurd HA.out (by simp [replevinlaw03_LineageCompares.j0])
    | succ kj8 =>
      have H := HA.out
      clear HA
      simp only [replevinlaw03_LineageCompares.j0] at H
      by_cases c30 : x46_8 = true
      · subst c30
        have H1 : (some false) = some r := by rw [if_pos rfl] at H; exact H
        clear H
        have H := H1
        clear H1
        obtain rfl := Option.some.inj H
        go_wp2
        go_ret
        exact ⟨by first | rfl | (simp [errW_none, errW_some] <;> rfl) | (simp [*, errW_none, errW_some] <;> rfl), by repeat (first | (with_reducible first | exact HB.out | apply below_alloc | apply pw_below_drewN | apply below_drew1) | exact HB.out)⟩
      · replace c30 := Bool.eq_false_iff.mpr c30
        subst c30
        have H1 : (if t307 ≤ 0 then (if t308 ≤ 0 then ((lineage_Compare.f kj8 t304 t306).bind fun t312 => (replevinlaw03_LineageCompares.j1 kj8 t304 t305 t306 t307 t308 (decide (t312 > 0)))) else (replevinlaw03_LineageCompares.j1 kj8 t304 t305 t306 t307 t308 false)) else (replevinlaw03_LineageCompares.j1 kj8 t304 t305 t306 t307 t308 false)) = some r := by rw [if_neg (show ¬ (false = true) by decide)] at H; exact H
        clear H
        have H := H1
        clear H1
        have HC31 := Aside0.mk H
        clear H
        go_upto_region 5 with (fail)
        go_cut [58] (fun v58 wc => ∃ (kq : Nat) (x58_30 : Bool), v58 = .bool x58_30 ∧ Aside0 (replevinlaw03_LineageCompares.j1 kq t304 t305 t306 t307 t308 x58_30 = some r) ∧ Aside0 (kq ≤ kj8) ∧ Aside0 (Below w.heap.size w wc))
        case first =>
          have H := HC31.out
          clear HC31
          by_cases c32 : t307 ≤ 0
          · rw [if_pos c32] at H
            have c32b0 : decide (t307 ≤ 0) = true := decide_eq_true c32
            clear c32
            (first | rw [c32b0] | (simp only [i64_w, i32_w]; rw [c32b0]) | skip)
            by_cases c33 : t308 ≤ 0
            · rw [if_pos c33] at H
              have c33b0 : decide (t308 ≤ 0) = true := decide_eq_true c33
              clear c33
              replace H := Option.bind_eq_some_iff.mp H
              obtain ⟨t312, A340, H⟩ := H
              replace H : (replevinlaw03_LineageCompares.j1 kj8 t304 t305 t306 t307 t308 (decide (t312 > 0))) = some r := H
              have A34 := Aside0.mk A340
              clear A340
              have H' := Aside0.mk H
              clear H
              go_wp2_with (first | (go_at_call 22; (with_reducible refine (lineage_Compare.calls kj8 t304 t306 t312 _ A34.out).mono ?_); rintro e w35 ⟨rfl, hb⟩; have n0_ := Aside0.mk (below_step (by repeat (first | (with_reducible first | exact HB.out | apply below_alloc | apply pw_below_drewN | apply below_drew1) | exact HB.out)) hb); clear HB; have HB := n0_; clear n0_; (try clear hb); (try clear hb2); (try clear hk); (try clear hi)))
              go_meet
              case rel => exact ⟨_, (decide (t312 > 0)), (by first | rfl | (simp; done) | (simp [*]; done)), H', ⟨by have := HJ8.out; first | omega | exact Nat.le_refl _⟩, ⟨by repeat (first | (with_reducible first | exact HB.out | apply below_alloc | apply pw_below_drewN | apply below_drew1) | exact HB.out)⟩⟩
            · rw [if_neg c33] at H
              have c33b0 : decide (t308 ≤ 0) = false := decide_eq_false c33
              clear c33
              have H' := Aside0.mk H
              clear H
              go_wp2
              go_meet
              case rel => exact ⟨_, (false), (by first | rfl | (simp; done) | (simp [*]; done)), H', ⟨by have := HJ8.out; first | omega | exact Nat.le_refl _⟩, ⟨by repeat (first | (with_reducible first | exact HB.out | apply below_alloc | apply pw_below_drewN | apply below_drew1) | exact HB.out)⟩⟩
          · rw [if_neg c32] at H
            have c32b0 : decide (t307 ≤ 0) = false := decide_eq_false c32
            clear c32
            (first | rw [c32b0] | (simp only [i64_w, i32_w]; rw [c32b0]) | skip)
            have H' := Aside0.mk H
            clear H
            go_wp2
            go_meet
            case rel => exact ⟨_, (false), (by first | rfl | (simp; done) | (simp [*]; done)), H', ⟨by have := HJ8.out; first | omega | exact Nat.le_refl _⟩, ⟨by repeat (first | (with_reducible first | exact HB.out | apply below_alloc | apply pw_below_drewN | apply below_drew1) | exact HB.out)⟩⟩
        case rest =>
          clear HC31
          try clear c1
          try clear c2
          try clear p2
          try clear c3
          try clear c6
          try clear p6
          try clear c12
          try clear c16
          try clear c17
          try clear c18
          try clear c18b0
          try clear c18b1
          try clear c20
          try clear c20b0
          try clear c20b1
          try clear c22
          try clear c30
          try clear c32
          try clear c32b0
          try clear c33
          try clear c33b0
          try clear p2
          try clear p6
          obtain ⟨kq, x58_30, rfl, HA, HJ30, HB⟩ := hcut
          cases kq with
          | zero => exact absurd HA.out (by simp [replevinlaw03_LineageCompares.j1])
          | succ kj30 =>
            have H := HA.out
            clear HA
            simp only [replevinlaw03_LineageCompares.j1] at H
            by_cases c36 : x58_30 = true
            · subst c36
              have H1 : (some false) = some r := by rw [if_pos rfl] at H; exact H
              clear H
              have H := H1
              clear H1
              obtain rfl := Option.some.inj H
              go_wp2
              go_ret
              exact ⟨by first | rfl | (simp [errW_none, errW_some] <;> rfl) | (simp [*, errW_none, errW_some] <;> rfl), by repeat (first | (with_reducible first | exact HB.out | apply below_alloc | apply pw_below_drewN | apply below_drew1) | exact HB.out)⟩
            · replace c36 := Bool.eq_false_iff.mpr c36
              subst c36
              have H1 : ((lineage_Within.f kj30 t305 t304).bind fun t313 => (if t313 = true then (replevinlaw03_LineageCompares.j2 kj30 t304 t305 t306 t307 t308 (decide (t307 > 0))) else (replevinlaw03_LineageCompares.j2 kj30 t304 t305 t306 t307 t308 false))) = some r := by rw [if_neg (show ¬ (false = true) by decide)] at H; exact H
              clear H
              have H := H1
              clear H1
              have HC37 := Aside0.mk H
              clear H
              go_upto_region 7 with (fail)
              go_cut [65] (fun v65 wc => ∃ (kq : Nat) (x65_36 : Bool), v65 = .bool x65_36 ∧ Aside0 (replevinlaw03_LineageCompares.j2 kq t304 t305 t306 t307 t308 x65_36 = some r) ∧ Aside0 (kq ≤ kj30) ∧ Aside0 (Below w.heap.size w wc))
              case first =>
                have H := HC37.out
                clear HC37
                replace H := Option.bind_eq_some_iff.mp H
                obtain ⟨t313, A380, H⟩ := H
                replace H : (if t313 = true then (replevinlaw03_LineageCompares.j2 kj30 t304 t305 t306 t307 t308 (decide (t307 > 0))) else (replevinlaw03_LineageCompares.j2 kj30 t304 t305 t306 t307 t308 false)) = some r := H
                have A38 := Aside0.mk A380
                clear A380
                by_cases c39 : t313 = true
                · subst c39
                  have H1 : (replevinlaw03_LineageCompares.j2 kj30 t304 t305 t306 t307 t308 (decide (t307 > 0))) = some r := by rw [if_pos rfl] at H; exact H
                  clear H
                  have H := H1
                  clear H1
                  have H' := Aside0.mk H
                  clear H
                  go_wp2_with (first | ((with_reducible refine gate_callee (f := 18) rfl ?_); refine goesL_ (some 61) rfl rfl Tryd.func18 (by kernel_rfl) rfl #[.string t305, .string t304] rfl (by (try simp only [List.map_toArray, List.map_cons, List.map_nil]); first | done | rfl | (simp only [List.length_drop, List.length_take]; rfl)) ?_; (with_reducible refine (lineage_Within.calls kj30 t305 t304 true _ A38.out).mono ?_); rintro e w40 ⟨rfl, hb⟩; refine ⟨_, rfl, ?_⟩; have n0_ := Aside0.mk (below_step (by repeat (first | (with_reducible first | exact HB.out | apply below_alloc | apply pw_below_drewN | apply below_drew1) | exact HB.out)) hb); clear HB; have HB := n0_; clear n0_; (try clear hb); (try clear hb2); (try clear hk); (try clear hi)))
                  go_meet
                  case rel => exact ⟨_, (decide (t307 > 0)), (by first | rfl | (simp; done) | (simp [*]; done)), H', ⟨by have := HJ8.out; have := HJ30.out; first | omega | exact Nat.le_refl _⟩, ⟨by repeat (first | (with_reducible first | exact HB.out | apply below_alloc | apply pw_below_drewN | apply below_drew1) | exact HB.out)⟩⟩
                · replace c39 := Bool.eq_false_iff.mpr c39
                  subst c39
                  have H1 : (replevinlaw03_LineageCompares.j2 kj30 t304 t305 t306 t307 t308 false) = some r := by rw [if_neg (show ¬ (false = true) by decide)] at H; exact H
                  clear H
                  have H := H1
                  clear H1
                  have H' := Aside0.mk H
                  clear H
                  go_wp2_with (first | ((with_reducible refine gate_callee (f := 18) rfl ?_); refine goesL_ (some 61) rfl rfl Tryd.func18 (by kernel_rfl) rfl #[.string t305, .string t304] rfl (by (try simp only [List.map_toArray, List.map_cons, List.map_nil]); first | done | rfl | (simp only [List.length_drop, List.length_take]; rfl)) ?_; (with_reducible refine (lineage_Within.calls kj30 t305 t304 false _ A38.out).mono ?_); rintro e w41 ⟨rfl, hb⟩; refine ⟨_, rfl, ?_⟩; have n0_ := Aside0.mk (below_step (by repeat (first | (with_reducible first | exact HB.out | apply below_alloc | apply pw_below_drewN | apply below_drew1) | exact HB.out)) hb); clear HB; have HB := n0_; clear n0_; (try clear hb); (try clear hb2); (try clear hk); (try clear hi)))
                  go_meet
                  case rel => exact ⟨_, (false), (by first | rfl | (simp; done) | (simp [*]; done)), H', ⟨by have := HJ8.out; have := HJ30.out; first | omega | exact Nat.le_refl _⟩, ⟨by repeat (first | (with_reducible first | exact HB.out | apply below_alloc | apply pw_below_drewN | apply below_drew1) | exact HB.out)⟩⟩
              case rest =>
                clear HC37
                try clear c1
                try clear c2
                try clear p2
                try clear c3
                try clear c6
                try clear p6
                try clear c12
                try clear c16
                try clear c17
                try clear c18
                try clear c18b0
                try clear c18b1
                try clear c20
                try clear c20b0
                try clear c20b1
                try clear c22
                try clear c30
                try clear c32
                try clear c32b0
                try clear c33
                try clear c33b0
                try clear c36
                try clear c39
                try clear p2
                try clear p6
                obtain ⟨kq, x65_36, rfl, HA, HJ36, HB⟩ := hcut
                cases kq with
                | zero => exact absurd HA.out (by simp [replevinlaw03_LineageCompares.j2])
                | succ kj36 =>
                  have H := HA.out
                  clear HA
                  simp only [replevinlaw03_LineageCompares.j2] at H
                  by_cases c42 : x65_36 = true
                  · subst c42
                    have H1 : (some false) = some r := by rw [if_pos rfl] at H; exact H
                    clear H
                    have H := H1
                    clear H1
                    obtain rfl := Option.some.inj H
                    go_wp2
                    go_ret
                    exact ⟨by first | rfl | (simp [errW_none, errW_some] <;> rfl) | (simp [*, errW_none, errW_some] <;> rfl), by repeat (first | (with_reducible first | exact HB.out | apply below_alloc | apply pw_below_drewN | apply below_drew1) | exact HB.out)⟩
                  · replace c42 := Bool.eq_false_iff.mpr c42
                    subst c42
                    have H1 : ((lineage_Common.f kj36 t304 t306).bind fun t314 => ((lineage_Valid.f t304).bind fun t315 => (if t315 = true then ((lineage_Valid.f t306).bind fun t316 => (if t316 = true then (if t307 > 0 then (some true) else (if t308 > 0 then (some true) else ((lineage_Within.f kj36 t305 t314).bind fun t317 => (some t317)))) else (some true))) else (some true)))) = some r := by rw [if_neg (show ¬ (false = true) by decide)] at H; exact H
                    clear H
                    have H := H1
                    clear H1
                    replace H := Option.bind_eq_some_iff.mp H
                    obtain ⟨t314, A430, H⟩ := H
                    replace H : ((lineage_Valid.f t304).bind fun t315 => (if t315 = true then ((lineage_Valid.f t306).bind fun t316 => (if t316 = true then (if t307 > 0 then (some true) else (if t308 > 0 then (some true) else ((lineage_Within.f kj36 t305 t314).bind fun t317 => (some t317)))) else (some true))) else (some true))) = some r := H
                    have A43 := Aside0.mk A430
                    clear A430
                    replace H := Option.bind_eq_some_iff.mp H
                    obtain ⟨t315, A440, H⟩ := H
                    replace H : (if t315 = true then ((lineage_Valid.f t306).bind fun t316 => (if t316 = true then (if t307 > 0 then (some true) else (if t308 > 0 then (some true) else ((lineage_Within.f kj36 t305 t314).bind fun t317 => (some t317)))) else (some true))) else (some true)) = some r := H
                    have A44 := Aside0.mk A440
                    clear A440
                    by_cases c45 : t315 = true
                    · subst c45
                      have H1 : ((lineage_Valid.f t306).bind fun t316 => (if t316 = true then (if t307 > 0 then (some true) else (if t308 > 0 then (some true) else ((lineage_Within.f kj36 t305 t314).bind fun t317 => (some t317)))) else (some true))) = some r := by rw [if_pos rfl] at H; exact H
                      clear H
                      have H := H1
                      clear H1
                      replace H := Option.bind_eq_some_iff.mp H
                      obtain ⟨t316, A460, H⟩ := H
                      replace H : (if t316 = true then (if t307 > 0 then (some true) else (if t308 > 0 then (some true) else ((lineage_Within.f kj36 t305 t314).bind fun t317 => (some t317)))) else (some true)) = some r := H
                      have A46 := Aside0.mk A460
                      clear A460
                      by_cases c47 : t316 = true
                      · subst c47
                        have H1 : (if t307 > 0 then (some true) else (if t308 > 0 then (some true) else ((lineage_Within.f kj36 t305 t314).bind fun t317 => (some t317)))) = some r := by rw [if_pos rfl] at H; exact H
                        clear H
                        have H := H1
                        clear H1
                        by_cases c48 : t307 > 0
                        · rw [if_pos c48] at H
                          have c48b0 : decide (0 < t307) = true := decide_eq_true c48
                          clear c48
                          obtain rfl := Option.some.inj H
                          go_wp2_with (first | ((with_reducible refine gate_callee (f := 20) rfl ?_); refine goesL_ (some 68) rfl rfl Tryd.func20 (by kernel_rfl) rfl #[.string t304, .string t306] rfl (by (try simp only [List.map_toArray, List.map_cons, List.map_nil]); first | done | rfl | (simp only [List.length_drop, List.length_take]; rfl)) ?_; (with_reducible refine (lineage_Common.calls kj36 t304 t306 t314 _ A43.out (GG_below HGG.out (by repeat (first | (with_reducible first | exact HB.out | apply below_alloc | apply pw_below_drewN | apply below_drew1) | exact HB.out)))).mono ?_); rintro e w49 ⟨rfl, hb⟩; refine ⟨_, rfl, ?_⟩; have n0_ := Aside0.mk (below_step (by repeat (first | (with_reducible first | exact HB.out | apply below_alloc | apply pw_below_drewN | apply below_drew1) | exact HB.out)) hb); clear HB; have HB := n0_; clear n0_; (try clear hb); (try clear hb2); (try clear hk); (try clear hi)) | ((with_reducible refine gate_callee (f := 16) rfl ?_); refine goesL_ (some 70) rfl rfl Tryd.func16 (by kernel_rfl) rfl #[.string t304] rfl (by (try simp only [List.map_toArray, List.map_cons, List.map_nil]); first | done | rfl | (simp only [List.length_drop, List.length_take]; rfl)) ?_; (with_reducible refine (lineage_Valid.calls t304 true _ A44.out).mono ?_); rintro e w50 ⟨rfl, hb⟩; refine ⟨_, rfl, ?_⟩; have n0_ := Aside0.mk (below_step (by repeat (first | (with_reducible first | exact HB.out | apply below_alloc | apply pw_below_drewN | apply below_drew1) | exact HB.out)) hb); clear HB; have HB := n0_; clear n0_; (try clear hb); (try clear hb2); (try clear hk); (try clear hi)) | (go_at_call 16; (with_reducible refine (lineage_Valid.calls t306 true _ A46.out).mono ?_); rintro e w51 ⟨rfl, hb⟩; have n0_ := Aside0.mk (below_step (by repeat (first | (with_reducible first | exact HB.out | apply below_alloc | apply pw_below_drewN | apply below_drew1) | exact HB.out)) hb); clear HB; have HB := n0_; clear n0_; (try clear hb); (try clear hb2); (try clear hk); (try clear hi)))
                          go_ret
                          exact ⟨by first | rfl | (simp [errW_none, errW_some] <;> rfl) | (simp [*, errW_none, errW_some] <;> rfl), by repeat (first | (with_reducible first | exact HB.out | apply below_alloc | apply pw_below_drewN | apply below_drew1) | exact HB.out)⟩
                        · rw [if_neg c48] at H
                          have c48b0 : decide (0 < t307) = false := decide_eq_false c48
                          clear c48
                          by_cases c52 : t308 > 0
                          · rw [if_pos c52] at H
                            have c52b0 : decide (0 < t308) = true := decide_eq_true c52
                            clear c52
                            obtain rfl := Option.some.inj H
                            go_wp2_with (first | ((with_reducible refine gate_callee (f := 20) rfl ?_); refine goesL_ (some 68) rfl rfl Tryd.func20 (by kernel_rfl) rfl #[.string t304, .string t306] rfl (by (try simp only [List.map_toArray, List.map_cons, List.map_nil]); first | done | rfl | (simp only [List.length_drop, List.length_take]; rfl)) ?_; (with_reducible refine (lineage_Common.calls kj36 t304 t306 t314 _ A43.out (GG_below HGG.out (by repeat (first | (with_reducible first | exact HB.out | apply below_alloc | apply pw_below_drewN | apply below_drew1) | exact HB.out)))).mono ?_); rintro e w53 ⟨rfl, hb⟩; refine ⟨_, rfl, ?_⟩; have n0_ := Aside0.mk (below_step (by repeat (first | (with_reducible first | exact HB.out | apply below_alloc | apply pw_below_drewN | apply below_drew1) | exact HB.out)) hb); clear HB; have HB := n0_; clear n0_; (try clear hb); (try clear hb2); (try clear hk); (try clear hi)) | ((with_reducible refine gate_callee (f := 16) rfl ?_); refine goesL_ (some 70) rfl rfl Tryd.func16 (by kernel_rfl) rfl #[.string t304] rfl (by (try simp only [List.map_toArray, List.map_cons, List.map_nil]); first | done | rfl | (simp only [List.length_drop, List.length_take]; rfl)) ?_; (with_reducible refine (lineage_Valid.calls t304 true _ A44.out).mono ?_); rintro e w54 ⟨rfl, hb⟩; refine ⟨_, rfl, ?_⟩; have n0_ := Aside0.mk (below_step (by repeat (first | (with_reducible first | exact HB.out | apply below_alloc | apply pw_below_drewN | apply below_drew1) | exact HB.out)) hb); clear HB; have HB := n0_; clear n0_; (try clear hb); (try clear hb2); (try clear hk); (try clear hi)) | (go_at_call 16; (with_reducible refine (lineage_Valid.calls t306 true _ A46.out).mono ?_); rintro e w55 ⟨rfl, hb⟩; have n0_ := Aside0.mk (below_step (by repeat (first | (with_reducible first | exact HB.out | apply below_alloc | apply pw_below_drewN | apply below_drew1) | exact HB.out)) hb); clear HB; have HB := n0_; clear n0_; (try clear hb); (try clear hb2); (try clear hk); (try clear hi)))
                            go_ret
                            exact ⟨by first | rfl | (simp [errW_none, errW_some] <;> rfl) | (simp [*, errW_none, errW_some] <;> rfl), by repeat (first | (with_reducible first | exact HB.out | apply below_alloc | apply pw_below_drewN | apply below_drew1) | exact HB.out)⟩
                          · rw [if_neg c52] at H
                            have c52b0 : decide (0 < t308) = false := decide_eq_false c52
                            clear c52
                            replace H := Option.bind_eq_some_iff.mp H
                            obtain ⟨t317, A560, H⟩ := H
                            replace H : (some t317) = some r := H
                            have A56 := Aside0.mk A560
                            clear A560
                            obtain rfl := Option.some.inj H
                            go_wp2_with (first | ((with_reducible refine gate_callee (f := 20) rfl ?_); refine goesL_ (some 68) rfl rfl Tryd.func20 (by kernel_rfl) rfl #[.string t304, .string t306] rfl (by (try simp only [List.map_toArray, List.map_cons, List.map_nil]); first | done | rfl | (simp only [List.length_drop, List.length_take]; rfl)) ?_; (with_reducible refine (lineage_Common.calls kj36 t304 t306 t314 _ A43.out (GG_below HGG.out (by repeat (first | (with_reducible first | exact HB.out | apply below_alloc | apply pw_below_drewN | apply below_drew1) | exact HB.out)))).mono ?_); rintro e w57 ⟨rfl, hb⟩; refine ⟨_, rfl, ?_⟩; have n0_ := Aside0.mk (below_step (by repeat (first | (with_reducible first | exact HB.out | apply below_alloc | apply pw_below_drewN | apply below_drew1) | exact HB.out)) hb); clear HB; have HB := n0_; clear n0_; (try clear hb); (try clear hb2); (try clear hk); (try clear hi)) | ((with_reducible refine gate_callee (f := 16) rfl ?_); refine goesL_ (some 70) rfl rfl Tryd.func16 (by kernel_rfl) rfl #[.string t304] rfl (by (try simp only [List.map_toArray, List.map_cons, List.map_nil]); first | done | rfl | (simp only [List.length_drop, List.length_take]; rfl)) ?_; (with_reducible refine (lineage_Valid.calls t304 true _ A44.out).mono ?_); rintro e w58 ⟨rfl, hb⟩; refine ⟨_, rfl, ?_⟩; have n0_ := Aside0.mk (below_step (by repeat (first | (with_reducible first | exact HB.out | apply below_alloc | apply pw_below_drewN | apply below_drew1) | exact HB.out)) hb); clear HB; have HB := n0_; clear n0_; (try clear hb); (try clear hb2); (try clear hk); (try clear hi)) | (go_at_call 16; (with_reducible refine (lineage_Valid.calls t306 true _ A46.out).mono ?_); rintro e w59 ⟨rfl, hb⟩; have n0_ := Aside0.mk (below_step (by repeat (first | (with_reducible first | exact HB.out | apply below_alloc | apply pw_below_drewN | apply below_drew1) | exact HB.out)) hb); clear HB; have HB := n0_; clear n0_; (try clear hb); (try clear hb2); (try clear hk); (try clear hi)) | (go_at_call 18; (with_reducible refine (lineage_Within.calls kj36 t305 t314 t317 _ A56.out).mono ?_); rintro e w60 ⟨rfl, hb⟩; have n0_ := Aside0.mk (below_step (by repeat (first | (with_reducible first | exact HB.out | apply below_alloc | apply pw_below_drewN | apply below_drew1) | exact HB.out)) hb); clear HB; have HB := n0_; clear n0_; (try clear hb); (try clear hb2); (try clear hk); (try clear hi)))
                            go_ret
                            exact ⟨by first | rfl | (simp [errW_none, errW_some] <;> rfl) | (simp [*, errW_none, errW_some] <;> rfl), by repeat (first | (with_reducible first | exact HB.out | apply below_alloc | apply pw_below_drewN | apply below_drew1) | exact HB.out)⟩
                      · replace c47 := Bool.eq_false_iff.mpr c47
                        subst c47
                        have H1 : (some true) = some r := by rw [if_neg (show ¬ (false = true) by decide)] at H; exact H
                        clear H
                        have H := H1
                        clear H1
                        obtain rfl := Option.some.inj H
                        go_wp2_with (first | ((with_reducible refine gate_callee (f := 20) rfl ?_); refine goesL_ (some 68) rfl rfl Tryd.func20 (by kernel_rfl) rfl #[.string t304, .string t306] rfl (by (try simp only [List.map_toArray, List.map_cons, List.map_nil]); first | done | rfl | (simp only [List.length_drop, List.length_take]; rfl)) ?_; (with_reducible refine (lineage_Common.calls kj36 t304 t306 t314 _ A43.out (GG_below HGG.out (by repeat (first | (with_reducible first | exact HB.out | apply below_alloc | apply pw_below_drewN | apply below_drew1) | exact HB.out)))).mono ?_); rintro e w61 ⟨rfl, hb⟩; refine ⟨_, rfl, ?_⟩; have n0_ := Aside0.mk (below_step (by repeat (first | (with_reducible first | exact HB.out | apply below_alloc | apply pw_below_drewN | apply below_drew1) | exact HB.out)) hb); clear HB; have HB := n0_; clear n0_; (try clear hb); (try clear hb2); (try clear hk); (try clear hi)) | ((with_reducible refine gate_callee (f := 16) rfl ?_); refine goesL_ (some 70) rfl rfl Tryd.func16 (by kernel_rfl) rfl #[.string t304] rfl (by (try simp only [List.map_toArray, List.map_cons, List.map_nil]); first | done | rfl | (simp only [List.length_drop, List.length_take]; rfl)) ?_; (with_reducible refine (lineage_Valid.calls t304 true _ A44.out).mono ?_); rintro e w62 ⟨rfl, hb⟩; refine ⟨_, rfl, ?_⟩; have n0_ := Aside0.mk (below_step (by repeat (first | (with_reducible first | exact HB.out | apply below_alloc | apply pw_below_drewN | apply below_drew1) | exact HB.out)) hb); clear HB; have HB := n0_; clear n0_; (try clear hb); (try clear hb2); (try clear hk); (try clear hi)) | (go_at_call 16; (with_reducible refine (lineage_Valid.calls t306 false _ A46.out).mono ?_); rintro e w63 ⟨rfl, hb⟩; have n0_ := Aside0.mk (below_step (by repeat (first | (with_reducible first | exact HB.out | apply below_alloc | apply pw_below_drewN | apply below_drew1) | exact HB.out)) hb); clear HB; have HB := n0_; clear n0_; (try clear hb); (try clear hb2); (try clear hk); (try clear hi)))
                        go_ret
                        exact ⟨by first | rfl | (simp [errW_none, errW_some] <;> rfl) | (simp [*, errW_none, errW_some] <;> rfl), by repeat (first | (with_reducible first | exact HB.out | apply below_alloc | apply pw_below_drewN | apply below_drew1) | exact HB.out)⟩
                    · replace c45 := Bool.eq_false_iff.mpr c45
                      subst c45
                      have H1 : (some true) = some r := by rw [if_neg (show ¬ (false = true) by decide)] at H; exact H
                      clear H
                      have H := H1
                      clear H1
                      obtain rfl := Option.some.inj H
                      go_wp2_with (first | ((with_reducible refine gate_callee (f := 20) rfl ?_); refine goesL_ (some 68) rfl rfl Tryd.func20 (by kernel_rfl) rfl #[.string t304, .string t306] rfl (by (try simp only [List.map_toArray, List.map_cons, List.map_nil]); first | done | rfl | (simp only [List.length_drop, List.length_take]; rfl)) ?_; (with_reducible refine (lineage_Common.calls kj36 t304 t306 t314 _ A43.out (GG_below HGG.out (by repeat (first | (with_reducible first | exact HB.out | apply below_alloc | apply pw_below_drewN | apply below_drew1) | exact HB.out)))).mono ?_); rintro e w64 ⟨rfl, hb⟩; refine ⟨_, rfl, ?_⟩; have n0_ := Aside0.mk (below_step (by repeat (first | (with_reducible first | exact HB.out | apply below_alloc | apply pw_below_drewN | apply below_drew1) | exact HB.out)) hb); clear HB; have HB := n0_; clear n0_; (try clear hb); (try clear hb2); (try clear hk); (try clear hi)) | ((with_reducible refine gate_callee (f := 16) rfl ?_); refine goesL_ (some 70) rfl rfl Tryd.func16 (by kernel_rfl) rfl #[.string t304] rfl (by (try simp only [List.map_toArray, List.map_cons, List.map_nil]); first | done | rfl | (simp only [List.length_drop, List.length_take]; rfl)) ?_; (with_reducible refine (lineage_Valid.calls t304 false _ A44.out).mono ?_); rintro e w65 ⟨rfl, hb⟩; refine ⟨_, rfl, ?_⟩; have n0_ := Aside0.mk (below_step (by repeat (first | (with_reducible first | exact HB.out | apply below_alloc | apply pw_below_drewN | apply below_drew1) | exact HB.out)) hb); clear HB; have HB := n0_; clear n0_; (try clear hb); (try clear hb2); (try clear hk); (try clear hi)))
                      go_ret
                      exact ⟨by first | rfl | (simp [errW_none, errW_some] <;> rfl) | (simp [*, errW_none, errW_some] <;> rfl), by repeat (first | (with_reducible first | exact HB.out | apply below_alloc | apply pw_below_drewN | apply below_drew1) | exact HB.out)⟩

/-- THE ONE PURE STATEMENT of replevinlaw03_LineageCompares: yours. -/
def replevinlaw03_LineageCompares.Pure : Prop := ∀ (a0 : ByteArray) (a1 : ByteArray) (a2 : ByteArray), a0.size ≤ 140737488351232 → a1.size ≤ 140737488351232 → a2.size ≤ 140737488351232 → ∃ k, replevinlaw03_LineageCompares.f k a0 a1 a2 = some true
theorem replevinlaw03_LineageCompares.walk (P : replevinlaw03_LineageCompares.Pure) (a0 : ByteArray) (a1 : ByteArray) (a2 : ByteArray) (w : World) (w0 : a0.size ≤ 140737488351232) (w1 : a1.size ≤ 140737488351232) (w2 : a2.size ≤ 140737488351232) (hgg : GG w) :
    Calls Tryd.prog 6 #[.string a0, .string a1, .string a2] w fun e w' => e = .returned (.bool true) ∧ Below w.heap.size w w' := by
  obtain ⟨k, h⟩ := P a0 a1 a2 w0 w1 w2
  refine (replevinlaw03_LineageCompares.calls k a0 a1 a2 true w h hgg).mono ?_
  rintro e w' ⟨rfl, hd⟩
  exact ⟨rfl, hd⟩

/-! ### lineage_Name_Parent: function 26 -/
def lineage_Name_Parent.f (k : Nat) (a0 : ByteArray) : Option (ByteArray × Bool) := (lineage_Name_Ordinals.f a0).bind fun t318 => (if (t318.length : Int) = 0 then (some ((⟨#[]⟩ : ByteArray), false)) else (if 0 ≤ (wrap64 ((t318.length : Int) - 1)) then (if (wrap64 ((t318.length : Int) - 1)) ≤ (t318.length : Int) then ((lineage_named.f k (t318.take ((wrap64 ((t318.length : Int) - 1)) : Int).toNat)).bind fun t325 => (some (t325, true))) else (none)) else (none)))
theorem lineage_Name_Parent.mono : ∀ a0 k, LeO (lineage_Name_Parent.f k a0) (lineage_Name_Parent.f (k + 1) a0) := by
  intro a0 k
  unfold lineage_Name_Parent.f
  repeat' first
      | (with_reducible exact lineage_named.mono _ _)
      | (with_reducible exact LeO.refl _)
      | (with_reducible exact LeO.none _)
      | (with_reducible refine LeO.ite ?_ ?_)
      | (with_reducible refine LeO.bind ?_ (fun _ => ?_))
      | exact lineage_named.mono _ _
      | exact LeO.none _
      | refine LeO.ite ?_ ?_
      | refine LeO.bind ?_ (fun _ => ?_)
set_option maxHeartbeats 8000000 in
set_option maxRecDepth 100000 in
theorem lineage_Name_Parent.calls (k : Nat) (a0 : ByteArray) (r1 : ByteArray) (r2 : Bool) (w : World) (h : lineage_Name_Parent.f k a0 = some (r1, r2)) (hgg : GG w) :
    Calls Tryd.prog 26 #[.string a0] w fun e w' => e = .returned (.tuple #[.string r1, .bool r2]) ∧ Below w.heap.size w w' := by
  have HGG := Aside0.mk hgg
  clear hgg
  have HB := Aside0.mk (Below.refl w.heap.size w)
  have H : ((lineage_Name_Ordinals.f a0).bind fun t318 => (if (t318.length : Int) = 0 then (some ((⟨#[]⟩ : ByteArray), false)) else (if 0 ≤ (wrap64 ((t318.length : Int) - 1)) then (if (wrap64 ((t318.length : Int) - 1)) ≤ (t318.length : Int) then ((lineage_named.f k (t318.take ((wrap64 ((t318.length : Int) - 1)) : Int).toNat)).bind fun t325 => (some (t325, true))) else (none)) else (none)))) = some (r1, r2) := h
  clear h
  replace H := Option.bind_eq_some_iff.mp H
  obtain ⟨t318, A20, H⟩ := H
  replace H : (if (t318.length : Int) = 0 then (some ((⟨#[]⟩ : ByteArray), false)) else (if 0 ≤ (wrap64 ((t318.length : Int) - 1)) then (if (wrap64 ((t318.length : Int) - 1)) ≤ (t318.length : Int) then ((lineage_named.f k (t318.take ((wrap64 ((t318.length : Int) - 1)) : Int).toNat)).bind fun t325 => (some (t325, true))) else (none)) else (none))) = some (r1, r2) := H
  have A2 := Aside0.mk A20
  clear A20
  by_cases c3 : (t318.length : Int) = 0
  · rw [if_pos c3] at H
    have c3b0 : ((t318.length : Int) == 0) = true := beq_iff_eq.mpr c3
    have c3b1 : ((t318.length : Int) != 0) = false := bne_eq_false_iff_eq.mpr c3
    clear c3
    simp only [Option.some.injEq, Prod.mk.injEq] at H
    obtain ⟨rfl, rfl⟩ := H
    go_enter Tryd.func26, Tryd.ntmps26
    go_wp2_with (first | ((with_reducible refine gate_callee (f := 15) rfl ?_); refine goesL_ (some 6) rfl rfl Tryd.func15 (by kernel_rfl) rfl #[.string a0] rfl (by (try simp only [List.map_toArray, List.map_cons, List.map_nil]); first | done | rfl | (simp only [List.length_drop, List.length_take]; rfl)) ?_; (with_reducible refine (lineage_Name_Ordinals.calls a0 t318 _ A2.out).mono ?_); rintro e w4 ⟨v319, rfl, ho0, hb⟩; refine ⟨_, rfl, ?_⟩; have n0_ := Aside0.mk (Kd.R_lower ho0 (below_size (by repeat (first | (with_reducible first | exact HB.out | apply below_alloc | apply pw_below_drewN | apply below_drew1) | exact HB.out)))); have n1_ := Aside0.mk (below_step (by repeat (first | (with_reducible first | exact HB.out | apply below_alloc | apply pw_below_drewN | apply below_drew1) | exact HB.out)) hb); clear HB; have HO320 := n0_; have HB := n1_; clear n0_ n1_; (try clear hb); (try clear hb2); (try clear hk); (try clear hi); (try clear ho0); obtain ⟨Ao5, co5, eo5⟩ := Kd.R_slice HO320.out; subst eo5))
    go_ret2
    exact ⟨by first | rfl | (simp [errW_none, errW_some] <;> rfl) | (simp [*, errW_none, errW_some] <;> rfl), by repeat (first | (with_reducible first | exact HB.out | apply below_alloc | apply pw_below_drewN | apply below_drew1) | exact HB.out)⟩
  · rw [if_neg c3] at H
    have c3b0 : ((t318.length : Int) == 0) = false := beq_eq_false_iff_ne.mpr c3
    have c3b1 : ((t318.length : Int) != 0) = true := bne_iff_ne.mpr c3
    have c3b2 : ¬ (t318 = []) := fun h_ => c3 (by rw [h_]; rfl)
    obtain ⟨ji6, hji6⟩ : ∃ j_ : Int, (wrap64 ((t318.length : Int) - 1)) = j_ := ⟨_, rfl⟩
    replace H : (if 0 ≤ (ji6) then (if (ji6) ≤ (t318.length : Int) then ((lineage_named.f k (t318.take ((ji6) : Int).toNat)).bind fun t325 => (some (t325, true))) else (none)) else (none)) = some (r1, r2) := by first | (rw [hji6] at H; exact H) | (simp only [hji6] at H ⊢; exact H)
    (try rw [hji6] at A2)
    have hji6w : (IntKind.i64.wrap ((t318.length : Int) - 1)) = ji6 := (i64_w _).trans hji6
    by_cases c7 : 0 ≤ (ji6)
    · rw [if_pos c7] at H
      have c7b0 := eq_true c7
      have c7b1 : decide (0 ≤ (ji6)) = true := decide_eq_true c7
      clear c7
      by_cases c8 : (ji6) ≤ (t318.length : Int)
      · rw [if_pos c8] at H
        have c8b0 := eq_true c8
        have c8b1 : decide ((ji6) ≤ (t318.length : Int)) = true := decide_eq_true c8
        clear c8
        obtain ⟨y321, hy321⟩ : ∃ y_ : List Int, y_ = (t318.take ((ji6) : Int).toNat) := ⟨_, rfl⟩
        replace H : ((lineage_named.f k y321).bind fun t325 => (some (t325, true))) = some (r1, r2) := by first | (rw [hy321]; with_reducible exact H) | (have H2_ := (Option.bind_some _ _).symm.trans H; rw [hy321]; with_reducible exact H2_) | (have H2_ := (Option.bind_some _ _).symm.trans H; with_reducible exact H2_) | with_reducible exact H | (rw [hy321]; exact H) | exact H
        have Ny321 := Aside0.mk hy321
        clear hy321
        replace H := Option.bind_eq_some_iff.mp H
        obtain ⟨t325, A90, H⟩ := H
        replace H : (some (t325, true)) = some (r1, r2) := H
        have A9 := Aside0.mk A90
        clear A90
        simp only [Option.some.injEq, Prod.mk.injEq] at H
        obtain ⟨rfl, rfl⟩ := H
        go_enter Tryd.func26, Tryd.ntmps26
        go_wp2_with (first | ((with_reducible refine gate_callee (f := 15) rfl ?_); refine goesL_ (some 6) rfl rfl Tryd.func15 (by kernel_rfl) rfl #[.string a0] rfl (by (try simp only [List.map_toArray, List.map_cons, List.map_nil]); first | done | rfl | (simp only [List.length_drop, List.length_take]; rfl)) ?_; (with_reducible refine (lineage_Name_Ordinals.calls a0 t318 _ A2.out).mono ?_); rintro e w10 ⟨v319, rfl, ho0, hb⟩; refine ⟨_, rfl, ?_⟩; have n0_ := Aside0.mk (Kd.R_lower ho0 (below_size (by repeat (first | (with_reducible first | exact HB.out | apply below_alloc | apply pw_below_drewN | apply below_drew1) | exact HB.out)))); have n1_ := Aside0.mk (below_step (by repeat (first | (with_reducible first | exact HB.out | apply below_alloc | apply pw_below_drewN | apply below_drew1) | exact HB.out)) hb); clear HB; have HO320 := n0_; have HB := n1_; clear n0_ n1_; (try clear hb); (try clear hb2); (try clear hk); (try clear hi); (try clear ho0); obtain ⟨Ao11, co11, eo11⟩ := Kd.R_slice HO320.out; subst eo11; have q12 : ((ji6) : Int) ≤ ((t318.length : Int) : Int) := of_decide_eq_true (by first | (with_reducible assumption) | assumption); obtain ⟨i012, hi012, _, hsz12, _⟩ := info_parts info3; have hroom12 : t318.length ≤ co11 := (Kd.R_reads' HO320.out).2.1; have hC12 : Kd.C (Kd.int .i64) _ Ao11 t318.length t318 := (Kd.R_reads' HO320.out).2.2; have hcut12 := cut_to (P := Tryd.prog) 22 3 .i64 Tryd.underlying22 hi012 Ao11 t318.length co11 (ji6) (of_decide_eq_true (by first | (with_reducible assumption) | assumption)) q12 hroom12; have hr12 := Kd.C_take (m := ((ji6) : Int).toNat) hC12 (by omega); have hy12 : y321.length = ((ji6) : Int).toNat := (by rw [Ny321.out, List.length_take]; omega); rw [← Ny321.out] at hr12; rw [← hy12] at hcut12; have HR324 := Aside0.mk hr12; have HC324 := Aside0.mk (show y321.length ≤ co11 from by omega); clear hr12 hC12 hroom12 hi012 hsz12; have KY12 := Aside0.mk hy12; clear hy12; have KL12 := Aside0.mk (show ((ji6) : Int).toNat ≤ t318.length from by omega); replace q12 := eq_true q12) | ((with_reducible refine gate_callee (f := 41) rfl ?_); refine goesL_ (some 15) rfl rfl Tryd.func41 (by kernel_rfl) rfl #[.slice Ao11 y321.length co11] rfl (by (try simp only [List.map_toArray, List.map_cons, List.map_nil]); first | done | rfl | (simp only [List.length_drop, List.length_take]; rfl)) ?_; (with_reducible refine (lineage_named.calls k _ _ y321 t325 _ ?side1 ?side2 A9.out (GG_below HGG.out (by repeat (first | (with_reducible first | exact HB.out | apply below_alloc | apply pw_below_drewN | apply below_drew1) | exact HB.out)))).mono ?_); (case side1 => repeat (first | exact (by repeat (first | (with_reducible exact HR324.out) | (with_reducible refine Kd.C_alloc ?_ _) | (with_reducible refine Kd.C_drewN ?_ _) | (with_reducible refine Kd.C_drew ?_) | exact HR324.out)) | (with_reducible refine Kd.C_alloc ?_ _) | (with_reducible refine Kd.C_drewN ?_ _) | (with_reducible refine Kd.C_drew ?_))); (case side2 => exact HC324.out); rintro e w13 ⟨rfl, hb⟩; refine ⟨_, rfl, ?_⟩; have n0_ := Aside0.mk (Kd.R_below (by (with_reducible repeat (first | apply Kd.R_alloc | apply Kd.R_drewN | apply Kd.R_drew)); exact HO320.out) hb); have n1_ := Aside0.mk (Kd.C_below (by repeat (first | (with_reducible exact HR324.out) | (with_reducible refine Kd.C_alloc ?_ _) | (with_reducible refine Kd.C_drewN ?_ _) | (with_reducible refine Kd.C_drew ?_) | exact HR324.out)) hb); have n2_ := Aside0.mk (below_step (by repeat (first | (with_reducible first | exact HB.out | apply below_alloc | apply pw_below_drewN | apply below_drew1) | exact HB.out)) hb); clear HO320; clear HR324; clear HB; have HO320 := n0_; have HR324 := n1_; have HB := n2_; clear n0_ n1_ n2_; (try clear hb); (try clear hb2); (try clear hk); (try clear hi)))
        go_ret2
        exact ⟨by first | rfl | (simp [errW_none, errW_some] <;> rfl) | (simp only [← hji6]; first | rfl | (simp [errW_none, errW_some] <;> rfl)) | (simp [*, errW_none, errW_some] <;> rfl), by repeat (first | (with_reducible first | exact HB.out | apply below_alloc | apply pw_below_drewN | apply below_drew1) | exact HB.out)⟩
      · rw [if_neg c8] at H
        exact absurd H (by simp)
    · rw [if_neg c7] at H
      exact absurd H (by simp)

/-! ### lineage_Name_Depth: function 27 -/
def lineage_Name_Depth.f (a0 : ByteArray) : Option (Int) := (lineage_Name_Ordinals.f a0).bind fun t326 => (some (t326.length : Int))
set_option maxHeartbeats 8000000 in
set_option maxRecDepth 100000 in
theorem lineage_Name_Depth.calls (a0 : ByteArray) (r : Int) (w : World) (h : lineage_Name_Depth.f a0 = some r) :
    Calls Tryd.prog 27 #[.string a0] w fun e w' => e = .returned (.int .i64 r) ∧ Below w.heap.size w w' := by
  have HB := Aside0.mk (Below.refl w.heap.size w)
  have H : ((lineage_Name_Ordinals.f a0).bind fun t326 => (some (t326.length : Int))) = some r := h
  clear h
  replace H := Option.bind_eq_some_iff.mp H
  obtain ⟨t326, A20, H⟩ := H
  replace H : (some (t326.length : Int)) = some r := H
  have A2 := Aside0.mk A20
  clear A20
  obtain rfl := Option.some.inj H
  go_enter Tryd.func27, Tryd.ntmps27
  go_wp2_with (first | ((with_reducible refine gate_callee (f := 15) rfl ?_); refine goesL_ (some 4) rfl rfl Tryd.func15 (by kernel_rfl) rfl #[.string a0] rfl (by (try simp only [List.map_toArray, List.map_cons, List.map_nil]); first | done | rfl | (simp only [List.length_drop, List.length_take]; rfl)) ?_; (with_reducible refine (lineage_Name_Ordinals.calls a0 t326 _ A2.out).mono ?_); rintro e w3 ⟨v327, rfl, ho0, hb⟩; refine ⟨_, rfl, ?_⟩; have n0_ := Aside0.mk (Kd.R_lower ho0 (below_size (by repeat (first | (with_reducible first | exact HB.out | apply below_alloc | apply pw_below_drewN | apply below_drew1) | exact HB.out)))); have n1_ := Aside0.mk (below_step (by repeat (first | (with_reducible first | exact HB.out | apply below_alloc | apply pw_below_drewN | apply below_drew1) | exact HB.out)) hb); clear HB; have HO328 := n0_; have HB := n1_; clear n0_ n1_; (try clear hb); (try clear hb2); (try clear hk); (try clear hi); (try clear ho0); obtain ⟨Ao4, co4, eo4⟩ := Kd.R_slice HO328.out; subst eo4))
  go_ret
  exact ⟨by first | rfl | (simp [errW_none, errW_some] <;> rfl) | (simp [*, errW_none, errW_some] <;> rfl), by repeat (first | (with_reducible first | exact HB.out | apply below_alloc | apply pw_below_drewN | apply below_drew1) | exact HB.out)⟩

/-! ### lineage_Name_Last: function 28 -/
def lineage_Name_Last.f (a0 : ByteArray) : Option (Int) := (lineage_Name_Ordinals.f a0).bind fun t329 => (if (t329.length : Int) = 0 then (some 0) else (if 0 ≤ (wrap64 ((t329.length : Int) - 1)) then (if (wrap64 ((t329.length : Int) - 1)) < (t329.length : Int) then (some (rd t329 (wrap64 ((t329.length : Int) - 1)))) else (none)) else (none)))
set_option maxHeartbeats 8000000 in
set_option maxRecDepth 100000 in
theorem lineage_Name_Last.calls (a0 : ByteArray) (r : Int) (w : World) (h : lineage_Name_Last.f a0 = some r) :
    Calls Tryd.prog 28 #[.string a0] w fun e w' => e = .returned (.int .i64 r) ∧ Below w.heap.size w w' := by
  have HB := Aside0.mk (Below.refl w.heap.size w)
  have H : ((lineage_Name_Ordinals.f a0).bind fun t329 => (if (t329.length : Int) = 0 then (some 0) else (if 0 ≤ (wrap64 ((t329.length : Int) - 1)) then (if (wrap64 ((t329.length : Int) - 1)) < (t329.length : Int) then (some (rd t329 (wrap64 ((t329.length : Int) - 1)))) else (none)) else (none)))) = some r := h
  clear h
  replace H := Option.bind_eq_some_iff.mp H
  obtain ⟨t329, A20, H⟩ := H
  replace H : (if (t329.length : Int) = 0 then (some 0) else (if 0 ≤ (wrap64 ((t329.length : Int) - 1)) then (if (wrap64 ((t329.length : Int) - 1)) < (t329.length : Int) then (some (rd t329 (wrap64 ((t329.length : Int) - 1)))) else (none)) else (none))) = some r := H
  have A2 := Aside0.mk A20
  clear A20
  by_cases c3 : (t329.length : Int) = 0
  · rw [if_pos c3] at H
    have c3b0 : ((t329.length : Int) == 0) = true := beq_iff_eq.mpr c3
    have c3b1 : ((t329.length : Int) != 0) = false := bne_eq_false_iff_eq.mpr c3
    clear c3
    obtain rfl := Option.some.inj H
    go_enter Tryd.func28, Tryd.ntmps28
    go_wp2_with (first | ((with_reducible refine gate_callee (f := 15) rfl ?_); refine goesL_ (some 5) rfl rfl Tryd.func15 (by kernel_rfl) rfl #[.string a0] rfl (by (try simp only [List.map_toArray, List.map_cons, List.map_nil]); first | done | rfl | (simp only [List.length_drop, List.length_take]; rfl)) ?_; (with_reducible refine (lineage_Name_Ordinals.calls a0 t329 _ A2.out).mono ?_); rintro e w4 ⟨v330, rfl, ho0, hb⟩; refine ⟨_, rfl, ?_⟩; have n0_ := Aside0.mk (Kd.R_lower ho0 (below_size (by repeat (first | (with_reducible first | exact HB.out | apply below_alloc | apply pw_below_drewN | apply below_drew1) | exact HB.out)))); have n1_ := Aside0.mk (below_step (by repeat (first | (with_reducible first | exact HB.out | apply below_alloc | apply pw_below_drewN | apply below_drew1) | exact HB.out)) hb); clear HB; have HO331 := n0_; have HB := n1_; clear n0_ n1_; (try clear hb); (try clear hb2); (try clear hk); (try clear hi); (try clear ho0); obtain ⟨Ao5, co5, eo5⟩ := Kd.R_slice HO331.out; subst eo5))
    go_ret
    exact ⟨by first | rfl | (simp [errW_none, errW_some] <;> rfl) | (simp [*, errW_none, errW_some] <;> rfl), by repeat (first | (with_reducible first | exact HB.out | apply below_alloc | apply pw_below_drewN | apply below_drew1) | exact HB.out)⟩
  · rw [if_neg c3] at H
    have c3b0 : ((t329.length : Int) == 0) = false := beq_eq_false_iff_ne.mpr c3
    have c3b1 : ((t329.length : Int) != 0) = true := bne_iff_ne.mpr c3
    have c3b2 : ¬ (t329 = []) := fun h_ => c3 (by rw [h_]; rfl)
    obtain ⟨ji6, hji6⟩ : ∃ j_ : Int, (wrap64 ((t329.length : Int) - 1)) = j_ := ⟨_, rfl⟩
    replace H : (if 0 ≤ (ji6) then (if (ji6) < (t329.length : Int) then (some (rd t329 (ji6))) else (none)) else (none)) = some r := by first | (rw [hji6] at H; exact H) | (simp only [hji6] at H ⊢; exact H)
    (try rw [hji6] at A2)
    have hji6w : (IntKind.i64.wrap ((t329.length : Int) - 1)) = ji6 := (i64_w _).trans hji6
    by_cases c7 : 0 ≤ (ji6)
    · rw [if_pos c7] at H
      have c7b0 : decide (0 ≤ (ji6)) = true := decide_eq_true c7
      clear c7
      by_cases c8 : (ji6) < (t329.length : Int)
      · rw [if_pos c8] at H
        have c8b0 : decide ((ji6) < (t329.length : Int)) = true := decide_eq_true c8
        clear c8
        obtain rfl := Option.some.inj H
        go_enter Tryd.func28, Tryd.ntmps28
        go_wp2_with (first | ((with_reducible refine gate_callee (f := 15) rfl ?_); refine goesL_ (some 5) rfl rfl Tryd.func15 (by kernel_rfl) rfl #[.string a0] rfl (by (try simp only [List.map_toArray, List.map_cons, List.map_nil]); first | done | rfl | (simp only [List.length_drop, List.length_take]; rfl)) ?_; (with_reducible refine (lineage_Name_Ordinals.calls a0 t329 _ A2.out).mono ?_); rintro e w9 ⟨v330, rfl, ho0, hb⟩; refine ⟨_, rfl, ?_⟩; have n0_ := Aside0.mk (Kd.R_lower ho0 (below_size (by repeat (first | (with_reducible first | exact HB.out | apply below_alloc | apply pw_below_drewN | apply below_drew1) | exact HB.out)))); have n1_ := Aside0.mk (below_step (by repeat (first | (with_reducible first | exact HB.out | apply below_alloc | apply pw_below_drewN | apply below_drew1) | exact HB.out)) hb); clear HB; have HO331 := n0_; have HB := n1_; clear n0_ n1_; (try clear hb); (try clear hb2); (try clear hk); (try clear hi); (try clear ho0); obtain ⟨Ao10, co10, eo10⟩ := Kd.R_slice HO331.out; subst eo10; have p332 : 0 ≤ ((ji6) : Int) := of_decide_eq_true (by first | (with_reducible assumption) | assumption); have q332 : (ji6) < (t329.length : Int) := of_decide_eq_true (by first | (with_reducible assumption) | assumption); obtain ⟨ad332, e332, hx332_0⟩ := Kd.at_int (Kd.R_reads' HO331.out).2.2 (ji6) p332 q332; cases e332; replace p332 := eq_true p332; replace q332 := eq_true q332))
        go_ret
        exact ⟨by first | rfl | (simp [errW_none, errW_some] <;> rfl) | (simp only [← hji6]; first | rfl | (simp [errW_none, errW_some] <;> rfl)) | (simp [*, errW_none, errW_some] <;> rfl), by repeat (first | (with_reducible first | exact HB.out | apply below_alloc | apply pw_below_drewN | apply below_drew1) | exact HB.out)⟩
      · rw [if_neg c8] at H
        exact absurd H (by simp)
    · rw [if_neg c7] at H
      exact absurd H (by simp)

/-! ### lineage_Name_Root: function 29 -/
def lineage_Name_Root.f (k : Nat) (a0 : ByteArray) : Option (ByteArray) := (lineage_Name_Ordinals.f a0).bind fun t333 => (if 0 ≤ (mn (t333.length : Int) 1) then (if (mn (t333.length : Int) 1) ≤ (t333.length : Int) then ((lineage_named.f k (t333.take ((mn (t333.length : Int) 1) : Int).toNat)).bind fun t340 => (some t340)) else (none)) else (none))
theorem lineage_Name_Root.mono : ∀ a0 k, LeO (lineage_Name_Root.f k a0) (lineage_Name_Root.f (k + 1) a0) := by
  intro a0 k
  unfold lineage_Name_Root.f
  repeat' first
      | (with_reducible exact lineage_named.mono _ _)
      | (with_reducible exact LeO.refl _)
      | (with_reducible exact LeO.none _)
      | (with_reducible refine LeO.ite ?_ ?_)
      | (with_reducible refine LeO.bind ?_ (fun _ => ?_))
      | exact lineage_named.mono _ _
      | exact LeO.none _
      | refine LeO.ite ?_ ?_
      | refine LeO.bind ?_ (fun _ => ?_)
set_option maxHeartbeats 8000000 in
set_option maxRecDepth 100000 in
theorem lineage_Name_Root.calls (k : Nat) (a0 : ByteArray) (r : ByteArray) (w : World) (h : lineage_Name_Root.f k a0 = some r) (hgg : GG w) :
    Calls Tryd.prog 29 #[.string a0] w fun e w' => e = .returned (.string r) ∧ Below w.heap.size w w' := by
  have HGG := Aside0.mk hgg
  clear hgg
  have HB := Aside0.mk (Below.refl w.heap.size w)
  have H : ((lineage_Name_Ordinals.f a0).bind fun t333 => (if 0 ≤ (mn (t333.length : Int) 1) then (if (mn (t333.length : Int) 1) ≤ (t333.length : Int) then ((lineage_named.f k (t333.take ((mn (t333.length : Int) 1) : Int).toNat)).bind fun t340 => (some t340)) else (none)) else (none))) = some r := h
  clear h
  replace H := Option.bind_eq_some_iff.mp H
  obtain ⟨t333, A20, H⟩ := H
  replace H : (if 0 ≤ (mn (t333.length : Int) 1) then (if (mn (t333.length : Int) 1) ≤ (t333.length : Int) then ((lineage_named.f k (t333.take ((mn (t333.length : Int) 1) : Int).toNat)).bind fun t340 => (some t340)) else (none)) else (none)) = some r := H
  have A2 := Aside0.mk A20
  clear A20
  obtain ⟨ji3, hji3⟩ : ∃ j_ : Int, (mn (t333.length : Int) 1) = j_ := ⟨_, rfl⟩
  replace H : (if 0 ≤ (ji3) then (if (ji3) ≤ (t333.length : Int) then ((lineage_named.f k (t333.take ((ji3) : Int).toNat)).bind fun t340 => (some t340)) else (none)) else (none)) = some r := by first | (rw [hji3] at H; exact H) | (simp only [hji3] at H ⊢; exact H)
  (try rw [hji3] at A2)
  (try (have hji3h : ji3 ≤ 1 := by (rw [← hji3]; unfold mn; (repeat' split) <;> omega)))
  (try (have hji3g : ji3 ≤ 64 := by omega))
  (try (have hji3l : 0 ≤ ji3 := by (rw [← hji3]; unfold mn; (repeat' split) <;> omega)))
  (try (have hji3m : 0 ≤ ji3 := by omega))
  have hji3_ : (if 1 < (t333.length : Int) then 1 else (t333.length : Int)) = ji3 := hji3
  by_cases c4 : 0 ≤ (ji3)
  · rw [if_pos c4] at H
    have c4b0 := eq_true c4
    have c4b1 : decide (0 ≤ (ji3)) = true := decide_eq_true c4
    clear c4
    by_cases c5 : (ji3) ≤ (t333.length : Int)
    · rw [if_pos c5] at H
      have c5b0 := eq_true c5
      have c5b1 : decide ((ji3) ≤ (t333.length : Int)) = true := decide_eq_true c5
      clear c5
      obtain ⟨y336, hy336⟩ : ∃ y_ : List Int, y_ = (t333.take ((ji3) : Int).toNat) := ⟨_, rfl⟩
      replace H : ((lineage_named.f k y336).bind fun t340 => (some t340)) = some r := by first | (rw [hy336]; with_reducible exact H) | (have H2_ := (Option.bind_some _ _).symm.trans H; rw [hy336]; with_reducible exact H2_) | (have H2_ := (Option.bind_some _ _).symm.trans H; with_reducible exact H2_) | with_reducible exact H | (rw [hy336]; exact H) | exact H
      have Ny336 := Aside0.mk hy336
      clear hy336
      replace H := Option.bind_eq_some_iff.mp H
      obtain ⟨t340, A60, H⟩ := H
      replace H : (some t340) = some r := H
      have A6 := Aside0.mk A60
      clear A60
      obtain rfl := Option.some.inj H
      go_enter Tryd.func29, Tryd.ntmps29
      go_wp2_with (first | ((with_reducible refine gate_callee (f := 15) rfl ?_); refine goesL_ (some 5) rfl rfl Tryd.func15 (by kernel_rfl) rfl #[.string a0] rfl (by (try simp only [List.map_toArray, List.map_cons, List.map_nil]); first | done | rfl | (simp only [List.length_drop, List.length_take]; rfl)) ?_; (with_reducible refine (lineage_Name_Ordinals.calls a0 t333 _ A2.out).mono ?_); rintro e w7 ⟨v334, rfl, ho0, hb⟩; refine ⟨_, rfl, ?_⟩; have n0_ := Aside0.mk (Kd.R_lower ho0 (below_size (by repeat (first | (with_reducible first | exact HB.out | apply below_alloc | apply pw_below_drewN | apply below_drew1) | exact HB.out)))); have n1_ := Aside0.mk (below_step (by repeat (first | (with_reducible first | exact HB.out | apply below_alloc | apply pw_below_drewN | apply below_drew1) | exact HB.out)) hb); clear HB; have HO335 := n0_; have HB := n1_; clear n0_ n1_; (try clear hb); (try clear hb2); (try clear hk); (try clear hi); (try clear ho0); obtain ⟨Ao8, co8, eo8⟩ := Kd.R_slice HO335.out; subst eo8; have q9 : ((ji3) : Int) ≤ ((t333.length : Int) : Int) := of_decide_eq_true (by first | (with_reducible assumption) | assumption); obtain ⟨i09, hi09, _, hsz9, _⟩ := info_parts info3; have hroom9 : t333.length ≤ co8 := (Kd.R_reads' HO335.out).2.1; have hC9 : Kd.C (Kd.int .i64) _ Ao8 t333.length t333 := (Kd.R_reads' HO335.out).2.2; have hcut9 := cut_to (P := Tryd.prog) 22 3 .i64 Tryd.underlying22 hi09 Ao8 t333.length co8 (ji3) (of_decide_eq_true (by first | (with_reducible assumption) | assumption)) q9 hroom9; have hr9 := Kd.C_take (m := ((ji3) : Int).toNat) hC9 (by omega); have hy9 : y336.length = ((ji3) : Int).toNat := (by rw [Ny336.out, List.length_take]; omega); rw [← Ny336.out] at hr9; rw [← hy9] at hcut9; have HR339 := Aside0.mk hr9; have HC339 := Aside0.mk (show y336.length ≤ co8 from by omega); clear hr9 hC9 hroom9 hi09 hsz9; have KY9 := Aside0.mk hy9; clear hy9; have KL9 := Aside0.mk (show ((ji3) : Int).toNat ≤ t333.length from by omega); replace q9 := eq_true q9) | ((with_reducible refine gate_callee (f := 41) rfl ?_); refine goesL_ (some 11) rfl rfl Tryd.func41 (by kernel_rfl) rfl #[.slice Ao8 y336.length co8] rfl (by (try simp only [List.map_toArray, List.map_cons, List.map_nil]); first | done | rfl | (simp only [List.length_drop, List.length_take]; rfl)) ?_; (with_reducible refine (lineage_named.calls k _ _ y336 t340 _ ?side1 ?side2 A6.out (GG_below HGG.out (by repeat (first | (with_reducible first | exact HB.out | apply below_alloc | apply pw_below_drewN | apply below_drew1) | exact HB.out)))).mono ?_); (case side1 => repeat (first | exact (by repeat (first | (with_reducible exact HR339.out) | (with_reducible refine Kd.C_alloc ?_ _) | (with_reducible refine Kd.C_drewN ?_ _) | (with_reducible refine Kd.C_drew ?_) | exact HR339.out)) | (with_reducible refine Kd.C_alloc ?_ _) | (with_reducible refine Kd.C_drewN ?_ _) | (with_reducible refine Kd.C_drew ?_))); (case side2 => exact HC339.out); rintro e w10 ⟨rfl, hb⟩; refine ⟨_, rfl, ?_⟩; have n0_ := Aside0.mk (Kd.R_below (by (with_reducible repeat (first | apply Kd.R_alloc | apply Kd.R_drewN | apply Kd.R_drew)); exact HO335.out) hb); have n1_ := Aside0.mk (Kd.C_below (by repeat (first | (with_reducible exact HR339.out) | (with_reducible refine Kd.C_alloc ?_ _) | (with_reducible refine Kd.C_drewN ?_ _) | (with_reducible refine Kd.C_drew ?_) | exact HR339.out)) hb); have n2_ := Aside0.mk (below_step (by repeat (first | (with_reducible first | exact HB.out | apply below_alloc | apply pw_below_drewN | apply below_drew1) | exact HB.out)) hb); clear HO335; clear HR339; clear HB; have HO335 := n0_; have HR339 := n1_; have HB := n2_; clear n0_ n1_ n2_; (try clear hb); (try clear hb2); (try clear hk); (try clear hi)))
      go_ret
      exact ⟨by first | rfl | (simp [errW_none, errW_some] <;> rfl) | (simp only [← hji3]; first | rfl | (simp [errW_none, errW_some] <;> rfl)) | (simp [*, errW_none, errW_some] <;> rfl), by repeat (first | (with_reducible first | exact HB.out | apply below_alloc | apply pw_below_drewN | apply below_drew1) | exact HB.out)⟩
    · rw [if_neg c5] at H
      exact absurd H (by simp)
  · rw [if_neg c4] at H
    exact absurd H (by simp)

end Go.Proofs.YtpkiiconadbmfaaDoor.PA
