/- This session's texts for the claim, joined and shortened by this session's own program pack.py: what the claim does not need is struck. Part: RObjectChecks. -/
import Derived.Test.YtkdfilpinlebbaaDoorRows
import Derived.Test.YtkdfilpinlebbaaDoorCards
import Derived.Test.YtkdfilpinlebbaaDoorTie
import Derived.Test.YtkdfilpinlebbaaDoorQLaw04k
import Derived.Test.YtkdfilpinlebbaaDoorQGLaidO
import Derived.WalkKit
import Derived.ProofKit
import Derived.OpenShut
import Derived.ShutString
import Derived.ChangeOld
import Derived.Below
import Derived.SizedLaws
import Derived.LaidMore
import Derived.Stop.Joined
import Derived.SevenTiedAt
import Derived.Carry
set_option linter.unusedVariables false
namespace Go.Proofs.YtkdfilpinlebbaaDoor.objectChecks
open Go.ChangeShapes Go.WideShapes Go.ChangeAt Go.RowKit Go.Proofs.YtkdfilpinlebbaaDoor.G Go.Proofs.YtkdfilpinlebbaaDoor.PD
open Go.ChangeMaps (open_string shut_string)
theorem own : ownKnob Tryd.prog.godebug = none := by kernel_rfl
def laidL : List (String × DataW Unit) := [("math/bits.deBruijn32tab", Rows.laid_math_bits_deBruijn32tab), ("math/bits.deBruijn64tab", Rows.laid_math_bits_deBruijn64tab), ("internal/strconv.uint64pow10", Rows.laid_internal_strconv_uint64pow10), ("strconv.ErrRange", Rows.laid_strconv_ErrRange), ("strconv.ErrSyntax", Rows.laid_strconv_ErrSyntax)]
theorem door_met (os : Os) (args : Array Value) : laidMetH Tryd.prog laidL ((World.doorLaid Tryd.prog 62 os).forCall (fun _ _ => 0) ⟨#[], args, []⟩).memory :=
  laidMetH_of_parts3 (fuel := 8) (laidMet_of_run' 8 (by kernel_rfl) (by kernel_rfl)) (by kernel_rfl) (by kernel_rfl)
theorem gg_of {W : World} (h : laidMetH Tryd.prog laidL W) (hs : W.ShapedOpen Tryd.prog) : GG W := by
  rw [MakeChecks.laidMetH_plain _ _ _ (by kernel_rfl)] at h
  exact ⟨gg_tab (h.tail.tail), gg_max hs, gg_syn (h.tail.tail.tail.tail), gg_ran (h.tail.tail.tail)⟩
theorem laidOut : laidOutB Tryd.prog = true := by kernel_rfl
set_option maxRecDepth 100000 in
theorem open5 {H : Type} {enc : TypeId × Value → H} {W : World} {base : Nat} {v : Value} {d : DataW H} {ps : List MemPlace} (hv : Value.okWide Tryd.prog W .any base 23 v) (h : DataW.Trod enc Tryd.prog W 0 (fun _ => true) true 23 v d ps) :
    ∃ (a0 : Int) (a1 : ByteArray) (a2 a3 : Int) (a4 : ByteArray), v = .agg #[.int .i64 a0, .string a1, .int .i64 a2, .int .i64 a3, .string a4] := by
  obtain ⟨cs, rfl, hsz⟩ := okWide_struct Tryd.underlying23 hv
  obtain ⟨fuel, hf⟩ := h
  obtain ⟨xs, n, _, _, _, hlen, hfs⟩ := DataW.trod_struct Tryd.underlying23 hf
  have hsz' : cs.size = 5 := hsz.trans (by kernel_rfl)
  have g0 := hfs 0 _ rfl
  have hx0 : xs[0]? = some (xs[0]'(by rw [hlen]; decide)) := List.getElem?_eq_getElem _
  rw [hx0] at g0
  obtain ⟨b0, hc0, _⟩ := DataW.trod_int Tryd.underlying3 g0
  have g1 := hfs 1 _ rfl
  have hx1 : xs[1]? = some (xs[1]'(by rw [hlen]; decide)) := List.getElem?_eq_getElem _
  rw [hx1] at g1
  obtain ⟨b1, hc1, _⟩ := DataW.trod_string Tryd.underlying9 g1
  have g2 := hfs 2 _ rfl
  have hx2 : xs[2]? = some (xs[2]'(by rw [hlen]; decide)) := List.getElem?_eq_getElem _
  rw [hx2] at g2
  obtain ⟨b2, hc2, _⟩ := DataW.trod_int Tryd.underlying3 g2
  have g3 := hfs 3 _ rfl
  have hx3 : xs[3]? = some (xs[3]'(by rw [hlen]; decide)) := List.getElem?_eq_getElem _
  rw [hx3] at g3
  obtain ⟨b3, hc3, _⟩ := DataW.trod_int Tryd.underlying3 g3
  have g4 := hfs 4 _ rfl
  have hx4 : xs[4]? = some (xs[4]'(by rw [hlen]; decide)) := List.getElem?_eq_getElem _
  rw [hx4] at g4
  obtain ⟨b4, hc4, _⟩ := DataW.trod_string Tryd.underlying9 g4
  have hcell : ∀ (j : Nat) (x : Value), (cs.toList.drop j).take 1 = [x] → cs[j]? = some x := by
    intro j x h
    have h1 : ((cs.toList.drop j).take 1)[0]? = some x := by rw [h]; rfl
    rw [List.getElem?_take_of_lt (by decide), List.getElem?_drop] at h1
    simpa using h1
  refine ⟨b0, b1, b2, b3, b4, ?_⟩
  congr 1
  apply Array.ext_getElem?
  intro i
  have e0 := hcell 0 _ hc0
  have e1 := hcell 1 _ hc1
  have e2 := hcell 2 _ hc2
  have e3 := hcell 3 _ hc3
  have e4 := hcell 4 _ hc4
  match i with
  | 0 => exact e0
  | 1 => exact e1
  | 2 => exact e2
  | 3 => exact e3
  | 4 => exact e4
  | i + 5 => rw [Array.getElem?_eq_none (by rw [hsz']; omega), Array.getElem?_eq_none (by simp)]
set_option maxRecDepth 100000 in
theorem lifted (os : Os) (started : os.Started) (H : Type) (enc : TypeId × Value → H) :
    ReturnsInHanded {} Tryd.checked os 6 .any (fun w args => (Rows.objectChecksSpec.pre enc Tryd.prog Tryd.f6 [] false w args ∧ laidMetH Tryd.prog laidL w) ∧ sizedMet enc Tryd.prog Tryd.f6 (OpenSpec.ofChange Rows.objectChecksSpec) false w args)
      (Rows.objectChecksSpec.post enc Tryd.prog Tryd.f6 false true false false) := by
  refine returnsInHanded_of_calls (C := Tryd.checked) own started (by kernel_rfl)
    (ChangeSpec.witness_shaped (enc := enc) (C := Tryd.checked) (os := os) (X := fun w _ => laidMetH Tryd.prog laidL w) false (World.doorLaid Tryd.prog 62 os) #[.agg #[.int .i64 0, .string ByteArray.empty, .int .i64 0, .int .i64 0, .string ByteArray.empty]] 8 rfl (World.shaped_of_RefB (by kernel_rfl) (by kernel_rfl)) (by kernel_rfl) (by kernel_rfl) (by kernel_rfl) (door_met os _)) ?_
  intro w tape inp _ hsh _ hok hpre _
  obtain ⟨_, _, _, fn', hfn', _, _, _, _, hval0⟩ := hok
  obtain rfl : fn' = Tryd.f6 := Option.some.inj (hfn'.symm.trans Tryd.func6)
  obtain ⟨⟨⟨ds, gs, before, hw0, hc0⟩, hX⟩, hz⟩ := hpre
  have hW := DataW.Whole.of_heap (w' := w.forCall tape inp) (by rfl) hw0
  have hL : laidMetH Tryd.prog laidL (w.forCall tape inp) := hX.of_heap (by rfl)
  have hgg : GG (w.forCall tape inp) := gg_of hL hsh
  generalize hWW : w.forCall tape inp = W at *
  generalize hAA : inp.args = args at *
  have key : Calls Tryd.prog 6 args W fun e W' => ∃ v, e = .returned v ∧ Rows.objectChecksSpec.post enc Tryd.prog Tryd.f6 false true false false W args v W' := by
    have hval : ∀ (j : Nat) t v, Tryd.f6.params[j]? = some t → args[j]? = some v → Value.okWide Tryd.prog W .any _ t v := hval0
    have hW' := hW
    obtain ⟨p, q, hA0, hV, rfl, hfz, hnd⟩ := hW
    have hA : DataW.TrodAll enc Tryd.prog W 0 (fun _ => true) true Tryd.f6.params.toList args.toList ds p := hA0
    rw [Tryd.params6] at hA hval
    obtain ⟨v0, vs0, d0, ds0, p0, q0, hargs, rfl, rfl, h0, r0⟩ := trodAll_cons hA
    obtain ⟨rfl, rfl, rfl⟩ := trodAll_nil r0
    obtain rfl : args = #[v0] := by cases args; simp_all
    obtain ⟨rfl, rfl⟩ := trodVars_none hV
    have k0 := h0
    have lt0 : ∀ x ∈ p0, x.block < W.heap.size := by obtain ⟨m, hm⟩ := k0; exact DataW.trod_lt m _ _ _ hm
    obtain ⟨a0_0, a0_1, a0_2, a0_3, a0_4, rfl⟩ := open5 (hval 0 23 v0 rfl rfl) h0
    obtain ⟨k, hk⟩ := (checks_ev a0_0 a0_1 a0_2 a0_3 a0_4).rounds
    refine (replevinlaw04_ObjectChecks.calls k a0_0 a0_1 a0_2 a0_3 a0_4 true W hk hgg).mono fun e W' ⟨he, bel⟩ => ?_
    subst he
    exact ⟨_, rfl, _, _, _, [], _, [], hW', trodAll_mk1 (shut_bool Tryd.underlying4 _), (trodAll_cons_mk (Below.trod laidOut (by kernel_rfl) (of_decide_eq_true (by kernel_rfl)) k0 bel lt0) trodAll_mk0), rfl, bel.frame _, fun h => by cases h⟩
  refine key.mono fun e W' ⟨v, he, hp⟩ => ?_
  subst he
  exact ChangeSpec.post_blind hp
theorem over : Rows.objectChecksRow.holds Tryd.pinned (OpenSpec.ofChange Rows.objectChecksSpec) :=
  OpenClaim.holds_of_wide 6 Tryd.f6 rfl rfl rfl rfl rfl rfl rfl ⟨rfl, rfl, rfl, rfl, rfl⟩ rfl rfl rfl rfl rfl (by kernel_rfl) Tryd.func6 (by kernel_rfl)
    (of_decide_eq_true (by kernel_rfl)) (by unfold Func.isWrapper; first | (rw [if_pos (by decide +kernel)]; kernel_rfl) | (rw [if_neg (by decide +kernel)]; exact ⟨rfl, rfl⟩))
    (fun os started H enc _ => lifted os started H enc)
theorem card : Rows.ObjectChecksCardSaid :=
  Claim7.holds_tied_plain_at .later [] [.data, .data, .data, .sentinel, .sentinel] true (true, "8e87bba2a41a69399b79c823de468ae2eb1d25ee831ee76bd86f20e7ace705d6") true
    over (fun _ h => by cases h) (by kernel_rfl) (fun _ h => by cases h) objectChecks_row_tie rfl ⟨rfl, rfl⟩ (by kernel_rfl) rfl
    (fun f fn hf hfn => by
      obtain rfl : f = 6 := Option.some.inj ((show Tryd.prog.funcNamed "replevin/replevinlaw04.ObjectChecks" = some 6 by kernel_rfl).symm.trans hf) |>.symm
      obtain rfl : fn = Tryd.f6 := (Option.some.inj (Tryd.func6.symm.trans hfn)).symm
      exact ⟨by kernel_rfl, fun j t ht => by
        rw [Tryd.params6] at ht
        have hm : t ∈ [23] := by have := Array.mem_of_getElem? ht; simpa using this
        have hall : ([23].all fun u => !Tryd.prog.wantsStandIn u) = true := by kernel_rfl
        exact (show Tryd.prog.wantsStandIn t = false by simpa using List.all_eq_true.1 hall t hm)⟩)
    (by kernel_rfl)
end Go.Proofs.YtkdfilpinlebbaaDoor.objectChecks
namespace Go.Proofs.YtkdfilpinlebbaaDoor
theorem objectChecks_holds : Rows.ObjectChecksCardSaid := objectChecks.card
end Go.Proofs.YtkdfilpinlebbaaDoor
