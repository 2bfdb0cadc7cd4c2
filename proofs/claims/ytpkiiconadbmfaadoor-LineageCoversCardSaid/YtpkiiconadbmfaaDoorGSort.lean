/- Sort and Tops of names: the contracts. -/
import Derived.Test.YtpkiiconadbmfaaDoorGTops
import Derived.Test.YtpkiiconadbmfaaDoorShelf2
import Derived.Test.YtpkiiconadbmfaaDoorDrawn
import Derived.Lib.OwnBridge
set_option linter.unusedVariables false
set_option linter.unusedSimpArgs false
namespace Go.Proofs.YtpkiiconadbmfaaDoor.G
open Go.RowKit Go.Proofs.YtpkiiconadbmfaaDoorW.PrintWords Go.Proofs.YtpkiiconadbmfaaDoorW.PrintLast Go.Proofs.YtpkiiconadbmfaaDoorW.PrintMore
open Go.Sort

/-- A world below which all lies as it lay, and which has drawn no less, is the old one, drawn on and grown. -/
theorem grow_of_below {w w' : World} (h : Below w.heap.size w w') (hd : w.drawn ≤ w'.drawn) : ∃ q os, w' = grow (w.drewN q) os := by
  refine ⟨w'.drawn - w.drawn, w'.heap.extract w.heap.size w'.heap.size, ?_⟩
  have hs := h.size
  have hh : w'.heap = w.heap ++ w'.heap.extract w.heap.size w'.heap.size := by
    apply Array.ext
    · simp
      omega
    · intro i h1 h2
      by_cases hi : i < w.heap.size
      · have hb := h.block i hi
        rw [Array.getElem?_eq_getElem h1, Array.getElem?_eq_getElem hi] at hb
        rw [Array.getElem_append_left hi]
        exact Option.some.inj hb
      · rw [Array.getElem_append_right (by omega), Array.getElem_extract]
        congr 1
        omega
  have h1 := h.os
  have h2 := h.tape
  have h3 := h.output
  cases w with
  | mk heap tape drawn os output =>
    cases w' with
    | mk heap' tape' drawn' os' output' =>
      simp only at h1 h2 h3 hh hd hs
      subst h1 h2 h3
      unfold grow World.drewN
      simp only
      congr 1
      omega

def encS (x : S) : Value := .string x.val
theorem one_encS : Go.Proofs.OneCell encS := fun _ => rfl
theorem eg66 : ∀ args w, (callFunc 66 args).run Tryd.prog w = .ok (.enter 66 args) w := enters_of Tryd.func66 (by kernel_rfl) rfl
theorem cmp66 (x y : S) (W : World) : Calls Tryd.prog 66 #[encS x, encS y] W fun e w' => e = .returned (.int .i64 (cf x y)) ∧ ∃ q os, w' = grow (W.drewN q) os := by
  obtain ⟨k, hk⟩ := (lcompare_ev x.val y.val x.2 y.2).rounds
  have hcall := PA.lineage_Compare.calls k x.val y.val _ W hk
  clear hk
  have hb : Calls Tryd.prog 66 #[encS x, encS y] W fun e w' => e = .returned (.int .i64 (cf x y)) ∧ Below W.heap.size W w' := by
    unfold encS cf
    go_enter Tryd.func66, Tryd.ntmps66
    go_wp2_with (go_at_call 22; refine hcall.mono ?_; rintro e w' ⟨rfl, hb2⟩)
    go_ret
    exact ⟨rfl, hb2⟩
  refine (Drawn.calls_up hb (fun w' h => by cases h.1)).mono ?_
  rintro e w' ⟨⟨rfl, hb2⟩, hd⟩
  exact ⟨rfl, grow_of_below hb2 hd⟩

theorem lt_cf (x y : S) : (Go.Proofs.ltOf cf) x y = true ↔ Kn x.val y.val < 0 := by
  unfold Go.Proofs.ltOf cf
  exact decide_eq_true_iff
theorem lt_cf_f (x y : S) : (Go.Proofs.ltOf cf) x y = false ↔ ¬ Kn x.val y.val < 0 := by
  unfold Go.Proofs.ltOf cf
  exact decide_eq_false_iff_not
theorem swo_cf : SWO (Go.Proofs.ltOf cf) where
  irrefl x := by
    rw [lt_cf_f, (Kn_zero _ _).2 rfl]
    decide
  trans x y z h1 h2 := by
    rw [lt_cf] at *
    have h := Kn_trans (a := x.val) (b := y.val) (c := z.val) (by omega) (by omega)
    rcases Int.lt_or_eq_of_le h with g | g
    · exact g
    · have e := (Kn_zero _ _).1 g
      rw [e] at h1
      have := Kn_anti y.val z.val
      omega
  ntrans x y z h1 h2 := by
    rw [lt_cf_f] at *
    have a1 := Kn_anti x.val y.val
    have a2 := Kn_anti y.val z.val
    have a3 := Kn_anti x.val z.val
    have h := Kn_trans (a := z.val) (b := y.val) (c := x.val) (by omega) (by omega)
    omega
theorem total_cf (x y : S) (h1 : (Go.Proofs.ltOf cf) x y = false) (h2 : (Go.Proofs.ltOf cf) y x = false) : x = y := by
  rw [lt_cf_f] at *
  have a1 := Kn_anti x.val y.val
  exact Subtype.ext ((Kn_zero _ _).1 (by omega))

theorem eqnil60 : ∀ (w : World) (a : Option Addr) (n c n' c' : Nat), (binOp .eql 60 (.slice a n c) (.slice none n' c')).run Tryd.prog w = .ok (.bool a.isNone) w := fun w a n c n' c' => Lib.run_eql_slice_nil w _ _ a n c n' c' Tryd.underlying60
theorem clone0 (A : Option Addr) (c : Nat) (w : World) : Calls Tryd.prog 64 #[.slice A 0 c] w fun e w' => ∃ p c', e = .returned (.slice p 0 c') ∧ Below w.heap.size w w' := by
  have q60 := eqnil60
  obtain ⟨i0, hi, hz0, hz1, hz2⟩ := info_parts info23_
  cases A with
  | none =>
    go_enter Tryd.func64, Tryd.ntmps64
    go_wp2
    go_ret
    exact ⟨_, _, rfl, Below.refl _ _⟩
  | some ad =>
    go_enter Tryd.func64, Tryd.ntmps64
    go_wp2_with (at_builtin; refine wpList_append_own _ rfl _ _ 60 rfl w.heap.size 23 i0 (.string ⟨#[]⟩) 1 16 Tryd.underlying60 hi hz0 hz1 hz2 rfl (by decide) _ _ _ rfl (World.ownsRow_made w #[] 0 (Nat.le_refl _) (Nat.zero_le _) (by simp)) ad 0 c [] rfl ?qc1 ?qc2 ?qc3 ?qc4 ?qc5 ?qc6 ?_)
    case qc1 => rfl
    case qc2 =>
      intro j u hj
      simp at hj
    case qc3 =>
      intro u hu
      cases hu
    case qc4 => exact Nat.zero_le _
    case qc5 => exact Nat.zero_le _
    case qc6 => simp
    intro v' w1 hown hgrow hnil
    go_wp2
    go_ret
    obtain ⟨_, ⟨rfl, _⟩ | ⟨g, cap, cur, rfl, _⟩⟩ := hown
    · exact ⟨_, _, rfl, ((Below.refl _ w).alloc (Nat.le_refl _) _).grown hgrow (by simp) (by intro k hk; simp [Value.ownBlock] at hk; omega)⟩
    · exact ⟨_, _, rfl, ((Below.refl _ w).alloc (Nat.le_refl _) _).grown hgrow (by simp) (by intro k hk; simp [Value.ownBlock] at hk; omega)⟩
theorem compact0 (A : Option Addr) (c : Nat) (w : World) : Calls Tryd.prog 67 #[.slice A 0 c] w fun e w' => e = .returned (.slice A 0 c) ∧ w' = w := by
  go_enter Tryd.func67, Tryd.ntmps67
  go_wp2
  go_ret
  exact ⟨rfl, rfl⟩
theorem sortfunc0 (A : Option Addr) (c : Nat) (fv : Value) (w : World) : Calls Tryd.prog 65 #[.slice A 0 c, fv] w fun e w' => e = .returned (.tuple #[]) ∧ w' = w :=
  Go.Proofs.AnyF.slices_SortFunc_none { Tryd.sortN with } A c fv w

theorem C_of_cells {w : World} {b : Nat} {l : List ByteArray} (hl : l.length ≤ 9223372036854775807) (h : ∀ j (hj : j < l.length), w.cell? ⟨b, 0 + j, none⟩ = some (.string (l[j]'hj))) : Kd.C Kd.string w (some ⟨b, 0, none⟩) l.length l := by
  refine Kd.C_of_reads (d := ByteArray.empty) ⟨rfl, hl, fun _ => ⟨_, rfl, fun j hj => ?_⟩⟩
  rw [Addr.add_lit, h j hj]
  simp [List.getElem?_eq_getElem hj]

theorem beq_S (x y : S) : (x.val.toList == y.val.toList) = decide (x = y) := by
  rw [Bool.eq_iff_iff, beq_iff_eq, decide_eq_true_iff]
  exact ⟨fun h => Subtype.ext (toList_inj h), fun h => by rw [h]⟩
theorem eql_S (T : TypeId) : Go.Proofs.EqlAt Tryd.prog T encS (fun x y => decide (x = y)) :=
  ⟨fun x y w => by show _ = Result.ok (Value.bool (decide (x = y))) w; rw [← beq_S]; exact (Go.Proofs.EqlAt.string Tryd.prog T).1 x.val y.val w, fun op a b x y w => (Go.Proofs.GuardAt.string Tryd.prog T) op a b x.val y.val w⟩
theorem neq_S (T : TypeId) : Go.Proofs.NeqAt Tryd.prog T encS (fun x y => decide (x = y)) :=
  ⟨fun x y w => by show _ = Result.ok (Value.bool (!decide (x = y))) w; rw [← beq_S]; exact (Go.Proofs.NeqAt.string Tryd.prog T).1 x.val y.val w, fun op a b x y w => (Go.Proofs.GuardAt.string Tryd.prog T) op a b x.val y.val w⟩

theorem toS_len (l : List ByteArray) (h : ∀ x ∈ l, Sz x) : (toS l h).length = l.length := by
  unfold toS
  rw [List.length_map, List.length_attach]
theorem toS_get (l : List ByteArray) (h : ∀ x ∈ l, Sz x) (j : Nat) (hj : j < l.length) : encS ((toS l h).toArray[j]!) = .string l[j] := by
  have h1 : j < (toS l h).length := by rw [toS_len]; exact hj
  have e : (toS l h).toArray[j]! = (toS l h)[j] := by simp [h1]
  have e2 : ((toS l h).map (·.val))[j]? = l[j]? := by rw [toS_val]
  rw [List.getElem?_map, List.getElem?_eq_getElem h1, List.getElem?_eq_getElem hj] at e2
  rw [e]
  exact congrArg Value.string (Option.some.inj e2)
theorem holds_own {w : World} {g : Nat} {cur : Array Value} {l : List ByteArray} (h : ∀ x ∈ l, Sz x) (hh : w.heap[g]? = some (.cells cur 23 (0, 0))) (ht : cur.toList.take (l.length * 1) = l.map Value.string) :
    Holds encS w g 0 (toS l h).toArray := by
  intro j hj
  have hj' : j < l.length := by
    have : (toS l h).toArray.size = l.length := by rw [List.size_toArray, toS_len]
    omega
  have hcur : cur[j]? = some (.string l[j]) := by
    have e1 : (cur.toList.take (l.length * 1))[j]? = cur.toList[j]? := by rw [List.getElem?_take]; simp [hj']
    have e2 : (l.map Value.string)[j]? = some (.string l[j]) := by simp [hj']
    rw [ht, e2] at e1
    rw [← Array.getElem?_toList]
    exact e1.symm
  refine ⟨?_, ?_⟩
  · rw [toS_get l h j hj', Nat.zero_add]
    unfold World.cell?
    rw [hh]
    exact hcur
  · unfold World.frozen?
    rw [hh]
    simp

theorem sort_empty (A : Option Addr) (c : Nat) (h : ∀ x ∈ ([] : List ByteArray), Sz x) (w : World) : SortsTo [] (sortOf [] h) A c w := by
  unfold SortsTo
  have hclone := clone0 A c w
  have hsort := fun A c w => sortfunc0 A c (.func (.func 66) #[] #[]) w
  have hcomp := compact0
  have hnil : (sortOf [] h) = [] := List.length_eq_zero_iff.1 (Nat.le_zero.1 (sortOf_len [] h))
  rw [hnil]
  go_enter Tryd.func50, Tryd.ntmps50
  go_wp2_with (first | (go_at_call 64; refine hclone.mono ?_; rintro e w1 ⟨p, c', rfl, hb1⟩) | (go_at_call 65; refine (hsort _ _ _).mono ?_; rintro e w2 ⟨rfl, rfl⟩) | (go_at_call 67; refine (hcomp _ _ _).mono ?_; rintro e w3 ⟨rfl, rfl⟩))
  go_ret
  exact ⟨_, _, rfl, ⟨Kd.C_of_reads (d := ByteArray.empty) ⟨rfl, Nat.zero_le _, fun hh => absurd hh (Nat.lt_irrefl _)⟩⟩, ⟨hb1⟩⟩

theorem sort_calls (A : Option Addr) (c : Nat) (l : List ByteArray) (h : ∀ x ∈ l, Sz x) (hlen : l.length < 8796093022208) (w : World) (hr : Kd.C Kd.string w A l.length l) (hc : l.length ≤ c) : SortsTo l (sortOf l h) A c w := by
  by_cases hne : l = []
  · subst hne
    exact sort_empty A c h w
  · unfold SortsTo
    obtain ⟨b, o, rfl, hb, hcells⟩ := cells_of hr hne
    obtain ⟨i0, hi, hz0, hz1, hz2⟩ := info_parts info23_
    have hclone := Go.Proofs.AnyE.slices_Clone Tryd.cloneN i0 (.string ⟨#[]⟩) 1 16 hi hz0 hz1 hz2 rfl (by decide) Tryd.sizeOf23 b o l.length c (l.map Value.string) w (by simp) (by unfold maxLen; omega) (by omega)
      (fun j u hj => by
        rw [List.getElem?_map] at hj
        cases hl : l[j]? with
        | none => rw [hl] at hj; cases hj
        | some x =>
          rw [hl] at hj
          obtain ⟨hjl, rfl⟩ := List.getElem?_eq_some_iff.1 hl
          cases hj
          exact hcells j hjl)
      (fun u hu => by
        obtain ⟨x, _, rfl⟩ := List.mem_map.1 hu
        rfl)
    have hpos0 : 0 < l.length := List.length_pos_iff.2 hne
    have hclone' : Calls Tryd.prog 64 #[.slice (some ⟨b, o, none⟩) l.length c] w fun e w1 => ∃ g cap, e = .returned (.slice (some ⟨g, 0, none⟩) l.length cap) ∧ Aside0 (w.heap.size ≤ g ∧ l.length ≤ cap ∧ g < w1.heap.size ∧ Holds encS w1 g 0 (toS l h).toArray ∧ RowKit.Below w.heap.size w w1) := by
      refine Calls.mono (show Calls Tryd.prog 64 _ _ _ from hclone) ?_
      rintro e w1 ⟨v', rfl, hown, hnn, hb1⟩
      obtain ⟨_, ⟨rfl, hz⟩ | ⟨g, cap, cur, rfl, hg, hheap, hle, hcap, hcur, htake⟩⟩ := hown
      · exact absurd rfl hnn
      · exact ⟨g, cap, rfl, ⟨hg, hle, (Array.getElem?_eq_some_iff.1 hheap).1, holds_own h hheap htake, hb1⟩⟩
    clear hclone
    have hpos : 0 < l.length := List.length_pos_iff.2 hne
    have hslen : (sorted (toS l h)).toArray.size = l.length := by
      rw [List.size_toArray]
      unfold sorted
      rw [List.length_mergeSort, toS_len]
    have hsorted : ∀ (w1 : World) (g cap : Nat), Aside0 (w.heap.size ≤ g ∧ l.length ≤ cap ∧ g < w1.heap.size ∧ Holds encS w1 g 0 (toS l h).toArray ∧ RowKit.Below w.heap.size w w1) →
        Calls Tryd.prog 65 #[.slice (some ⟨g, 0, none⟩) l.length cap, .func (.func 66) #[] #[]] w1 fun e w' => e = .returned (.tuple #[]) ∧ Aside0 (Holds encS w' g 0 (sorted (toS l h)).toArray ∧ RowKit.Below w.heap.size w w') := by
      intro w1 g cap hA
      obtain ⟨hg, hle, hgs, hH, hB1⟩ := hA.out
      have hs := Go.Proofs.Any.slices_SortFunc_total Tryd.sortN encS one_encS cf swo_cf 66 #[] g 0 cap (toS l h).toArray w1 eg66 (fun m os dk _ x y => cmp66 x y _) hH hgs (by rw [List.size_toArray, toS_len]; omega) total_cf
      rw [List.size_toArray, toS_len] at hs
      refine Calls.mono (show Calls Tryd.prog 65 _ _ _ from hs) ?_
      rintro e w' ⟨rfl, m, os, rfl⟩
      refine ⟨rfl, ⟨?_, ?_⟩⟩
      · exact holds_grow encS _ os g 0 _ (by simpa using hgs) (holds_putRow encS _ g 0 (toS l h).toArray _ (holds_ahead encS w1 m g 0 _ hH) (show (sorted (toS l h)).toArray.size = (toS l h).toArray.size by rw [hslen, List.size_toArray, toS_len]))
      · have hB2 : RowKit.Below w.heap.size w (putRow encS (Sort.ahead w1 m) g 0 (sorted (toS l h)).toArray) := Lib.below_putRow hB1 hg
        exact hB2.trans (Lib.below_grow _ _ hB2.size 0 os)
    have hcompact : ∀ (w2 : World) (g cap : Nat), Aside0 (Holds encS w2 g 0 (sorted (toS l h)).toArray) → l.length ≤ cap →
        Calls Tryd.prog 67 #[.slice (some ⟨g, 0, none⟩) l.length cap] w2 fun e w' => e = .returned (.slice (some ⟨g, 0, none⟩) (sortOf l h).length cap) ∧ Aside0 ((∀ j (hj : j < (sortOf l h).length), w'.cell? ⟨g, 0 + j, none⟩ = some (.string ((sortOf l h)[j]'hj))) ∧ ∀ B w0, RowKit.Below B w0 w2 → B ≤ g → RowKit.Below B w0 w') := by
      intro w2 g cap hH hle
      have hk := Go.Proofs.AnyE.slices_Compact Tryd.compactN encS one_encS (eql_S _) (neq_S _) ⟨B [], sz_nil⟩ Tryd.zeroValue23 g 0 cap (sorted (toS l h)).toArray w2 hH.out (by rw [hslen]; omega) (by rw [hslen]; exact hle)
      rw [hslen] at hk
      refine Calls.mono (show Calls Tryd.prog 67 _ _ _ from hk) ?_
      have hu : Go.Lib.compactUpTo (sorted (toS l h)).toArray l.length = uniq (toS l h) := by
        unfold uniq
        rw [← hslen, List.size_toArray]
      rw [hu]
      have hul : (uniq (toS l h)).length = (sortOf l h).length := by
        unfold sortOf
        rw [List.length_map]
      rintro e w' ⟨rfl, q, rfl⟩
      refine ⟨by rw [hul], ⟨?_, fun B w0 hB hBg => Lib.below_putRow hB hBg⟩⟩
      intro j hj
      have hle2 := sortOf_len l h
      have hsz : (uniq (toS l h) ++ List.replicate (l.length - (uniq (toS l h)).length) (⟨B [], sz_nil⟩ : S)).toArray.size = (sorted (toS l h)).toArray.size := by
        rw [hslen, List.size_toArray, List.length_append, List.length_replicate]
        omega
      have hput := holds_putRow encS (Sort.ahead w2 q) g 0 (sorted (toS l h)).toArray _ (holds_ahead encS w2 q g 0 _ hH.out) hsz j (by rw [hsz, hslen]; omega)
      rw [hput.1]
      have hju : j < (uniq (toS l h)).length := by omega
      have e1 : (uniq (toS l h) ++ List.replicate (l.length - (uniq (toS l h)).length) (⟨B [], sz_nil⟩ : S)).toArray[j]! = (uniq (toS l h))[j] := by
        have hjb : j < (uniq (toS l h) ++ List.replicate (l.length - (uniq (toS l h)).length) (⟨B [], sz_nil⟩ : S)).length := by rw [List.length_append]; omega
        rw [getElem!_pos _ j (by simpa using hjb)]
        rw [List.getElem_toArray, List.getElem_append_left hju]
      rw [e1]
      have e2 : (sortOf l h)[j]? = some (uniq (toS l h))[j].val := by
        unfold sortOf
        rw [List.getElem?_map, List.getElem?_eq_getElem hju]
        rfl
      rw [List.getElem?_eq_getElem hj] at e2
      rw [Option.some.inj e2]
      rfl
    have HS := Aside0.mk hsorted
    have HC := Aside0.mk hcompact
    clear hsorted hcompact hslen hcells hr
    go_enter Tryd.func50, Tryd.ntmps50
    go_wp2_with (first | (go_at_call 64; refine hclone'.mono ?_; rintro e w1 ⟨g, cap, rfl, HA⟩) | (go_at_call 65; refine (HS.out w1 g cap HA).mono ?_; rintro e w2 ⟨rfl, HD⟩) | (go_at_call 67; refine (HC.out w2 g cap ⟨HD.out.1⟩ HA.out.2.1).mono ?_; rintro e w3 ⟨rfl, hw3⟩))
    go_ret
    exact ⟨_, _, rfl, ⟨C_of_cells (by have := sortOf_len l h; omega) hw3.out.1⟩, ⟨hw3.out.2 _ _ HD.out.2 HA.out.1⟩⟩

def g_Tops.f (l0 : List ByteArray) : Option (List ByteArray) :=
  if h : ∀ x ∈ l0, Sz x then (if l0.length < 8796093022208 then some (topsOf l0 h) else none) else none
theorem g_Tops.calls (A0 : Option Addr) (c0 : Nat) (l0 : List ByteArray) (r : List ByteArray) (w : World) (hr0 : Kd.C Kd.string w A0 l0.length l0) (hc0 : l0.length ≤ c0) (h : g_Tops.f l0 = some r) :
    Calls Tryd.prog 35 #[.slice A0 l0.length c0] w fun e w' => ∃ v0_ : Value, e = .returned v0_ ∧ Kd.R Kd.string 23 w' w.heap.size (fun _ => True) v0_ r ∧ Below w.heap.size w w' := by
  unfold g_Tops.f at h
  split at h
  · rename_i hs
    split at h
    · rename_i hl
      injection h with h
      subst h
      exact tops_calls A0 c0 l0 (sortOf l0 hs) w (sort_calls A0 c0 l0 hs hl w hr0 hc0) (fun x hx => hs x ((sortOf_mem l0 hs x).1 hx)) (Nat.lt_of_le_of_lt (sortOf_len l0 hs) hl)
    · cases h
  · cases h
theorem g_Tops_some (m : List ByteArray) (hs : ∀ x ∈ m, Sz x) (hl : m.length < 8796093022208) : g_Tops.f m = some (topsOf m hs) := by
  unfold g_Tops.f
  rw [dif_pos hs, if_pos hl]
theorem g_Covers_some (m : List ByteArray) (n : ByteArray) (hn : Sz n) (hs : ∀ x ∈ m, Sz x) (hl : m.length ≤ 140737488355328) : g_Covers.f m n = some (m.any (Wn n)) := by
  unfold g_Covers.f
  rw [if_pos ⟨hn, hs, hl⟩]
end Go.Proofs.YtpkiiconadbmfaaDoor.G
