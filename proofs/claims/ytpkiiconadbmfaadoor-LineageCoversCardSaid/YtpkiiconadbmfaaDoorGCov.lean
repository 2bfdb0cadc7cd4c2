/- Covers and what it calls: contracts by hand. slices.IndexFunc and slices.ContainsFunc at names, with a predicate that may lay blocks. -/
import Derived.Test.YtpkiiconadbmfaaDoorFun03d
import Derived.Deep.LoopGhost
set_option linter.unusedVariables false
set_option linter.unusedSimpArgs false
namespace Go.Proofs.YtpkiiconadbmfaaDoor.G
open Go.RowKit Go.Proofs.YtpkiiconadbmfaaDoorW.PrintWords Go.Proofs.YtpkiiconadbmfaaDoorW.PrintLast Go.Proofs.YtpkiiconadbmfaaDoorW.PrintMore

/-- What is asked of a predicate: in every world in which all that lay in w lies unturned, it hands back 'p x' and leaves all that unturned. -/
def PredB (g : Nat) (lb : Array Value) (p : ByteArray → Bool) (zs : List ByteArray) (w : World) : Prop :=
  ∀ (W : World) (x : ByteArray), x ∈ zs → Below w.heap.size w W → Calls Tryd.prog g (#[.string x] ++ lb) W fun e w' => e = .returned (.bool (p x)) ∧ Below w.heap.size W w'

theorem ixf (g : Nat) (lb : Array Value) (p : ByteArray → Bool) (b off n c : Nat) (zs : List ByteArray) (hn : n = zs.length) (w : World) (eg : ∀ args w, (callFunc g args).run Tryd.prog w = .ok (.enter g args) w)
    (hp : PredB g lb p zs w) (hbig : n ≤ 140737488355328) (hb : b < w.heap.size) (hc : ∀ (j : Nat) (h : j < zs.length), w.cell? ⟨b, off + j, none⟩ = some (.string (zs[j]'h))) :
    Calls Tryd.prog 63 #[.slice (some ⟨b, off, none⟩) n c, .func (.func g) #[] lb] w fun e w' => ∃ r : Int, e = .returned (.int .i64 r) ∧ Aside (decide (r ≥ 0) = zs.any p) ∧ Below w.heap.size w w' := by
  have hp' : Aside (PredB g lb p zs w) := hp
  clear hp
  have hc' : Aside (∀ (j : Nat) (h : j < zs.length), w.cell? ⟨b, off + j, none⟩ = some (.string (zs[j]'h))) := hc
  clear hc
  have hnn : Aside (n = zs.length) := hn
  clear hn
  have hany : Aside (∀ k (h : k < zs.length), p zs[k] = true → zs.any p = true) := fun k h hk => List.any_eq_true.2 ⟨_, List.getElem_mem h, hk⟩
  have hnone : Aside ((∀ j (h : j < zs.length), p zs[j] = false) → zs.any p = false) := fun h => by
    rw [List.any_eq_false]
    intro x hx
    obtain ⟨j, hj, rfl⟩ := List.getElem_of_mem hx
    rw [h j hj]
    decide
  go_enter Tryd.func63, Tryd.ntmps63
  go_wp2
  go_loopg [5, 8] n (fun gg _ s8 wr => ∃ kk : Nat, kk ≤ n ∧ n - kk ≤ gg ∧ s8 = .int .i64 kk ∧ Aside (Below w.heap.size w wr) ∧ Aside (∀ j (h : j < zs.length), j < kk → p zs[j] = false))
  case atStart => exact ⟨0, Nat.zero_le _, by omega, rfl, Below.refl _ _, fun j h hj => absurd hj (Nat.not_lt_zero _)⟩
  case round =>
    obtain ⟨kk, hkk, hg, rfl, HB, A⟩ := hrel
    by_cases hlt : kk < n
    · have hltz : (kk : Int) < (n : Int) := by omega
      have hkl : kk < zs.length := by have z := hnn.out; omega
      have hcell : wr.cell? ⟨b, off + kk, none⟩ = some (.string (zs[kk]'hkl)) := (HB.out.cell hb).trans (hc'.out kk hkl)
      have hmem : zs[kk] ∈ zs := List.getElem_mem hkl
      generalize hy : zs[kk] = y at hcell hmem
      have HKL : Aside (kk < zs.length) := hkl
      have B : Aside (zs[kk] = y) := hy
      clear hy
      have hcall := hp'.out wr y hmem HB.out
      cases hq : p y with
      | true =>
        rw [hq] at hcall
        go_wp2_with (go_at_fn g; refine hcall.mono ?_; rintro e w' ⟨rfl, hb2⟩)
        go_ret
        refine ⟨_, rfl, ?_, HB.out.trans hb2⟩
        show decide ((kk : Int) ≥ 0) = zs.any p
        rw [hany.out kk hkl ((congrArg p B.out).trans hq), decide_eq_true]
        omega
      | false =>
        rw [hq] at hcall
        go_wp2_with (go_at_fn g; refine hcall.mono ?_; rintro e w' ⟨rfl, hb2⟩)
        go_roundg (n - (kk + 1))
        case measure => omega
        case rel =>
          refine ⟨kk + 1, by omega, by omega, by go_num, HB.out.trans hb2, (show Aside _ from fun j hjl hj => ?_)⟩
          by_cases e : j = kk
          · subst e
            exact (congrArg p B.out).trans hq
          · exact A.out j hjl (by omega)
    · have hltz : ¬ (kk : Int) < (n : Int) := by omega
      have : kk = n := by omega
      subst this
      go_wp2
      go_ret
      refine ⟨_, rfl, ?_, HB.out⟩
      show decide ((-1 : Int) ≥ 0) = zs.any p
      rw [hnone.out (fun j h => A.out j h (by have z := hnn.out; omega))]
      decide

theorem containsf (g : Nat) (lb : Array Value) (p : ByteArray → Bool) (b off n c : Nat) (zs : List ByteArray) (hn : n = zs.length) (w : World) (eg : ∀ args w, (callFunc g args).run Tryd.prog w = .ok (.enter g args) w)
    (hp : PredB g lb p zs w) (hbig : n ≤ 140737488355328) (hb : b < w.heap.size) (hc : ∀ (j : Nat) (h : j < zs.length), w.cell? ⟨b, off + j, none⟩ = some (.string (zs[j]'h))) :
    Calls Tryd.prog 48 #[.slice (some ⟨b, off, none⟩) n c, .func (.func g) #[] lb] w fun e w' => e = .returned (.bool (zs.any p)) ∧ Below w.heap.size w w' := by
  have hcall := ixf g lb p b off n c zs hn w eg hp hbig hb hc
  clear hp hc hn
  go_enter Tryd.func48, Tryd.ntmps48
  go_wp2_with (go_at_call 63; refine hcall.mono ?_; rintro e w' ⟨r, rfl, hr, hb2⟩)
  go_ret
  exact ⟨by rw [← hr.out]; rfl, hb2⟩
theorem ixf_empty (fv : Value) (a : Option Addr) (c : Nat) (w : World) :
    Calls Tryd.prog 63 #[.slice a 0 c, fv] w fun e w' => e = .returned (.int .i64 (-1)) ∧ w' = w := by
  go_enter Tryd.func63, Tryd.ntmps63
  go_wp2
  go_loopg [5, 8] 1 (fun gg _ s8 wr => s8 = .int .i64 0 ∧ wr = w)
  case atStart => exact ⟨rfl, rfl⟩
  case round =>
    obtain ⟨rfl, rfl⟩ := hrel
    go_wp2
    go_ret
    exact ⟨rfl, rfl⟩
theorem containsf_empty (fv : Value) (a : Option Addr) (c : Nat) (w : World) :
    Calls Tryd.prog 48 #[.slice a 0 c, fv] w fun e w' => e = .returned (.bool false) ∧ w' = w := by
  have hcall := ixf_empty fv a c w
  go_enter Tryd.func48, Tryd.ntmps48
  go_wp2_with (go_at_call 63; refine hcall.mono ?_; rintro e w' ⟨rfl, rfl⟩)
  go_ret
  exact ⟨rfl, rfl⟩

/-! ### A slice of strings, as cells -/
theorem cells_of {w : World} {A0 : Option Addr} {l : List ByteArray} (hr0 : Kd.C Kd.string w A0 l.length l) (hne : l ≠ []) :
    ∃ b o, A0 = some ⟨b, o, none⟩ ∧ b < w.heap.size ∧ ∀ (j : Nat) (h : j < l.length), w.cell? ⟨b, o + j, none⟩ = some (.string (l[j]'h)) := by
  cases l with
  | nil => exact absurd rfl hne
  | cons x l =>
    obtain ⟨ad, rfl, h0⟩ := Kd.at_string hr0 0 (by omega) (by simp)
    have hsp : ad.spot = none := by
      unfold World.cell? Addr.add at h0
      simp at h0
      cases hh : w.heap[ad.block]? with
      | none => simp [hh] at h0
      | some o =>
        cases o <;> simp [hh] at h0
        exact h0.1
    obtain ⟨b, o, sp⟩ := ad
    simp only at hsp
    subst hsp
    refine ⟨b, o, rfl, World.block_lt_of_cell? w _ h0, ?_⟩
    intro j hjl
    obtain ⟨ad', he, hcell⟩ := Kd.at_string hr0 (j : Int) (by omega) (by omega)
    cases he
    have hrd : rdOf ByteArray.empty (x :: l) (j : Int) = (x :: l)[j] := by simp [rdOf, List.getElem?_eq_getElem hjl]
    rw [hrd] at hcell
    have ha : (⟨b, o, none⟩ : Addr).add (j : Int).toNat = ⟨b, o + j, none⟩ := by
      unfold Addr.add
      split
      · rename_i h
        have : j = 0 := by simpa using h
        subst this
        rfl
      · simp
    rw [ha] at hcell
    exact hcell

/-! ### The closures -/
theorem cell_new (w : World) (v : Value) (t : TypeId) : (w.alloc (.cells #[v] t)).cell? ⟨w.heap.size, 0, none⟩ = some v := by
  have h : (w.alloc (.cells #[v] t)).heap[w.heap.size]? = some (.cells #[v] t (0, 0)) := by
    show (w.heap.push _)[w.heap.size]? = _
    rw [Array.getElem?_push_size]
  unfold World.cell?
  rw [h]
  rfl
theorem eg49 : ∀ args w, (callFunc 49 args).run Tryd.prog w = .ok (.enter 49 args) w := enters_of Tryd.func49 (by kernel_rfl) rfl
theorem covers1 (bn : Nat) (n o : ByteArray) (W : World) (hn : Sz n) (ho : Sz o) (hc : W.cell? ⟨bn, 0, none⟩ = some (.string n)) :
    Calls Tryd.prog 49 #[.string o, .pointer (some ⟨bn, 0, none⟩)] W fun e w' => e = .returned (.bool (Wn n o)) ∧ Below W.heap.size W w' := by
  obtain ⟨k, hk⟩ := (within_ev n o hn ho).rounds
  have hcall := PA.lineage_Within.calls k n o _ W hk
  clear hk
  go_enter Tryd.func49, Tryd.ntmps49
  go_wp2_with (go_at_call 18; refine hcall.mono ?_; rintro e w' ⟨rfl, hb2⟩)
  go_ret
  exact ⟨rfl, hb2⟩

instance : DecidablePred Sz := fun a => inferInstanceAs (Decidable (a.size ≤ 140737488351232))
def g_Covers.f (l0 : List ByteArray) (a1 : ByteArray) : Option Bool :=
  if Sz a1 ∧ (∀ x ∈ l0, Sz x) ∧ l0.length ≤ 140737488355328 then some (l0.any (Wn a1)) else none
theorem g_Covers.calls (A0 : Option Addr) (c0 : Nat) (l0 : List ByteArray) (a1 : ByteArray) (r : Bool) (w : World) (hr0 : Kd.C Kd.string w A0 l0.length l0) (hc0 : l0.length ≤ c0) (h : g_Covers.f l0 a1 = some r) :
    Calls Tryd.prog 34 #[.slice A0 l0.length c0, .string a1] w fun e w' => e = .returned (.bool r) ∧ Below w.heap.size w w' := by
  unfold g_Covers.f at h
  split at h
  · rename_i hs
    obtain ⟨h1, h2, h3⟩ := hs
    injection h with h
    subst h
    by_cases hne : l0 = []
    · subst hne
      have hcall := fun w1 => containsf_empty (.func (.func 49) #[] #[.pointer (some ⟨w.heap.size, 0, none⟩)]) A0 c0 w1
      clear hr0
      go_enter Tryd.func34, Tryd.ntmps34
      go_wp2_with (go_at_call 48; refine (hcall _).mono ?_; rintro e w' ⟨rfl, rfl⟩)
      go_ret
      exact ⟨rfl, (Below.refl _ w).alloc (Nat.le_refl _) _⟩
    · obtain ⟨b, o, rfl, hb, hcells⟩ := cells_of hr0 hne
      have hB1 : Below w.heap.size w (w.alloc (.cells #[.string a1] 23)) := (Below.refl _ w).alloc (Nat.le_refl _) _
      have hcall := containsf 49 #[.pointer (some ⟨w.heap.size, 0, none⟩)] (Wn a1) b o l0.length c0 l0 rfl (w.alloc (.cells #[.string a1] 23)) eg49
        (fun W x hx hB => (covers1 w.heap.size a1 x W h1 (h2 x hx) ((hB.cell (by simp)).trans (cell_new _ _ _))).mono (fun e w' ⟨he, hb⟩ => ⟨he, hb.mono hB.size⟩))
        h3 (by simp; omega) (fun j hj => (hB1.cell hb).trans (hcells j hj))
      generalize hp : Wn a1 = p at hcall ⊢
      clear hr0 hcells h2 hp
      go_enter Tryd.func34, Tryd.ntmps34
      go_wp2_with (go_at_call 48; refine hcall.mono ?_; rintro e w' ⟨rfl, hb2⟩)
      go_ret
      exact ⟨rfl, hB1.trans (hb2.mono (by simp))⟩
  · cases h

theorem eg51 : ∀ args w, (callFunc 51 args).run Tryd.prog w = .ok (.enter 51 args) w := enters_of Tryd.func51 (by kernel_rfl) rfl
theorem tops1 (bn : Nat) (n o : ByteArray) (W : World) (hn : Sz n) (ho : Sz o) (hc : W.cell? ⟨bn, 0, none⟩ = some (.string n)) :
    Calls Tryd.prog 51 #[.string o, .pointer (some ⟨bn, 0, none⟩)] W fun e w' => e = .returned (.bool (!(o.toList == n.toList) && Wn n o)) ∧ Below W.heap.size W w' := by
  obtain ⟨k, hk⟩ := (within_ev n o hn ho).rounds
  have hcall := PA.lineage_Within.calls k n o _ W hk
  clear hk
  cases he : (o.toList == n.toList) with
  | true =>
    go_enter Tryd.func51, Tryd.ntmps51
    go_wp2
    go_ret
    exact ⟨rfl, Below.refl _ _⟩
  | false =>
    go_enter Tryd.func51, Tryd.ntmps51
    go_wp2_with (go_at_call 18; refine hcall.mono ?_; rintro e w' ⟨rfl, hb2⟩)
    go_ret
    exact ⟨rfl, hb2⟩
end Go.Proofs.YtpkiiconadbmfaaDoor.G
