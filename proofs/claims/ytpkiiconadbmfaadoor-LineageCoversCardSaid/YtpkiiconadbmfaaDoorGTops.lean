/- Tops: the loop behind the sort, as a contract over what Sort answers. -/
import Derived.Test.YtpkiiconadbmfaaDoorGCov
import Derived.Test.YtpkiiconadbmfaaDoorSort03
set_option linter.unusedVariables false
set_option linter.unusedSimpArgs false
namespace Go.Proofs.YtpkiiconadbmfaaDoor.G
open Go.RowKit Go.Proofs.YtpkiiconadbmfaaDoorW.PrintWords Go.Proofs.YtpkiiconadbmfaaDoorW.PrintLast Go.Proofs.YtpkiiconadbmfaaDoorW.PrintMore Go.Proofs.YtpkiiconadbmfaaDoor.PA

theorem containsC (g : Nat) (lb : Array Value) (p : ByteArray → Bool) (A : Option Addr) (c : Nat) (zs : List ByteArray) (w : World) (eg : ∀ args w, (callFunc g args).run Tryd.prog w = .ok (.enter g args) w)
    (hr : Kd.C Kd.string w A zs.length zs) (hp : PredB g lb p zs w) (hbig : zs.length ≤ 140737488355328) :
    Calls Tryd.prog 48 #[.slice A zs.length c, .func (.func g) #[] lb] w fun e w' => e = .returned (.bool (zs.any p)) ∧ Below w.heap.size w w' := by
  by_cases hne : zs = []
  · subst hne
    refine (containsf_empty (.func (.func g) #[] lb) A c w).mono ?_
    rintro e w' ⟨rfl, rfl⟩
    exact ⟨rfl, Below.refl _ _⟩
  · obtain ⟨b, o, rfl, hb, hcells⟩ := cells_of hr hne
    exact containsf g lb p b o zs.length c zs rfl w eg hp hbig hb hcells

/-- What Sort answers, as a row. -/
def SortsTo (l ds : List ByteArray) (A : Option Addr) (c : Nat) (w : World) : Prop :=
  Calls Tryd.prog 50 #[.slice A l.length c] w fun e w' => ∃ A' c', e = .returned (.slice A' ds.length c') ∧ Aside0 (Kd.C Kd.string w' A' ds.length ds) ∧ Aside0 (Below w.heap.size w w')

theorem info23_ : (Tryd.prog.info? 23).map (fun i => (i.zero, i.size, i.bytes)) = some (some (.string ⟨#[]⟩), 1, 16) := by kernel_rfl
set_option maxRecDepth 100000 in
set_option maxHeartbeats 8000000 in
theorem tops_calls (A : Option Addr) (c : Nat) (l ds : List ByteArray) (w : World) (hsort : SortsTo l ds A c w) (hsz : ∀ x ∈ ds, Sz x) (hbig : ds.length < 8796093022208) :
    Calls Tryd.prog 35 #[.slice A l.length c] w fun e w' => ∃ v0_ : Value, e = .returned v0_ ∧ Kd.R Kd.string 23 w' w.heap.size (fun _ => True) v0_ (tops ds) ∧ Below w.heap.size w w' := by
  unfold SortsTo at hsort
  have hsz' : Aside (∀ x ∈ ds, Sz x) := hsz
  clear hsz
  obtain ⟨n, hn⟩ : ∃ n, n = ds.length := ⟨_, rfl⟩
  rw [← hn] at hsort hbig
  have hnn : Aside (n = ds.length) := hn
  clear hn
  go_enter Tryd.func35, Tryd.ntmps35
  go_wp2_with (go_at_call 50; refine hsort.mono ?_; rintro e w1 ⟨A1, c1, rfl, HR, HB1⟩)
  go_loopg [4, 6, 11] n (fun gg v4 v6 v11 wr => ∃ kk : Nat, kk ≤ n ∧ n - kk ≤ gg ∧ v11 = .int .i64 kk ∧ Aside0 (Kd.R Kd.string 23 wr w1.heap.size (fun _ => True) v4 ((ds.take kk).filter (topP ds))) ∧ Aside0 (Below w1.heap.size w1 wr))
  case atStart => exact ⟨0, Nat.zero_le _, by omega, rfl, ⟨Kd.R_nil _ _ _ _ _⟩, ⟨Below.refl _ _⟩⟩
  case round =>
    obtain ⟨kk, hkk, hg, rfl, HO, HB⟩ := hrel
    by_cases hlt : kk < n
    · have hltz : (kk : Int) < (n : Int) := by omega
      have hkl : kk < ds.length := by have := hnn.out; omega
      obtain ⟨ad, ead, hx0⟩ := Kd.at_string HR.out (kk : Int) (by omega) (by omega)
      have hrd : rdOf ByteArray.empty ds (kk : Int) = ds[kk] := by simp [rdOf, List.getElem?_eq_getElem hkl]
      rw [hrd, Int.toNat_natCast] at hx0
      have hmem : ds[kk] ∈ ds := List.getElem_mem hkl
      have hxs := hsz'.out _ hmem
      have htk : Aside ((ds.take (kk + 1)).filter (topP ds) = (ds.take kk).filter (topP ds) ++ (if topP ds ds[kk] then [ds[kk]] else [])) := by
        rw [List.take_succ_eq_append_getElem hkl, List.filter_append]
        congr 1
        cases h : topP ds ds[kk] <;> simp [h]
      generalize hx : ds[kk] = x at hx0 hmem hxs htk
      clear hx hmem hrd
      cases ead
      have hx1 := (HB.out.cell (World.block_lt_of_cell? w1 _ hx0)).trans hx0
      clear hx0
      have hcont : ∀ (w2 : World), Aside0 (Below w1.heap.size w1 w2) → w2.cell? ⟨wr.heap.size, 0, none⟩ = some (.string x) → wr.heap.size < w2.heap.size →
          Calls Tryd.prog 48 #[.slice (some ad) n c1, .func (.func 51) #[] #[.pointer (some ⟨wr.heap.size, 0, none⟩)]] w2 fun e w' => e = .returned (.bool (!(topP ds x))) ∧ Below w2.heap.size w2 w' := by
        intro w2 hb2 hc2 hs2
        rw [hnn.out]
        refine (containsC 51 #[.pointer (some ⟨wr.heap.size, 0, none⟩)] (fun o => !(o.toList == x.toList) && Wn x o) (some ad) c1 ds w2 eg51 (Kd.C_below (show Kd.C Kd.string w1 (some ad) ds.length ds from hnn.out ▸ HR.out) hb2.out) ?_ (by have := hnn.out; omega)).mono ?_
        · intro W o ho hB
          exact (tops1 wr.heap.size x o W hxs (hsz'.out o ho) ((hB.cell hs2).trans hc2)).mono fun e w' ⟨he, hb⟩ => ⟨he, hb.mono hB.size⟩
        · rintro e w' ⟨rfl, hb⟩
          refine ⟨?_, hb⟩
          unfold topP
          rw [Bool.not_not]
      have hcont' : Aside0 (∀ (w2 : World), Aside0 (Below w1.heap.size w1 w2) → w2.cell? ⟨wr.heap.size, 0, none⟩ = some (.string x) → wr.heap.size < w2.heap.size →
          Calls Tryd.prog 48 #[.slice (some ad) n c1, .func (.func 51) #[] #[.pointer (some ⟨wr.heap.size, 0, none⟩)]] w2 fun e w' => e = .returned (.bool (!(topP ds x))) ∧ Below w2.heap.size w2 w') := ⟨hcont⟩
      clear hcont
      have hB2 : Below w1.heap.size w1 (wr.alloc (.cells #[.string x] 23)) := HB.out.alloc (below_size HB.out) _
      have hcall := hcont'.out _ ⟨hB2⟩ (cell_new _ _ _) (by simp)
      have HB2 := Aside0.mk hB2
      clear hcont' hB2
      cases ht : topP ds x with
      | false =>
        rw [ht] at htk hcall
        go_wp2_with (go_at_call 48; refine hcall.mono ?_; rintro e w2 ⟨rfl, hb⟩; have HO2 := Aside0.mk (Kd.R_below (Kd.R_alloc HO.out _) hb); have HB3 := Aside0.mk (below_step HB2.out hb); clear hb)
        go_roundg (n - (kk + 1))
        case measure => omega
        case rel =>
          refine ⟨kk + 1, by omega, by omega, by go_num, ⟨?_⟩, HB3⟩
          rw [htk.out, if_neg (by decide), List.append_nil]
          exact HO2.out
      | true =>
        rw [ht] at htk hcall
        obtain ⟨ys, hys⟩ : ∃ ys, ys = (ds.take kk).filter (topP ds) := ⟨_, rfl⟩
        have hlen : Aside0 (ys.length < 8796093022208) := ⟨by rw [hys]; have h1 := List.length_filter_le (topP ds) (ds.take kk); rw [List.length_take] at h1; omega⟩
        rw [← hys] at HO htk
        clear hys
        go_wp2_with (first | (go_at_call 48; refine hcall.mono ?_; rintro e w2 ⟨rfl, hb⟩; have HO2 := Aside0.mk (Kd.R_below (Kd.R_alloc HO.out _) hb); have HB3 := Aside0.mk (below_step HB2.out hb); have hxc : w2.cell? ⟨wr.heap.size, 0, none⟩ = some (.string x) := (hb.cell (by simp)).trans (cell_new _ _ _); clear hb) | ((with_reducible refine gate_builtin (b := .append) (xs := #[.tmp 19, .tmp 21]) rfl ?_); at_builtin; refine Kd.R_append Kd.string (w0 := w1) w1.heap.size rfl (.tmp 19) (.tmp 21) 60 23 (.string ⟨#[]⟩) 16 rfl Tryd.underlying60 info23_ rfl (by decide) (by omega) u4 ys x [.string x] (fun _ => True) (fun _ => False) rfl rfl ?aP (fun _ hk => hk.elim) ?aF ?aO ?aB ?aS ?aL ?_; (case aP => exact rfl); (case aB => exact (by repeat (first | (with_reducible first | exact HB3.out | apply below_alloc | apply pw_below_drewN | apply below_drew1) | exact HB3.out))); (case aF => exact (fun _ _ => trivial)); (case aO => exact (by (with_reducible repeat (first | apply Kd.R_alloc | apply Kd.R_drewN | apply Kd.R_drew)); exact HO2.out)); (case aS => exact (below_size (by repeat (first | (with_reducible first | exact HB3.out | apply below_alloc | apply pw_below_drewN | apply below_drew1) | exact HB3.out)))); (case aL => have := hlen.out; omega); intro v192 w12 ho hb hg hat; have HO3 := Aside0.mk ho; have HB4 := Aside0.mk hb; clear ho hb hg hat))
        go_roundg (n - (kk + 1))
        case measure => omega
        case rel =>
          refine ⟨kk + 1, by omega, by omega, by go_num, ⟨?_⟩, HB4⟩
          rw [htk.out, if_pos trivial]
          exact HO3.out
    · have hltz : ¬ (kk : Int) < (n : Int) := by omega
      have : kk = n := by omega
      subst this
      go_wp2
      go_ret
      refine ⟨_, rfl, ?_, HB1.out.trans (HB.out.mono (below_size HB1.out))⟩
      have e : (ds.take kk).filter (topP ds) = tops ds := by
        rw [List.take_of_length_le (by have := hnn.out; omega)]
        rfl
      rw [← e]
      exact Kd.R_lower HO.out (below_size HB1.out)
end Go.Proofs.YtpkiiconadbmfaaDoor.G
