/- This session's texts for the claim, joined and shortened by this session's own program pack.py: what the claim does not need is struck. Part: GWr. -/
import Derived.Test.YtkdfilpinlebbaaDoorQGEncS
import Derived.Test.YtkdfilpinlebbaaDoorProg
import Derived.WalkKit
import Derived.Below
import Derived.Deep.LoopGhost
import Derived.Lib.SmallJoins
set_option linter.unusedVariables false
set_option linter.unusedSimpArgs false
namespace Go.Proofs.YtkdfilpinlebbaaDoor.G
open Go.RowKit Go.Lib Go.Proofs.YtkdfilpinlebbaaDoorW.PrintWords Go.Proofs.YtkdfilpinlebbaaDoorW.PrintMore
theorem wlt {w : World} {b : Nat} {o : Obj} (h : w.heap[b]? = some o) : b < w.heap.size := (Array.getElem?_eq_some_iff.1 h).1
theorem reads_keep {w w1 : World} {k : IntKind} {A : Option Addr} {n : Nat} {xs : List Int} (h : ReadsInt w k A n xs) (hk : ∀ ad, A = some ad → 0 < n → w1.heap[ad.block]? = w.heap[ad.block]?) : ReadsInt w1 k A n xs :=
  ⟨h.1, h.2.1, fun hn => by
    obtain ⟨ad, e, hc⟩ := h.2.2 hn
    refine ⟨ad, e, fun j hj => ?_⟩
    have hb : (ad.add j).block = ad.block := by unfold Addr.add; split <;> rfl
    rw [← hc j hj]
    exact World.cell?_of_block (w := w) (by rw [hb]; exact hk ad e hn)⟩
theorem rowset {w : World} {b j : Nat} {cs : Array Value} {t : TypeId} (v : Value) (h : w.heap[b]? = some (.cells cs t (0, 0))) : (w.setCell ⟨b, j, none⟩ v).heap[b]? = some (.cells (cs.setIfInBounds j v) t (0, 0)) := by
  obtain ⟨hlt, hk⟩ := Array.getElem?_eq_some_iff.1 h
  show (w.heap.modify b _)[b]? = _
  rw [Array.getElem?_eq_getElem (by rw [Array.size_modify]; exact hlt), Array.getElem_modify_self, hk]
  rfl
theorem nofrz {w : World} {b : Nat} {cs : Array Value} {t : TypeId} (h : w.heap[b]? = some (.cells cs t (0, 0))) (j : Nat) : w.frozen? ⟨b, j, none⟩ = false := by simp [World.frozen?, h]
theorem info5w : (Tryd.prog.info? 5).map (fun i => (i.zero, i.size, i.bytes)) = some (some (.int .u8 0), 1, 1) := by kernel_rfl
structure WB (bw : Nat) (L : List Int) (far : Nat → Prop) (wx : World) (v : Value) : Prop where
  c : wx.heap[bw]? = some (.cells #[v, .int .i64 0] 100 (0, 0))
  own : wx.ownsRow bw 5 1 v L.length (nums .u8 L)
  ne : v.ownBlock ≠ some bw
  far : ∀ k, v.ownBlock = some k → ¬ far k
structure PartV where
  A : Option Addr
  c : Nat
  ys : List Int
def PartV.v (p : PartV) : Value := .slice p.A p.ys.length p.c
structure PS (bw bp : Nat) (ps : List PartV) (far : Nat → Prop) (wx : World) : Prop where
  row : wx.heap[bp]? = some (.cells (ps.map PartV.v).toArray 57 (0, 0))
  reads : ∀ p ∈ ps, ReadsInt wx .u8 p.A p.ys.length p.ys
  f1 : far bp
  f2 : ∀ p ∈ ps, ∀ ad, p.A = some ad → 0 < p.ys.length → far ad.block
  lt : ∀ k, far k → k < wx.heap.size ∧ k ≠ bw
theorem PS.keep {bw bp : Nat} {ps : List PartV} {far : Nat → Prop} {wx wy : World} (h : PS bw bp ps far wx) (hk : ∀ k, far k → wy.heap[k]? = wx.heap[k]?) (hs : wx.heap.size ≤ wy.heap.size) : PS bw bp ps far wy :=
  ⟨(hk _ h.f1).trans h.row, fun p hp => reads_keep (h.reads p hp) (fun ad e hn => hk _ (h.f2 p hp ad e hn)), h.f1, h.f2, fun k hf => ⟨Nat.lt_of_lt_of_le (h.lt k hf).1 hs, (h.lt k hf).2⟩⟩
def bytesOfPs (ps : List PartV) : List Int := ps.flatMap (·.ys)
theorem Aside.mkw {p : Prop} (h : p) : Aside p := h
set_option maxHeartbeats 4000000 in
set_option maxRecDepth 100000 in
theorem write_calls (bw bp : Nat) (L : List Int) (ps : List PartV) (far : Nat → Prop) (wx : World) (v : Value) (hW : WB bw L far wx v) (hP : PS bw bp ps far wx) (hl : L.length + (bytesOfPs ps).length ≤ 100000000) (hn : ps.length ≤ 100) :
    Calls Tryd.prog 66 #[.pointer (some ⟨bw, 0, none⟩), .int .i64 0, .slice (some ⟨bp, 0, none⟩) ps.length ps.length] wx fun e w' => e = .returned (.tuple #[]) ∧
      Aside (∃ v', WB bw (L ++ bytesOfPs ps) far w' v') ∧ Aside (Below bw wx w') := by
  obtain ⟨np, hnp⟩ : ∃ np, ps.length = np := ⟨_, rfl⟩
  rw [hnp] at hn ⊢
  have c1 : wx.cell? ⟨bw, 1, none⟩ = some (.int .i64 0) := cell_of_row _ bw 1 _ _ _ hW.c
  have f1 := nofrz hW.c 1
  have HW0 : Aside (WB bw L far (wx.setCell ⟨bw, 1, none⟩ (.int .i64 0)) v) := by
    refine ⟨rowset (.int .i64 0) hW.c, ?_, hW.ne, hW.far⟩
    exact World.ownsRow.kept hW.own (row := some bw) ⟨rfl, rfl, rfl, by show _ ≤ (wx.heap.modify bw _).size; simp, fun k hk hne => Below.heap_setCell wx _ _ k (by intro e; exact hne (by rw [e]))⟩ (.inr hW.ne)
  have HP0 : Aside (PS bw bp ps far (wx.setCell ⟨bw, 1, none⟩ (.int .i64 0))) := hP.keep (fun k hk => Below.heap_setCell wx _ _ k (hP.lt k hk).2) (by show _ ≤ (wx.heap.modify bw _).size; simp)
  have HB0 : Aside (Below bw wx (wx.setCell ⟨bw, 1, none⟩ (.int .i64 0))) := (Below.refl bw wx).setCell (p := ⟨bw, 1, none⟩) (Nat.le_refl _) _
  have HL : Aside (L.length + (bytesOfPs ps).length ≤ 100000000) := hl
  have HN : Aside (ps.length = np) := hnp
  clear hW hP hl hnp
  go_enter Tryd.func66, Tryd.ntmps66
  go_upto_region 3 with fail
  generalize wx.setCell ⟨bw, 1, none⟩ (.int .i64 0) = w0 at *
  clear c1 f1
  go_wp2
  go_loopg [7, 25] np (fun gg v7 v25 wr => ∃ kk : Nat, kk ≤ np ∧ np - kk ≤ gg ∧ v25 = .int .i64 kk ∧ Aside (∃ v', WB bw (L ++ bytesOfPs (ps.take kk)) far wr v') ∧ Aside (PS bw bp ps far wr) ∧ Aside (Below bw wx wr))
  case atStart => exact ⟨0, Nat.zero_le _, by omega, rfl, ⟨v, by simpa [bytesOfPs] using HW0.out⟩, HP0.out, HB0.out⟩
  case round =>
    obtain ⟨kk, hkk, hg, rfl, HW, HP, HB⟩ := hrel
    by_cases hlt : kk < np
    · have hltz : (kk : Int) < (np : Int) := by omega
      have hkl : kk < ps.length := by rw [HN.out]; exact hlt
      obtain ⟨p, hp⟩ : ∃ p, ps[kk] = p := ⟨_, rfl⟩
      have hmem : p ∈ ps := by rw [← hp]; exact List.getElem_mem hkl
      have hrd := HP.out.reads p hmem
      have hfar : Aside (∀ ad, p.A = some ad → 0 < p.ys.length → far ad.block) := HP.out.f2 p hmem
      have hcell : wr.cell? ⟨bp, kk, none⟩ = some (.slice p.A p.ys.length p.c) := by
        have h1 : (ps.map PartV.v)[kk]? = some (PartV.v p) := by rw [List.getElem?_map, List.getElem?_eq_getElem hkl, hp]; rfl
        rw [cell_of_row _ bp kk _ _ _ HP.out.row, List.getElem?_toArray, h1]
        rfl
      have htk : Aside (bytesOfPs (ps.take (kk + 1)) = bytesOfPs (ps.take kk) ++ p.ys) := by
        show bytesOfPs _ = _
        unfold bytesOfPs
        rw [List.take_succ_eq_append_getElem hkl, hp, List.flatMap_append]
        simp
      have hle : Aside ((L ++ bytesOfPs (ps.take kk)).length + p.ys.length ≤ 100000000) := by
        have h1 := HL.out
        have h2 : (bytesOfPs (ps.take (kk + 1))).length ≤ (bytesOfPs ps).length := by
          conv => rhs; rw [← List.take_append_drop (kk + 1) ps]
          unfold bytesOfPs
          rw [List.flatMap_append, List.length_append]
          omega
        rw [htk.out, List.length_append] at h2
        show (L ++ bytesOfPs (ps.take kk)).length + p.ys.length ≤ 100000000
        rw [List.length_append]
        omega
      obtain ⟨v, HWv⟩ := HW.out
      have hd : Aside (∀ k, v.ownBlock = some k → bw ≤ k ∧ k < wr.heap.size) := fun k hk => ⟨own_base HWv.own k hk, own_lt HWv.own k hk⟩
      have hv0 : wr.cell? ⟨bw, 0, none⟩ = some v := cell_of_row _ bw 0 _ _ _ HWv.c
      have HWA : Aside (WB bw (L ++ bytesOfPs (ps.take kk)) far wr v) := HWv
      have HRD : Aside (ReadsInt wr .u8 p.A p.ys.length p.ys) := hrd
      obtain ⟨X, hX⟩ : ∃ X, L ++ bytesOfPs (ps.take kk) = X := ⟨_, rfl⟩
      have HX : Aside (L ++ bytesOfPs (ps.take (kk + 1)) = X ++ p.ys) := by
        show L ++ bytesOfPs (ps.take (kk + 1)) = X ++ p.ys
        rw [show bytesOfPs (ps.take (kk + 1)) = _ from htk.out, ← List.append_assoc, hX]
      rw [hX] at HWA hle
      clear HWv hrd hmem hp hkl HW hX htk
      generalize hpA : p.A = A at *
      generalize p.ys = ys at *
      generalize p.c = c at *
      have hbwlt : Aside (bw < wr.heap.size) := wlt HWA.out.c
      go_wp2_with (first | ((with_reducible refine gate_builtin (b := .append) (xs := #[.tmp 33, .tmp 34]) rfl ?_); go_loud (at_builtin; refine print_append_row (w0 := wx) bw rfl (.tmp 33) (.tmp 34) 57 5 .u8 1 rfl Tryd.underlying57 info5w (by decide) v X ys A ys.length c rfl rfl HWA.out.own HRD.out HB.out (Nat.le_of_lt hbwlt.out) (by have := hle.out; omega) ?_; intro v1 w1 ho hb hg hat; obtain ⟨A1, c1, rfl, _⟩ := own_reads ho; have HO := Aside.mkw ho; have HG := Aside.mkw hg; have HAT := Aside.mkw hat; have HB1 := Aside.mkw hb; have hw1 : w1.heap[bw]? = some (.cells #[v, .int .i64 0] 100 (0, 0)) := ((hg.block bw hbwlt.out (fun e => HWA.out.ne e.symm)).trans HWA.out.c); have hw1c : w1.cell? ⟨bw, 0, none⟩ = some v := cell_of_row _ bw 0 _ _ _ hw1; have hw1f := nofrz hw1 0; have HW1 := Aside.mkw hw1; clear ho hb hg hat hw1)))
      go_roundg (np - (kk + 1))
      case measure => omega
      case rel =>
        have e9 : (X ++ ys).length = X.length + ys.length := List.length_append
        rw [← e9]
        have hsz : w1.heap.size ≤ (w1.setCell ⟨bw, 0, none⟩ (.slice A1 (X ++ ys).length c1)).heap.size := by show _ ≤ (w1.heap.modify bw _).size; simp
        have hfarne : ∀ k, far k → some k ≠ v.ownBlock := fun k hk e => HWA.out.far k e.symm hk
        have hat' : ∀ k, Value.ownBlock (.slice A1 (X ++ ys).length c1) = some k → (v.ownBlock = some k) ∨ wr.heap.size ≤ k := by
          intro k hk
          rcases HAT.out with h | ⟨b, h, hb⟩
          · exact .inl (h.symm.trans hk)
          · rw [hk] at h
            cases h
            exact .inr hb
        have hne1 : Value.ownBlock (.slice A1 (X ++ ys).length c1) ≠ some bw := by
          intro h
          rcases hat' bw h with h | h
          · exact HWA.out.ne h
          · exact absurd hbwlt.out (by omega)
        refine ⟨kk + 1, by omega, by omega, by go_num, ⟨.slice A1 (X ++ ys).length c1, ?_⟩, ?_, ?_⟩
        · rw [show L ++ bytesOfPs (ps.take (kk + 1)) = _ from HX.out]
          refine ⟨rowset _ HW1.out, ?_, hne1, ?_⟩
          · exact World.ownsRow.kept HO.out (row := some bw) ⟨rfl, rfl, rfl, hsz, fun k hk hne => Below.heap_setCell w1 _ _ k (by intro e; exact hne (by rw [e]))⟩ (.inr hne1)
          · intro k hk hf
            rcases hat' k hk with h | h
            · exact HWA.out.far k h hf
            · exact absurd (HP.out.lt k hf).1 (by omega)
        · exact HP.out.keep (fun k hk => (Below.heap_setCell w1 _ _ k (HP.out.lt k hk).2).trans (HG.out.block k (HP.out.lt k hk).1 (hfarne k hk))) (Nat.le_trans HG.out.size hsz)
        · exact (show Below bw wx w1 from HB1.out).setCell (p := ⟨bw, 0, none⟩) (Nat.le_refl bw) _
    · have hltz : ¬ (kk : Int) < (np : Int) := by omega
      obtain rfl : kk = np := by omega
      have hall : ps.take kk = ps := List.take_of_length_le (by rw [HN.out]; exact Nat.le_refl _)
      have HA : Aside (ps.take kk = ps) := hall
      clear hall
      go_wp2
      go_end0
      refine ⟨rfl, ?_, HB.out⟩
      have h := HW.out
      rw [HA.out] at h
      exact h
end Go.Proofs.YtkdfilpinlebbaaDoor.G
