/- This session's texts for the claim, joined and shortened by this session's own program pack.py: what the claim does not need is struck. Part: GStr. -/
import Derived.Test.YtkdfilpinlebbaaDoorQGCheck
import Derived.Test.YtkdfilpinlebbaaDoorQGLibO
import Derived.Test.YtkdfilpinlebbaaDoorQGBuild
import Derived.Lib.ItoaLen
set_option linter.unusedVariables false
set_option linter.unusedSimpArgs false
namespace Go.Proofs.YtkdfilpinlebbaaDoor.G
open Go.RowKit Go.Shelf Go.Proofs.YtkdfilpinlebbaaDoorW.PrintWords Go.Proofs.YtkdfilpinlebbaaDoorW.PrintMore
theorem relA2 {w wx w' : World} {g : Nat} {cA U : Array Value} (hN : wx.heap[g]? = some (.cells cA 28 (0, 0))) (hB : Below g w wx) (hb : Below wx.drew.heap.size wx.drew w') : CI w'.heap.size g U cA w (w'.alloc (.cells U 53)) := by
  have hlt := blk_lt hN
  have hg : w'.heap[g]? = some (.cells cA 28 (0, 0)) := (hb.block g hlt).trans hN
  refine ⟨heap_alloc_last _ _, ?_, ?_⟩
  · rw [Below.heap_alloc _ _ _ (blk_lt hg)]
    exact hg
  · exact (hB.drew.trans (hb.mono (Nat.le_of_lt hlt))).alloc (Nat.le_of_lt (blk_lt hg)) _
theorem blkB {wx w' : World} {Z : Obj} (h : Below (wx.drew.alloc Z).heap.size (wx.drew.alloc Z) w') : w'.heap[wx.heap.size]? = some Z :=
  (h.block _ (by show _ < (wx.heap.push Z).size; simp)).trans (heap_alloc_last wx.drew Z)
theorem relB2 {w wx w' : World} {g : Nat} {cA U Z : Array Value} (hN : wx.heap[g]? = some (.cells cA 28 (0, 0))) (hB : Below g w wx) (hb : Below (wx.drew.alloc (.cells Z 53)).heap.size (wx.drew.alloc (.cells Z 53)) w') : CI wx.heap.size g U cA w (w'.setRow wx.heap.size U) := by
  have hlt := blk_lt hN
  have hlt2 : g < (wx.drew.alloc (.cells Z 53)).heap.size := by show g < (wx.heap.push _).size; simp; omega
  have hg : w'.heap[g]? = some (.cells cA 28 (0, 0)) := (hb.block g hlt2).trans ((Below.heap_alloc _ _ _ hlt).trans hN)
  refine ⟨setRow_heap _ _ _ _ _ _ (blkB hb), ?_, ?_⟩
  · rw [setRow_other _ _ _ _ (by omega)]
    exact hg
  · exact below_setRow ((hB.drew.alloc (Nat.le_of_lt hlt) _).trans (hb.mono (Nat.le_of_lt hlt2))) (by omega) _
theorem cellA2 {wx w' : World} {g : Nat} {cA : Array Value} (hN : wx.heap[g]? = some (.cells cA 28 (0, 0))) (hb : Below wx.drew.heap.size wx.drew w') (j : Nat) : w'.cell? ⟨g, j, none⟩ = cA[j]? :=
  cell_of_row _ _ j _ _ _ ((hb.block g (blk_lt hN)).trans hN)
theorem cellB2 {wx w' : World} {g : Nat} {cA : Array Value} {Z : Obj} (hN : wx.heap[g]? = some (.cells cA 28 (0, 0))) (hb : Below (wx.drew.alloc Z).heap.size (wx.drew.alloc Z) w') (j : Nat) : w'.cell? ⟨g, j, none⟩ = cA[j]? :=
  cell_of_row _ _ j _ _ _ ((hb.block g (by have := blk_lt hN; show g < (wx.heap.push _).size; simp; omega)).trans ((Below.heap_alloc _ _ _ (blk_lt hN)).trans hN))
def SB (b g BB : Nat) (U N : Array Value) (w : World) (L : List UInt8) (wx : World) : Prop := CI b g U N w wx ∧ Lib.IsBuilder 59 5 BB BB (Lib.byteCells L) wx ∧ b < BB ∧ g < BB
theorem SB.lt {b g BB : Nat} {U N : Array Value} {w : World} {L : List UInt8} {wx : World} (h : SB b g BB U N w L wx) : BB < wx.heap.size := by
  rcases h.2.1 with k | k
  · exact k.lt
  · exact k.lt
theorem SB.fresh {b g : Nat} {U N : Array Value} {w wx : World} (h : CI b g U N w wx) : SB b g wx.heap.size U N w [] (wx.alloc (.cells #[.pointer none, .slice none 0 0] 59)) :=
  ⟨h.step ((Below.refl _ _).alloc (Nat.le_refl _) _), Lib.fresh_isBuilder 59 5 wx, blk_lt h.1, blk_lt h.2.1⟩
theorem CI.stepB {b g BB : Nat} {U N : Array Value} {w wx wy : World} (h : CI b g U N w wx) (h1 : b < BB) (h2 : g < BB) (hb : Below BB wx wy) : CI b g U N w wy :=
  ⟨(hb.block _ h1).trans h.1, (hb.block _ h2).trans h.2.1, h.2.2.trans (hb.mono (Nat.le_of_lt h2))⟩
theorem SB.write {b g BB : Nat} {U N : Array Value} {w : World} {L : List UInt8} {wx wy : World} {s : ByteArray} {p : Value} (h : SB b g BB U N w L wx)
    (k : Lib.BuilderAt 59 5 BB BB (.pointer (some ⟨BB, 0, none⟩)) (Lib.byteCells L ++ Lib.strCells s) wy ∧ Below BB wx wy) : SB b g BB U N w (L ++ s.data.toList) wy :=
  ⟨h.1.stepB h.2.2.1 h.2.2.2 k.2, .inr (by rw [Lib.byteCells_append, ← Lib.strCells_eq]; exact k.1), h.2.2⟩
theorem builder_below {B b : Nat} {p : Value} {bs : List Value} {wx wy : World} (h : Lib.BuilderAt 59 5 B b p bs wx) (hb : Below wx.heap.size wx wy) : Lib.BuilderAt 59 5 B b p bs wy := by
  obtain ⟨h1, v, h2, h3, h4⟩ := h
  exact ⟨h1, v, (hb.block _ (blk_lt h2)).trans h2, pw_own_below h3 hb, h4⟩
theorem SB.below {b g BB : Nat} {U N : Array Value} {w : World} {L : List UInt8} {wx wy : World} (h : SB b g BB U N w L wx) (hb : Below wx.heap.size wx wy) : SB b g BB U N w L wy :=
  ⟨h.1.step hb, h.2.1.imp (fun k => builder_below k hb) (fun k => builder_below k hb), h.2.2⟩
theorem SB.app {b g BB : Nat} {U N : Array Value} {w : World} {L : List UInt8} {wx : World} (h : SB b g BB U N w L wx) (s : ByteArray) (hs : L.length + s.size ≤ 100000000) :
    Calls Tryd.prog 28 #[.pointer (some ⟨BB, 0, none⟩), .string s] wx fun e w' => e = .returned (.tuple #[.int .i64 s.size, .nilIface]) ∧ Aside (SB b g BB U N w (L ++ s.data.toList) w') :=
  (Tryd.Builder_WriteString BB BB (Lib.byteCells L) s wx h.2.1 (by rw [Lib.byteCells_length]; omega) (Nat.le_of_lt h.lt)).mono fun e w' ⟨he, hk⟩ => ⟨he, SB.write (p := .nilIface) h hk⟩
theorem Aside.mk' {p : Prop} (h : p) : Aside p := h
attribute [-go_sem] Instr.storeAt
set_option maxHeartbeats 8000000 in
set_option maxRecDepth 100000 in
theorem string_calls (k : Int) (o : ByteArray) (n i : Int) (t : ByteArray) (ho : o.size ≤ 1000000) (ht : t.size ≤ 1000000) (w : World) (hgg : GG w) :
    Calls Tryd.prog 11 #[.agg #[.int .i64 k, .string o, .int .i64 n, .int .i64 i, .string t]] w fun e w' => e = .returned (.string ⟨(str ⟨k, o.data.toList, n, i, t.data.toList⟩).toArray⟩) ∧ Below w.heap.size w w' := by
  have hck := fun w => check_calls k o n i t (by omega) w
  by_cases hR : chk ⟨k, o.data.toList, n, i, t.data.toList⟩ = 0
  · have hstr : Aside (str ⟨k, o.data.toList, n, i, t.data.toList⟩ = strL ⟨k, o.data.toList, n, i, t.data.toList⟩) := if_pos hR
    have hgd : Aside (Good ⟨k, o.data.toList, n, i, t.data.toList⟩) := good_of hR
    rw [hR] at hck
    clear hR
    generalize str ⟨k, o.data.toList, n, i, t.data.toList⟩ = R at hstr ⊢
    obtain ⟨K, rfl⟩ : ∃ K : Nat, k = (K : Int) := ⟨_, hgd.out.kk⟩
    have hK : K ≤ 20 := by have := hgd.out.k2; simpa using this
    have hK1 : 1 ≤ K := by have := hgd.out.k1; simpa using this
    have hix := fun w => uses_index w K hK
    have huse := fun w => uses_calls w
    have hL : useV K = .agg #[.string ⟨(kword K).toArray⟩, .bool (ownB K), .bool (numB K), .bool (txtB K), .int .i64 (mostU K)] := rfl
    rw [hL] at hix
    have hmu : mostU K = mostI K := by unfold mostU; rw [if_neg (by omega)]
    rw [hmu] at hix
    clear hL hmu
    have hsA : ∀ W : World, (Instr.storeAt 53 (.pointer (some ⟨W.heap.size, 0, none⟩)) (.agg #[.string ⟨(kword K).toArray⟩, .bool (ownB K), .bool (numB K), .bool (txtB K), .int .i64 (mostI K)])).run Tryd.prog (W.alloc (.cells #[.string ⟨#[]⟩, .bool false, .bool false, .bool false, .int .i64 0] 53)) = .ok () (W.alloc (.cells #[.string ⟨(kword K).toArray⟩, .bool (ownB K), .bool (numB K), .bool (txtB K), .int .i64 (mostI K)] 53)) := fun W => by
      rw [store53 _ _ #[.string ⟨#[]⟩, .bool false, .bool false, .bool false, .int .i64 0] _ (heap_alloc_last W _) rfl rfl (all5 _ _ _ _ _), setRow_last]
    have hgg' : Aside (GG w) := hgg
    clear hgg
    go_enter Tryd.func11, Tryd.ntmps11
    go_upto_region 3 with (go_at_call 17; refine (hck _).mono ?_; rintro e wA ⟨rfl, hbA⟩)
    have hNA : Aside (wA.heap[w.heap.size]? = some (.cells #[.int .i64 K, .string o, .int .i64 n, .int .i64 i, .string t] 28 (0, 0))) := (hbA.block _ (by simp)).trans (heap_alloc_last w _)
    have hBA : Aside (Below w.heap.size w wA) := ((Below.refl _ w).alloc (Nat.le_refl _) _).trans (hbA.mono (by simp))
    clear hbA
    go_cut [2, 3] (fun v2 v3 wc => v2 = .string ⟨#[]⟩ ∧ ∃ b, v3 = .pointer (some ⟨b, 0, none⟩) ∧ Aside (CI b w.heap.size #[.string ⟨(kword K).toArray⟩, .bool (ownB K), .bool (numB K), .bool (txtB K), .int .i64 (mostI K)] #[.int .i64 K, .string o, .int .i64 n, .int .i64 i, .string t] w wc))
    case first =>
      have hcA : wA.cell? ⟨w.heap.size, 0, none⟩ = some (.int .i64 K) := cell_of_row _ _ 0 _ _ _ hNA.out
      have hcAa : ∀ o, (wA.alloc o).cell? ⟨w.heap.size, 0, none⟩ = some (.int .i64 K) := fun o => cell_old hcA o
      have hcAd : ∀ o, (wA.drew.alloc o).cell? ⟨w.heap.size, 0, none⟩ = some (.int .i64 K) := fun o => cell_old (w := wA.drew) hcA o
      go_region_with (go_at_call 27; refine (huse _).mono ?_; rintro e w' ⟨rfl, hb⟩; have hc0 : w'.cell? ⟨w.heap.size, 0, none⟩ = some (.int .i64 K) := (by first | exact cellA2 hNA.out hb 0 | exact cellB2 hNA.out hb 0); have hc0a : ∀ o, (w'.alloc o).cell? ⟨w.heap.size, 0, none⟩ = some (.int .i64 K) := fun o => (cell_old hc0 o); first | have hsB := store53 w' wA.heap.size #[.string ⟨#[]⟩, .bool false, .bool false, .bool false, .int .i64 0] #[.string ⟨(kword K).toArray⟩, .bool (ownB K), .bool (numB K), .bool (txtB K), .int .i64 (mostI K)] (blkB hb) rfl rfl (all5 _ _ _ _ _) | skip)
      all_goals
        go_wp2_with fail
        go_meet
        first
          | exact ⟨rfl, _, rfl, relA2 hNA.out hBA.out hb⟩
          | exact ⟨rfl, _, rfl, relB2 hNA.out hBA.out hb⟩
    case rest =>
      obtain ⟨rfl, b, rfl, HI⟩ := hcut
      clear hsA huse hix hck hNA hBA
      have hst : Aside (R = strL ⟨(K : Int), o.data.toList, n, i, t.data.toList⟩) := hstr
      clear hstr
      obtain ⟨c0, c1, c2, c3, c4⟩ : wc.cell? ⟨b, 0, none⟩ = some (.string ⟨(kword K).toArray⟩) ∧ wc.cell? ⟨b, 1, none⟩ = some (.bool (ownB K)) ∧ wc.cell? ⟨b, 2, none⟩ = some (.bool (numB K)) ∧ wc.cell? ⟨b, 3, none⟩ = some (.bool (txtB K)) ∧ wc.cell? ⟨b, 4, none⟩ = some (.int .i64 (mostI K)) := ⟨HI.out.u 0, HI.out.u 1, HI.out.u 2, HI.out.u 3, HI.out.u 4⟩
      obtain ⟨b0, hb0⟩ : ∃ b0, b0 = b := ⟨_, rfl⟩
      have hfresh := fun (W : World) (h : CI b w.heap.size #[.string ⟨(kword K).toArray⟩, .bool (ownB K), .bool (numB K), .bool (txtB K), .int .i64 (mostI K)] #[.int .i64 K, .string o, .int .i64 n, .int .i64 i, .string t] w W) => SB.fresh h
      have hkl : Aside ((kword K).length ≤ 10) := by
        have : ∀ k, k ≤ 20 → (kword k).length ≤ 10 := by decide
        exact this K hK
      have hw1 := (hfresh wc HI.out).app ⟨(kword K).toArray⟩ (by have := hkl.out; show 0 + (kword K).length ≤ _; omega)
      clear hfresh hb0
      obtain ⟨BB, hBB⟩ : ∃ BB, wc.heap.size = BB := ⟨_, rfl⟩
      rw [hBB] at hw1
      have c0' : (wc.alloc (.cells #[.pointer none, .slice none 0 0] 59)).cell? ⟨b, 0, none⟩ = some (.string ⟨(kword K).toArray⟩) := cell_old c0 _
      go_upto_region 6 with (go_at_call 28; (try rw [hBB]); refine hw1.mono ?_; rintro e wB ⟨rfl, hSB⟩)
      have hEq : Aside (R = kword K ++ ((if ownB K then 32 :: owr o.data.toList else []) ++ ((if numB K then (if ownB K then 35 else 32) :: Lib.itoa n else []) ++ ((if 0 ≤ mostI K then 32 :: Lib.itoa i else []) ++ (if txtB K then 32 :: t.data.toList else []))))) := hst.out
      have hn : Aside (0 ≤ n ∧ n ≤ 1073741824) := ⟨hgd.out.n2, hgd.out.n3⟩
      have hi : Aside (0 ≤ i ∧ i ≤ 1073741824) := ⟨hgd.out.i2, hgd.out.i3⟩
      obtain ⟨L0, hL0⟩ : ∃ L0, L0 = kword K := ⟨_, rfl⟩
      have hl0 : Aside (L0.length ≤ 10) := by rw [hL0]; exact hkl.out
      have hSB0 : Aside (SB b w.heap.size BB #[.string ⟨(kword K).toArray⟩, .bool (ownB K), .bool (numB K), .bool (txtB K), .int .i64 (mostI K)] #[.int .i64 K, .string o, .int .i64 n, .int .i64 i, .string t] w L0 wB) := by rw [hL0]; exact hSB.out
      rw [← hL0] at hEq
      clear hL0 hkl hst hgd hSB hw1 c0' c0 c1 c2 c3 c4 hBB HI
      generalize ownB K = b1 at *
      generalize numB K = b2 at *
      generalize txtB K = b4 at *
      generalize mostI K = m at *
      generalize (⟨(kword K).toArray⟩ : ByteArray) = wd0 at *
      have hu1 := hSB0.out.1.u 1
      have hn1 := hSB0.out.1.n 1
      simp only [List.getElem?_toArray, List.getElem?_cons_zero, List.getElem?_cons_succ] at hu1 hn1
      have happ := fun s h => hSB0.out.app s h
      go_upto_if 18 with fail
      go_cut [2, 3, 4, 5] (fun v2 v3 v4 v5 wx => v2 = .string ⟨#[]⟩ ∧ v3 = .pointer (some ⟨b, 0, none⟩) ∧ v4 = .pointer (some ⟨BB, 0, none⟩) ∧ (∃ mk, v5 = .string mk ∧ Aside (mk.data.toList = [if b1 then 35 else 32])) ∧ ∃ L, Aside (L = L0 ++ (if b1 then 32 :: owr o.data.toList else [])) ∧ Aside (SB b w.heap.size BB #[.string wd0, .bool b1, .bool b2, .bool b4, .int .i64 m] #[.int .i64 K, .string o, .int .i64 n, .int .i64 i, .string t] w L wx))
      case first =>
        clear hEq
        cases b1 with
        | false =>
          go_wp2_with fail
          go_meet
          exact ⟨rfl, rfl, rfl, ⟨_, rfl, rfl⟩, _, (List.append_nil _).symm, hSB0.out⟩
        | true =>
          by_cases q : o.data.toList = []
          · obtain ⟨a1, a2⟩ := bstr_em q
            have Q : Aside (o.data.toList = []) := q
            clear q
            go_wp2_with (go_at_call 28; refine (happ _ (by rw [ByteArray.size_append]; have := hl0.out; show L0.length + (1 + 1) ≤ 100000000; omega)).mono ?_; rintro e wD ⟨rfl, hS⟩)
            go_meet
            exact ⟨rfl, rfl, rfl, ⟨_, rfl, rfl⟩, _, (by show L0 ++ _ = L0 ++ _; rw [Q.out]; rfl), hS.out⟩
          · obtain ⟨a1, a2⟩ := bstr_ne q
            have Q : Aside (o.data.toList ≠ []) := q
            clear q
            go_wp2_with (go_at_call 28; refine (happ _ (by rw [ByteArray.size_append]; have := hl0.out; show L0.length + (1 + o.size) ≤ 100000000; omega)).mono ?_; rintro e wD ⟨rfl, hS⟩)
            go_meet
            exact ⟨rfl, rfl, rfl, ⟨_, rfl, rfl⟩, _, (by show L0 ++ _ = L0 ++ _; rw [ByteArray.data_append]; unfold owr; rw [if_neg Q.out]; simp), hS.out⟩
      case rest =>
        obtain ⟨rfl, rfl, rfl, ⟨mk, rfl, hmk⟩, L1, hL1, hS1⟩ := hcut
        clear hSB0 hu1 hn1 happ
        have hl1 : Aside (L1.length ≤ 1000020) := by
          show L1.length ≤ 1000020
          rw [show L1 = _ from hL1.out, List.length_append]
          have h0 := hl0.out
          have hos : o.data.toList.length = o.size := by simp
          cases b1 with
          | false => simp; omega
          | true =>
            unfold owr
            by_cases q : o.data.toList = [] <;> simp [q] <;> omega
        have hu2 := hS1.out.1.u 2
        have hn2 := hS1.out.1.n 2
        simp only [List.getElem?_toArray, List.getElem?_cons_zero, List.getElem?_cons_succ] at hu2 hn2
        have hitn : Aside ((Lib.itoa n).length ≤ 21) := Lib.itoa_length_le n (by have := hn.out; omega) (by have := hn.out; omega)
        have hcallN := g_Itoa.calls n ⟨(Lib.itoa n).toArray⟩ wc (by unfold g_Itoa.f; rw [if_pos (by have := hn.out; omega), if_pos (by have := hn.out; omega)]) (GG_below hgg'.out hS1.out.1.2.2)
        have hmks : mk.size = 1 := by have := congrArg List.length hmk.out; simpa using this
        have hzn : (9223372036854775807 < mk.size + (Lib.itoa n).length) = False := eq_false (by have := hitn.out; omega)
        have hzn1 : (9223372036854775807 < 1 + (Lib.itoa n).length) = False := eq_false (by have := hitn.out; omega)
        clear hmks
        go_upto_if 27 with fail
        go_cut [2, 3, 4, 5] (fun v2 v3 v4 v5 wx => v2 = .string ⟨#[]⟩ ∧ v3 = .pointer (some ⟨b, 0, none⟩) ∧ v4 = .pointer (some ⟨BB, 0, none⟩) ∧ v5 = .string mk ∧ ∃ L, Aside (L = L1 ++ (if b2 then (if b1 then 35 else 32) :: Lib.itoa n else [])) ∧ Aside (SB b w.heap.size BB #[.string wd0, .bool b1, .bool b2, .bool b4, .int .i64 m] #[.int .i64 K, .string o, .int .i64 n, .int .i64 i, .string t] w L wx))
        case first =>
          clear hEq
          cases b2 with
          | false =>
            go_wp2_with fail
            go_meet
            exact ⟨rfl, rfl, rfl, rfl, _, (List.append_nil _).symm, hS1.out⟩
          | true =>
            go_wp2_with (first | (go_at_call 29; refine hcallN.mono ?_; rintro e wD ⟨rfl, hb⟩; have hS1' := Aside.mk' (hS1.out.below hb); clear hb) | (go_at_call 28; refine (hS1'.out.app _ (by rw [ByteArray.size_append]; have h1 := hl1.out; have h2 := hitn.out; have h3 : mk.size = 1 := (by have := congrArg List.length hmk.out; simpa using this); rw [h3]; show L1.length + (1 + (Lib.itoa n).length) ≤ 100000000; omega)).mono ?_; rintro e wE ⟨rfl, hS⟩))
            go_meet
            exact ⟨rfl, rfl, rfl, rfl, _, (by show L1 ++ _ = L1 ++ _; rw [ByteArray.data_append, Array.toList_append, hmk.out]; rfl), hS.out⟩
        case rest =>
          obtain ⟨rfl, rfl, rfl, rfl, L2, hL2, hS2⟩ := hcut
          clear hS1 hu2 hn2 hcallN
          have hl2 : Aside (L2.length ≤ 1000060) := by
            show L2.length ≤ 1000060
            rw [show L2 = _ from hL2.out, List.length_append]
            have h1 := hl1.out
            have h2 := hitn.out
            cases b2 <;> simp <;> omega
          have hu4 := hS2.out.1.u 4
          have hn3 := hS2.out.1.n 3
          simp only [List.getElem?_toArray, List.getElem?_cons_zero, List.getElem?_cons_succ] at hu4 hn3
          have hiti : Aside ((Lib.itoa i).length ≤ 21) := Lib.itoa_length_le i (by have := hi.out; omega) (by have := hi.out; omega)
          have hcallI := g_Itoa.calls i ⟨(Lib.itoa i).toArray⟩ wc (by unfold g_Itoa.f; rw [if_pos (by have := hi.out; omega), if_pos (by have := hi.out; omega)]) (GG_below hgg'.out hS2.out.1.2.2)
          have hzi : (9223372036854775807 < 1 + (Lib.itoa i).length) = False := eq_false (by have := hiti.out; omega)
          clear hzn hzn1
          go_upto_if 36 with fail
          go_cut [2, 3, 4, 5] (fun v2 v3 v4 v5 wx => v2 = .string ⟨#[]⟩ ∧ v3 = .pointer (some ⟨b, 0, none⟩) ∧ v4 = .pointer (some ⟨BB, 0, none⟩) ∧ ∃ L, Aside (L = L2 ++ (if 0 ≤ m then 32 :: Lib.itoa i else [])) ∧ Aside (SB b w.heap.size BB #[.string wd0, .bool b1, .bool b2, .bool b4, .int .i64 m] #[.int .i64 K, .string o, .int .i64 n, .int .i64 i, .string t] w L wx))
          case first =>
            clear hEq
            by_cases q : 0 ≤ m
            · have Q : Aside (0 ≤ m) := q
              go_wp2_with (first | (go_at_call 29; refine hcallI.mono ?_; rintro e wD ⟨rfl, hb⟩; have hS2' := Aside.mk' (hS2.out.below hb); clear hb) | (go_at_call 28; refine (hS2'.out.app _ (by rw [ByteArray.size_append]; have h1 := hl2.out; have h2 := hiti.out; show L2.length + (1 + (Lib.itoa i).length) ≤ 100000000; omega)).mono ?_; rintro e wE ⟨rfl, hS⟩))
              go_meet
              exact ⟨rfl, rfl, rfl, _, (by show L2 ++ _ = L2 ++ _; rw [ByteArray.data_append, Array.toList_append, if_pos Q.out]; rfl), hS.out⟩
            · have Q : Aside (¬ 0 ≤ m) := q
              go_wp2_with fail
              go_meet
              exact ⟨rfl, rfl, rfl, _, (by show L2 = L2 ++ _; rw [if_neg (by have := Q.out; omega), List.append_nil]), hS2.out⟩
          case rest =>
            obtain ⟨rfl, rfl, rfl, L3, hL3, hS3⟩ := hcut
            clear hS2 hu4 hn3 hcallI
            have hl3 : Aside (L3.length ≤ 1000100) := by
              show L3.length ≤ 1000100
              rw [show L3 = _ from hL3.out, List.length_append]
              have h1 := hl2.out
              have h2 := hiti.out
              split <;> simp <;> omega
            have hu3 := hS3.out.1.u 3
            have hn4 := hS3.out.1.n 4
            simp only [List.getElem?_toArray, List.getElem?_cons_zero, List.getElem?_cons_succ] at hu3 hn4
            clear hzi
            go_upto_if 43 with fail
            go_cut [2, 3, 4, 5] (fun v2 v3 v4 v5 wx => v2 = .string ⟨#[]⟩ ∧ v4 = .pointer (some ⟨BB, 0, none⟩) ∧ ∃ L, Aside (L = L3 ++ (if b4 then 32 :: t.data.toList else [])) ∧ Aside (SB b w.heap.size BB #[.string wd0, .bool b1, .bool b2, .bool b4, .int .i64 m] #[.int .i64 K, .string o, .int .i64 n, .int .i64 i, .string t] w L wx))
            case first =>
              clear hEq
              cases b4 with
              | false =>
                go_wp2_with fail
                go_meet
                exact ⟨rfl, rfl, _, (List.append_nil _).symm, hS3.out⟩
              | true =>
                go_wp2_with (go_at_call 28; refine (hS3.out.app _ (by rw [ByteArray.size_append]; have h1 := hl3.out; show L3.length + (1 + t.size) ≤ 100000000; omega)).mono ?_; rintro e wE ⟨rfl, hS⟩)
                go_meet
                exact ⟨rfl, rfl, _, (by show L3 ++ _ = L3 ++ _; rw [ByteArray.data_append, Array.toList_append]; rfl), hS.out⟩
            case rest =>
              obtain ⟨rfl, rfl, L4, hL4, hS4⟩ := hcut
              have hR : R = L4 := by
                rw [show R = _ from hEq.out, show L4 = _ from hL4.out, show L3 = _ from hL3.out, show L2 = _ from hL2.out, show L1 = _ from hL1.out]
                simp only [List.append_assoc]
              subst hR
              have hfin := Tryd.Builder_String_any BB BB R wc hS4.out.2.1 (Nat.le_of_lt hS4.out.lt)
              have HB := hS4.out.1.2.2
              have hlt := Nat.le_of_lt hS4.out.2.2.2
              clear hL4 hL3 hL2 hL1 hEq hS4 hS3 hu3 hn4
              go_wp2_with (go_at_call 30; refine hfin.mono ?_; rintro e wE ⟨rfl, hb⟩)
              go_ret
              exact ⟨rfl, HB.trans (hb.mono hlt)⟩
  · have hstr : str ⟨k, o.data.toList, n, i, t.data.toList⟩ = [] := if_neg hR
    rw [hstr]
    clear hstr
    have hne : (chk ⟨k, o.data.toList, n, i, t.data.toList⟩ != 0) = true := bne_iff_ne.2 hR
    clear hR
    generalize chk ⟨k, o.data.toList, n, i, t.data.toList⟩ = R at *
    go_enter Tryd.func11, Tryd.ntmps11
    go_wp2_with (go_at_call 17; refine (hck _).mono ?_; rintro e wA ⟨rfl, hbA⟩)
    go_ret
    exact ⟨rfl, ((Below.refl _ w).alloc (Nat.le_refl _) _).trans (hbA.mono (by simp))⟩
def g_String.f (a0 : Int) (a1 : ByteArray) (a2 a3 : Int) (a4 : ByteArray) : Option ByteArray := if a1.size ≤ 1000000 then (if a4.size ≤ 1000000 then some ⟨(str ⟨a0, a1.data.toList, a2, a3, a4.data.toList⟩).toArray⟩ else none) else none
theorem g_String.calls (a0 : Int) (a1 : ByteArray) (a2 a3 : Int) (a4 : ByteArray) (r : ByteArray) (w : World) (h : g_String.f a0 a1 a2 a3 a4 = some r) (hgg : GG w) :
    Calls Tryd.prog 11 #[.agg #[.int .i64 a0, .string a1, .int .i64 a2, .int .i64 a3, .string a4]] w fun e w' => e = .returned (.string r) ∧ Below w.heap.size w w' := by
  unfold g_String.f at h
  split at h
  · rename_i hs
    split at h
    · rename_i ht
      injection h with h
      subst h
      exact string_calls a0 a1 a2 a3 a4 hs ht w hgg
    · cases h
  · cases h
end Go.Proofs.YtkdfilpinlebbaaDoor.G
