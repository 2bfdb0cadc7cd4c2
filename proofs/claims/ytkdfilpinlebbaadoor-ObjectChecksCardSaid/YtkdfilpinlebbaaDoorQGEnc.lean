/- This session's texts for the claim, joined and shortened by this session's own program pack.py: what the claim does not need is struck. Part: GEnc. -/
import Derived.Test.YtkdfilpinlebbaaDoorQGStr
import Derived.Test.YtkdfilpinlebbaaDoorQGWr2
set_option linter.unusedVariables false
set_option linter.unusedSimpArgs false
namespace Go.Proofs.YtkdfilpinlebbaaDoor.G
open Go.RowKit Go.Shelf Go.Lib Go.Proofs.YtkdfilpinlebbaaDoorW.PrintWords Go.Proofs.YtkdfilpinlebbaaDoorW.PrintMore
theorem natI_pow : ∀ (k n : Nat), n < 128 ^ (k + 1) → (natI n).length ≤ k + 1 := by
  intro k
  induction k with
  | zero =>
    intro n hn
    rw [natI, dif_pos (by omega)]
    simp
  | succ k ih =>
    intro n hn
    rw [natI]
    split
    · simp
    · rw [List.length_cons]
      have := ih (n / 128) (by rw [Nat.div_lt_iff_lt_mul (by decide)]; rw [Nat.pow_succ] at hn; exact hn)
      omega
theorem natI_30 (n : Nat) (h : n ≤ 1073741824) : (natI n).length ≤ 5 := natI_pow 4 n (Nat.lt_of_le_of_lt h (by decide))
def SE (b g bw : Nat) (U N : Array Value) (w : World) (L : List Int) (wx : World) : Prop := CI b g U N w wx ∧ WS bw L wx ∧ b < bw ∧ g < bw
theorem SE.after {b g bw : Nat} {U N : Array Value} {w : World} {L L' : List Int} {wx wy : World} (h : SE b g bw U N w L wx) (h1 : WS bw L' wy) (h2 : Below bw wx wy) : SE b g bw U N w L' wy :=
  ⟨h.1.stepB h.2.2.1 h.2.2.2 h2, h1, h.2.2⟩
theorem SE.num {b g bw : Nat} {U N : Array Value} {w : World} {L : List Int} {wx : World} (h : SE b g bw U N w L wx) (n : Int) (h0 : 0 ≤ n) (h1 : n ≤ 1073741824) (hl : L.length ≤ 50000000) :
    Calls Tryd.prog 44 #[.pointer (some ⟨bw, 0, none⟩), .int .i64 n] wx fun e w' => e = .returned (.tuple #[]) ∧ Aside (SE b g bw U N w (L ++ natI n.toNat) w') := by
  have h5 := natI_30 n.toNat (by omega)
  have hc := number_w bw n.toNat L wx h.2.1 (by omega) (by omega)
  have e : ((n.toNat : Nat) : Int) = n := by omega
  rw [e] at hc
  exact hc.mono fun e w' ⟨he, h1, h2⟩ => ⟨he, h.after h1.out h2.out⟩
theorem SE.txt {b g bw : Nat} {U N : Array Value} {w : World} {L : List Int} {wx : World} (h : SE b g bw U N w L wx) (s : ByteArray) (h1 : s.size ≤ 1000000) (hl : L.length ≤ 50000000) :
    Calls Tryd.prog 45 #[.pointer (some ⟨bw, 0, none⟩), .string s] wx fun e w' => e = .returned (.tuple #[]) ∧ Aside (SE b g bw U N w (L ++ (natI s.data.toList.length ++ bytI s.data.toList)) w') := by
  have h5 := natI_30 s.size (by omega)
  have hc := text_w bw s L wx h.2.1 h1 (by omega)
  have e : s.data.toList.length = s.size := by simp
  rw [e]
  exact hc.mono fun e w' ⟨he, h1, h2⟩ => ⟨he, h.after h1.out h2.out⟩
attribute [-go_sem] Instr.storeAt
set_option maxHeartbeats 8000000 in
set_option maxRecDepth 100000 in
theorem encode_calls (k : Int) (o : ByteArray) (n i : Int) (t : ByteArray) (ho : o.size ≤ 1000000) (ht : t.size ≤ 1000000) (w : World) (hR : chk ⟨k, o.data.toList, n, i, t.data.toList⟩ = 0) :
    Calls Tryd.prog 18 #[.agg #[.int .i64 k, .string o, .int .i64 n, .int .i64 i, .string t]] w fun e w' => e = .returned (.tuple #[.string (strOfNums (encI ⟨k, o.data.toList, n, i, t.data.toList⟩)), .int .i64 0]) ∧ Below w.heap.size w w' := by
  have hck := fun w => check_calls k o n i t (by omega) w
  have hgd : Aside (Good ⟨k, o.data.toList, n, i, t.data.toList⟩) := good_of hR
  rw [hR] at hck
  clear hR
  obtain ⟨R, hRe⟩ : ∃ R, encI ⟨k, o.data.toList, n, i, t.data.toList⟩ = R := ⟨_, rfl⟩
  rw [hRe]
  obtain ⟨K, rfl⟩ : ∃ K : Nat, k = (K : Int) := ⟨_, hgd.out.kk⟩
  have hstr : Aside (R = encI ⟨(K : Int), o.data.toList, n, i, t.data.toList⟩) := hRe.symm
  clear hRe
  have hK : K ≤ 20 := by have := hgd.out.k2; simpa using this
  have hK1 : 1 ≤ K := by have := hgd.out.k1; simpa using this
  have hix := fun w => uses_index w K hK
  have huse := fun w => uses_calls w
  have hL : useV K = .agg #[.string ⟨(kword K).toArray⟩, .bool (ownB K), .bool (numB K), .bool (txtB K), .int .i64 (mostU K)] := rfl
  rw [hL] at hix
  have hmu : mostU K = mostI K := by unfold mostU; rw [if_neg (by omega)]
  rw [hmu] at hix
  clear hL hmu
  have hsA : ∀ W : World, (Instr.storeAt 53 (.pointer (some ⟨W.heap.size, 0, none⟩)) (.agg #[.string ⟨(kword K).toArray⟩, .bool (ownB K), .bool (numB K), .bool (txtB K), .int .i64 (mostI K)])).run Tryd.prog (W.alloc (.cells #[.string ⟨#[]⟩, .bool false, .bool false, .bool false, .int .i64 0] 53)) = .ok () (W.alloc (.cells #[.string ⟨(kword K).toArray⟩, .bool (ownB K), .bool (numB K), .bool (txtB K), .int .i64 (mostI K)] 53)) := fun W => by
    rw [store53 _ _ #[.string ⟨#[]⟩, .bool false, .bool false, .bool false, .int .i64 0] _ (heap_alloc_last W _) rfl rfl (all5 _ _ _ _ _), setRow_last]
  go_enter Tryd.func18, Tryd.ntmps18
  go_upto_region 4 with (go_at_call 17; refine (hck _).mono ?_; rintro e wA ⟨rfl, hbA⟩)
  have hNA : Aside (wA.heap[w.heap.size]? = some (.cells #[.int .i64 K, .string o, .int .i64 n, .int .i64 i, .string t] 28 (0, 0))) := (hbA.block _ (by simp)).trans (heap_alloc_last w _)
  have hBA : Aside (Below w.heap.size w wA) := ((Below.refl _ w).alloc (Nat.le_refl _) _).trans (hbA.mono (by simp))
  clear hbA
  go_cut [2, 3, 5] (fun v2 v3 v5 wc => v2 = .string ⟨#[]⟩ ∧ v3 = .int .i64 0 ∧ ∃ b, v5 = .pointer (some ⟨b, 0, none⟩) ∧ Aside (CI b w.heap.size #[.string ⟨(kword K).toArray⟩, .bool (ownB K), .bool (numB K), .bool (txtB K), .int .i64 (mostI K)] #[.int .i64 K, .string o, .int .i64 n, .int .i64 i, .string t] w wc))
  case first =>
    have hcA : wA.cell? ⟨w.heap.size, 0, none⟩ = some (.int .i64 K) := cell_of_row _ _ 0 _ _ _ hNA.out
    have hcAa : ∀ o, (wA.alloc o).cell? ⟨w.heap.size, 0, none⟩ = some (.int .i64 K) := fun o => cell_old hcA o
    have hcAd : ∀ o, (wA.drew.alloc o).cell? ⟨w.heap.size, 0, none⟩ = some (.int .i64 K) := fun o => cell_old (w := wA.drew) hcA o
    go_region_with (go_at_call 27; refine (huse _).mono ?_; rintro e w' ⟨rfl, hb⟩; have hc0 : w'.cell? ⟨w.heap.size, 0, none⟩ = some (.int .i64 K) := (by first | exact cellA2 hNA.out hb 0 | exact cellB2 hNA.out hb 0); have hc0a : ∀ o, (w'.alloc o).cell? ⟨w.heap.size, 0, none⟩ = some (.int .i64 K) := fun o => (cell_old hc0 o); first | have hsB := store53 w' wA.heap.size #[.string ⟨#[]⟩, .bool false, .bool false, .bool false, .int .i64 0] #[.string ⟨(kword K).toArray⟩, .bool (ownB K), .bool (numB K), .bool (txtB K), .int .i64 (mostI K)] (blkB hb) rfl rfl (all5 _ _ _ _ _) | skip)
    all_goals
      go_wp2_with fail
      go_meet
      first
        | exact ⟨rfl, rfl, _, rfl, relA2 hNA.out hBA.out hb⟩
        | exact ⟨rfl, rfl, _, rfl, relB2 hNA.out hBA.out hb⟩
  case rest =>
    obtain ⟨rfl, rfl, b, rfl, HI⟩ := hcut
    clear hsA huse hix hck hNA hBA
    have hnew := neww_calls wc
    have HS0 : Aside (SE b w.heap.size wc.heap.size #[.string ⟨(kword K).toArray⟩, .bool (ownB K), .bool (numB K), .bool (txtB K), .int .i64 (mostI K)] #[.int .i64 K, .string o, .int .i64 n, .int .i64 i, .string t] w [] (wc.alloc (.cells #[.slice none 0 0, .int .i64 0] 100))) :=
      ⟨HI.out.step ((Below.refl _ _).alloc (Nat.le_refl _) _), ws_new wc, blk_lt HI.out.1, blk_lt HI.out.2.1⟩
    have c0 : wc.cell? ⟨w.heap.size, 0, none⟩ = some (.int .i64 K) := HI.out.n 0
    have c0a : ∀ o, (wc.alloc o).cell? ⟨w.heap.size, 0, none⟩ = some (.int .i64 K) := fun o => cell_old c0 o
    have hnum := HS0.out.num (K : Int) (by omega) (by omega) (by simp)
    have hEq : Aside (R = natI K ++ ((if ownB K then natI o.data.toList.length ++ bytI o.data.toList else []) ++ ((if numB K then natI n.toNat else []) ++ ((if 0 ≤ mostI K then natI i.toNat else []) ++ (if txtB K then natI t.data.toList.length ++ bytI t.data.toList else []))))) := hstr.out
    have hn : Aside (0 ≤ n ∧ n ≤ 1073741824) := ⟨hgd.out.n2, hgd.out.n3⟩
    have hi : Aside (0 ≤ i ∧ i ≤ 1073741824) := ⟨hgd.out.i2, hgd.out.i3⟩
    have hl0 : Aside ((natI K).length ≤ 5) := natI_30 K (by omega)
    clear hstr hgd HS0 HI
    go_upto_region 7 with (first | (go_at_call 43; refine hnew.mono ?_; rintro e wB ⟨rfl, rfl⟩) | (go_at_call 44; refine hnum.mono ?_; rintro e wB ⟨rfl, hS⟩))
    have hK2 : ((K : Nat) : Int).toNat = K := Int.toNat_natCast K
    have hS0 : Aside (SE b w.heap.size wc.heap.size #[.string ⟨(kword K).toArray⟩, .bool (ownB K), .bool (numB K), .bool (txtB K), .int .i64 (mostI K)] #[.int .i64 K, .string o, .int .i64 n, .int .i64 i, .string t] w (natI K) wB) := by have := hS.out; rw [hK2, List.nil_append] at this; exact this
    obtain ⟨L0, hL0⟩ : ∃ L0, natI K = L0 := ⟨_, rfl⟩
    rw [hL0] at hS0 hEq hl0
    clear hS hnum hnew c0 c0a hL0 hK2
    generalize ownB K = b1 at *
    generalize numB K = b2 at *
    generalize txtB K = b4 at *
    generalize mostI K = m at *
    generalize (⟨(kword K).toArray⟩ : ByteArray) = wd0 at *
    generalize wc.heap.size = bw at *
    have hu1 : wB.cell? ⟨b, 1, none⟩ = some (.bool b1) := hS0.out.1.u 1
    have hn1 : wB.cell? ⟨w.heap.size, 1, none⟩ = some (.string o) := hS0.out.1.n 1
    have htx := hS0.out.txt o ho (by have := hl0.out; omega)
    go_upto_if 24 with fail
    go_cut [2, 3, 5, 6] (fun v2 v3 v5 v6 wx => v2 = .string ⟨#[]⟩ ∧ v3 = .int .i64 0 ∧ v5 = .pointer (some ⟨b, 0, none⟩) ∧ v6 = .pointer (some ⟨bw, 0, none⟩) ∧ ∃ L, Aside (L = L0 ++ (if b1 then natI o.data.toList.length ++ bytI o.data.toList else [])) ∧ Aside (SE b w.heap.size bw #[.string wd0, .bool b1, .bool b2, .bool b4, .int .i64 m] #[.int .i64 K, .string o, .int .i64 n, .int .i64 i, .string t] w L wx))
    case first =>
      clear hEq
      cases b1 with
      | false =>
        go_wp2_with fail
        go_meet
        exact ⟨rfl, rfl, rfl, rfl, _, (List.append_nil _).symm, hS0.out⟩
      | true =>
        go_wp2_with (go_at_call 45; refine htx.mono ?_; rintro e wD ⟨rfl, hS⟩)
        go_meet
        exact ⟨rfl, rfl, rfl, rfl, _, rfl, hS.out⟩
    case rest =>
      obtain ⟨rfl, rfl, rfl, rfl, L1, hL1, hS1⟩ := hcut
      clear hS0 hu1 hn1 htx
      have hl1 : Aside (L1.length ≤ 1000020) := by
        show L1.length ≤ 1000020
        rw [show L1 = _ from hL1.out, List.length_append]
        have h0 := hl0.out
        have hos : o.data.toList.length = o.size := by simp
        have h5 := natI_30 o.data.toList.length (by omega)
        have hb : (bytI o.data.toList).length = o.size := by unfold bytI; rw [List.length_map]; exact hos
        cases b1
        · simp; omega
        · rw [if_pos rfl, List.length_append, hb]; omega
      have hu2 : wc.cell? ⟨b, 2, none⟩ = some (.bool b2) := hS1.out.1.u 2
      have hn2 : wc.cell? ⟨w.heap.size, 2, none⟩ = some (.int .i64 n) := hS1.out.1.n 2
      have hnu := hS1.out.num n hn.out.1 hn.out.2 (by have := hl1.out; omega)
      go_upto_if 30 with fail
      go_cut [2, 3, 5, 6] (fun v2 v3 v5 v6 wx => v2 = .string ⟨#[]⟩ ∧ v3 = .int .i64 0 ∧ v5 = .pointer (some ⟨b, 0, none⟩) ∧ v6 = .pointer (some ⟨bw, 0, none⟩) ∧ ∃ L, Aside (L = L1 ++ (if b2 then natI n.toNat else [])) ∧ Aside (SE b w.heap.size bw #[.string wd0, .bool b1, .bool b2, .bool b4, .int .i64 m] #[.int .i64 K, .string o, .int .i64 n, .int .i64 i, .string t] w L wx))
      case first =>
        clear hEq
        cases b2 with
        | false =>
          go_wp2_with fail
          go_meet
          exact ⟨rfl, rfl, rfl, rfl, _, (List.append_nil _).symm, hS1.out⟩
        | true =>
          go_wp2_with (go_at_call 44; refine hnu.mono ?_; rintro e wD ⟨rfl, hS⟩)
          go_meet
          exact ⟨rfl, rfl, rfl, rfl, _, rfl, hS.out⟩
      case rest =>
        obtain ⟨rfl, rfl, rfl, rfl, L2, hL2, hS2⟩ := hcut
        clear hS1 hu2 hn2 hnu
        have hl2 : Aside (L2.length ≤ 1000040) := by
          show L2.length ≤ 1000040
          rw [show L2 = _ from hL2.out, List.length_append]
          have h1 := hl1.out
          have h5 := natI_30 n.toNat (by have := hn.out; omega)
          cases b2 <;> simp <;> omega
        have hu4 : wc.cell? ⟨b, 4, none⟩ = some (.int .i64 m) := hS2.out.1.u 4
        have hn3 : wc.cell? ⟨w.heap.size, 3, none⟩ = some (.int .i64 i) := hS2.out.1.n 3
        have hnu := hS2.out.num i hi.out.1 hi.out.2 (by have := hl2.out; omega)
        go_upto_if 37 with fail
        go_cut [2, 3, 5, 6] (fun v2 v3 v5 v6 wx => v2 = .string ⟨#[]⟩ ∧ v3 = .int .i64 0 ∧ v5 = .pointer (some ⟨b, 0, none⟩) ∧ v6 = .pointer (some ⟨bw, 0, none⟩) ∧ ∃ L, Aside (L = L2 ++ (if 0 ≤ m then natI i.toNat else [])) ∧ Aside (SE b w.heap.size bw #[.string wd0, .bool b1, .bool b2, .bool b4, .int .i64 m] #[.int .i64 K, .string o, .int .i64 n, .int .i64 i, .string t] w L wx))
        case first =>
          clear hEq
          by_cases q : 0 ≤ m
          · have Q : Aside (0 ≤ m) := q
            go_wp2_with (go_at_call 44; refine hnu.mono ?_; rintro e wD ⟨rfl, hS⟩)
            go_meet
            exact ⟨rfl, rfl, rfl, rfl, _, (by show L2 ++ _ = L2 ++ _; rw [if_pos Q.out]), hS.out⟩
          · have Q : Aside (m < 0) := Int.not_le.1 q
            go_wp2_with fail
            go_meet
            exact ⟨rfl, rfl, rfl, rfl, _, (by show L2 = L2 ++ _; rw [if_neg (by have := Q.out; omega), List.append_nil]), hS2.out⟩
        case rest =>
          obtain ⟨rfl, rfl, rfl, rfl, L3, hL3, hS3⟩ := hcut
          clear hS2 hu4 hn3 hnu
          have hl3 : Aside (L3.length ≤ 1000060) := by
            show L3.length ≤ 1000060
            rw [show L3 = _ from hL3.out, List.length_append]
            have h1 := hl2.out
            have h5 := natI_30 i.toNat (by have := hi.out; omega)
            split <;> simp <;> omega
          have hu3 : wc.cell? ⟨b, 3, none⟩ = some (.bool b4) := hS3.out.1.u 3
          have hn4 : wc.cell? ⟨w.heap.size, 4, none⟩ = some (.string t) := hS3.out.1.n 4
          have htx := hS3.out.txt t ht (by have := hl3.out; omega)
          go_upto_if 43 with fail
          go_cut [2, 3, 5, 6] (fun v2 v3 v5 v6 wx => v2 = .string ⟨#[]⟩ ∧ v3 = .int .i64 0 ∧ v5 = .pointer (some ⟨b, 0, none⟩) ∧ v6 = .pointer (some ⟨bw, 0, none⟩) ∧ ∃ L, Aside (L = L3 ++ (if b4 then natI t.data.toList.length ++ bytI t.data.toList else [])) ∧ Aside (SE b w.heap.size bw #[.string wd0, .bool b1, .bool b2, .bool b4, .int .i64 m] #[.int .i64 K, .string o, .int .i64 n, .int .i64 i, .string t] w L wx))
          case first =>
            clear hEq
            cases b4 with
            | false =>
              go_wp2_with fail
              go_meet
              exact ⟨rfl, rfl, rfl, rfl, _, (List.append_nil _).symm, hS3.out⟩
            | true =>
              go_wp2_with (go_at_call 45; refine htx.mono ?_; rintro e wD ⟨rfl, hS⟩)
              go_meet
              exact ⟨rfl, rfl, rfl, rfl, _, rfl, hS.out⟩
          case rest =>
            obtain ⟨rfl, rfl, rfl, rfl, L4, hL4, hS4⟩ := hcut
            have hl4 : L4.length ≤ 100000000 := by
              rw [show L4 = _ from hL4.out, List.length_append]
              have h1 := hl3.out
              have hos : t.data.toList.length = t.size := by simp
              have h5 := natI_30 t.data.toList.length (by omega)
              have hb : (bytI t.data.toList).length = t.size := by unfold bytI; rw [List.length_map]; exact hos
              cases b4
              · simp; omega
              · rw [if_pos rfl, List.length_append, hb]; omega
            have hR : R = L4 := by
              rw [show R = _ from hEq.out, show L4 = _ from hL4.out, show L3 = _ from hL3.out, show L2 = _ from hL2.out, show L1 = _ from hL1.out]
              simp only [List.append_assoc]
            subst hR
            have hfin := bytes_w bw R wc hS4.out.2.1 hl4
            have HB : Aside (Below w.heap.size w wc) := hS4.out.1.2.2
            have hlt : Aside (w.heap.size ≤ wc.heap.size) := Nat.le_of_lt (blk_lt hS4.out.1.2.1)
            clear hL4 hL3 hL2 hL1 hEq hS4 hS3 hu3 hn4 htx hl4
            go_wp2_with (go_at_call 46; refine hfin.mono ?_; rintro e wE ⟨A, c, rfl, hrd, hb⟩; have hcv := string_of_reads (P := Tryd.prog) (src := 57) (dst := 9) (e := 5) (c := c) Tryd.underlying57 Tryd.underlying5 Tryd.underlying9 hrd.out)
            refine bodyPost_ret (v := .tuple #[.string (strOfNums R), .int .i64 0]) (by simp [results, Tryd.f18]) rfl ?_
            exact ⟨rfl, HB.out.trans (hb.out.mono hlt.out)⟩
theorem encode_no (k : Int) (o : ByteArray) (n i : Int) (t : ByteArray) (ho : o.size ≤ 1000000) (ht : t.size ≤ 1000000) (w : World) (hR : chk ⟨k, o.data.toList, n, i, t.data.toList⟩ ≠ 0) :
    Calls Tryd.prog 18 #[.agg #[.int .i64 k, .string o, .int .i64 n, .int .i64 i, .string t]] w fun e w' => e = .returned (.tuple #[.string ⟨#[]⟩, .int .i64 (chk ⟨k, o.data.toList, n, i, t.data.toList⟩)]) ∧ Below w.heap.size w w' := by
  have hck := fun w => check_calls k o n i t (by omega) w
  have hne : (chk ⟨k, o.data.toList, n, i, t.data.toList⟩ != 0) = true := bne_iff_ne.2 hR
  clear hR
  generalize chk ⟨k, o.data.toList, n, i, t.data.toList⟩ = R at *
  go_enter Tryd.func18, Tryd.ntmps18
  go_wp2_with (go_at_call 17; refine (hck _).mono ?_; rintro e wA ⟨rfl, hbA⟩)
  refine bodyPost_ret (v := .tuple #[.string ⟨#[]⟩, .int .i64 R]) (by simp [results, Tryd.f18]) rfl ?_
  exact ⟨rfl, ((Below.refl _ w).alloc (Nat.le_refl _) _).trans (hbA.mono (by simp))⟩
theorem g_Encode.calls (a0 : Int) (a1 : ByteArray) (a2 a3 : Int) (a4 : ByteArray) (r1 : ByteArray) (r2 : Int) (w : World) (h : g_Encode.f a0 a1 a2 a3 a4 = some (r1, r2)) :
    Calls Tryd.prog 18 #[.agg #[.int .i64 a0, .string a1, .int .i64 a2, .int .i64 a3, .string a4]] w fun e w' => e = .returned (.tuple #[.string r1, .int .i64 r2]) ∧ Below w.heap.size w w' := by
  unfold g_Encode.f at h
  split at h
  · rename_i hs
    split at h
    · rename_i ht
      split at h
      · rename_i hc
        injection h with h
        simp only [Prod.mk.injEq] at h
        obtain ⟨rfl, rfl⟩ := h
        exact encode_calls a0 a1 a2 a3 a4 hs ht w hc
      · rename_i hc
        injection h with h
        simp only [Prod.mk.injEq] at h
        obtain ⟨rfl, rfl⟩ := h
        exact encode_no a0 a1 a2 a3 a4 hs ht w hc
    · cases h
  · cases h
end Go.Proofs.YtkdfilpinlebbaaDoor.G
