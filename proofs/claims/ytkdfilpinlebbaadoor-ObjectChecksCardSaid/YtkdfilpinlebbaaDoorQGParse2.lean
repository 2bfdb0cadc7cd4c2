/- This session's texts for the claim, joined and shortened by this session's own program pack.py: what the claim does not need is struck. Part: GParse2. -/
import Derived.Test.YtkdfilpinlebbaaDoorQGParse
import Derived.Test.YtkdfilpinlebbaaDoorQW0
set_option linter.unusedVariables false
set_option linter.unusedSimpArgs false
namespace Go.Proofs.YtkdfilpinlebbaaDoor.G
open Go.RowKit Go.Shelf Go.Proofs.YtkdfilpinlebbaaDoorW.PrintWords
attribute [local go_sem] Oper.semAt_some
theorem parts_any (s : ByteArray) (w : World) :
    Calls Tryd.prog 82 #[.string s] w fun e w' => e = .returned (.func (.func 99) #[] #[.pointer (some ⟨w.heap.size, 0, none⟩)]) ∧ w' = w.alloc (.cells #[.string s] 9) := by
  go_enter Tryd.func82, Tryd.ntmps82
  go_wp2
  go_ret
  exact ⟨rfl, rfl⟩
theorem parts_stops (n : Nat) (hn : 1 ≤ n) (Bs : Nat) (s : ByteArray) (hs : s.size ≤ 140737488351232) (w : World) (hB : Boxed w Bs 9 (.string s)) :
    SeqStopsK Fence.wide n Tryd.prog 99 #[.pointer (some ⟨Bs, 0, none⟩)] (fun x : Int × Int × Int => #[partV x]) KeepsParts (fun ys => ys = partsL s.data.toList) (fun pre => pre <+: partsL s.data.toList) 10 w :=
  fun l J Jx W hW hJ _ hY h0 => parts1_in n hn l Bs s hs J Jx W hJ hY ((hW.block Bs hB.lt).trans hB) h0
theorem keepsParts_t {A B C : World} (h : KeepsParts A B) (k : KeepsParts B C) : KeepsParts A C := fun i cs t m ht hi => k i cs t m ht (h i cs t m ht hi)
theorem keepsParts_b (W : World) (l : Nat) (o o' : Obj) (h : W.heap[l]? = some o) (hc : o.isCells = false) : KeepsParts W (W.putObj l o') := by
  intro i cs t m ht hi
  refine (World.putObj_heap_other ?_).trans hi
  rintro rfl
  rw [h] at hi
  cases hi
  cases hc
theorem keepsParts_alloc (W : World) (o : Obj) : KeepsParts W (W.alloc o) := fun i cs t m _ hi => (Below.heap_alloc W o i (Array.getElem?_eq_some_iff.1 hi).1).trans hi
theorem keepsParts_set {W : World} {b : Nat} {cs0 : Array Value} {t0 : TypeId} {m0 : Nat × Nat} (hb : W.heap[b]? = some (.cells cs0 t0 m0)) (h9 : t0 ≠ 9) (hp : t0 ≠ 120) (j : Nat) (v : Value) : KeepsParts W (W.setCell ⟨b, j, none⟩ v) := by
  intro i cs t m ht hi
  refine (Below.heap_setCell W _ v i ?_).trans hi
  rintro rfl
  rw [hb] at hi
  cases hi
  rcases ht with rfl | rfl
  · exact h9 rfl
  · exact hp rfl
theorem keepsParts_grown {W w1 : World} {row : Option Nat} (hg : W.grownBy w1 row) (hr : ∀ k, row = some k → ∃ cs t m, W.heap[k]? = some (.cells cs t m) ∧ t ≠ 9 ∧ t ≠ 120) : KeepsParts W w1 := by
  intro i cs t m ht hi
  refine (hg.block i (Array.getElem?_eq_some_iff.1 hi).1 ?_).trans hi
  intro e
  obtain ⟨cs', t', m', h', h9, hp⟩ := hr i e.symm
  rw [h'] at hi
  cases hi
  rcases ht with rfl | rfl
  · exact h9 rfl
  · exact hp rfl
theorem info3 : (Tryd.prog.info? 3).map (fun i => (i.zero, i.size, i.bytes)) = some (some (.int .i64 0), 1, 8) := by kernel_rfl
theorem append_box {W w1 : World} {n5 B : Nat} {t e : TypeId} {v v' : Value} {k m : Nat} {xs ys : List Value} {tmp : Obj} (hv : Boxed W B t v) (hBlt : B < n5) (hn5 : n5 ≤ W.heap.size)
    (hrow : W.ownsRow n5 e 1 v k xs) (hown' : w1.ownsRow n5 e 1 v' m ys) (hgrow : (W.alloc tmp).grownBy w1 v.ownBlock) :
    Boxed w1 B t v ∧ (∀ b t0 u, b < n5 → b ≠ B → Boxed W b t0 u → Boxed (w1.setCell ⟨B, 0, none⟩ v') b t0 u) ∧ Boxed (w1.setCell ⟨B, 0, none⟩ v') B t v' ∧ (w1.setCell ⟨B, 0, none⟩ v').ownsRow n5 e 1 v' m ys ∧
      KeepsOthers W (w1.setCell ⟨B, 0, none⟩ v') ∧ (∀ n0, n0 ≤ B → Below n0 W (w1.setCell ⟨B, 0, none⟩ v')) := by
  have hlow : ∀ b, b < n5 → w1.heap[b]? = W.heap[b]? := fun b hb => by
    refine (hgrow.block b (by simp; omega) ?_).trans (Below.heap_alloc W tmp b (by omega))
    intro e
    have := own_base hrow b e.symm
    omega
  have hv1 : Boxed w1 B t v := (hlow B hBlt).trans hv
  refine ⟨hv1, fun b t0 u hb hne hbx => Boxed.other ((hlow b hb).trans hbx) hne _, hv1.set v', ?_, ?_, ?_⟩
  · refine hown'.kept (grownBy_setCell' w1 B v') ?_
    cases hob : v'.ownBlock with
    | none => exact .inl rfl
    | some g =>
      refine .inr ?_
      have := own_base hown' g hob
      intro e
      cases e
      omega
  · refine ((KeepsOthers.alloc W tmp).trans (KeepsOthers.of_grownBy hgrow fun j o ej hj => ?_)).trans (KeepsOthers.setCell _ _ _)
    obtain ⟨cells, hc⟩ := own_typed hrow j ej
    rw [Below.heap_alloc W tmp j (own_lt hrow j ej), hc] at hj
    cases hj
    rfl
  · intro n0 h0
    refine (((Below.refl n0 W).alloc (by omega) tmp).grown hgrow (by simp; omega) fun j ej => ?_).setCell (p := ⟨B, 0, none⟩) h0 v'
    have := own_base hrow j ej
    omega
theorem boxed_put {W : World} {b D : Nat} {t : TypeId} {v : Value} {o : Obj} (o' : Obj) (h : Boxed W b t v) (hD : W.heap[D]? = some o) (ho : o.isCells = false) : Boxed (W.putObj D o') b t v := by
  refine (World.putObj_heap_other ?_).trans h
  rintro rfl
  rw [show W.heap[b]? = _ from h] at hD
  cases hD
  cases ho
def PartBox (W : World) (b : Nat) (x : Int × Int × Int) : Prop := W.heap[b]? = some (.cells #[.int .i64 x.1, .int .i64 x.2.1, .int .i64 x.2.2] 120 (0, 0))
theorem partBox_own {B : Nat} (b : Nat) (x : Int × Int × Int) : OwnFrom B (fun (_ : Unit) W => PartBox W b x) :=
  fun _ W W' row hs hg hr => (grownBy_keeps_cells hg (fun r e => (hr r e).2) hs rfl).trans hs
set_option maxRecDepth 100000 in
set_option maxHeartbeats 4000000 in
theorem parse_any (s : ByteArray) (hs : s.size ≤ 140737488351232) (w : World) :
    Calls Tryd.prog 65 #[.string s] w fun e w' => ∃ v, e = .returned (.tuple #[v, .int .i64 (parseL s.data.toList).2.1, .int .i64 (parseL s.data.toList).2.2]) ∧
      w'.ownsRow w.heap.size 3 1 v (parseL s.data.toList).1.length ((parseL s.data.toList).1.map (Value.int .i64)) ∧ Below w.heap.size w w' := by
  refine (callsIn_wide (n := 5)).1 ?_
  obtain ⟨i0, hi, hz0, hz1, hz2⟩ := info_parts info3
  refine callsIn_of_wp_marks Tryd.func65 rfl trivial ?_ rfl
  simp only [Tryd.ntmps65, List.size_toArray, List.length_cons, List.length_nil, Nat.reduceAdd, Nat.reduceSub, Array.replicate_succ, Array.replicate_zero, List.push_toArray, List.append_toArray, List.nil_append, List.cons_append]
  gi_wp2
  refine ⟨trivial, ?_⟩
  refine (callsIn_wide.2 (parts_any _ _)).mono ?_
  rintro e w' ⟨rfl, rfl⟩
  gi_wp2
  obtain ⟨n0, hn0⟩ : ∃ n0, w.heap.size = n0 := ⟨_, rfl⟩
  have q0 := Boxed.new w 94 (.slice none 0 0)
  have q1 := Boxed.new (w.alloc (.cells #[.slice none 0 0] 94)) 3 (.int .i64 0)
  have q2 := Boxed.new ((w.alloc (.cells #[.slice none 0 0] 94)).alloc (.cells #[.int .i64 0] 3)) 32 (.int .i64 0)
  have q3 := Boxed.new (((w.alloc (.cells #[.slice none 0 0] 94)).alloc (.cells #[.int .i64 0] 3)).alloc (.cells #[.int .i64 0] 32)) 94 (.slice none 0 0)
  have q4 := Boxed.new ((((w.alloc (.cells #[.slice none 0 0] 94)).alloc (.cells #[.int .i64 0] 3)).alloc (.cells #[.int .i64 0] 32)).alloc (.cells #[.slice none 0 0] 94)) 9 (.string s)
  replace q0 := (((q0.alloc (.cells #[.int .i64 0] 3)).alloc (.cells #[.int .i64 0] 32)).alloc (.cells #[.slice none 0 0] 94)).alloc (.cells #[.string s] 9)
  replace q1 := ((q1.alloc (.cells #[.int .i64 0] 32)).alloc (.cells #[.slice none 0 0] 94)).alloc (.cells #[.string s] 9)
  replace q2 := (q2.alloc (.cells #[.slice none 0 0] 94)).alloc (.cells #[.string s] 9)
  replace q3 := q3.alloc (.cells #[.string s] 9)
  have hB0 : Below w.heap.size w (((((w.alloc (.cells #[.slice none 0 0] 94)).alloc (.cells #[.int .i64 0] 3)).alloc (.cells #[.int .i64 0] 32)).alloc (.cells #[.slice none 0 0] 94)).alloc (.cells #[.string s] 9)) :=
    ((((((Below.refl _ w).alloc (Nat.le_refl _) _).alloc (by simp) _).alloc (by simp; omega) _).alloc (by simp; omega) _).alloc (by simp; omega) _)
  have hsz0 : (((((w.alloc (.cells #[.slice none 0 0] 94)).alloc (.cells #[.int .i64 0] 3)).alloc (.cells #[.int .i64 0] 32)).alloc (.cells #[.slice none 0 0] 94)).alloc (.cells #[.string s] 9)).heap.size = n0 + 5 := by simp; omega
  simp only [World.size_alloc, hn0] at q1 q2 q3 q4 q0
  rw [hn0]
  obtain ⟨W0, hW0⟩ : ∃ W0, (((((w.alloc (.cells #[.slice none 0 0] 94)).alloc (.cells #[.int .i64 0] 3)).alloc (.cells #[.int .i64 0] 32)).alloc (.cells #[.slice none 0 0] 94)).alloc (.cells #[.string s] 9)) = W0 := ⟨_, rfl⟩
  rw [hW0] at q0 q1 q2 q3 q4 hB0 hsz0 ⊢
  rw [hn0] at hB0
  clear hW0
  refine wpIn_rangeFunc_ownH rfl (by omega) (gf := 99) (lb := #[.pointer (some ⟨n0 + 1 + 1 + 1 + 1, 0, none⟩)]) rfl trivial (enters_of Tryd.func99 (by kernel_rfl) rfl)
    (parts_stops 4 (by omega) _ s hs W0 q4) keepsParts_t (fun W l o o' _ h hc _ => keepsParts_b W l o o' h hc) (Below.refl _ _) (fun _ => rfl)
    (fun pre W => (∃ v, Boxed W (n0 + 1 + 1 + 1) 94 v ∧ W.ownsRow (n0 + 5) 3 1 v pre.length (pre.map fun p => Value.int .i64 p.1) ∧ True) ∧ (Boxed W n0 94 (.slice none 0 0) ∧ Boxed W (n0 + 1) 3 (.int .i64 0) ∧ Boxed W (n0 + 1 + 1) 32 (.int .i64 0) ∧ Boxed W (n0 + 1 + 1 + 1 + 1) 9 (.string s)) ∧ (∀ p ∈ pre, p.2.2 = 0) ∧ Below n0 w W)
    (fun c pre W => c = .ret ∧ (∃ q p, pre = q ++ [p] ∧ (∀ x ∈ q, x.2.2 = 0) ∧ p.2.2 ≠ 0 ∧ Boxed W n0 94 (.slice none 0 0) ∧ Boxed W (n0 + 1) 3 (.int .i64 p.2.1) ∧ Boxed W (n0 + 1 + 1) 32 (.int .i64 p.2.2)) ∧ Below n0 w W)
    (OwnFrom.and (Own.from (holdsRow_own (n0 + 5) (n0 + 1 + 1 + 1) 94 3 1 (fun pre : List (Int × Int × Int) => pre.length) (fun pre => pre.map fun p => Value.int .i64 p.1) (fun _ _ => True)) _)
      (OwnFrom.and (OwnFrom.and (Own.from (boxed_own n0 94 (fun _ => .slice none 0 0)) _) (OwnFrom.and (Own.from (boxed_own (n0 + 1) 3 (fun _ => .int .i64 0)) _) (OwnFrom.and (Own.from (boxed_own (n0 + 1 + 1) 32 (fun _ => .int .i64 0)) _) (Own.from (boxed_own (n0 + 1 + 1 + 1 + 1) 9 (fun _ => .string s)) _))))
        (OwnFrom.and (ownFrom_pure _ (fun pre : List (Int × Int × Int) => ∀ p ∈ pre, p.2.2 = 0)) (ownFrom_below (by omega) (by omega)))))
    (fun c s' X Y row hs' hg hr => by
      obtain ⟨hc, ⟨q, p, h1, h2, h3, b0, b1, b2⟩, hB⟩ := hs'
      exact ⟨hc, ⟨q, p, h1, h2, h3, boxed_own n0 _ (fun _ : Unit => _) () X Y row b0 hg (fun r e => (hr r e).2), boxed_own (n0 + 1) _ (fun _ : Unit => _) () X Y row b1 hg (fun r e => (hr r e).2), boxed_own (n0 + 1 + 1) _ (fun _ : Unit => _) () X Y row b2 hg (fun r e => (hr r e).2)⟩,
        ownFrom_below (β := Unit) (B := n0 + 5) (by omega) (by omega) () X Y row hB hg (fun r e => ⟨by have := (hr r e).1; omega, (hr r e).2⟩)⟩)
    ⟨⟨_, q3, World.ownsRow_nil _ _ _ _, trivial⟩, ⟨q0, q1, q2, q4⟩, by simp, hB0⟩
    (fun x a' W => ∃ Bx, n0 + 4 < Bx ∧ PartBox W Bx x ∧ a' = { tmps := #[.string s, undef, .pointer (some ⟨n0, 0, none⟩), .pointer (some ⟨n0 + 1, 0, none⟩), .pointer (some ⟨n0 + 1 + 1, 0, none⟩), .pointer (some ⟨n0 + 1 + 1 + 1, 0, none⟩), .pointer (some ⟨Bx, 0, none⟩), .string s, .func (.func 99) #[] #[.pointer (some ⟨n0 + 1 + 1 + 1 + 1, 0, none⟩)], partV x, undef, undef, undef, undef, undef, undef, undef, undef, undef, undef, undef, undef, undef], defers := [] })
    (fun x a' _ X Y row hs' hg hr => by
      obtain ⟨Bx, h1, h2, h3⟩ := hs'
      exact ⟨Bx, h1, partBox_own Bx x () X Y row h2 hg hr, h3⟩)
    ?assign ?body ?done ?stop
  case assign =>
    rintro l pre ⟨xo, xa, xe⟩ W K ⟨⟨v, hv, hrow, -⟩, ⟨b0, b1, b2, b4⟩, hpre, hB⟩ hK
    have hsz := hv.lt
    have hb4 : n0 + 4 < W.heap.size := b4.lt
    simp only [partV]
    gi_wp2
    exact hK _ _ ((KeepsOthers.alloc _ _).from _) (keepsParts_alloc _ _) ⟨⟨v, hv.alloc _, hrow.alloc _, trivial⟩, ⟨b0.alloc _, b1.alloc _, b2.alloc _, b4.alloc _⟩, hpre, hB.alloc (by omega) _⟩ ⟨W.heap.size, hb4, World.alloc_heap_new W _, rfl⟩
  case body =>
    rintro l pre ⟨xo, xa, xe⟩ a' W hl ⟨r, hr⟩ ⟨⟨v, hv, hrow, -⟩, ⟨b0, b1, b2, b4⟩, hpre, hB⟩ ⟨Bx, hBx, bX, rfl⟩ hlt
    have x0 : W.cell? ⟨Bx, 0, none⟩ = some (.int .i64 xo) := by simp [World.cell?, show W.heap[Bx]? = _ from bX]
    have x1 : W.cell? ⟨Bx, 1, none⟩ = some (.int .i64 xa) := by simp [World.cell?, show W.heap[Bx]? = _ from bX]
    have x2 : W.cell? ⟨Bx, 2, none⟩ = some (.int .i64 xe) := by simp [World.cell?, show W.heap[Bx]? = _ from bX]
    have hvc := hv.cell
    have hBW := hB.size
    by_cases hx : xe = 0
    · subst hx
      gi_wp2_with (gi_at_builtin; refine wpListIn_append_own _ rfl _ _ 94 rfl (n0 + 5) 3 i0 (.int .i64 0) 1 8 Tryd.underlying94 hi hz0 hz1 hz2 rfl (by decide) _ _ _ rfl (hrow.alloc _) ⟨W.heap.size, 0, none⟩ 1 1 [.int .i64 xo] rfl rfl (cell_one_new _ _ _) (by simp [Value.oneCell']) (by simp only [maxLen]; omega) (by omega) (by have := b4.lt; simp; omega) ?_; intro v' w1 hown' hgrow _; obtain ⟨g', cap', rfl⟩ := ownsRow_succ hown'; obtain ⟨hv1, ho2, hv2, hr2, hk2, hb2⟩ := append_box hv (by omega) (by have := b4.lt; omega) hrow hown' hgrow; have hc1 := hv1.cell; have hf1 := hv1.frozen)
      have hrowb : ∀ k, v.ownBlock = some k → ∃ cs m, W.heap[k]? = some (.cells cs 3 m) := fun k hk => by
        obtain ⟨cells, hc⟩ := own_typed hrow k hk
        exact ⟨cells, _, hc⟩
      have hkp : KeepsParts W (w1.setCell ⟨n0 + 1 + 1 + 1, 0, none⟩ (.slice (some ⟨g', 0, none⟩) (pre.length + 1) cap')) := by
        refine keepsParts_t (keepsParts_t (keepsParts_alloc W _) (keepsParts_grown hgrow ?_)) (keepsParts_set hv1 (by decide) (by decide) 0 _)
        intro k hk
        obtain ⟨cs, m, hc⟩ := hrowb k hk
        exact ⟨cs, _, m, (Below.heap_alloc W _ k (Array.getElem?_eq_some_iff.1 hc).1).trans hc, by decide, by decide⟩
      refine ⟨hk2.from _, hkp, ⟨_, hv2, by simpa using hr2, trivial⟩, ⟨ho2 _ _ _ (by omega) (by omega) b0, ho2 _ _ _ (by omega) (by omega) b1, ho2 _ _ _ (by omega) (by omega) b2, ho2 _ _ _ (by omega) (by omega) b4⟩, ?_, hB.trans (hb2 n0 (by omega))⟩
      intro p hp
      rcases List.mem_append.1 hp with h | h
      · exact hpre p h
      · simp at h
        rw [h]
    · have hxb : (xe != 0) = true := bne_iff_ne.mpr hx
      have c0 := b0.cell
      have c1 := b1.cell
      have c2 := b2.cell
      have f0 := b0.frozen
      have f1 := b1.frozen
      have f2 := b2.frozen
      have ne0 : Bx ≠ n0 := by omega
      have ne1 : Bx ≠ n0 + 1 := by omega
      have ne2 : Bx ≠ n0 + 1 + 1 := by omega
      have hm : Tryd.prog.follows .mixedOrders = true := by kernel_rfl
      have hB3 : Below n0 w (((W.setCell ⟨n0, 0, none⟩ (.slice none 0 0)).setCell ⟨n0 + 1, 0, none⟩ (.int .i64 xa)).setCell ⟨n0 + 1 + 1, 0, none⟩ (.int .i64 xe)).drew :=
        below_drew (((hB.setCell (p := ⟨n0, 0, none⟩) (Nat.le_refl _) _).setCell (p := ⟨n0 + 1, 0, none⟩) (by simp) _).setCell (p := ⟨n0 + 1 + 1, 0, none⟩) (by simp; omega) _)
      have hk3 : KeepsOthers W (((W.setCell ⟨n0, 0, none⟩ (.slice none 0 0)).setCell ⟨n0 + 1, 0, none⟩ (.int .i64 xa)).setCell ⟨n0 + 1 + 1, 0, none⟩ (.int .i64 xe)).drew :=
        (((KeepsOthers.setCell _ _ _).trans (KeepsOthers.setCell _ _ _)).trans (KeepsOthers.setCell _ _ _)).trans (KeepsOthers.drew _)
      have e0 : Boxed (((W.setCell ⟨n0, 0, none⟩ (.slice none 0 0)).setCell ⟨n0 + 1, 0, none⟩ (.int .i64 xa)).setCell ⟨n0 + 1 + 1, 0, none⟩ (.int .i64 xe)).drew n0 94 (.slice none 0 0) :=
        Boxed.other (Boxed.other (b0.set _) (by omega) _) (by omega) _
      have e1 : Boxed (((W.setCell ⟨n0, 0, none⟩ (.slice none 0 0)).setCell ⟨n0 + 1, 0, none⟩ (.int .i64 xa)).setCell ⟨n0 + 1 + 1, 0, none⟩ (.int .i64 xe)).drew (n0 + 1) 3 (.int .i64 xa) :=
        Boxed.other (Boxed.set _ (Boxed.other b1 (by omega) _)) (by omega) _
      have e2 : Boxed (((W.setCell ⟨n0, 0, none⟩ (.slice none 0 0)).setCell ⟨n0 + 1, 0, none⟩ (.int .i64 xa)).setCell ⟨n0 + 1 + 1, 0, none⟩ (.int .i64 xe)).drew (n0 + 1 + 1) 32 (.int .i64 xe) :=
        Boxed.set _ (Boxed.other (Boxed.other b2 (by omega) _) (by omega) _)
      have fin0 : KeepsFrom W0.heap.size W (((W.setCell ⟨n0, 0, none⟩ (.slice none 0 0)).setCell ⟨n0 + 1, 0, none⟩ (.int .i64 xa)).setCell ⟨n0 + 1 + 1, 0, none⟩ (.int .i64 xe)).drew ∧ (∃ q p, pre ++ [(xo, xa, xe)] = q ++ [p] ∧ (∀ x ∈ q, x.2.2 = 0) ∧ p.2.2 ≠ 0 ∧ Boxed (((W.setCell ⟨n0, 0, none⟩ (.slice none 0 0)).setCell ⟨n0 + 1, 0, none⟩ (.int .i64 xa)).setCell ⟨n0 + 1 + 1, 0, none⟩ (.int .i64 xe)).drew n0 94 (.slice none 0 0) ∧ Boxed (((W.setCell ⟨n0, 0, none⟩ (.slice none 0 0)).setCell ⟨n0 + 1, 0, none⟩ (.int .i64 xa)).setCell ⟨n0 + 1 + 1, 0, none⟩ (.int .i64 xe)).drew (n0 + 1) 3 (.int .i64 p.2.1) ∧ Boxed (((W.setCell ⟨n0, 0, none⟩ (.slice none 0 0)).setCell ⟨n0 + 1, 0, none⟩ (.int .i64 xa)).setCell ⟨n0 + 1 + 1, 0, none⟩ (.int .i64 xe)).drew (n0 + 1 + 1) 32 (.int .i64 p.2.2)) ∧ Below n0 w (((W.setCell ⟨n0, 0, none⟩ (.slice none 0 0)).setCell ⟨n0 + 1, 0, none⟩ (.int .i64 xa)).setCell ⟨n0 + 1 + 1, 0, none⟩ (.int .i64 xe)).drew :=
        ⟨hk3.from _, ⟨pre, (xo, xa, xe), rfl, hpre, hx, e0, e1, e2⟩, hB3⟩
      have fin := Lib.hid fin0
      clear fin0
      clear hB3 hk3 e0 e1 e2
      gi_wp2
      gi_region_o
      all_goals gi_wp2
      all_goals exact ⟨fin.out.1, rfl, fin.out.2.1, fin.out.2.2⟩
  case done =>
    rintro D ys W hD hS ⟨⟨v, hv, hrow, -⟩, ⟨b0, b1, b2, b4⟩, hpre, hB⟩ hK
    have hvc := hv.cell
    have c0 := b0.cell
    have c1 := b1.cell
    have c2 := b2.cell
    have f0 := b0.frozen
    have f1 := b1.frozen
    have f2 := b2.frozen
    obtain ⟨A, cap, rfl⟩ : ∃ A cap, v = .slice A ys.length cap := by
      rcases hrow.2 with ⟨rfl, h0⟩ | ⟨g, cap, cur, rfl, _⟩
      · exact ⟨none, 0, by rw [h0]⟩
      · exact ⟨_, _, rfl⟩
    have hys : ys = partsL s.data.toList := hS
    have hpl : parseL s.data.toList = (ys.map (·.1), 0, 0) := by
      have := coll_all ys hpre
      rw [hys] at this ⊢
      unfold parseL partsL at *
      split <;> simp_all
    clear hS hys
    have hlt : D ≠ n0 ∧ D ≠ n0 + 1 ∧ D ≠ n0 + 1 + 1 := by omega
    have hK3 : (((W.setCell ⟨n0, 0, none⟩ (.slice A ys.length cap)).setCell ⟨n0 + 1, 0, none⟩ (.int .i64 0)).setCell ⟨n0 + 1 + 1, 0, none⟩ (.int .i64 0)).heap[D]? = some (.deferred (some [])) :=
      (KeepsOthers.setCell _ _ _).same D _ ((KeepsOthers.setCell _ _ _).same D _ ((KeepsOthers.setCell _ _ _).same D _ hK rfl) rfl) rfl
    have e0 : Boxed (((W.setCell ⟨n0, 0, none⟩ (.slice A ys.length cap)).setCell ⟨n0 + 1, 0, none⟩ (.int .i64 0)).setCell ⟨n0 + 1 + 1, 0, none⟩ (.int .i64 0)) n0 94 (.slice A ys.length cap) := Boxed.other (Boxed.other (b0.set _) (by omega) _) (by omega) _
    have e1 : Boxed (((W.setCell ⟨n0, 0, none⟩ (.slice A ys.length cap)).setCell ⟨n0 + 1, 0, none⟩ (.int .i64 0)).setCell ⟨n0 + 1 + 1, 0, none⟩ (.int .i64 0)) (n0 + 1) 3 (.int .i64 0) := Boxed.other (Boxed.set _ (Boxed.other b1 (by omega) _)) (by omega) _
    have e2 : Boxed (((W.setCell ⟨n0, 0, none⟩ (.slice A ys.length cap)).setCell ⟨n0 + 1, 0, none⟩ (.int .i64 0)).setCell ⟨n0 + 1 + 1, 0, none⟩ (.int .i64 0)) (n0 + 1 + 1) 32 (.int .i64 0) := Boxed.set _ (Boxed.other (Boxed.other b2 (by omega) _) (by omega) _)
    have hBX : Below n0 w (((W.setCell ⟨n0, 0, none⟩ (.slice A ys.length cap)).setCell ⟨n0 + 1, 0, none⟩ (.int .i64 0)).setCell ⟨n0 + 1 + 1, 0, none⟩ (.int .i64 0)) := ((hB.setCell (p := ⟨n0, 0, none⟩) (Nat.le_refl _) _).setCell (p := ⟨n0 + 1, 0, none⟩) (by simp) _).setCell (p := ⟨n0 + 1 + 1, 0, none⟩) (by simp; omega) _
    have hrX : (((W.setCell ⟨n0, 0, none⟩ (.slice A ys.length cap)).setCell ⟨n0 + 1, 0, none⟩ (.int .i64 0)).setCell ⟨n0 + 1 + 1, 0, none⟩ (.int .i64 0)).ownsRow (n0 + 5) 3 1 (.slice A ys.length cap) ys.length (ys.map fun p => Value.int .i64 p.1) := by
      have hne : ∀ b, b < n0 + 5 → (Value.slice A ys.length cap).ownBlock = none ∨ (Value.slice A ys.length cap).ownBlock ≠ some b := fun b hb => by
        cases hob : (Value.slice A ys.length cap).ownBlock with
        | none => exact .inl rfl
        | some g =>
          refine .inr ?_
          have := own_base hrow g hob
          intro e
          cases e
          omega
      exact ((hrow.kept (grownBy_setCell' W n0 _) (hne _ (by omega))).kept (grownBy_setCell' _ (n0 + 1) _) (hne _ (by omega))).kept (grownBy_setCell' _ (n0 + 1 + 1) _) (hne _ (by omega))
    have HP := Lib.hid hpl
    have HR := Lib.hid hrX
    clear hpl hrX
    gi_wp2
    refine ⟨by simp, .inl ⟨_, _, rfl, run_takeDeferred hK3, ?_⟩⟩
    have g0 := (boxed_put (.deferred none) e0 hK3 rfl).cell
    have g1 := (boxed_put (.deferred none) e1 hK3 rfl).cell
    have g2 := (boxed_put (.deferred none) e2 hK3 rfl).cell
    refine ⟨.tuple #[.slice A ys.length cap, .int .i64 0, .int .i64 0], by simp [results, Tryd.results65, go_sem, g0, g1, g2], .slice A ys.length cap, by rw [HP.out], ?_, ?_⟩
    · rw [hn0, HP.out]
      refine ownsRow_putObj (own_weaken (by simpa [Function.comp_def] using HR.out) (by omega)) _ hK3 rfl
    · rw [hn0]
      exact hBX.trans (belowK_b (w := W0) (by omega) _ D _ _ hD hK3 rfl rfl)
  case stop =>
    rintro D c pre W hD hS ⟨rfl, ⟨q, p, rfl, hq, hp, b0, b1, b2⟩, hB⟩ hK
    have c0 := b0.cell
    have c1 := b1.cell
    have c2 := b2.cell
    obtain ⟨rest, hrest⟩ : (q ++ [p]) <+: partsL s.data.toList := hS
    have hpl : parseL s.data.toList = ([], p.2.1, p.2.2) := by
      have h1 := coll_stop q rest p hq hp
      have h2 : partsL s.data.toList = q ++ p :: rest := by rw [← hrest]; simp
      rw [← h2] at h1
      unfold parseL partsL at *
      split
      · rename_i h
        simp [h] at h2
      · rename_i h
        simpa [h] using h1
    have HP := Lib.hid hpl
    clear hpl hrest
    gi_wp2
    refine ⟨by simp, .inl ⟨_, _, rfl, run_takeDeferred hK, ?_⟩⟩
    have g0 := (boxed_put (.deferred none) b0 hK rfl).cell
    have g1 := (boxed_put (.deferred none) b1 hK rfl).cell
    have g2 := (boxed_put (.deferred none) b2 hK rfl).cell
    refine ⟨.tuple #[.slice none 0 0, .int .i64 p.2.1, .int .i64 p.2.2], by simp [results, Tryd.results65, go_sem, g0, g1, g2], .slice none 0 0, by rw [HP.out], ?_, ?_⟩
    · rw [HP.out]
      exact World.ownsRow_nil _ _ _ _
    · rw [hn0]
      exact hB.trans (belowK_b (w := W0) (by omega) _ D _ _ hD hK rfl rfl)
def lineage_parse.f (a0 : ByteArray) : Option (List Int × Int × Int) := if a0.size ≤ 140737488351232 then some (parseL a0.data.toList) else none
theorem lineage_parse.calls (a0 : ByteArray) (r1 : List Int) (r2 : Int) (r3 : Int) (w : World) (h : lineage_parse.f a0 = some (r1, r2, r3)) :
    Calls Tryd.prog 65 #[.string a0] w fun e w' => ∃ v0_ : Value, e = .returned (.tuple #[v0_, .int .i64 r2, .int .i64 r3]) ∧ Kd.R (Kd.int .i64) 3 w' w.heap.size (fun _ => True) v0_ r1 ∧ Below w.heap.size w w' := by
  unfold lineage_parse.f at h
  split at h
  · rename_i hs
    injection h with h
    refine (parse_any a0 hs w).mono ?_
    rintro e w' ⟨v, rfl, hr, hb⟩
    rw [h] at hr ⊢
    exact ⟨v, rfl, Kd.R_of_own hr (fun _ _ => trivial), hb⟩
  · cases h
end Go.Proofs.YtkdfilpinlebbaaDoor.G
