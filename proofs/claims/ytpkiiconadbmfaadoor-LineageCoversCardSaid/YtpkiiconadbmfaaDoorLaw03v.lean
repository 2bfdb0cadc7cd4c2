/- The law of layer 3 in plain words: Covers. -/
import Derived.Test.YtpkiiconadbmfaaDoorFun03d
import Derived.Test.YtpkiiconadbmfaaDoorLaw03w
import Derived.Test.YtpkiiconadbmfaaDoorPAc
set_option linter.unusedVariables false
set_option linter.unusedSimpArgs false
namespace Go.Proofs.YtpkiiconadbmfaaDoor.G
open Go.RowKit Go.Proofs.YtpkiiconadbmfaaDoorW.PrintWords Go.Proofs.YtpkiiconadbmfaaDoorW.PrintLast Go.Proofs.YtpkiiconadbmfaaDoorW.PrintMore Go.Proofs.YtpkiiconadbmfaaDoor.PA

theorem rdS (l : List ByteArray) (i : Nat) (h : i < l.length) : rdOf ByteArray.empty l (i : Int) = l[i] := by simp [rdOf, List.getElem?_eq_getElem h]

theorem names_loop (l : List ByteArray) : ∀ (d i : Nat) (m : List ByteArray), 20 - i = d → i ≤ 20 → m.length = i → (∀ x ∈ m, Sz x) →
    ∃ m', Ev (fun k => replevinlaw03_names.l0 k l m m (i : Int)) (m', m') ∧ m'.length ≤ 20 ∧ ∀ x ∈ m', Sz x := by
  intro d
  induction d with
  | zero =>
    intro i m hd hi hm hs
    have h20 : ¬ i < 20 := by omega
    refine ⟨m, ?_, by omega, hs⟩
    refine Ev.step (fun k => by rw [replevinlaw03_names.l0]) (Ev.ite (fun _ => ?_) (fun _ => ?_))
    · have e : decide ((i : Int) < 20) = false := decide_eq_false (by omega)
      rw [e]
      exact Ev.step (fun k => by rw [replevinlaw03_names.j1]) (Ev.neg (by decide) (Ev.now _))
    · exact Ev.step (fun k => by rw [replevinlaw03_names.j1]) (Ev.neg (by decide) (Ev.now _))
  | succ d ih =>
    intro i m hd hi hm hs
    by_cases hl : i < l.length
    · obtain ⟨t, et, st⟩ := short_sz l[i]
      obtain ⟨m', hm', h20, hs'⟩ := ih (i + 1) (m ++ [t]) (by omega) (by omega) (by rw [List.length_append, hm]; rfl) (by
        intro x hx
        rcases List.mem_append.1 hx with h | h
        · exact hs x h
        · rw [List.mem_singleton.1 h]
          exact st)
      refine ⟨m', ?_, h20, hs'⟩
      refine Ev.step (fun k => by rw [replevinlaw03_names.l0]) (Ev.pos (nlt hl) ?_)
      have e : decide ((i : Int) < 20) = true := decide_eq_true (by omega)
      have hroom : m.length < 8796093022208 := by omega
      rw [e]
      refine Ev.step (fun k => by rw [replevinlaw03_names.j1]) (Ev.pos rfl (Ev.pos (n0 _) (Ev.pos (nlt hl) ?_)))
      rw [rdS l i hl]
      refine Ev.bind (Ev.const et) (Ev.pos hroom (Ev.bind (Ev.const et) (Ev.pos hroom ?_)))
      rw [w64s i (by omega)]
      exact hm'
    · refine ⟨m, ?_, by omega, hs⟩
      exact Ev.step (fun k => by rw [replevinlaw03_names.l0]) (Ev.neg (nnlt hl) (Ev.step (fun k => by rw [replevinlaw03_names.j1]) (Ev.neg (by decide) (Ev.now _))))

theorem rcovers_loop (l : List ByteArray) (n : ByteArray) (hn : Sz n) (hs : ∀ x ∈ l, Sz x) (hlen : l.length ≤ 1000000) : ∀ (d i : Nat), l.length - i = d → i ≤ l.length → Ev (fun k => replevinref03_Covers.l0 k l n (i : Int)) ((l.drop i).any (Wn n)) := by
  intro d
  induction d with
  | zero =>
    intro i hd hi
    have hil : i = l.length := by omega
    refine Ev.step (fun k => by rw [replevinref03_Covers.l0]) (Ev.neg (nnlt (by omega)) (Ev.val (Ev.now _) ?_))
    rw [hil, List.drop_length]
    rfl
  | succ d ih =>
    intro i hd hi
    have hil : i < l.length := by omega
    refine Ev.step (fun k => by rw [replevinref03_Covers.l0]) (Ev.pos (nlt hil) (Ev.pos (n0 _) ?_))
    rw [rdS l i hil, List.drop_eq_getElem_cons hil, List.any_cons]
    refine Ev.bind (rwithin_ev n l[i] hn (hs _ (List.getElem_mem hil))) (Ev.ite (fun h => Ev.val (Ev.now _) ?_) (fun h => ?_))
    · rw [h, Bool.true_or]
    · rw [w64s i (by omega), Bool.eq_false_iff.2 h, Bool.false_or]
      exact ih (i + 1) (by omega) (by omega)

theorem apart_inner (T : List ByteArray) (hs : ∀ x ∈ T, Sz x) (hap : ∀ (i j : Nat) (hi : i < T.length) (hj : j < T.length), i ≠ j → Wn T[i] T[j] = false) (hlen : T.length ≤ 1000000) (i : Nat) (hi : i < T.length)
    (hnext : Ev (fun k => replevinlaw03_LineageCovers.l0 k T ((i + 1 : Nat) : Int)) true) :
    ∀ (d j : Nat), T.length - j = d → j ≤ T.length → Ev (fun k => replevinlaw03_LineageCovers.l1 k T (i : Int) (j : Int)) true := by
  intro d
  induction d with
  | zero =>
    intro j hd hj
    refine Ev.step (fun k => by rw [replevinlaw03_LineageCovers.l1]) (Ev.neg (nnlt (by omega)) ?_)
    rw [w64s i (by omega)]
    exact hnext
  | succ d ih =>
    intro j hd hj
    have hjl : j < T.length := by omega
    have hrec := ih (j + 1) (by omega) (by omega)
    refine Ev.step (fun k => by rw [replevinlaw03_LineageCovers.l1]) (Ev.pos (nlt hjl) ?_)
    rw [w64s j (by omega)]
    by_cases hij : j = i
    · exact Ev.pos (neq hij) hrec
    · refine Ev.neg (nne hij) (Ev.pos (n0 _) (Ev.pos (nlt hi) (Ev.pos (n0 _) ?_)))
      rw [rdS T i hi, rdS T j hjl]
      refine Ev.bind (within_ev T[i] T[j] (hs _ (List.getElem_mem hi)) (hs _ (List.getElem_mem hjl))) (Ev.neg ?_ hrec)
      rw [hap i j hi hjl (fun e => hij e.symm)]
      decide
theorem apart_outer (T : List ByteArray) (hs : ∀ x ∈ T, Sz x) (hap : ∀ (i j : Nat) (hi : i < T.length) (hj : j < T.length), i ≠ j → Wn T[i] T[j] = false) (hlen : T.length ≤ 1000000) :
    ∀ (d i : Nat), T.length - i = d → i ≤ T.length → Ev (fun k => replevinlaw03_LineageCovers.l0 k T (i : Int)) true := by
  intro d
  induction d with
  | zero =>
    intro i hd hi
    exact Ev.step (fun k => by rw [replevinlaw03_LineageCovers.l0]) (Ev.neg (nnlt (by omega)) (Ev.now _))
  | succ d ih =>
    intro i hd hi
    have hil : i < T.length := by omega
    refine Ev.step (fun k => by rw [replevinlaw03_LineageCovers.l0]) (Ev.pos (nlt hil) ?_)
    exact apart_inner T hs hap hlen i hil (ih (i + 1) (by omega) (by omega)) T.length 0 (by omega) (by omega)

theorem LineageCovers_ev (l0 : List ByteArray) (a1 : ByteArray) : Ev (fun k => replevinlaw03_LineageCovers.f k l0 a1) true := by
  obtain ⟨m, hm, h20, hs⟩ := names_loop l0 20 0 [] (by omega) (by omega) rfl (fun x hx => by cases hx)
  obtain ⟨t, et, st⟩ := short_sz a1
  have hT := g_Tops_some m hs (by omega)
  have hTs : ∀ x ∈ topsOf m hs, Sz x := fun x hx => hs x (topsOf_mem m hs x hx)
  have hTl := topsOf_len m hs
  have hc1 : g_Covers.f m t = some (m.any (Wn t)) := g_Covers_some m t st hs (by omega)
  have hc2 : g_Covers.f (topsOf m hs) t = some ((topsOf m hs).any (Wn t)) := g_Covers_some _ t st hTs (by omega)
  refine Ev.congr (fun k => by rw [replevinlaw03_LineageCovers.f]) ?_
  refine Ev.bind (Ev.congr (fun k => by rw [replevinlaw03_names.f]; rfl) hm) ?_
  refine Ev.bind (Ev.const et) (Ev.bind (Ev.const hc1) (Ev.bind (Ev.const hT) (Ev.bind known_ev (Ev.pos rfl ?_))))
  refine Ev.bind (Ev.congr (fun k => by rw [replevinref03_Covers.f]; rfl) (rcovers_loop m t st hs (by omega) m.length 0 (by omega) (by omega))) ?_
  rw [List.drop_zero]
  refine Ev.neg (by rw [bne_refl']; decide) (Ev.bind (Ev.const hc2) ?_)
  rw [topsOf_any m hs t, bne_refl']
  refine Ev.step (fun k => by rw [replevinlaw03_LineageCovers.j0]) ?_
  refine Ev.neg (by decide) ?_
  exact (apart_outer (topsOf m hs) hTs (topsOf_apart m hs) (by omega) (topsOf m hs).length 0 (by omega) (by omega))
end Go.Proofs.YtpkiiconadbmfaaDoor.G
