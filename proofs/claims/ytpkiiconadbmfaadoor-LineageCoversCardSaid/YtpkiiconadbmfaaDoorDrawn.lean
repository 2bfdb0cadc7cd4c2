/- The number of draws of a run never falls: by the model's own steps, for every program. -/
import GoSem.Step
import Derived.Calls
import Derived.Lone
import Derived.DyingRun
set_option linter.unusedVariables false
set_option linter.unusedSimpArgs false
namespace Go.Proofs.YtpkiiconadbmfaaDoor.Drawn
open Go

def rworld {α : Type} : Result α → World
  | .ok _ w => w
  | .halt _ w => w

theorem ask_up {α : Type} : ∀ (a : Ask α) (w : World), w.drawn ≤ (w.ask a).2.drawn := by
  intro a
  induction a with
  | done a => intro w; exact Nat.le_refl _
  | ask what range k ih =>
    intro w
    unfold World.ask
    simp only []
    split
    · exact ih _ w
    · exact Nat.le_trans (Nat.le_succ _) (ih _ { w with drawn := w.drawn + 1 })
theorem sys_up (w : World) (c : Sys) : w.drawn ≤ (w.sys c).2.drawn := by
  unfold World.sys
  have h := ask_up (Kernel.perform c w.os) w
  split
  · exact Nat.le_refl _
  · rename_i heq
    rw [heq] at h
    exact h
theorem bind_ok {α β : Type} {x : Except String α} {f : α → Except String β} {r : β} (h : (x >>= f) = .ok r) : ∃ a, x = .ok a ∧ f a = .ok r := by
  cases x with
  | error e => cases h
  | ok a => exact ⟨a, rfl, h⟩
theorem viewStore_up {p : Program} {w w' : World} {at_ : Addr} {u : TypeId} {k : Addr} {v : Value} {b : Bool} {l : List Addr} (h : w.viewStore p at_ u k v b = .ok (w', l)) : w'.drawn = w.drawn := by
  unfold World.viewStore at h
  dsimp only at h
  by_cases ht : (!tight p p.depth u) = true
  · rw [if_pos ht] at h
    obtain ⟨_, h1, _⟩ := bind_ok h
    cases h1
  · rw [if_neg ht] at h
    obtain ⟨⟨c, e, frozen, first, like, cells⟩, h1, h⟩ := bind_ok h
    dsimp only at h
    cases hb : v.bytes? with
    | none =>
      rw [hb] at h
      cases h
    | some bytes =>
      rw [hb] at h
      dsimp only at h
      split at h
      · obtain ⟨_, h1, _⟩ := bind_ok h
        cases h1
      · obtain ⟨c', h2, h⟩ := bind_ok h
        cases h
        rfl
theorem farStore_up {p : Program} {w w' : World} {a : Addr} {v : Value} {b : Bool} {l : List Addr} (h : w.farStore p a v b = .ok (w', l)) : w'.drawn = w.drawn := by
  unfold World.farStore at h
  split at h
  · split at h
    · rename_i heq
      cases h
      exact viewStore_up heq
    · cases h
  · cases h
theorem freeze_up (w : World) (a : Addr) (n : Nat) : (w.freeze a n).drawn = w.drawn := by
  unfold World.freeze
  split <;> rfl

theorem run_up {α : Type} (p : Program) : ∀ (s : Sem α) (w : World), w.drawn ≤ (rworld (s.run p w)).drawn := by
  intro s
  induction s with
  | pure a => intro w; exact Nat.le_refl _
  | load m a k ih =>
    intro w
    unfold Sem.run
    split
    · exact ih _ w
    · split
      · exact ih _ w
      · exact Nat.le_refl _
  | store m a v k ih =>
    intro w
    have key : w.drawn ≤ (rworld (match w.cell? a with
      | some _ => if w.frozen? a then Result.halt (.unsupported (.unsafePointer "a write to bytes that a string shares")) w else k.run p (w.setCell a v)
      | none => match w.farStore p a v (m == .atomic) with
        | .ok (w, _) => k.run p w
        | .error h => .halt h w)).drawn := by
      split
      · split
        · exact Nat.le_refl _
        · exact ih (w.setCell a v)
      · split
        · rename_i heq
          have := farStore_up heq
          exact this ▸ ih _
        · exact Nat.le_refl _
    cases v <;> first | exact Nat.le_refl _ | exact key
  | new o k ih => intro w; exact ih _ { w with heap := w.heap.push o }
  | shape r k ih => intro w; exact ih _ w
  | freeze a n k ih => intro w; exact (freeze_up w a n) ▸ ih (w.freeze a n)
  | frozen a k ih => intro w; exact ih _ w
  | getObj r k ih =>
    intro w
    unfold Sem.run
    split <;> first | exact Nat.le_refl _ | exact ih _ w
  | setObj r o k ih =>
    intro w
    unfold Sem.run
    split <;> first | exact Nat.le_refl _ | exact ih { w with heap := w.heap.setIfInBounds r o }
  | choose q k ih =>
    intro w
    unfold Sem.run
    split
    · exact ih _ w
    · exact Nat.le_trans (Nat.le_succ _) (ih _ { w with drawn := w.drawn + 1 })
  | sys c k ih => intro w; exact Nat.le_trans (sys_up w c) (ih _ _)
  | program k ih => intro w; exact ih _ w
  | mark m k ih => intro w; exact ih w
  | halt h => intro w; exact Nat.le_refl _
theorem runT_up {α : Type} (p : Program) (s : Sem α) (w : World) (es : Array Event) : w.drawn ≤ (rworld (s.runT p w es).1).drawn := by
  rw [Sem.runT_fst]
  exact run_up p s w
theorem run_of {α : Type} {p : Program} {s : Sem α} {w : World} {n : Nat} {r : Result α} (hn : n ≤ w.drawn) (h : s.run p w = r) : n ≤ (rworld r).drawn := by
  rw [← h]
  exact Nat.le_trans hn (run_up p s w)
theorem runT_of {α : Type} {p : Program} {s : Sem α} {w : World} {n : Nat} {es es' : Array Event} {r : Result α} (hn : n ≤ w.drawn) (h : s.runT p w es = (r, es')) : n ≤ (rworld r).drawn := by
  have := runT_up p s w es
  rw [h] at this
  exact Nat.le_trans hn this

/-- What a step of a goroutine leaves has drawn no less. -/
def up (n : Nat) : GStep → Prop
  | .go _ w _ => n ≤ w.drawn
  | .comm _ _ _ _ w _ => n ≤ w.drawn
  | .spawn _ _ w _ => n ≤ w.drawn
  | .count _ w _ => n ≤ w.drawn
  | .timer _ _ w _ => n ≤ w.drawn
  | .alone _ _ w _ => n ≤ w.drawn
  | .newcoro _ _ _ w _ => n ≤ w.drawn
  | .coroswitch _ _ _ w _ => n ≤ w.drawn
  | .collect _ w _ => n ≤ w.drawn
  | .watch _ w _ => n ≤ w.drawn
  | .ended _ _ _ => True
theorem up_after {n : Nat} {es : Array Event} {s : GStep} (h : up n s) : up n (GStep.after es s) := by cases s <;> exact h
def upS (n : Nat) (s : Stepped) : Prop := ∀ m', s = .next m' → n ≤ m'.world.drawn

theorem ite_up {n : Nat} {c : Prop} [Decidable c] {a b : GStep} (h1 : c → up n a) (h2 : ¬ c → up n b) : up n (if c then a else b) := by
  by_cases h : c
  · rw [if_pos h]; exact h1 h
  · rw [if_neg h]; exact h2 h
theorem dieOf_up {n : Nat} (fr : Frame) (l : List ByteArray) (m : String) (b : Bool) {w : World} (h : n ≤ w.drawn) : up n (dieOf fr l m b w) := h
theorem endWith_up {n : Nat} (w : World) (fd : Nat) (t : ByteArray) (o : Outcome) : up n (endWith w fd t o) := by
  obtain ⟨o', w', he, _⟩ := endWith_ended w fd t o
  rw [he]
  trivial
theorem endPrinting_up {n : Nat} (p : Program) (fr : Frame) (v : Value) {w : World} (h : n ≤ w.drawn) : up n (endPrinting p fr v w) := by
  unfold endPrinting
  dsimp only
  split
  · exact h
  · trivial
theorem endFatal_up {n : Nat} (p : Program) (fr : Frame) (cs : List Frame) (dy : Option Dying) (m : String) {w : World} (h : n ≤ w.drawn) : up n (endFatal p fr cs dy m w) := by
  unfold endFatal
  dsimp only
  split
  · rename_i heq
    exact run_of h heq
  · trivial
  · trivial
theorem writeOn_up {n : Nat} (p : Program) (fr : Frame) (d : Dying) (f : Fatal) {w : World} (h : n ≤ w.drawn) : up n (writeOn p fr d f w) := by
  unfold writeOn
  dsimp only
  split
  · trivial
  · split
    · rename_i heq
      exact runT_of h heq
    · rename_i heq
      exact runT_of h heq
    · trivial
    · trivial
theorem die_up {n : Nat} (p : Program) (fr : Frame) (d : Dying) {w : World} (h : n ≤ w.drawn) : up n (die p fr d w) := by
  unfold die
  split
  · exact writeOn_up _ _ _ _ h
  · split
    · split
      · exact h
      · exact endWith_up _ _ _ _
    · dsimp only
      split
      · exact h
      · split
        · rename_i heq
          exact run_of h heq
        · trivial
      · rename_i t recv name hpt
        have hh := Nat.le_trans h (runT_up p (invoke (.fn (.method name) #[]) #[.iface t recv]) w #[])
        generalize (invoke (.fn (.method name) #[]) #[.iface t recv]).runT p w #[] = r at hh ⊢
        obtain ⟨r, es⟩ := r
        refine up_after ?_
        dsimp only at hh ⊢
        split
        · exact hh
        · exact hh
        · trivial
        · exact endPrinting_up _ _ _ hh
        · trivial
      · trivial
theorem doReturn_up {n : Nat} (p : Program) (main : Bool) (fr : Frame) (cs : List Frame) (dy : Option Dying) (v : Value) {w : World} (h : n ≤ w.drawn) : up n (doReturn p main fr cs dy v w) := by
  unfold doReturn
  repeat' first
    | exact h
    | trivial
    | split
theorem callDeferred_up {n : Nat} (p : Program) (fr : Frame) (cs : List Frame) (dy : Option Dying) (d : Deferred) {w : World} (h : n ≤ w.drawn) : up n (callDeferred p fr cs dy d w) := by
  unfold callDeferred
  refine ite_up (fun _ => trivial) (fun _ => ?_)
  · have hh := Nat.le_trans h (runT_up p (invoke d.target d.args) w #[])
    generalize (invoke d.target d.args).runT p w #[] = r at hh ⊢
    obtain ⟨r, es⟩ := r
    dsimp only at hh ⊢
    refine up_after ?_
    split <;> first
      | exact hh
      | trivial
      | exact endFatal_up _ _ _ _ _ hh
      | exact dieOf_up _ _ _ _ hh
      | (split <;> exact hh)
theorem unwind_up {n : Nat} (p : Program) (main : Bool) (fr : Frame) (cs : List Frame) (dy : Option Dying) {w : World} (h : n ≤ w.drawn) : up n (unwind p main fr cs dy w) := by
  unfold unwind
  split
  · rename_i block args ds hds
    have hh := Nat.le_trans h (runT_up p (Instr.takeDeferred block) w #[])
    generalize (Instr.takeDeferred block).runT p w #[] = r at hh ⊢
    obtain ⟨r, es⟩ := r
    dsimp only at hh ⊢
    refine up_after ?_
    split
    · exact hh
    · trivial
  · exact callDeferred_up _ _ _ _ _ h
  · split
    · trivial
    · split
      · trivial
      · split
        · exact h
        · split
          · split
            · exact h
            · split
              · rename_i heq
                exact run_of h heq
              · trivial
              · trivial
          · split
            · exact endPrinting_up _ _ _ h
            · trivial
    · split
      · exact doReturn_up _ _ _ _ _ _ h
      · rename_i fn hfn
        have hh := Nat.le_trans h (runT_up p (results fn fr.tmps) w #[])
        generalize (results fn fr.tmps).runT p w #[] = r at hh ⊢
        obtain ⟨r, es⟩ := r
        dsimp only at hh ⊢
        refine up_after ?_
        split
        · exact doReturn_up _ _ _ _ _ _ hh
        · trivial
        · trivial
theorem early_up {n : Nat} (p : Program) (fr : Frame) (cs : List Frame) (dy : Option Dying) (g : Nat) {w : World} (h : n ≤ w.drawn) : up n (early p fr cs dy g w) := by
  have notYet : ∀ w' : World, n ≤ w'.drawn → up n (match w'.heap[g]? with
      | some (.pending c elem) => .go { frame := fr, callers := cs, status := .running, dying := dy } { w' with heap := w'.heap.setIfInBounds g (.cells c elem) }
      | _ => .ended (.stuck "early: the variable does not wait" (fr.pos p)) w') := by
    intro w' h'
    split
    · exact h'
    · trivial
  unfold early
  dsimp only
  refine ite_up (fun _ => notYet _ h) (fun _ => ?_)
  split
  · trivial
  · refine ite_up (fun _ => notYet _ h) (fun _ => ite_up (fun _ => notYet _ h) (fun _ => ?_))
    split
    · trivial
    · exact h
    · trivial
    · exact notYet _ h
    · refine ite_up (fun _ => h) (fun _ => ite_up (fun _ => notYet _ h) (fun _ => ?_))
      split
      · rename_i heq
        exact notYet _ (run_of h heq)
      · rename_i heq
        exact run_of h heq
      · trivial
theorem apply_up {n : Nat} (p : Program) (listen : Bool) (fr : Frame) (cs : List Frame) (dy : Option Dying) (s : Sem Next) {w : World} (h : n ≤ w.drawn) : up n (stepG.apply p listen fr cs dy s w) := by
  unfold stepG.apply
  have hh : n ≤ (rworld (if listen = true then s.runT p w #[] else (s.run p w, #[])).1).drawn := by
    split
    · exact Nat.le_trans h (runT_up _ _ _ _)
    · exact Nat.le_trans h (run_up _ _ _)
  dsimp only
  generalize (if listen = true then s.runT p w #[] else (s.run p w, #[])) = r at hh ⊢
  obtain ⟨r, es⟩ := r
  dsimp only at hh ⊢
  refine up_after ?_
  cases r with
  | ok a w' =>
    have h' : n ≤ w'.drawn := hh
    cases a <;> (try dsimp only) <;> repeat' first
      | exact h'
      | trivial
      | exact dieOf_up _ _ _ _ h'
      | split
  | halt hl w' =>
    have h' : n ≤ w'.drawn := hh
    cases hl <;> (try dsimp only) <;> repeat' first
      | exact h'
      | trivial
      | exact dieOf_up _ _ _ _ h'
      | exact endFatal_up _ _ _ _ _ h'
      | exact early_up _ _ _ _ _ h'
      | (rename_i heq; cases heq <;> first | exact h' | exact early_up _ _ _ _ _ h')
      | split
theorem oper_up {n : Nat} (p : Program) (listen : Bool) (fr : Frame) (cs : List Frame) (dy : Option Dying) {w : World} (h : n ≤ w.drawn) : up n (stepG.oper p listen fr cs dy w) := by
  unfold stepG.oper
  repeat' first
    | exact apply_up _ _ _ _ _ _ h
    | trivial
    | split
theorem elim_up {α : Type} {n : Nat} {o : Option α} {a : GStep} {f : α → GStep} (ha : up n a) (hf : ∀ x, up n (f x)) : up n (o.elim a f) := by
  cases o with
  | none => exact ha
  | some x => exact hf x
theorem runT1 {α : Type} {p : Program} {s : Sem α} {w : World} {n : Nat} {es : Array Event} {r : Result α} (hn : n ≤ w.drawn) (h : (s.runT p w es).1 = r) : n ≤ (rworld r).drawn := by
  rw [← h]
  exact Nat.le_trans hn (runT_up p s w es)
theorem exec_up {n : Nat} (p : Program) (main listen : Bool) (fr : Frame) (cs : List Frame) (dy : Option Dying) {w : World} (h : n ≤ w.drawn) : up n (stepG.exec p main listen fr cs dy w) := by
  unfold stepG.exec
  dsimp only
  split <;> first
    | exact h
    | trivial
    | exact apply_up _ _ _ _ _ _ h
    | skip
  · split
    · exact ite_up (fun _ => h) (fun _ => trivial)
    · refine up_after ?_
      split
      · rename_i heq
        exact doReturn_up _ _ _ _ _ _ (runT1 h heq)
      · trivial
  · split
    · exact ite_up (fun _ => h) (fun _ => trivial)
    · refine up_after ?_
      split
      · rename_i heq
        exact doReturn_up _ _ _ _ _ _ (runT1 h heq)
      · trivial
  · split
    · exact h
    · trivial
  · refine elim_up ?_ (fun _ => h)
    split
    · exact ite_up (fun _ => h) (fun _ => trivial)
    · refine up_after ?_
      split
      · rename_i heq
        exact doReturn_up _ _ _ _ _ _ (runT1 h heq)
      · trivial
  · refine elim_up ?_ (fun _ => h)
    split
    · exact ite_up (fun _ => h) (fun _ => trivial)
    · refine up_after ?_
      split
      · rename_i heq
        exact doReturn_up _ _ _ _ _ _ (runT1 h heq)
      · trivial
  · refine up_after ?_
    split
    · rename_i heq
      exact apply_up _ _ _ _ _ _ (runT1 h heq)
    · trivial
  · refine up_after ?_
    split
    · rename_i heq
      exact runT1 h heq
    · rename_i heq
      exact runT1 h heq
    · trivial
  · exact elim_up trivial (fun _ => apply_up _ _ _ _ _ _ h)
  · refine ite_up (fun _ => h) (fun _ => ?_)
    split
    · rename_i heq
      exact run_of h heq
    · trivial
  · exact ite_up (fun _ => oper_up _ _ _ _ _ h) (fun _ => h)
theorem stepG_up {n : Nat} (p : Program) (main : Bool) (g : Goroutine) {w : World} (listen : Bool) (h : n ≤ w.drawn) : up n (stepG p main g w listen) := by
  unfold stepG
  dsimp only
  split
  · exact die_up _ _ _ h
  · exact exec_up _ _ _ _ _ _ h
  · exact unwind_up _ _ _ _ _ h

/-! ### The machine -/
theorem look_up {n : Nat} (p : Program) (gs : Array Goroutine) (rest : Rest) {w : World} (hn : n ≤ w.drawn) : upS n (look p gs rest w) := by
  intro m' h
  unfold look at h
  simp only [] at h
  repeat' first
    | (simp at h; done)
    | (rename_i heq; simp only [Stepped.next.injEq] at h; subst h; exact run_of hn heq)
    | split at h
theorem waitingAt_up {rest : Rest} {cases : Array CommCase} {w w' : World} (h : waitingAt rest cases w = some w') : w'.drawn = w.drawn := by
  unfold waitingAt at h
  split at h
  · split at h
    · cases h
      rfl
    · cases h
  · cases h
    rfl
theorem communicate_up {n : Nat} (p : Program) (rest : Rest) (gs : Array Goroutine) (i : Nat) (g : Goroutine) (cases : Array CommCase) (blocking : Bool) (shape : CommShape) {w : World} (hn : n ≤ w.drawn) :
    upS n (communicate p rest gs i g cases blocking shape w).1 := by
  intro m' h
  unfold communicate at h
  simp only [] at h
  repeat' first
    | (simp at h; done)
    | (simp only [Stepped.next.injEq] at h; subst h; exact hn)
    | (rename_i heq; simp only [Stepped.next.injEq] at h; subst h; exact (waitingAt_up heq).symm ▸ hn)
    | (rename_i w1 hw _ _ _ w2 heq; simp only [Stepped.next.injEq] at h; subst h; exact run_of (run_of hn hw) heq)
    | (simp only [Stepped.next.injEq] at h; subst h; first | exact run_of hn (by assumption) | (have z := run_of hn (by assumption); exact z) | (have z := run_of (run_of hn (by assumption)) (by assumption); exact z))
    | split at h
theorem drain_up (w : World) (c : Nat) : (drain w c).2.drawn = w.drawn := by
  unfold drain
  split <;> rfl
theorem retime_up (m : Machine) (k : Nat) (t : Timer) (a b : Nat) : (retime m k t a b).2.world.drawn = m.world.drawn := by
  unfold retime
  dsimp only
  split
  · exact drain_up _ _
  · rfl
theorem named_up {m m' : Machine} {var : Addr} {f : Nat → Timer → Value × Machine} {v : Value} {d : Nat} (hf : ∀ k t, (f k t).2.world.drawn = d) (h : timerOp.named m var f = .ok (v, m')) : m'.world.drawn = d := by
  unfold timerOp.named at h
  split at h
  · rename_i k hk
    have hf' := hf k (m.rest.timers.getD k default)
    injection h with h
    rw [h] at hf'
    exact hf'
  · cases h
theorem opened_up {m m' : Machine} {var : Addr} (h : timerOp.opened m var = some m') : m'.world.drawn = m.world.drawn := by
  unfold timerOp.opened at h
  split at h
  · split at h
    · cases h
      rfl
    · cases h
  · cases h
    rfl
theorem timerOp_up {m m' : Machine} {op : TimerOp} {v : Value} (h : timerOp m op = .ok (v, m')) : m'.world.drawn = m.world.drawn := by
  unfold timerOp at h
  split at h
  · split at h
    · cases h
      rfl
    · split at h
      · split at h
        · cases h
        · cases h
          rfl
      · cases h
  · exact named_up (fun _ _ => retime_up _ _ _ _ _) h
  · split at h
    · rename_i heq
      exact named_up (fun _ _ => (retime_up _ _ _ _ _).trans (opened_up heq)) h
    · cases h
  · cases h
    rfl
theorem serve_up {n : Nat} (p : Program) (m : Machine) (k : Nat) (hn : n ≤ m.world.drawn) : upS n (serve p m k) := by
  intro m' h
  unfold serve at h
  simp only [] at h
  repeat' first
    | (simp at h; done)
    | (simp only [Stepped.next.injEq] at h; subst h; exact hn)
    | split at h
theorem throw_up {n : Nat} {fr : Frame} {msg : String} {w w' : World} {g : Goroutine} {es : Array Event} (hn : n ≤ w.drawn) (h : endThrow fr msg w = .go g w' es) : n ≤ w'.drawn := by
  have hd : up n (endThrow fr msg w) := hn
  rw [h] at hd
  exact hd
theorem runM_up {n : Nat} (p : Program) (m : Machine) (i : Nat) (b : Bool) (hn : n ≤ m.world.drawn) : upS n (runT p m i b).1 := by
  intro m' h
  simp only [runT] at h
  revert h
  generalize m.gs.swapAt! _ _ = gg
  have hs := stepG_up p (i == 0) gg.1 b hn
  generalize stepG p _ gg.1 m.world b = s at hs ⊢
  intro h
  cases s <;> simp only [] at h
  case go g w es =>
    simp only [Stepped.next.injEq] at h
    subst h
    exact hs
  case comm g cs bl sh w es => exact communicate_up _ _ _ _ _ _ _ _ hs _ h
  case spawn g c w es =>
    simp only [Stepped.next.injEq] at h
    subst h
    exact hs
  case count g w es =>
    split at h
    · simp at h
    · simp only [Stepped.next.injEq] at h
      subst h
      exact hs
  case timer g op w es =>
    split at h
    · rename_i heq
      simp only [Stepped.next.injEq] at h
      subst h
      exact (timerOp_up heq).symm ▸ hs
    · split at h
      · rename_i heq
        simp only [Stepped.next.injEq] at h
        subst h
        exact throw_up hs heq
      · simp at h
    · simp at h
    · simp at h
  case alone g on w es =>
    simp only [Stepped.next.injEq] at h
    subst h
    exact hs
  case newcoro g c d w es =>
    simp only [Stepped.next.injEq] at h
    subst h
    exact hs
  case coroswitch g c ex w es =>
    repeat' first
      | (simp at h; done)
      | (simp only [Stepped.next.injEq] at h; subst h; exact hs)
      | (rename_i heq; simp only [Stepped.next.injEq] at h; subst h; exact throw_up hs heq)
      | split at h
  case collect g w es => exact look_up _ _ _ hs _ h
  case watch g w es =>
    simp only [Stepped.next.injEq] at h
    subst h
    exact hs
  case ended o w es => simp at h
theorem advanceTo_up (m : Machine) (t : Nat) : (m.advanceTo t).world.drawn = m.world.drawn := rfl
/-- What the machine has chosen to do next. -/
def upM (n : Nat) : Move → Prop
  | .goroutine m _ => n ≤ m.world.drawn
  | .machine s _ => upS n s
theorem upS_ended (n : Nat) (o : Outcome) (w : World) (t : String) : upS n (.ended o w) := fun m' h => by cases h
theorem askOn_up {n : Nat} (p : Program) (m : Machine) (hn : n ≤ m.world.drawn) : upM n (askOn p m) := by
  have pick : ∀ m1 : Machine, n ≤ m1.world.drawn → upM n (match (choose (.sched (runnable m.gs m.world.os.mono).length)).run p m1.world with
      | .halt _ w => Move.machine (.ended (.stuck "sched" "") w)
      | .ok k world =>
        if (runnable m.gs m.world.os.mono).length ≤ 1 then .goroutine { m1 with world } ((runnable m.gs m.world.os.mono).getD k 0) else
        match (choose (.extern "sched.slice" 65536)).run p world with
        | .halt _ w => .machine (.ended (.stuck "sched.slice" "") w)
        | .ok n world => .goroutine { m1 with world, rest := { m1.rest with slice := if n = 0 then none else some ((runnable m.gs m.world.os.mono).getD k 0, n) } } ((runnable m.gs m.world.os.mono).getD k 0)) := by
    intro m1 h1
    split
    · intro m' h
      cases h
    · rename_i heq
      have h2 := run_of h1 heq
      split
      · exact h2
      · split
        · intro m' h
          cases h
        · rename_i heq2
          exact run_of h2 heq2
  unfold askOn
  dsimp only
  split
  · intro m' h
    cases h
  · rename_i heq
    have h1 := run_of hn heq
    dsimp only [rworld] at h1
    have next : ∀ (m1 : Machine), n ≤ m1.world.drawn → upS n (.next m1) := fun m1 h m' e => by
      cases e
      exact h
    split
    · exact serve_up _ _ _ h1
    · split
      · split
        · exact next _ h1
        · split
          · exact next _ h1
          · split
            · exact upS_ended _ _ _ ""
            · exact upS_ended _ _ _ ""
      · split
        · exact pick { m with world := _ } h1
        · split
          · exact upS_ended _ _ _ ""
          · rename_i heq2
            exact pick { m with world := _ } (run_of h1 heq2)
          · rename_i heq2
            exact next _ (run_of h1 heq2)
          · rename_i heq2
            exact pick (Machine.advanceTo { m with world := _ } _) (run_of h1 heq2)
theorem ask_up' {n : Nat} (p : Program) (m : Machine) (hn : n ≤ m.world.drawn) : upM n (ask p m) := by
  unfold ask
  split
  · split
    · exact upS_ended _ _ _ ""
    · rename_i heq
      have h1 := run_of hn heq
      split
      · rename_i heq2
        exact askOn_up p _ (look_up p m.gs m.rest h1 _ heq2)
      · rename_i e he
        intro m' h
        exact absurd h (he _)
    · rename_i heq
      exact askOn_up p _ (run_of hn heq)
  · exact askOn_up p m hn
theorem move_up {n : Nat} (p : Program) (m : Machine) (hn : n ≤ m.world.drawn) : upM n (move p m) := by
  unfold move
  split
  · split
    · exact hn
    · exact upS_ended _ _ _ ""
  · split
    · split
      · exact hn
      · exact ask_up' p _ hn
    · exact ask_up' p m hn
theorem step_up (p : Program) (m m' : Machine) (h : step p m = .next m') : m.world.drawn ≤ m'.world.drawn := by
  unfold step stepT at h
  have hm := move_up p m (Nat.le_refl m.world.drawn)
  generalize move p m = mv at h hm
  cases mv with
  | goroutine m1 i => exact runM_up p m1 i true hm m' h
  | machine s ops => exact hm m' h
theorem runN_up (p : Program) : ∀ (k : Nat) (m m' : Machine), runN p k m = .next m' → m.world.drawn ≤ m'.world.drawn
  | 0, m, m', h => by
    cases h
    exact Nat.le_refl _
  | k + 1, m, m', h => by
    unfold runN at h
    cases hs : step p m with
    | next m1 =>
      rw [hs] at h
      exact Nat.le_trans (step_up p m m1 hs) (runN_up p k m1 m' h)
    | ended o w =>
      rw [hs] at h
      cases h
theorem steps_up {p : Program} {m m' : Machine} (h : Steps p m m') : m.world.drawn ≤ m'.world.drawn := by
  obtain ⟨k, hk⟩ := h
  exact runN_up p k m m' hk
/-- **A call leaves no fewer draws behind it than there were.** -/
theorem calls_up {P : Program} {f : FuncId} {args : Array Value} {w : World} {R : Ending → World → Prop} (h : Calls P f args w R) (hR : ∀ w', ¬ R .outgrown w') : Calls P f args w fun e w' => R e w' ∧ w.drawn ≤ w'.drawn := by
  intro cs
  obtain ⟨e, w', fr, hr, hc, hf, hl⟩ := h cs
  refine ⟨e, w', fr, ⟨hr, ?_⟩, hc, hf, hl⟩
  cases e with
  | returned v => exact steps_up hc
  | panicked c => exact steps_up hc
  | outgrown => exact (hR w' hr).elim
end Go.Proofs.YtpkiiconadbmfaaDoor.Drawn
