/- A run draws on: the count of draws never falls. -/
import Derived.StepT
import Derived.Calls
import Derived.Test.YtdfieogkeinkmaaGreatDoorAmX
import Derived.Test.YtdfieogkeinkmaaGreatDoorAmZ
import Derived.Shelf.SlSortCmp.NoneTotal
set_option linter.unusedSimpArgs false
set_option linter.unusedVariables false
namespace Go.Proofs.Am
open Go

def rlow {α : Type} (d : Nat) : Result α → Prop
  | .ok _ w => d ≤ w.drawn
  | .halt _ w => d ≤ w.drawn

theorem ask_low {α : Type} {d : Nat} : ∀ (a : Ask α) (w : World), d ≤ w.drawn → d ≤ (w.ask a).2.drawn
  | .done a, w, h => h
  | .ask what range k, w, h => by
    simp only [World.ask]
    split
    · exact ask_low _ w h
    · exact ask_low _ _ (by simp only; omega)

theorem sys_low {d : Nat} (w : World) (c : Sys) (h : d ≤ w.drawn) : d ≤ (w.sys c).2.drawn := by
  unfold World.sys
  have := ask_low (Kernel.perform c w.os) w h
  split
  · exact h
  · rename_i r os w' _ he
    rw [he] at this
    exact this

theorem farStore_low {d : Nat} {p : Program} {w : World} {a : Addr} {v : Value} {b : Bool} {r : World × List Addr} (h : d ≤ w.drawn) (he : w.farStore p a v b = .ok r) : d ≤ r.1.drawn := by
  unfold World.farStore at he
  split at he
  · split at he
    · rename_i hv
      cases he
      unfold World.viewStore at hv
      simp only [bind, Except.bind, pure, Except.pure, throw, throwThe, MonadExceptOf.throw] at hv
      repeat' split at hv
      all_goals first
        | (cases hv; done)
        | (cases hv; exact h)
    · cases he
  · cases he

theorem run_low {p : Program} {d : Nat} {α : Type} (s : Sem α) : ∀ (w : World), d ≤ w.drawn → rlow d (s.run p w) := by
  induction s with
  | pure a => intro w h; exact h
  | load m a k ih =>
    intro w h
    simp only [Sem.run]
    split
    · exact ih _ w h
    · split
      · exact ih _ w h
      · exact h
  | store m a v k ih =>
    intro w h
    cases v <;> simp only [Sem.run] <;> first
      | exact h
      | (split
         · split
           · exact h
           · exact ih _ h
         · split
           · rename_i hs
             exact ih _ (farStore_low h hs)
           · exact h)
  | new o k ih => intro w h; exact ih _ _ h
  | shape r k ih => intro w h; exact ih _ _ h
  | freeze a n k ih =>
    intro w h
    refine ih _ ?_
    show d ≤ (w.freeze a n).drawn
    unfold World.freeze
    split <;> exact h
  | frozen a k ih => intro w h; exact ih _ _ h
  | getObj r k ih =>
    intro w h
    simp only [Sem.run]
    split
    · exact h
    · exact ih _ _ h
    · exact h
  | setObj r o k ih =>
    intro w h
    simp only [Sem.run]
    split
    · exact h
    · exact ih _ h
    · exact h
  | choose q k ih =>
    intro w h
    simp only [Sem.run]
    split
    · exact ih _ _ h
    · exact ih _ _ (by simp only; omega)
  | sys c k ih => intro w h; exact ih _ _ (sys_low w c h)
  | program k ih => intro w h; exact ih _ _ h
  | mark m k ih => intro w h; exact ih _ h
  | halt hh => intro w h; exact h

def glow (d : Nat) : GStep → Prop
  | .go _ w _ => d ≤ w.drawn
  | .comm _ _ _ _ w _ => d ≤ w.drawn
  | .spawn _ _ w _ => d ≤ w.drawn
  | .count _ w _ => d ≤ w.drawn
  | .timer _ _ w _ => d ≤ w.drawn
  | .alone _ _ w _ => d ≤ w.drawn
  | .newcoro _ _ _ w _ => d ≤ w.drawn
  | .coroswitch _ _ _ w _ => d ≤ w.drawn
  | .collect _ w _ => d ≤ w.drawn
  | .watch _ w _ => d ≤ w.drawn
  | .ended _ _ _ => True

theorem after_low {d : Nat} {es : Array Event} {g : GStep} (h : glow d g) : glow d (g.after es) := by cases g <;> exact h

theorem endThrow_low {d : Nat} {fr : Frame} {m : String} {w : World} (h : d ≤ w.drawn) : glow d (endThrow fr m w) := h
theorem endWith_low {d : Nat} {w : World} {fd : Nat} {t : ByteArray} {o : Outcome} : glow d (endWith w fd t o) := by
  unfold endWith
  simp only
  split
  · split <;> trivial
  · trivial
  · trivial
theorem endPrinting_low {d : Nat} {p : Program} {fr : Frame} {v : Value} {w : World} (h : d ≤ w.drawn) : glow d (endPrinting p fr v w) := by
  unfold endPrinting
  simp only
  split
  · exact h
  · trivial
theorem run_ok {d : Nat} {p : Program} {α : Type} {s : Sem α} {w w' : World} {a : α} (h : d ≤ w.drawn) (he : s.run p w = .ok a w') : d ≤ w'.drawn := by
  have := run_low (p := p) s w h
  rw [he] at this
  exact this
theorem run_halt {d : Nat} {p : Program} {α : Type} {s : Sem α} {w w' : World} {a : Halt} (h : d ≤ w.drawn) (he : s.run p w = .halt a w') : d ≤ w'.drawn := by
  have := run_low (p := p) s w h
  rw [he] at this
  exact this

theorem endFatal_low {d : Nat} {p : Program} {fr : Frame} {cs : List Frame} {dy : Option Dying} {m : String} {w : World} (h : d ≤ w.drawn) : glow d (endFatal p fr cs dy m w) := by
  unfold endFatal
  simp only
  split
  · rename_i he; exact run_ok h he
  · trivial
  · trivial

theorem writeOn_low {d : Nat} {p : Program} {fr : Frame} {dy : Dying} {f : Fatal} {w : World} (h : d ≤ w.drawn) : glow d (writeOn p fr dy f w) := by
  unfold writeOn
  simp only [Sem.runT_eq]
  split
  · trivial
  · split
    · rename_i he; exact run_ok h (Prod.mk.inj he).1
    · rename_i he; exact run_halt h (Prod.mk.inj he).1
    · trivial
    · trivial

theorem die_low {d : Nat} {p : Program} {fr : Frame} {dy : Dying} {w : World} (h : d ≤ w.drawn) : glow d (die p fr dy w) := by
  unfold die
  simp only [Sem.runT_eq]
  split
  · exact writeOn_low h
  · split
    · split
      · exact h
      · exact endWith_low
    · split
      · exact h
      · split
        · rename_i he; exact run_ok h he
        · trivial
      · refine after_low ?_
        split
        · rename_i he; exact run_ok h he
        · rename_i he; exact run_ok h he
        · trivial
        · rename_i he; exact endPrinting_low (run_halt h he)
        · trivial
      · trivial

theorem doReturn_low {d : Nat} {p : Program} {main : Bool} {fr : Frame} {cs : List Frame} {dy : Option Dying} {v : Value} {w : World} (h : d ≤ w.drawn) : glow d (doReturn p main fr cs dy v w) := by
  unfold doReturn
  split
  · split <;> exact h
  · split
    · exact h
    · trivial
    · split
      · exact h
      · split
        · exact h
        · trivial

theorem ite_low {d : Nat} {c : Prop} [Decidable c] {a b : GStep} (ha : glow d a) (hb : glow d b) : glow d (if c then a else b) := by
  split <;> assumption

theorem callDeferred_low {d : Nat} {p : Program} {fr : Frame} {cs : List Frame} {dy : Option Dying} {df : Deferred} {w : World} (h : d ≤ w.drawn) : glow d (callDeferred p fr cs dy df w) := by
  unfold callDeferred
  simp only [Sem.runT_eq]
  refine ite_low trivial (after_low ?_)
  · split
    all_goals first
      | trivial
      | (rename_i he; exact run_ok h he)
      | (rename_i he; exact run_halt h he)
      | (rename_i he; exact endFatal_low (run_halt h he))
      | (rename_i he; exact endThrow_low (run_halt h he))
      | (rename_i he; split <;> exact run_ok h he)
      | (rename_i he _; exact run_ok h he)
      | (rename_i he _ _; exact run_ok h he)

theorem unwind_low {d : Nat} {p : Program} {main : Bool} {fr : Frame} {cs : List Frame} {dy : Option Dying} {w : World} (h : d ≤ w.drawn) : glow d (unwind p main fr cs dy w) := by
  unfold unwind
  simp only [Sem.runT_eq]
  split
  · refine after_low ?_
    split
    · rename_i he; exact run_ok h he
    · trivial
  · exact callDeferred_low h
  · split
    · trivial
    · split
      · trivial
      · split
        · exact h
        · split
          · split
            · exact h
            · split
              · rename_i he; exact run_ok h he
              · trivial
              · trivial
          · split
            · exact endPrinting_low h
            · trivial
    · split
      · exact doReturn_low h
      · refine after_low ?_
        split
        · rename_i he; exact doReturn_low (run_ok h he)
        · trivial
        · trivial

theorem early_low {d : Nat} {p : Program} {fr : Frame} {cs : List Frame} {dy : Option Dying} {g : Nat} {w : World} (h : d ≤ w.drawn) : glow d (early p fr cs dy g w) := by
  have hn : ∀ w : World, d ≤ w.drawn → glow d (match w.heap[g]? with
    | some (.pending c elem) => GStep.go { frame := fr, callers := cs, status := .running, dying := dy } { w with heap := w.heap.setIfInBounds g (.cells c elem) }
    | _ => GStep.ended (.stuck "early: the variable does not wait" (fr.pos p)) w) := fun w h => by
    split
    · exact h
    · trivial
  unfold early
  simp only
  split
  · exact hn w h
  · split
    · trivial
    · split
      · exact hn w h
      · split
        · exact hn w h
        · split
          · trivial
          · exact h
          · trivial
          · exact hn w h
          · split
            · exact h
            · split
              · exact hn w h
              · split
                · rename_i he; exact hn _ (run_ok h he)
                · rename_i he; exact run_ok h he
                · trivial

theorem apply_low {d : Nat} {p : Program} {listen : Bool} {fr : Frame} {cs : List Frame} {dy : Option Dying} {s : Sem Next} {w : World} (h : d ≤ w.drawn) : glow d (stepG.apply p listen fr cs dy s w) := by
  unfold stepG.apply
  simp only [Sem.runT_eq]
  refine after_low ?_
  have e1 : (if listen = true then (Sem.run p s w, Sem.events p s w #[]) else (Sem.run p s w, #[])).1 = Sem.run p s w := by split <;> rfl
  rw [e1]
  split
  all_goals first
    | trivial
    | (rename_i he; exact run_ok h he)
    | (rename_i he; exact run_halt h he)
    | (rename_i he; exact endFatal_low (run_halt h he))
    | (rename_i he; exact endThrow_low (run_halt h he))
    | (rename_i he; exact early_low (run_halt h he))
    | (rename_i he; split <;> exact run_ok h he)
    | (rename_i he; exact ite_low (endThrow_low (run_ok h he)) (run_ok h he))

theorem oper_low {d : Nat} {p : Program} {listen : Bool} {fr : Frame} {cs : List Frame} {dy : Option Dying} {w : World} (h : d ≤ w.drawn) : glow d (stepG.oper p listen fr cs dy w) := by
  unfold stepG.oper
  split
  · trivial
  · split
    · exact apply_low h
    · exact apply_low h

theorem exec_low {d : Nat} {p : Program} {main listen : Bool} {fr : Frame} {cs : List Frame} {dy : Option Dying} {w : World} (h : d ≤ w.drawn) : glow d (stepG.exec p main listen fr cs dy w) := by
  have hleave : ∀ jump : Option Code, glow d (match fr.roundOf with
      | none => if (match jump with | none | some .ret => true | _ => false) = true then GStep.go { frame := { fr with mode := .returning }, callers := cs, status := .running, dying := dy } w else .ended (.stuck "exit, goto: no such block or label" (fr.pos p)) w
      | some l =>
        GStep.after (seen p fr.fn ((Instr.endRound l jump).events p w #[])) (match (Instr.endRound l jump).run p w with
        | .ok v w => doReturn p main fr cs dy v w
        | .halt _ w => .ended (.stuck "range over a function: no such loop" (fr.pos p)) w)) := fun jump => by
    split
    · exact ite_low h trivial
    · refine after_low ?_
      split
      · rename_i he; exact doReturn_low (run_ok h he)
      · trivial
  unfold stepG.exec
  simp only [Sem.runT_eq]
  split
  · exact hleave none
  · exact hleave (some .ret)
  · exact h
  · exact h
  · exact h
  · exact h
  · exact h
  · split
    · exact h
    · trivial
  · exact h
  · exact h
  · exact h
  · exact h
  · rename_i x id k _
    cases exitTo id k with
    | none => exact hleave (some (.exit id))
    | some k' => exact h
  · rename_i x l k _
    cases gotoIn l k with
    | none => exact hleave (some (.goto l))
    | some k' => exact h
  · refine after_low ?_
    split
    · rename_i he; exact apply_low (run_ok h he)
    · trivial
  · trivial
  · exact apply_low h
  · refine after_low ?_
    split
    · rename_i he; exact run_ok h he
    · rename_i he; exact run_halt h he
    · trivial
  · trivial
  · exact apply_low h
  · rename_i x row a args _
    cases Extern.next row with
    | none => trivial
    | some e => exact apply_low h
  · refine ite_low h ?_
    split
    · rename_i he; exact run_ok h he
    · trivial
  · exact h
  · exact ite_low (oper_low h) h

theorem stepG_low {d : Nat} {p : Program} {main listen : Bool} {g : Goroutine} {w : World} (h : d ≤ w.drawn) : glow d (stepG p main g w listen) := by
  unfold stepG
  simp only
  split
  · exact die_low h
  · exact exec_low h
  · exact unwind_low h

def slow (d : Nat) : Stepped → Prop
  | .next m => d ≤ m.world.drawn
  | _ => True

theorem slow_ite {d : Nat} {c : Prop} [Decidable c] {a b : Stepped} (ha : slow d a) (hb : slow d b) : slow d (if c then a else b) := by
  split <;> assumption

theorem communicate_low {d : Nat} {p : Program} {rest : Rest} {gs : Array Goroutine} {i : Nat} {g : Goroutine} {cases : Array CommCase} {bl : Bool} {sh : CommShape} {w : World}
    (h : d ≤ w.drawn) : slow d (communicate p rest gs i g cases bl sh w).1 := by
  unfold communicate
  simp only
  split
  · trivial
  · split
    · split
      · split
        · rename_i w' he
          unfold waitingAt at he
          split at he
          · split at he
            · cases he; exact h
            · cases he
          · cases he; exact h
        · trivial
      · exact h
    · split
      · trivial
      · rename_i k c way w' he
        have h' : d ≤ w'.drawn := run_ok h he
        split
        · split
          · rename_i hp; exact run_halt h' hp
          · trivial
        · exact h'
        · exact h'
        · split
          · exact h'
          · split
            · rename_i hb
              have hx := run_ok h' hb
              exact hx
            · trivial
        · exact h'
        · exact h'
        · trivial

theorem look_low {d : Nat} {p : Program} {gs : Array Goroutine} {rest : Rest} {w : World} (h : d ≤ w.drawn) : slow d (look p gs rest w) := by
  unfold look
  simp only
  split
  · split
    · trivial
    · split
      · trivial
      · split
        · rename_i he; have hx := run_ok h he; exact hx
        · trivial
        · trivial
  · trivial

theorem serve_low {d : Nat} {p : Program} {m : Machine} {k : Nat} (h : d ≤ m.world.drawn) : slow d (serve p m k) := by
  unfold serve
  split
  · trivial
  · exact h
  · simp only
    split
    · trivial
    · exact h

theorem drain_low {d : Nat} {w : World} {c : Nat} (h : d ≤ w.drawn) : d ≤ (drain w c).2.drawn := by
  unfold drain
  split <;> exact h

theorem retime_low {d : Nat} {m : Machine} {k : Nat} {t : Timer} {a b : Nat} (h : d ≤ m.world.drawn) : d ≤ (retime m k t a b).2.world.drawn := by
  unfold retime
  cases hc : t.chan with
  | none => exact h
  | some c => exact drain_low h

theorem timerOp_low {d : Nat} {m m' : Machine} {op : TimerOp} {v : Value} (h : d ≤ m.world.drawn) (he : timerOp m op = .ok (v, m')) : d ≤ m'.world.drawn := by
  have nm : ∀ (mm : Machine) (var : Addr) (f : Nat → Timer → Value × Machine), (∀ k t, d ≤ (f k t).2.world.drawn) → timerOp.named mm var f = .ok (v, m') → d ≤ m'.world.drawn := by
    intro mm var f hf he
    unfold timerOp.named at he
    split at he
    · have e := congrArg Prod.snd (Except.ok.inj he)
      have := hf (by assumption) (mm.rest.timers.getD (by assumption) default)
      rw [e] at this
      exact this
    · cases he
  unfold timerOp at he
  split at he
  · split at he
    · cases he; exact h
    · split at he
      · split at he
        · cases he
        · cases he; exact h
      · cases he
  · exact nm _ _ _ (fun k t => retime_low h) he
  · split at he
    · rename_i mm ho
      refine nm _ _ _ (fun k t => retime_low ?_) he
      unfold timerOp.opened at ho
      split at ho
      · split at ho
        · cases ho; exact h
        · cases ho
      · cases ho; exact h
    · cases he
  · cases he; exact h

theorem runT_low {d : Nat} {p : Program} {m : Machine} {i : Nat} {l : Bool} (h : d ≤ m.world.drawn) : slow d (runT p m i l).1 := by
  unfold runT
  simp only
  have hs : ∀ g, glow d (stepG p (i == 0) g m.world l) := fun g => stepG_low h
  generalize hg : m.gs.swapAt! i { (default : Goroutine) with status := .finished } = sw
  obtain ⟨g, gs⟩ := sw
  simp only
  have hg := hs g
  generalize stepG p (i == 0) g m.world l = s at hg
  cases s with
  | ended o w es => trivial
  | comm g cases bl sh w es => exact communicate_low hg
  | count g w es => exact slow_ite trivial hg
  | collect g w es => exact look_low hg
  | coroswitch g c ex w es =>
    simp only
    split
    · exact hg
    · split
      · rename_i hh; cases hh; exact hg
      · trivial
    · trivial
  | timer g op w es =>
    simp only
    split
    · rename_i he; have hx := timerOp_low (m := { world := w, gs, rest := m.rest }) hg he; exact hx
    · split
      · rename_i hh; cases hh; exact hg
      · trivial
    · trivial
    · trivial
  | _ => exact hg

def mlow (d : Nat) : Move → Prop
  | .goroutine m _ => d ≤ m.world.drawn
  | .machine s _ => slow d s

theorem askOn_low {d : Nat} {p : Program} {m : Machine} (h : d ≤ m.world.drawn) : mlow d (askOn p m) := by
  unfold askOn
  simp only
  have pk : ∀ (m' : Machine) (rs : List Nat), d ≤ m'.world.drawn → mlow d (match (choose (.sched rs.length)).run p m'.world with
      | .halt _ w => .machine (.ended (.stuck "sched" "") w)
      | .ok k world =>
        if rs.length ≤ 1 then .goroutine { m' with world } (rs.getD k 0) else
        match (choose (.extern "sched.slice" 65536)).run p world with
        | .halt _ w => .machine (.ended (.stuck "sched.slice" "") w)
        | .ok n world => .goroutine { m' with world, rest := { m'.rest with slice := if n = 0 then none else some (rs.getD k 0, n) } } (rs.getD k 0)) := by
    intro m' rs h'
    split
    · trivial
    · rename_i he
      split
      · exact run_ok h' he
      · split
        · trivial
        · rename_i he2; exact run_ok (run_ok h' he) he2
  split
  · trivial
  · rename_i k world he
    have h1 : d ≤ world.drawn := run_ok h he
    split
    · exact serve_low (m := { m with world }) h1
    · split
      · split
        · exact h1
        · split
          · exact h1
          · split
            · trivial
            · trivial
      · split
        · exact pk { m with world } _ h1
        · split
          · trivial
          · rename_i he2; exact pk { m with world := _ } _ (run_ok h1 he2)
          · rename_i he2; have hx := run_ok h1 he2; exact hx
          · rename_i he2; have hx := run_ok h1 he2; exact pk (({ m with world := _ } : Machine).advanceTo _) _ hx

theorem ask_low' {d : Nat} {p : Program} {m : Machine} (h : d ≤ m.world.drawn) : mlow d (ask p m) := by
  unfold ask
  split
  · split
    · trivial
    · rename_i he
      have h1 := run_ok h he
      have hl := look_low (p := p) (gs := m.gs) (rest := m.rest) h1
      split
      · rename_i hm; rw [hm] at hl; exact askOn_low hl
      · exact hl
    · rename_i he; exact askOn_low (m := { m with world := _ }) (run_ok h he)
  · exact askOn_low h

theorem move_low {d : Nat} {p : Program} {m : Machine} (h : d ≤ m.world.drawn) : mlow d (move p m) := by
  unfold move
  split
  · exact (by split <;> first | exact h | trivial)
  · split
    · split
      · exact h
      · exact ask_low' (m := { m with rest := _ }) h
    · exact ask_low' h

theorem step_low {d : Nat} {p : Program} {m : Machine} (h : d ≤ m.world.drawn) : slow d (step p m) := by
  unfold step stepT
  have hm := move_low (p := p) h
  generalize move p m = mv at hm
  cases mv with
  | goroutine m' i => exact runT_low hm
  | machine s ops => exact hm

theorem runN_low {d : Nat} {p : Program} : ∀ (n : Nat) {m m' : Machine}, d ≤ m.world.drawn → runN p n m = .next m' → d ≤ m'.world.drawn
  | 0, m, m', h, he => by cases he; exact h
  | n + 1, m, m', h, he => by
    simp only [runN] at he
    have hs := step_low (p := p) h
    generalize step p m = s at he hs
    cases s with
    | next m1 => exact runN_low n hs he
    | _ => cases he

theorem steps_low {p : Program} {m m' : Machine} (h : Steps p m m') : m.world.drawn ≤ m'.world.drawn := by
  obtain ⟨n, hn⟩ := h
  exact runN_low n (Nat.le_refl _) hn

theorem calls_low {P : Program} {k : FuncId} {as : Array Value} {w : World} {R : Ending → World → Prop} (h : Calls P k as w R) :
    Calls P k as w fun e w' => R e w' ∧ (e = .outgrown ∨ w.drawn ≤ w'.drawn) := by
  intro cs
  obtain ⟨e, w', fr, hr, hc, hf, hl⟩ := h cs
  refine ⟨e, w', fr, ⟨hr, ?_⟩, hc, hf, hl⟩
  cases e with
  | returned v => exact .inr (steps_low hc)
  | panicked c => exact .inr (steps_low hc)
  | outgrown => exact .inl rfl
end Go.Proofs.Am

/- slices.SortFunc at rows of cells, as a contract on abstract values. -/
namespace Go.Proofs.Am
open Go Go.RowKit Go.Sort
variable {P : Program}

theorem rp_one {pc : Addr → Value → Prop} {v : Value} {u : PV} (h : RP pc v u) (ho : oneP u = true) : v.oneCell' = true := by
  cases h <;> first | rfl | cases ho

/-- A row of cells, laid anew in its block. -/
theorem own_putK {w : World} {e K g n cap q : Nat} {ys : List Value} {zs : Array Value} {os : Array Obj} (h : w.ownsRow 0 e K (.slice (some ⟨g, 0, none⟩) n cap) n ys) (hz : zs.size = n * K) :
    (grow (putRow id (Sort.ahead w q) g 0 zs) os).ownsRow 0 e K (.slice (some ⟨g, 0, none⟩) n cap) n zs.toList := by
  refine own_grow ?_
  rcases h.2 with ⟨e0, _⟩ | ⟨g', cap', cur, e0, hb, hg, hn, hm, hs, ht⟩
  · cases e0
  · injection e0 with e1 _ e3
    injection e1 with e1
    injection e1 with e1
    subst e1; subst e3
    have hle : n * K ≤ cap * K := Nat.mul_le_mul_right K hn
    refine ⟨by simp [hz], .inr ⟨g, cap, putCells id 0 zs cur, rfl, hb, ?_, hn, hm, by simpa [putCells] using hs, ?_⟩⟩
    · simp [putRow, mapBlock, Sort.ahead, Array.getElem?_modify, hg, onCells]
    · apply List.ext_getElem?
      intro j
      rw [List.getElem?_take, Array.getElem?_toList, Array.getElem?_toList]
      by_cases hj : j < n * K
      · have hjc : j < cur.size := by omega
        simp only [if_pos hj, putCells, Array.getElem?_mapIdx, Array.getElem?_eq_getElem hjc, Option.map_some]
        rw [if_pos (by simp; omega), Array.getElem?_eq_getElem (by omega)]
        simp [getElem!_pos, show j < zs.size by omega]
      · rw [if_neg hj, Array.getElem?_eq_none (by omega)]

theorem heap_putK {w : World} {g q : Nat} {d : Array Value} {os : Array Obj} {b : Nat} (hb : b < w.heap.size) (hne : b ≠ g) : (grow (putRow id (Sort.ahead w q) g 0 d) os).heap[b]? = w.heap[b]? := by
  have h1 : (grow (putRow id (Sort.ahead w q) g 0 d) os).heap[b]? = (putRow id (Sort.ahead w q) g 0 d).heap[b]? := by
    simp only [grow]
    rw [Array.getElem?_append_left]
    simpa [putRow, mapBlock, Sort.ahead] using hb
  rw [h1]
  have : g ≠ b := fun h => hne h.symm
  simp [putRow, mapBlock, Sort.ahead, Array.getElem?_modify, this]

/-- A lent row that has been rewritten in place. -/
theorem putRows {w : World} {V : Addr → Prop} {hv : Nat → Value} {gc : Nat → Obj → Prop} {e K g cap q : Nat} {rows new : List (List PV)} {zs : Array Value} {os : Array Obj} (sh : Bool)
    (h : SimW (cx (P := P) w V hv [.arr e K false rows] gc) (stOf [] [.arr e K false rows]) hv w)
    (hg : hv 1000000 = .slice (some ⟨g, 0, none⟩) rows.length cap) (hn : new.length = rows.length) (hz : zs.size = new.length * K) (hK : ∀ x ∈ new, x.length = K) (h1 : ∀ x ∈ new, x.all oneP = true)
    (hbt : notByte P e = true) (hr : ∀ i x j u, new[i]? = some x → x[j]? = some u → RP (env (cx (P := P) w V hv [.arr e K false rows] gc) (stOf [] [.arr e K false rows]) hv w).pc (zs.toList.getD (i * K + j) Go.undef) u) :
    SimW (cx (P := P) w V hv [.arr e K false rows] gc) (stOf [] [.arr e K sh new]) hv (grow (putRow id (Sort.ahead w q) g 0 zs) os) := by
  have h0 : stOf [] [.arr e K false rows] 1000000 = some (.arr e K false rows) := rfl
  obtain ⟨hK0, ys, hown, _⟩ := h.box 1000000 _ h0
  have hown := hown.own (notByte_eq hbt)
  rw [← upd_stOf (.arr e K false rows)]
  refine (h.write (w' := grow (putRow id (Sort.ahead w q) g 0 zs) os) (n := 1000000) h0 (B' := .arr e K sh new) ?_ ?_ rfl rfl rfl ?_ ?_ ?_).1
  · exact ⟨_, rfl, by simp [hn], fun _ => rfl⟩
  · intro off hp; exact hp
  · simp [grow, putRow, mapBlock, Sort.ahead]
  · intro b hb hne
    rw [hg] at hne
    exact heap_putK hb fun e => hne (by rw [e]; rfl)
  · intro E hE
    rw [hg] at hown ⊢
    refine ⟨hK0, zs.toList, ?_, hK, h1, fun i x j u hx hu => (hr i x j u hx hu).mono hE.pc⟩
    rw [hn]
    exact .of (own_putK hown (by rw [hz, hn]))

/-- slices.SortFunc, its comparison a function that is lent nothing. -/
theorem den_sort {k e K g : Nat} {α : Type} {l new : List α} {F : α → List PV} {cf : α → α → Int}
    (henter : ∀ us w, (callFunc k us).run P w = .ok (.enter k us) w) (hll : l.length < 4611686018427387904)
    (hsort : ∀ (m : Nat) (enc : Fin (m + 1) → List Value) (hk : ∀ x, (enc x).length = K) (h1 : ∀ x, ∀ v ∈ enc x, v.oneCell' = true) (c : Fin (m + 1) → Fin (m + 1) → Int) (hO : SWO (ltOf c)) (b cap : Nat) (d : Array (Fin (m + 1))) (w : World)
      (hcmp : CmpLays P g #[] enc K c b 0 d.size w) (hH : HoldsK enc K w b 0 d) (hblk : b < w.heap.size) (hsz : d.size < 4611686018427387904),
      Calls P k #[.slice (some ⟨b, 0, none⟩) d.size cap, .func (.func g) #[] #[]] w fun e w' => e = .returned (.tuple #[]) ∧ ∃ d' n os, PermIn 0 d.size d d' ∧ SortedIn (ltOf c) 0 d.size d' ∧ w' = sortWorldK enc K w b 0 n d' os)
    (hnone : ∀ p cap fv w, Calls P k #[.slice p 0 cap, fv] w fun e w' => e = .returned (.tuple #[]) ∧ w' = w)
    (D : ∀ x ∈ l, ∀ y ∈ l, Den P g [.agg (F x), .agg (F y)] [] (.int .i64 (cf x y)) [] [])
    (hirr : ∀ x ∈ l, ¬ cf x x < 0) (htr : ∀ x ∈ l, ∀ y ∈ l, ∀ z ∈ l, cf x y < 0 → cf y z < 0 → cf x z < 0) (hnt : ∀ x ∈ l, ∀ y ∈ l, ∀ z ∈ l, ¬ cf x y < 0 → ¬ cf y z < 0 → ¬ cf x z < 0)
    (hanti : ∀ x ∈ l, ∀ y ∈ l, ¬ cf x y < 0 → ¬ cf y x < 0 → x = y) (hperm : new.Perm l) (hso : new.Pairwise fun x y => ¬ cf y x < 0) (hbt : notByte P e = true := by kernel_rfl) :
    Den P k [.os 1000000 l.length, .fn g []] [.arr e K false (l.map F)] (.tup []) [] [.arr e K false (new.map F)] := by
  refine ⟨henter, fun w V hv gc vals hS hlen hval => ?_⟩
  have h0 : stOf [] [.arr e K false (l.map F)] 1000000 = some (.arr e K false (l.map F)) := rfl
  obtain ⟨hK0, ys, hown, hsz, h1p, hcell⟩ := hS.box 1000000 _ h0
  have hown := hown.own (notByte_eq hbt)
  rw [List.length_map] at hown
  obtain ⟨v, v2, hv1⟩ : ∃ v v2, vals = [v, v2] := by
    match vals, hlen with
    | [v, v2], _ => exact ⟨v, v2, rfl⟩
  subst hv1
  have hr := hval 0 v (.os 1000000 l.length) rfl rfl
  have hf : v2 = .func (.func g) #[] #[] := by
    obtain ⟨vs, hvs, hl, _⟩ := (hval 1 v2 (.fn g []) rfl rfl).fn_inv
    have : vs = #[] := Array.eq_empty_of_size_eq_zero (by simpa using hl)
    rw [hvs, this]
  subst hf
  obtain ⟨⟨a, c, hva⟩, e1, sz1, sh1, xs1, k1, k2, k3⟩ := hr.os_arr h0
  rw [h0] at k1
  cases k1
  have hvv : v = hv 1000000 := k3 (by simp)
  rcases hown.2 with ⟨hn0, hl0⟩ | ⟨b, cap, cur, hg, _, hh, hc, hcap, hcs, hct⟩
  · have hl : l = [] := List.eq_nil_of_length_eq_zero (by omega)
    subst hl
    have hnew : new = [] := hperm.eq_nil
    subst hnew
    have hva' : v = .slice none 0 0 := by rw [hvv, hn0]
    have hcall := hnone none 0 (.func (.func g) #[] #[]) w
    rw [← hva'] at hcall
    refine hcall.mono fun en w' => ?_
    rintro ⟨rfl, rfl⟩
    exact ⟨_, hv, rfl, hS, .pure (.tup rfl fun i u hu => by simp at hu)⟩
  · have hlt := (Array.getElem?_eq_some_iff.1 hh).1
    rcases Nat.eq_zero_or_pos l.length with hl0 | hlp
    · have hl : l = [] := List.eq_nil_of_length_eq_zero hl0
      subst hl
      have hnew : new = [] := hperm.eq_nil
      subst hnew
      have hva' : v = .slice (some ⟨b, 0, none⟩) 0 cap := by rw [hvv, hg]; rfl
      have hcall := hnone (some ⟨b, 0, none⟩) cap (.func (.func g) #[] #[]) w
      rw [← hva'] at hcall
      refine hcall.mono fun en w' => ?_
      rintro ⟨rfl, rfl⟩
      exact ⟨_, hv, rfl, hS, .pure (.tup rfl fun i u hu => by simp at hu)⟩
    · obtain ⟨m, hm⟩ : ∃ m, l.length = m + 1 := ⟨l.length - 1, by omega⟩
      have hylen : ys.length = (m + 1) * K := by rw [← hm]; exact hown.1
      let enc : Fin (m + 1) → List Value := fun i => (List.range K).map fun j => ys.getD (i.1 * K + j) Go.undef
      let gt : Fin (m + 1) → α := fun i => l[i.1]'(by omega)
      let cc : Fin (m + 1) → Fin (m + 1) → Int := fun i j => cf (gt i) (gt j)
      have gtm : ∀ i, gt i ∈ l := fun i => List.getElem_mem _
      have hrow : ∀ i : Fin (m + 1), (l.map F)[i.1]? = some (F (gt i)) := fun i => by
        rw [List.getElem?_map, List.getElem?_eq_getElem (by omega)]; rfl
      have encl : ∀ x, (enc x).length = K := fun x => by simp [enc]
      have encg : ∀ (i : Fin (m + 1)) j, j < K → (enc i)[j]! = ys.getD (i.1 * K + j) Go.undef := fun i j hj => by simp [enc, hj]
      have hFl : ∀ i, (F (gt i)).length = K := fun i => hsz _ (List.mem_of_getElem? (hrow i))
      have encr : ∀ (i : Fin (m + 1)) j u, (F (gt i))[j]? = some u → RP (env (cx (P := P) w V hv [.arr e K false (l.map F)] gc) (stOf [] [.arr e K false (l.map F)]) hv w).pc (ys.getD (i.1 * K + j) Go.undef) u := fun i j u hu => hcell i.1 _ j u (hrow i) hu
      have enc1 : ∀ x, ∀ v ∈ enc x, v.oneCell' = true := fun x v hvm => by
        obtain ⟨j, hj, rfl⟩ := List.mem_map.1 hvm
        have hj' : j < (F (gt x)).length := by rw [hFl]; exact List.mem_range.1 hj
        refine rp_one (encr x j _ (List.getElem?_eq_getElem hj')) ?_
        exact List.all_eq_true.1 (h1p _ (List.mem_of_getElem? (hrow x))) _ (List.getElem_mem _)
      let d : Array (Fin (m + 1)) := (List.finRange (m + 1)).toArray
      have ds : d.size = m + 1 := by simp [d]
      have dg : ∀ t, t < (m + 1) * K → (d[t / K]!).1 = t / K := fun t ht => by
        have : t / K < m + 1 := (Nat.div_lt_iff_lt_mul hK0).2 ht
        have hds : t / K < d.size := by omega
        rw [getElem!_pos d _ hds]
        simp [d]
      have hH : HoldsK enc K w b 0 d := by
        intro t ht
        rw [size_flatK, ds] at ht
        have hmod : t % K < K := Nat.mod_lt _ hK0
        have hdm : t / K * K + t % K = t := by rw [Nat.mul_comm]; exact Nat.div_add_mod t K
        rw [get_flatK _ _ _ _ (by rw [ds]; exact ht), encg _ _ hmod, dg t ht, hdm]
        have htc : t < cur.size := by
          have := Nat.mul_le_mul_right K hc
          rw [hm] at this
          omega
        have e2 : (cur.toList.take (l.length * K))[t]? = ys[t]? := by rw [hct]
        rw [List.getElem?_take, if_pos (by rw [hm]; exact ht), Array.getElem?_toList] at e2
        refine ⟨?_, by simp [World.frozen?, hh]⟩
        simp only [World.cell?, hh, Nat.zero_add, Option.isSome_none, Bool.false_eq_true, if_false, id]
        rw [e2, List.getD_eq_getElem?_getD, List.getElem?_eq_getElem (by omega), Option.getD_some]
      have hO : SWO (ltOf cc) := by
        refine ⟨fun x => ?_, fun x y z h1 h2 => ?_, fun x y z h1 h2 => ?_⟩
        · simp only [ltOf, decide_eq_false_iff_not]; exact hirr _ (gtm x)
        · simp only [ltOf, decide_eq_true_eq] at h1 h2 ⊢; exact htr _ (gtm x) _ (gtm y) _ (gtm z) h1 h2
        · simp only [ltOf, decide_eq_false_iff_not] at h1 h2 ⊢; exact hnt _ (gtm x) _ (gtm y) _ (gtm z) h1 h2
      have hE : ∀ bb, (cx (P := P) w V hv [.arr e K false (l.map F)] gc).E bb → bb = b := by
        rintro bb ⟨n, B, hB, hb⟩
        have : n = 1000000 := by
          unfold stOf at hB
          by_cases h1 : n < 1000000
          · simp [h1] at hB
          · simp only [if_neg h1] at hB
            cases hk : n - 1000000 with
            | zero => omega
            | succ q => rw [hk] at hB; simp at hB
        subst this
        rw [hg] at hb
        cases hb
        rfl
      have hEb : (cx (P := P) w V hv [.arr e K false (l.map F)] gc).E b := ⟨1000000, _, h0, by rw [hg]; rfl⟩
      have hcmp : CmpLays P g #[] enc K cc b 0 d.size w := by
        intro q os dk hdk x y
        have hL : Laid P (sortWorldK enc K w b 0 q dk os) := hS.tabs _ fun bb o hb => by
          have hb1 := hS.glb bb o hb
          have hlt2 : bb < w.heap.size := (Array.getElem?_eq_some_iff.1 hb1.1).1
          unfold sortWorldK putRowK
          rw [heap_putK hlt2 (fun e => hb1.2 (by rw [e]; exact hEb))]
          exact hb1.1
        have hxy := D _ (gtm x) _ (gtm y)
        have hag : ∀ i : Fin (m + 1), RP (fun a z => (sortWorldK enc K w b 0 q dk os).cell? a = some z ∧ True) (.agg (enc i).toArray) (.agg (F (gt i))) := fun i => by
          refine .agg (by simp [encl, hFl]) fun j u hu => ?_
          have hj : j < K := by
            have := (List.getElem?_eq_some_iff.1 hu).1
            rw [hFl] at this
            exact this
          have e3 : (enc i).toArray.getD j Go.undef = ys.getD (i.1 * K + j) Go.undef := by
            simp [Array.getD, enc, hj]
          rw [e3]
          refine RP.mono (fun a z ha => ⟨?_, trivial⟩) (encr i j u hu)
          have hne : a.block ≠ b := fun e => ha.2.2 1000000 _ h0 (by rw [hg, e]; rfl)
          have hlt2 := block_lt_of_cell ha.1
          refine (World.cell?_of_block ?_).trans ha.1
          unfold sortWorldK putRowK
          exact heap_putK hlt2 hne
        have hcall := den_calls hxy (sortWorldK enc K w b 0 q dk os) hL (fun _ => True) [.agg (enc x).toArray, .agg (enc y).toArray] rfl (by
          intro i v u hi hu
          match i with
          | 0 => cases hi; cases hu; exact hag x
          | 1 => cases hi; cases hu; exact hag y
          | i + 2 => simp at hi)
        refine (calls_low hcall).mono fun en w' => ?_
        rintro ⟨⟨v, rfl, hgr, E, hrv, _⟩, hlow⟩
        have hd : (sortWorldK enc K w b 0 q dk os).drawn ≤ w'.drawn := by
          rcases hlow with h | h
          · cases h
          · exact h
        refine ⟨by rw [hrv.int_inv], w'.drawn - (sortWorldK enc K w b 0 q dk os).drawn, w'.heap.extract (sortWorldK enc K w b 0 q dk os).heap.size w'.heap.size, ?_⟩
        generalize sortWorldK enc K w b 0 q dk os = W at hgr hd
        have e4 : w'.heap = W.heap ++ w'.heap.extract W.heap.size w'.heap.size := by
          apply Array.ext_getElem?
          intro t
          by_cases ht : t < W.heap.size
          · rw [Array.getElem?_append_left ht]
            exact hgr.block t ht (by simp)
          · rw [Array.getElem?_append_right (by omega)]
            by_cases ht2 : t < w'.heap.size
            · rw [Array.getElem?_eq_getElem ht2, Array.getElem?_eq_getElem (by simp; omega)]
              simp only [Array.getElem_extract]
              congr 2
              omega
            · rw [Array.getElem?_eq_none (by omega), Array.getElem?_eq_none (by simp; omega)]
        cases w' with
        | mk hp tp dr ox ou =>
          obtain ⟨h1, h2, h3, h4, h5⟩ := hgr
          simp only at h1 h2 h3 e4 hd
          simp only [grow, World.drewN]
          rw [← h1, ← h2, ← h3, ← e4]
          congr 1
          omega
      have hbig : d.size < 4611686018427387904 := by
        rw [ds, ← hm]
        exact hll
      have hcall := hsort m enc encl enc1 cc hO b cap d w hcmp hH hlt hbig
      have hv3 : v = .slice (some ⟨b, 0, none⟩) d.size cap := by rw [hvv, hg, ds, hm]
      rw [← hv3] at hcall
      refine hcall.mono fun en w' => ?_
      rintro ⟨rfl, d', q, os, hpi, hsi, rfl⟩
      have hp' : d'.toList.Perm (List.finRange (m + 1)) := by
        have h2 := hpi.2.2
        have e5 : d'.extract 0 d.size = d' := by rw [← hpi.1]; exact Array.extract_size
        rw [e5, Array.extract_size] at h2
        simpa [d] using h2
      have hfin : (List.finRange (m + 1)).map gt = l := by
        apply List.ext_getElem (by simp [hm])
        intro i h1 h2
        simp [gt]
      have hpl : (d'.toList.map gt).Perm l := by
        have := hp'.map gt
        rwa [hfin] at this
      have hsl : (d'.toList.map gt).Pairwise fun x y => ¬ cf y x < 0 := by
        rw [List.pairwise_map, List.pairwise_iff_getElem]
        intro i j hi hj hij
        have hi' : i < d'.size := by simpa using hi
        have hj' : j < d'.size := by simpa using hj
        have := hsi i j (Nat.zero_le _) hij (by rw [← hpi.1]; exact hj')
        rw [getElem!_pos d' j hj', getElem!_pos d' i hi'] at this
        simpa [ltOf, cc] using this
      have hnew : d'.toList.map gt = new := by
        refine List.Perm.eq_of_pairwise (le := fun x y => ¬ cf y x < 0) (fun x y hx hy h1 h2 => ?_) hsl hso (hpl.trans hperm.symm)
        have hx' : x ∈ l := hpl.mem_iff.1 hx
        have hy' : y ∈ l := hperm.mem_iff.1 hy
        exact hanti x hx' y hy' h2 h1
      have hds' : d'.size = m + 1 := hpi.1.trans ds
      have hnl : new.length = l.length := hperm.length_eq
      have hni : ∀ i x, (new.map F)[i]? = some x → ∃ hi : i < d'.size, x = F (gt (d'[i]'hi)) := fun i x hx => by
        rw [List.getElem?_map, ← hnew, List.getElem?_map, Array.getElem?_toList] at hx
        rcases Nat.lt_or_ge i d'.size with hi | hi
        · rw [Array.getElem?_eq_getElem hi] at hx
          exact ⟨hi, by simpa using hx.symm⟩
        · rw [Array.getElem?_eq_none hi] at hx; simp at hx
      refine ⟨_, hv, rfl, ?_, .pure (.tup rfl fun i u hu => by simp at hu)⟩
      refine putRows false hS (by rw [hg, List.length_map]) (by simp [hnl]) (by rw [size_flatK, hds', List.length_map, hnl, hm]) (fun x hx => ?_) (fun x hx => ?_) hbt fun i x j u hx hu => ?_
      · obtain ⟨i, hi⟩ := List.mem_iff_getElem?.1 hx
        obtain ⟨h1, rfl⟩ := hni i x hi
        exact hFl _
      · obtain ⟨i, hi⟩ := List.mem_iff_getElem?.1 hx
        obtain ⟨h1, rfl⟩ := hni i x hi
        exact h1p _ (List.mem_of_getElem? (hrow _))
      · obtain ⟨hi, rfl⟩ := hni i x hx
        have hj : j < K := by
          have := (List.getElem?_eq_some_iff.1 hu).1
          rw [hFl] at this
          exact this
        have ht : i * K + j < d'.size * K := by
          have := Nat.mul_le_mul_right K (show i + 1 ≤ d'.size from hi)
          rw [Nat.add_mul, Nat.one_mul] at this
          omega
        have q1 : (i * K + j) / K = i := by rw [Nat.mul_comm, Nat.mul_add_div hK0, Nat.div_eq_of_lt hj, Nat.add_zero]
        have q2 : (i * K + j) % K = j := by rw [Nat.mul_comm, Nat.mul_add_mod, Nat.mod_eq_of_lt hj]
        have e6 : (flatK enc K d').toList.getD (i * K + j) Go.undef = ys.getD ((d'[i]'hi).1 * K + j) Go.undef := by
          have := get_flatK enc K d' (i * K + j) ht
          rw [q1, q2, getElem!_pos d' i hi, encg _ _ hj, getElem!_pos _ _ (by rw [size_flatK]; exact ht)] at this
          rw [List.getD_eq_getElem?_getD, Array.getElem?_toList, Array.getElem?_eq_getElem (by rw [size_flatK]; exact ht), Option.getD_some, this]
        rw [e6]
        exact encr _ j u hu
end Go.Proofs.Am
