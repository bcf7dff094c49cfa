/- Part 28 of the proof: Update, Init. -/
import Derived.Test.YtadaiihoclknmaaGreatC27
/- Write: Update, where nobody else publishes meanwhile. -/
namespace Go.Proofs.YtadaiihoclknmaaGreat
open Go.RowKit
set_option maxHeartbeats 4000000
set_option maxRecDepth 100000
set_option linter.unusedVariables false
set_option linter.unusedSimpArgs false
def wUpdL (F : Nat) (g : Ground) (l : List Entry) (jump : Int) : Nat → Prog (Int × List Part × Int)
  | 0 => .stuck
  | _ + 1 => do
    let x ← wSettled g.reg.top F
    if x.2.2 = 0 then
      if wrap64 (wrap64 (x.2.1.version + 1) + jump) > g.conf.top then return (0, [], 4)
      else do
        let ps ← wParts F g.first F l []
        if ps.2 = 0 then
          if ps.1.length ≤ 1048576 then do
            let y ← wLay (wrap64 (wrap64 (x.2.1.version + 1) + jump)) ps.1 []
            if y.2 = 0 then
              if y.1.length ≤ 1048576 then do
                let c ← wCommit g.reg.top x.1 (wrap64 (wrap64 (x.2.1.version + 1) + jump)) x.2.1.version y.1
                if c.1 = true then return (wrap64 (wrap64 (x.2.1.version + 1) + jump), ps.1, c.2) else .stuck
              else .stuck
            else return (0, [], y.2)
          else .stuck
        else return (0, [], ps.2)
    else return (0, [], x.2.2)
theorem wUpdL_succ (F : Nat) (g : Ground) (l : List Entry) (jump : Int) (f : Nat) : wUpdL F g l jump (f + 1) = (do
    let x ← wSettled g.reg.top F
    if x.2.2 = 0 then
      if wrap64 (wrap64 (x.2.1.version + 1) + jump) > g.conf.top then return (0, [], 4)
      else do
        let ps ← wParts F g.first F l []
        if ps.2 = 0 then
          if ps.1.length ≤ 1048576 then do
            let y ← wLay (wrap64 (wrap64 (x.2.1.version + 1) + jump)) ps.1 []
            if y.2 = 0 then
              if y.1.length ≤ 1048576 then do
                let c ← wCommit g.reg.top x.1 (wrap64 (wrap64 (x.2.1.version + 1) + jump)) x.2.1.version y.1
                if c.1 = true then return (wrap64 (wrap64 (x.2.1.version + 1) + jump), ps.1, c.2) else .stuck
              else .stuck
            else return (0, [], y.2)
          else .stuck
        else return (0, [], ps.2)
    else return (0, [], x.2.2)) := rfl
def wUpdate (F : Nat) (g : Ground) (l : List Entry) (b : Bool) (jump : Int) (F' : Nat) : Prog (Int × List Part × Int) :=
  if wIn jump 0 1073741824 = true then
    if b = true then wUpdL F g l jump F' else return (0, [], 1)
  else return (0, [], 10)
def UpdE (J : IHeap) (v : Value) (a : Int × List Part × Int) : Prop := ∃ x, v = .tuple #[.int .i64 a.1, x, .int .i64 a.2.2] ∧ Parts J x a.2.1
theorem Parts.nil (J : IHeap) : Parts J (.slice none 0 0) [] := ⟨[], rfl, Row.nil _ _ _, fun _ h => by cases h⟩
theorem write_Update (w : World) (L : Loc) (I : IHeap) (s : PS) (hst : St w L I s) (F F' : Nat) (g : Ground) (gv : Value) (hg : GroundV I gv g) (l : List Entry) (lv : Value) (hl : Entries I lv l) (hb : l.length ≤ 1) (b : Bool) (hsb : ∀ s, SortOf l s → eRising l s = b) (jump : Int) (hn : ((wUpdate F g l b jump F').exec s).1.ok) :
    Calls Tryz.prog 29 #[.pointer (some ⟨L.p, 0, none⟩), gv, lv, .int .i64 jump] w (Post L w I ((wUpdate F g l b jump F').exec s) UpdE) := by
  have B0 := Lib.hid (Bag.start hst)
  have HN := Lib.hid hn
  obtain ⟨R0, hR0⟩ : ∃ R0, R0 = (wUpdate F g l b jump F').exec s := ⟨_, rfl⟩
  have X0 := Ex.mk hR0
  rw [← hR0] at HN ⊢
  have HL := Lib.hid hl
  have HBT := fun w => Lib.hid (write_between jump 0 1073741824 w)
  have HRS := fun w hI => Lib.hid (write_rising w I hI l lv hl hb)
  have HSB := Lib.hid hsb
  obtain ⟨ga, gc, gb, gd, rfl, hg1, hg2⟩ := hg
  have HG := Lib.hid (show ∀ J, ILe I J → GroundV J (.agg #[.int .i64 g.first, .int .i64 g.reg.top, .slice ga g.reg.slots.length gc, .slice gb g.reg.snaps.length gd, .int .i64 g.conf.cells, .int .i64 g.conf.clients, .int .i64 g.conf.snaps, .int .i64 g.conf.levels, .int .i64 g.conf.low, .int .i64 g.conf.high, .int .i64 g.conf.top]) g from fun J h => ⟨_, _, _, _, rfl, hg1.mono h, hg2.mono h⟩)
  obtain ⟨la, lc, rfl, _, _, _⟩ := hl.form
  clear hst hn hR0 hl hsb hg1 hg2
  change ∀ w, Hid (Calls Tryz.prog 100 #[.int .i64 jump, .int .i64 0, .int .i64 1073741824] w fun e w' => e = .returned (.bool (wIn jump 0 1073741824)) ∧ w = w') at HBT
  unfold wUpdate at X0
  cases hin : wIn jump 0 1073741824 with
  | false =>
    rw [hin] at HBT X0
    have X1 := Ex.mk (x_else X0.out (by decide))
    go_enter Tryz.func29, Tryz.ntmps29
    go_wp2_with (go_at_call 100; refine (HBT _).out.mono ?_; rintro e W1 ⟨rfl, rfl⟩)
    go_ret3
    rw [x_done X1.out]
    exact Mg.post (J := I) (by repeat (first | with_reducible exact B0.out.m | with_reducible refine Mg.drewN ?_ _ | with_reducible refine Mg.drew ?_ | with_reducible refine Mg.alloc ?_ _ | refine Mg.seto ?_ (by repeat (first | with_reducible refine OwnOk.set ?_ _ _ | with_reducible refine OwnOk.alloc ?_ _ | with_reducible refine OwnOk.drew ?_ | with_reducible refine OwnOk.drewN ?_ _)) _)) ⟨_, rfl, Parts.nil _⟩
  | true =>
  rw [hin] at HBT X0
  have X1 := Ex.mk (x_if X0.out rfl)
  clear X0 hin
  cases b with
  | false =>
    have X2 := Ex.mk (x_else X1.out (by decide))
    go_enter Tryz.func29, Tryz.ntmps29
    go_wp2_with (first
      | (go_at_call 100; refine (HBT _).out.mono ?_; rintro e W1 ⟨rfl, rfl⟩)
      | (go_at_call 101; refine (HRS _ (B0.out.alloc _).m.st.held).out.mono ?_; rintro e W2 ⟨J2, v2, rfl, hP, s2, hs2, rfl⟩; rw [HSB.out s2 hs2]; have B2 := Lib.hid ((B0.out.alloc _).pure hP); clear hP))
    go_ret3
    rw [x_done X2.out]
    exact Mg.post (J := J2) (by repeat (first | with_reducible exact B2.out.m | with_reducible refine Mg.drewN ?_ _ | with_reducible refine Mg.drew ?_ | with_reducible refine Mg.alloc ?_ _ | refine Mg.seto ?_ (by repeat (first | with_reducible refine OwnOk.set ?_ _ _ | with_reducible refine OwnOk.alloc ?_ _ | with_reducible refine OwnOk.drew ?_ | with_reducible refine OwnOk.drewN ?_ _)) _)) ⟨_, rfl, Parts.nil _⟩
  | true =>
  have X2 := Ex.mk (x_if X1.out rfl)
  clear X1
  go_enter Tryz.func29, Tryz.ntmps29
  have B1 := Lib.hid (B0.out.fresh #[.int .i64 g.first, .int .i64 g.reg.top, .slice ga g.reg.slots.length gc, .slice gb g.reg.snaps.length gd, .int .i64 g.conf.cells, .int .i64 g.conf.clients, .int .i64 g.conf.snaps, .int .i64 g.conf.levels, .int .i64 g.conf.low, .int .i64 g.conf.high, .int .i64 g.conf.top] 29 rfl)
  go_wp2_with (first
      | (go_at_call 100; refine (HBT _).out.mono ?_; rintro e W1 ⟨rfl, rfl⟩)
      | (go_at_call 101; refine (HRS _ B1.out.m.st.held).out.mono ?_; rintro e W2 ⟨J2, v2, rfl, hP, s2, hs2, rfl⟩; rw [HSB.out s2 hs2]; have B2 := Lib.hid (B1.out.pure hP); have HJ2 := Lib.hid hP.grow.le; clear hP))
  clear B0 B1 HBT HRS HSB hs2
  generalize w.heap.size = bg at *
  go_loopg [] F' (fun m W => ∃ (J : IHeap) (s' : PS), Hid (ILe I J) ∧ Hid (Bag w L I J s' W [.blk bg #[.int .i64 g.first, .int .i64 g.reg.top, .slice ga g.reg.slots.length gc, .slice gb g.reg.snaps.length gd, .int .i64 g.conf.cells, .int .i64 g.conf.clients, .int .i64 g.conf.snaps, .int .i64 g.conf.levels, .int .i64 g.conf.low, .int .i64 g.conf.high, .int .i64 g.conf.top] 29]) ∧ Ex R0 ((wUpdL F g l jump m).exec s'))
  case atStart => exact ⟨J2, s, HJ2, B2, X2⟩
  case round =>
  clear B2 X2 HJ2
  obtain ⟨J0, s0, HJ, B0, X0⟩ := hrel
  cases gk with
  | zero => exact (show R0.1.ok → False by rw [X0.out]; exact id) HN.out |>.elim
  | succ m =>
  rw [wUpdL_succ] at X0
  have gat := B0.out.o0.at_
  have g0 := cell_blk gat 0
  have g1 := cell_blk gat 1
  have g2 := cell_blk gat 2
  have g3 := cell_blk gat 3
  have g4 := cell_blk gat 4
  have g5 := cell_blk gat 5
  have g6 := cell_blk gat 6
  have g7 := cell_blk gat 7
  have g8 := cell_blk gat 8
  have g9 := cell_blk gat 9
  have g10 := cell_blk gat 10
  have gf0 := free_blk gat 0
  have gf1 := free_blk gat 1
  have gf2 := free_blk gat 2
  have gf3 := free_blk gat 3
  have gf4 := free_blk gat 4
  have gf5 := free_blk gat 5
  have gf6 := free_blk gat 6
  have gf7 := free_blk gat 7
  have gf8 := free_blk gat 8
  have gf9 := free_blk gat 9
  have gf10 := free_blk gat 10
  have gs := lt_of_block gat
  clear gat
  go_wp2_with fail
  refine (write_Settled _ L _ _ (B0.out).m.st g _ (HG.out _ HJ.out) F (ok_of HN.out X0.out)).mono ?_
  intro e W1 hP
  rcases (B0.out).call hP with ⟨⟨h1, d, e1⟩, s1, J1, v1, hr, rfl, ⟨x, rfl, hx⟩, hg, hB⟩ | ⟨s', J', hr, rfl, hM⟩
  rotate_left
  · exact post_panic rfl (by rw [x_paused X0.out hr]; exact hM.paused)
  have B1 := Lib.hid hB
  have G1 := Lib.hid hg
  have X1 := Ex.mk (x_ret X0.out hr)
  clear hP hr hg hB
  obtain ⟨A, cap, rfl, _⟩ := hx.form
  have HJ1 := Lib.hid (HJ.out.trans G1.out.le)
  clear hx B0 HJ G1 g0 g1 g2 g3 g4 g5 g6 g7 g8 g9 g10 gf0 gf1 gf2 gf3 gf4 gf5 gf6 gf7 gf8 gf9 gf10 gs
  dsimp only at X1 ⊢
  by_cases he : e1 = 0
  rotate_left
  · have t1 := ne_true he
    have X2 := Ex.mk (x_else X1.out he)
    clear he
    go_wp2
    go_ret3
    rw [x_done X2.out]
    exact Mg.post (J := J1) (by repeat (first | with_reducible exact B1.out.m | with_reducible refine Mg.drewN ?_ _ | with_reducible refine Mg.drew ?_ | with_reducible refine Mg.alloc ?_ _ | refine Mg.seto ?_ (by repeat (first | with_reducible refine OwnOk.set ?_ _ _ | with_reducible refine OwnOk.alloc ?_ _ | with_reducible refine OwnOk.drew ?_ | with_reducible refine OwnOk.drewN ?_ _)) _)) ⟨_, rfl, Parts.nil _⟩
  subst he
  have X2 := Ex.mk (x_if X1.out rfl)
  have gat := B1.out.o0.at_
  have g0 := cell_blk gat 0
  have g1 := cell_blk gat 1
  have g2 := cell_blk gat 2
  have g3 := cell_blk gat 3
  have g4 := cell_blk gat 4
  have g5 := cell_blk gat 5
  have g6 := cell_blk gat 6
  have g7 := cell_blk gat 7
  have g8 := cell_blk gat 8
  have g9 := cell_blk gat 9
  have g10 := cell_blk gat 10
  have gf0 := free_blk gat 0
  have gf1 := free_blk gat 1
  have gf2 := free_blk gat 2
  have gf3 := free_blk gat 3
  have gf4 := free_blk gat 4
  have gf5 := free_blk gat 5
  have gf6 := free_blk gat 6
  have gf7 := free_blk gat 7
  have gf8 := free_blk gat 8
  have gf9 := free_blk gat 9
  have gf10 := free_blk gat 10
  have gs := lt_of_block gat
  clear gat
  clear X1
  obtain ⟨ver, hver⟩ : ∃ ver, ver = wrap64 (wrap64 (d.version + 1) + jump) := ⟨_, rfl⟩
  rw [← hver] at X2
  by_cases hgt : ver > g.conf.top
  · have X3 := Ex.mk (x_if X2.out hgt)
    have hd1 : decide (wrap64 (wrap64 (d.version + 1) + jump) > g.conf.top) = true := decide_eq_true (by rw [← hver]; exact hgt)
    clear X2 hgt hver
    go_wp2
    go_ret3
    rw [x_done X3.out]
    exact Mg.post (J := J1) (by repeat (first | with_reducible exact B1.out.m | with_reducible refine Mg.drewN ?_ _ | with_reducible refine Mg.drew ?_ | with_reducible refine Mg.alloc ?_ _ | refine Mg.seto ?_ (by repeat (first | with_reducible refine OwnOk.set ?_ _ _ | with_reducible refine OwnOk.alloc ?_ _ | with_reducible refine OwnOk.drew ?_ | with_reducible refine OwnOk.drewN ?_ _)) _)) ⟨_, rfl, Parts.nil _⟩
  have X3 := Ex.mk (x_else X2.out hgt)
  have hd1 : decide (wrap64 (wrap64 (d.version + 1) + jump) > g.conf.top) = false := decide_eq_false (by rw [← hver]; exact hgt)
  clear X2 hgt
  go_wp2_with fail
  simp only [← hver]
  clear hd1 hver
  have B2 := Lib.hid (B1.out.fresh #[.int .i64 d.version, .int .i64 d.before, .int .i64 d.status, .slice A d.swaps.length cap] 46 rfl)
  clear B1 g0 g1 g2 g3 g4 g5 g6 g7 g8 g9 g10 gf0 gf1 gf2 gf3 gf4 gf5 gf6 gf7 gf8 gf9 gf10 gs
  generalize W1.heap.size = bd at *
  generalize W1.alloc (.cells #[.int .i64 d.version, .int .i64 d.before, .int .i64 d.status, .slice A d.swaps.length cap] 46) = W2 at *
  refine (write_Parts _ L _ _ (B2.out).m.st F F g.first l _ (HL.out.mono HJ1.out) (by omega) (ok_of HN.out X3.out)).mono ?_
  intro e W4 hP
  rcases (B2.out).call hP with ⟨⟨ps, e4⟩, s4, J4, v4, hr, rfl, ⟨px, rfl, hps⟩, hg, hB⟩ | ⟨s', J', hr, rfl, hM⟩
  rotate_left
  · exact post_panic rfl (by rw [x_paused X3.out hr]; exact hM.paused)
  have B4 := Lib.hid hB
  have G4 := Lib.hid hg
  have X4 := Ex.mk (x_ret X3.out hr)
  clear hP hr hg hB
  have HJ4 := Lib.hid (HJ1.out.trans G4.out.le)
  obtain ⟨pcs, hpm, hpr, hpo⟩ := hps
  dsimp only at X4 hpm hpr ⊢
  subst hpm
  obtain ⟨pa, pc, rfl, _, _, _⟩ := hpr.form
  have HPR := Lib.hid hpr
  have HPO := Lib.hid hpo
  clear B2 HJ1 G4 hpr hpo X3
  by_cases he : e4 = 0
  rotate_left
  · have t1 := ne_true he
    have X5 := Ex.mk (x_else X4.out he)
    clear he
    go_wp2
    go_ret3
    rw [x_done X5.out]
    exact Mg.post (J := J4) (by repeat (first | with_reducible exact B4.out.m | with_reducible refine Mg.drewN ?_ _ | with_reducible refine Mg.drew ?_ | with_reducible refine Mg.alloc ?_ _ | refine Mg.seto ?_ (by repeat (first | with_reducible refine OwnOk.set ?_ _ _ | with_reducible refine OwnOk.alloc ?_ _ | with_reducible refine OwnOk.drew ?_ | with_reducible refine OwnOk.drewN ?_ _)) _)) ⟨_, rfl, Parts.nil _⟩
  subst he
  have X5 := Ex.mk (x_if X4.out rfl)
  by_cases hpl : (pcs.map PartC.p).length ≤ 1048576
  rotate_left
  · exact (stuck_not HN.out (x_else X5.out hpl)).elim
  have X6 := Ex.mk (x_if X5.out hpl)
  rw [List.length_map] at hpl
  clear X4 X5
  go_wp2_with fail
  refine (write_lay _ L _ _ (B4.out).m.st ver pcs _ HPR.out HPO.out hpl (ok_of HN.out X6.out)).mono ?_
  intro e W7 hP
  rcases (B4.out).call hP with ⟨⟨sw, e7⟩, s7, J7, v7, hr, rfl, ⟨sx, ua, un, uc, rfl, hsw⟩, hg, hB⟩ | ⟨s', J', hr, rfl, hM⟩
  rotate_left
  · exact post_panic rfl (by rw [x_paused X6.out hr]; exact hM.paused)
  have B7 := Lib.hid hB
  have G7 := Lib.hid hg
  have X7 := Ex.mk (x_ret X6.out hr)
  clear hP hr hg hB
  have HJ7 := Lib.hid (HJ4.out.trans G7.out.le)
  have HPR7 := Lib.hid (HPR.out.mono G7.out.le)
  have HPO7 := Lib.hid (HPO.out.mono G7.out.le)
  obtain ⟨sa, sc, rfl, _, _, _⟩ := hsw.form
  have HSW := Lib.hid hsw
  dsimp only at X7 HSW ⊢
  clear B4 HJ4 G7 HPR HPO hsw X6
  by_cases he : e7 = 0
  rotate_left
  · have t1 := ne_true he
    have X8 := Ex.mk (x_else X7.out he)
    clear he
    go_wp2
    go_ret3
    rw [x_done X8.out]
    exact Mg.post (J := J7) (by repeat (first | with_reducible exact B7.out.m | with_reducible refine Mg.drewN ?_ _ | with_reducible refine Mg.drew ?_ | with_reducible refine Mg.alloc ?_ _ | refine Mg.seto ?_ (by repeat (first | with_reducible refine OwnOk.set ?_ _ _ | with_reducible refine OwnOk.alloc ?_ _ | with_reducible refine OwnOk.drew ?_ | with_reducible refine OwnOk.drewN ?_ _)) _)) ⟨_, rfl, Parts.nil _⟩
  subst he
  have X8 := Ex.mk (x_if X7.out rfl)
  by_cases hsl : sw.length ≤ 1048576
  rotate_left
  · exact (stuck_not HN.out (x_else X8.out hsl)).elim
  have X9 := Ex.mk (x_if X8.out hsl)
  clear X7 X8
  have dat := B7.out.o0.at_
  have d0 := cell_blk dat 0
  have df0 := free_blk dat 0
  have ds := lt_of_block dat
  clear dat
  have gat := B7.out.o1.at_
  have g0 := cell_blk gat 0
  have g1 := cell_blk gat 1
  have g2 := cell_blk gat 2
  have g3 := cell_blk gat 3
  have g4 := cell_blk gat 4
  have g5 := cell_blk gat 5
  have g6 := cell_blk gat 6
  have g7 := cell_blk gat 7
  have g8 := cell_blk gat 8
  have g9 := cell_blk gat 9
  have g10 := cell_blk gat 10
  have gf0 := free_blk gat 0
  have gf1 := free_blk gat 1
  have gf2 := free_blk gat 2
  have gf3 := free_blk gat 3
  have gf4 := free_blk gat 4
  have gf5 := free_blk gat 5
  have gf6 := free_blk gat 6
  have gf7 := free_blk gat 7
  have gf8 := free_blk gat 8
  have gf9 := free_blk gat 9
  have gf10 := free_blk gat 10
  have gs := lt_of_block gat
  clear gat
  go_wp2_with fail
  refine (write_Commit _ L _ _ (B7.out).m.st g _ (HG.out _ HJ7.out) h1 ver d.version sw _ HSW.out (by omega) (ok_of HN.out X9.out)).mono ?_
  intro e W10 hP
  rcases (B7.out).call hP with ⟨⟨ok, e10⟩, s10, J10, v10, hr, rfl, rfl, hg, hB⟩ | ⟨s', J', hr, rfl, hM⟩
  rotate_left
  · exact post_panic rfl (by rw [x_paused X9.out hr]; exact hM.paused)
  have B10 := Lib.hid hB
  have G10 := Lib.hid hg
  have X10 := Ex.mk (x_ret X9.out hr)
  clear hP hr hg hB
  have HPR10 := Lib.hid (HPR7.out.mono G10.out.le)
  have HPO10 := Lib.hid (HPO7.out.mono G10.out.le)
  clear B7 HJ7 G10 HPR7 HPO7 HSW X9 d0 df0 ds g0 g1 g2 g3 g4 g5 g6 g7 g8 g9 g10 gf0 gf1 gf2 gf3 gf4 gf5 gf6 gf7 gf8 gf9 gf10 gs
  dsimp only at X10 ⊢
  cases ok with
  | false => exact (stuck_not HN.out (x_else X10.out (by decide))).elim
  | true =>
    have X11 := Ex.mk (x_if X10.out rfl)
    go_wp2
    try go_region
    all_goals
      try go_wp2
      try go_ret3
      rw [x_done X11.out]
      exact Mg.post (J := J10) (by repeat (first | with_reducible exact B10.out.m | with_reducible refine Mg.drewN ?_ _ | with_reducible refine Mg.drew ?_ | with_reducible refine Mg.alloc ?_ _ | refine Mg.seto ?_ (by repeat (first | with_reducible refine OwnOk.set ?_ _ _ | with_reducible refine OwnOk.alloc ?_ _ | with_reducible refine OwnOk.drew ?_ | with_reducible refine OwnOk.drewN ?_ _)) _)) ⟨_, rfl, pcs, rfl, HPR10.out, HPO10.out⟩
end Go.Proofs.YtadaiihoclknmaaGreat
/- Write: Init, where there is room. -/
namespace Go.Proofs.YtadaiihoclknmaaGreat
open Go.RowKit
set_option maxHeartbeats 4000000
set_option maxRecDepth 100000
set_option linter.unusedVariables false
set_option linter.unusedSimpArgs false
def Ground.none : Ground := ⟨0, Reg.none, ⟨0, 0, 0, 0, 0, 0, 0⟩⟩
/-- A ground, where nothing fails. -/
def wInit (c : Conf) : Prog (Ground × Int) :=
  if wGood c = true then do
    let t ← dInit
    if t.2 = 0 then do
      let r ← rInit t.1 c.clients c.snaps
      if r.2 = 0 then do
        let a ← nLay (rNew 0 0 kWhole []).1 0
        if a.2 = 0 then do
          let f ← nMake ⟨#[]⟩ a.1 (List.replicate c.levels.toNat 0)
          if f.2 = 0 then return (⟨f.1, r.1, c⟩, 0) else .stuck
        else .stuck
      else .stuck
    else .stuck
  else return (Ground.none, 10)
theorem made1 (n : Nat) : (madeCells (Value.int .i64 0).cells (n * 1)).toList = List.replicate n (.int .i64 0) := by
  rw [Nat.mul_one]
  refine List.ext_getElem (by simp [size_madeCells]) (fun i h1 h2 => ?_)
  simp [madeCells, Value.cells, Nat.mod_one]
theorem rep_int (n : Nat) : (List.replicate n (0 : Int)).flatMap encInt = List.replicate n (.int .i64 0) := by
  induction n with
  | zero => rfl
  | succ n ih => rw [List.replicate_succ, List.flatMap_cons, ih, List.replicate_succ]; rfl
def GndE (J : IHeap) (v : Value) (a : Ground × Int) : Prop := ∃ x, v = .tuple #[x, .int .i64 a.2] ∧ GroundV J x a.1
theorem write_Init (w : World) (L : Loc) (I : IHeap) (s : PS) (hst : St w L I s) (c : Conf) (hn : ((wInit c).exec s).1.ok) :
    Calls Tryz.prog 50 #[.pointer (some ⟨L.p, 0, none⟩), confV c] w (Post L w I ((wInit c).exec s) GndE) := by
  have B0 := Lib.hid (Bag.start hst)
  have HN := Lib.hid hn
  obtain ⟨R0, hR0⟩ : ∃ R0, R0 = (wInit c).exec s := ⟨_, rfl⟩
  have X0 := Ex.mk hR0
  rw [← hR0] at HN ⊢
  have HGD := fun w => Lib.hid (write_Good c w)
  clear hst hn hR0
  unfold confV at HGD ⊢
  unfold wInit at X0
  have B1 := Lib.hid (((B0.out.fresh #[.pointer (some ⟨L.p, 0, none⟩)] 39 rfl).freshAt (w.heap.size + 1) (by simp) #[.int .i64 c.cells, .int .i64 c.clients, .int .i64 c.snaps, .int .i64 c.levels, .int .i64 c.low, .int .i64 c.high, .int .i64 c.top] 27 rfl).freshAt (w.heap.size + 1 + 1) (by simp) #[.int .i64 0, .int .i64 0, .slice none 0 0, .slice none 0 0, .int .i64 0, .int .i64 0, .int .i64 0, .int .i64 0, .int .i64 0, .int .i64 0, .int .i64 0] 29 rfl)
  cases hgd : wGood c with
  | false =>
    rw [hgd] at HGD X0
    have X1 := Ex.mk (x_else X0.out (by decide))
    go_enter Tryz.func50, Tryz.ntmps50
    go_wp2_with (go_at_call 48; refine (HGD _).out.mono ?_; rintro e W1 ⟨rfl, hk⟩; have B2 := Lib.hid (B1.out.new hk); clear hk
                 have gat := B2.out.o0.at_
                 have g0 := cell_blk gat 0
                 have g1 := cell_blk gat 1
                 have g2 := cell_blk gat 2
                 have g3 := cell_blk gat 3
                 have g4 := cell_blk gat 4
                 have g5 := cell_blk gat 5
                 have g6 := cell_blk gat 6
                 have g7 := cell_blk gat 7
                 have g8 := cell_blk gat 8
                 have g9 := cell_blk gat 9
                 have g10 := cell_blk gat 10
                 have gf0 := free_blk gat 0
                 have gf1 := free_blk gat 1
                 have gf2 := free_blk gat 2
                 have gf3 := free_blk gat 3
                 have gf4 := free_blk gat 4
                 have gf5 := free_blk gat 5
                 have gf6 := free_blk gat 6
                 have gf7 := free_blk gat 7
                 have gf8 := free_blk gat 8
                 have gf9 := free_blk gat 9
                 have gf10 := free_blk gat 10
                 have gs := lt_of_block gat
                 clear gat
                 skip)
    go_wp2
    refine bodyPost_ret (v := .tuple #[.agg #[.int .i64 0, .int .i64 0, .slice none 0 0, .slice none 0 0, .int .i64 0, .int .i64 0, .int .i64 0, .int .i64 0, .int .i64 0, .int .i64 0, .int .i64 0], .int .i64 10]) (by simp [results, Tryz.results50, go_sem, g0, g1, g2, g3, g4, g5, g6, g7, g8, g9, g10, gs]) rfl ?_
    rw [x_done X1.out]
    exact Mg.post (J := I) (by repeat (first | with_reducible exact B2.out.m | with_reducible refine Mg.drewN ?_ _ | with_reducible refine Mg.drew ?_ | with_reducible refine Mg.alloc ?_ _ | refine Mg.seto ?_ (by repeat (first | with_reducible exact B2.out.o0.ok | with_reducible refine OwnOk.set ?_ _ _ | with_reducible refine OwnOk.alloc ?_ _ | with_reducible refine OwnOk.drew ?_ | with_reducible refine OwnOk.drewN ?_ _)) _)) ⟨_, rfl, _, _, _, _, rfl, Row.nil _ _ _, Row.nil _ _ _⟩
  | true =>
    have hlev : ∃ n : Nat, c.levels = n ∧ n ≤ 24 := by
      unfold wGood wIn at hgd
      simp only [Bool.and_eq_true, decide_eq_true_eq] at hgd
      exact ⟨c.levels.toNat, by omega, by omega⟩
    rw [hgd] at HGD X0
    have X1 := Ex.mk (x_if X0.out rfl)
    obtain ⟨n, hn, hn2⟩ := hlev
    rw [hn] at B1 ⊢
    rw [hn, Int.toNat_natCast] at X1
    simp only [hn] at HGD
    have HNL := Lib.hid hn
    clear hn
    go_enter Tryz.func50, Tryz.ntmps50
    go_wp2_with (go_at_call 48; refine (HGD _).out.mono ?_; rintro e W1 ⟨rfl, hk⟩; have B2 := Lib.hid (B1.out.new hk); clear hk
                 have cat := B2.out.o1.at_
                 have c0 := cell_blk cat 0
                 have c1 := cell_blk cat 1
                 have c2 := cell_blk cat 2
                 have c3 := cell_blk cat 3
                 have c4 := cell_blk cat 4
                 have c5 := cell_blk cat 5
                 have c6 := cell_blk cat 6
                 have cf0 := free_blk cat 0
                 have cf1 := free_blk cat 1
                 have cf2 := free_blk cat 2
                 have cf3 := free_blk cat 3
                 have cf4 := free_blk cat 4
                 have cf5 := free_blk cat 5
                 have cf6 := free_blk cat 6
                 have cs := lt_of_block cat
                 clear cat
                 have pat := B2.out.o2.at_
                 have p0 := cell_blk pat 0
                 have pf0 := free_blk pat 0
                 have ps := lt_of_block pat
                 clear pat
                 skip)
    have B3 := Lib.hid (B2.out.fresh #[.slice none 0 0] 173 rfl)
    clear B0 B1 B2 HGD hgd X0 c0 c1 c2 c3 c4 c5 c6 cf0 cf1 cf2 cf3 cf4 cf5 cf6 cs p0 pf0 ps
    generalize W1.heap.size = bu at *
    generalize W1.alloc (.cells #[.slice none 0 0] 173) = W3 at *
    generalize w.heap.size + 1 + 1 = bg at *
    generalize w.heap.size + 1 = bc at *
    generalize w.heap.size = bp at *
    refine (desc_Init _ L _ _ (B3.out).m.st  (ok_of HN.out X1.out)).mono ?_
    intro e W4 hP
    rcases (B3.out).call hP with ⟨⟨top, e4⟩, s4, J4, v4, hr, rfl, rfl, hg, hB⟩ | ⟨s', J', hr, rfl, hM⟩
    rotate_left
    · exact post_panic rfl (by rw [x_paused X1.out hr]; exact hM.paused)
    have B4 := Lib.hid hB
    have G4 := Lib.hid hg
    have X4 := Ex.mk (x_ret X1.out hr)
    clear hP hr hg hB
    clear B3 G4 X1
    by_cases he : e4 = 0
    rotate_left
    · exact (stuck_not HN.out (x_else X4.out he)).elim
    subst he
    have X5 := Ex.mk (x_if X4.out rfl)
    clear X4
    have uat := B4.out.o0.at_
    have u0 := cell_blk uat 0
    have uf0 := free_blk uat 0
    have us := lt_of_block uat
    clear uat
    have B5 := Lib.hid ((B4.out.row0 (E := 1) 1 rfl).fresh #[.int .i64 top] 3 rfl)
    go_wp2_with (at_builtin; refine wp_app_fn rfl _ _ rfl (.slice none 0 0) [] ⟨115, #[.pointer (some ⟨bp, 0, none⟩), .pointer (some ⟨W4.heap.size, 0, none⟩)]⟩ _ _ _ _ _ rfl rfl (alloc_at (by simp)) rfl (OR.alloc B5.out.r1 _) (B5.out.m.alloc _) (by simp) ?_)
    intro v6 W6 hO hM hg
    have B6 := Lib.hid ((B5.out.alloc _).up1.app (by simp [It.other]) hM hO hg)
    obtain ⟨ua, un, uc, rfl⟩ := B6.out.r0.slice
    clear hO hM hg B5 B4 u0 uf0 us
    generalize W4.heap.size = bt at *
    have uat := B6.out.o2.at_
    have u0 := cell_blk uat 0
    have uf0 := free_blk uat 0
    have us := lt_of_block uat
    clear uat
    have tat := B6.out.o1.at_
    have t0 := cell_blk tat 0
    have tf0 := free_blk tat 0
    have ts := lt_of_block tat
    clear tat
    have cat := B6.out.o4.at_
    have c1 := cell_blk cat 1
    have c2 := cell_blk cat 2
    have cf1 := free_blk cat 1
    have cf2 := free_blk cat 2
    have cs := lt_of_block cat
    clear cat
    have pat := B6.out.o5.at_
    have p0 := cell_blk pat 0
    have pf0 := free_blk pat 0
    have ps := lt_of_block pat
    clear pat
    have n1 := B6.out.o2.ne_ty B6.out.o1 (by decide)
    have n2 := B6.out.o2.ne_ty B6.out.o4 (by decide)
    have n3 := B6.out.o2.ne_ty B6.out.o5 (by decide)
    have B7 := Lib.hid (B6.out.up2.setT (by simp [It.other]) 0 (.slice ua un uc))
    go_wp2_with fail
    clear B6 u0 uf0 us t0 tf0 ts c1 c2 cf1 cf2 cs p0 pf0 ps n1 n2 n3
    refine (reg_Init _ L _ _ (B7.out).m.st top c.clients c.snaps (ok_of HN.out X5.out)).mono ?_
    intro e W8 hP
    rcases (B7.out).call hP with ⟨⟨r, e8⟩, s8, J8, v8, hr, rfl, ⟨rx, rfl, hrx⟩, hg, hB⟩ | ⟨s', J', hr, rfl, hM⟩
    rotate_left
    · exact post_panic rfl (by rw [x_paused X5.out hr]; exact hM.paused)
    have B8 := Lib.hid hB
    have G8 := Lib.hid hg
    have X8 := Ex.mk (x_ret X5.out hr)
    clear hP hr hg hB
    obtain ⟨ra, rc, rb, rd, rfl, hr1, hr2, _, _⟩ := hrx.form
    have HR1 := Lib.hid hr1
    have HR2 := Lib.hid hr2
    clear B7 G8 X5 hrx hr1 hr2
    dsimp only at X8 HR1 HR2 ⊢
    by_cases he : e8 = 0
    rotate_left
    · exact (stuck_not HN.out (x_else X8.out he)).elim
    subst he
    have X9 := Ex.mk (x_if X8.out rfl)
    clear X8
    have uat := B8.out.o0.at_
    have u0 := cell_blk uat 0
    have uf0 := free_blk uat 0
    have us := lt_of_block uat
    clear uat
    have B9 := Lib.hid (B8.out.fresh #[.int .i64 r.top, .slice ra r.slots.length rc, .slice rb r.snaps.length rd] 25 rfl)
    go_wp2_with (at_builtin; refine wp_app_fn rfl _ _ rfl _ _ ⟨118, #[.pointer (some ⟨W8.heap.size, 0, none⟩), .pointer (some ⟨bp, 0, none⟩)]⟩ _ _ _ _ _ rfl rfl (alloc_at (by simp)) rfl (OR.alloc B9.out.r2 _) (B9.out.m.alloc _) (by simp) ?_)
    intro v10 W10 hO hM hg
    have B10 := Lib.hid ((B9.out.alloc _).up2.app (by simp [It.other]) hM hO hg)
    obtain ⟨ub, un2, uc2, rfl⟩ := B10.out.r0.slice
    clear hO hM hg B9 B8 u0 uf0 us
    generalize W8.heap.size = br at *
    have uat := B10.out.o2.at_
    have u0 := cell_blk uat 0
    have uf0 := free_blk uat 0
    have us := lt_of_block uat
    clear uat
    have B11 := Lib.hid (B10.out.up2.setT (by simp [It.other]) 0 (.slice ub un2 uc2))
    have HK := fun w => Lib.hid (key_Whole w)
    have hrn : (rNew 0 0 kWhole []).2 = 0 := rfl
    have HRN := fun w J hJ => Lib.hid (rev_New w J hJ 0 0 kWhole [] (.slice none 0 0) (Row.nil _ _ _) (by simp) (by simp))
    generalize rNew 0 0 kWhole [] = rn at *
    obtain ⟨rn, re⟩ := rn
    dsimp only at hrn X9
    subst hrn
    unfold spanV kWhole at HRN HK
    go_wp2_with fail
    refine (HK _).out.mono ?_
    rintro e W12 ⟨rfl, hk⟩
    have B12 := Lib.hid (B11.out.new hk)
    clear hk B11 B10 HK u0 uf0 us
    go_wp2_with fail
    refine (HRN _ _ B12.out.m.st.held).out.mono ?_
    rintro e W13 ⟨J13, _, rfl, hP, xv, rfl, hV⟩
    obtain ⟨ka, kc, va, vc, ga, gc, ta, tc, rfl, _⟩ := hV.form
    have B13 := Lib.hid (B12.out.pure hP)
    have HR1b := Lib.hid (HR1.out.mono hP.grow.le)
    have HR2b := Lib.hid (HR2.out.mono hP.grow.le)
    have HV := Lib.hid hV
    clear hP hV B12 HR1 HR2 HRN
    dsimp only at HV ⊢
    have pat := B13.out.o6.at_
    have p0 := cell_blk pat 0
    have pf0 := free_blk pat 0
    have ps := lt_of_block pat
    clear pat
    go_wp2_with fail
    have B14 := Lib.hid (B13.out.fresh #[.int .i64 rn.version, .int .i64 rn.rate, .string rn.span.lo, .string rn.span.hi, .bool rn.span.all, .bool rn.dead, .slice ka rn.keys.length kc, .slice va rn.vals.length vc, .slice ga rn.gone.length gc, .slice ta rn.table.length tc] 92 rfl)
    clear B13 p0 pf0 ps
    generalize W13.heap.size = bn at *
    generalize W13.alloc (.cells #[.int .i64 rn.version, .int .i64 rn.rate, .string rn.span.lo, .string rn.span.hi, .bool rn.span.all, .bool rn.dead, .slice ka rn.keys.length kc, .slice va rn.vals.length vc, .slice ga rn.gone.length gc, .slice ta rn.table.length tc] 92) = W14 at *
    refine (node_Lay _ L _ _ (B14.out).m.st rn _ HV.out 0 (ok_of HN.out X9.out)).mono ?_
    intro e W15 hP
    rcases (B14.out).call hP with ⟨⟨a, e15⟩, s15, J15, v15, hr, rfl, rfl, hg, hB⟩ | ⟨s', J', hr, rfl, hM⟩
    rotate_left
    · exact post_panic rfl (by rw [x_paused X9.out hr]; exact hM.paused)
    have B15 := Lib.hid hB
    have G15 := Lib.hid hg
    have X15 := Ex.mk (x_ret X9.out hr)
    clear hP hr hg hB
    have HR1c := Lib.hid (HR1b.out.mono G15.out.le)
    have HR2c := Lib.hid (HR2b.out.mono G15.out.le)
    clear B14 HR1b HR2b HV G15 X9
    by_cases he : e15 = 0
    rotate_left
    · exact (stuck_not HN.out (x_else X15.out he)).elim
    subst he
    have X16 := Ex.mk (x_if X15.out rfl)
    clear X15
    have uat := B15.out.o1.at_
    have u0 := cell_blk uat 0
    have uf0 := free_blk uat 0
    have us := lt_of_block uat
    clear uat
    have B16 := Lib.hid (B15.out.fresh #[.int .i64 a] 3 rfl)
    go_wp2_with (at_builtin; refine wp_app_fn rfl _ _ rfl _ _ ⟨121, #[.pointer (some ⟨bp, 0, none⟩), .pointer (some ⟨W15.heap.size, 0, none⟩)]⟩ _ _ _ _ _ rfl rfl (alloc_at (by simp)) rfl (OR.alloc B16.out.r3 _) (B16.out.m.alloc _) (by simp) ?_)
    intro v17 W17 hO hM hg
    have B17 := Lib.hid ((B16.out.alloc _).up3.app (by simp [It.other]) hM hO hg)
    obtain ⟨uc, un3, uc3, rfl⟩ := B17.out.r0.slice
    clear hO hM hg B16 B15 u0 uf0 us
    generalize W15.heap.size = ba at *
    have uat := B17.out.o3.at_
    have u0 := cell_blk uat 0
    have uf0 := free_blk uat 0
    have us := lt_of_block uat
    clear uat
    have B18 := Lib.hid (B17.out.up3.setT (by simp [It.other]) 0 (.slice uc un3 uc3))
    clear B17
    go_wp2_with fail
    have B19 := Lib.hid B18.out.drew
    refine wp_region_held_drew (S := fun W' => W'.cell? ⟨bp, 0, none⟩ = some (.pointer (some ⟨L.p, 0, none⟩)) ∧ W'.cell? ⟨ba, 0, none⟩ = some (.int .i64 a) ∧ W'.cell? ⟨bc, 3, none⟩ = some (.int .i64 n)) (by kernel_rfl) ⟨cell_blk B19.out.o8.at_ 0, cell_blk B19.out.o2.at_ 0, cell_blk B19.out.o7.at_ 3⟩ (fun hS0 => ?_)
    clear B18 u0 uf0 us
    generalize (W17.setCell ⟨bu, 0, none⟩ (.slice uc un3 uc3)).drew = W19 at *
    obtain ⟨i0, hi, hz0, hz1, hz2⟩ := info_parts info_int
    obtain ⟨W20, hmk, hown, hg⟩ := run_make_full (P := Tryz.prog) W19 W19.heap.size 23 3 i0 (.int .i64 0) 1 Tryz.underlying23 hi hz0 hz1 .i64 .i64 n (by rw [hz2]; omega) (by unfold maxLen; omega) (Nat.le_refl _)
    refine wpAnyH_takeD 0 (some 86) (v := ?_) rfl rfl (by kernel_rfl) (by kernel_rfl) (by kernel_rfl) (fun _ _ _ h => h) (Or.inl ⟨by rfl, ?_⟩) (by assumption) ?_
    rotate_left
    · (intro _w hSw; (try dsimp only at hSw); go_simp; try with_reducible rfl)
    try simp only [Act.put, List.setIfInBounds_toArray, List.set_cons_zero, List.set_cons_succ]
    refine wpAnyH_takeD 1 (some 87) (v := ?_) rfl rfl (by kernel_rfl) (by kernel_rfl) (by kernel_rfl) (fun _ _ _ h => h) (Or.inl ⟨by rfl, ?_⟩) (by assumption) ?_
    rotate_left
    · (intro _w hSw; (try dsimp only at hSw); go_simp; try with_reducible rfl)
    try simp only [Act.put, List.setIfInBounds_toArray, List.set_cons_zero, List.set_cons_succ]
    refine wpAnyH_takeD 2 (some 88) (v := ?_) rfl rfl (by kernel_rfl) (by kernel_rfl) (by kernel_rfl) (fun _ _ _ h => h) (Or.inl ⟨by rfl, ?_⟩) (by assumption) ?_
    rotate_left
    · (intro _w hSw; (try dsimp only at hSw); go_simp; try with_reducible rfl)
    try simp only [Act.put, List.setIfInBounds_toArray, List.set_cons_zero, List.set_cons_succ]
    refine wpAnyH_takeD 3 (some 89) (v := ?_) rfl rfl (by kernel_rfl) (by kernel_rfl) (by kernel_rfl) (fun _ _ _ h => h) (Or.inl ⟨by rfl, ?_⟩) (by assumption) ?_
    rotate_left
    · (intro _w hSw; (try dsimp only at hSw); go_simp; try with_reducible rfl)
    try simp only [Act.put, List.setIfInBounds_toArray, List.set_cons_zero, List.set_cons_succ]
    refine wpAnyH_ready (rs := [4]) (by kernel_rfl) (by simp) ?_
    refine AllReadyH.cons rfl (fun K hK => ?_) AllReadyH.nil
    go_simp
    obtain ⟨J20, hB, hle, hRow, _⟩ := B19.out.ownDone ((Kept.refl (fun _ => False) W19).grown hg (by simp)) hown rfl
    have B21 := Lib.hid hB
    have HLK := Lib.hid (show Ints J20 (.slice (some ⟨W19.heap.size, 0, none⟩) n n) (List.replicate n 0) from by
      rw [made1] at hRow
      unfold Ints Sl
      rw [List.length_replicate, rep_int]
      exact hRow)
    have HR1d := Lib.hid (HR1c.out.mono hle)
    have HR2d := Lib.hid (HR2c.out.mono hle)
    clear hB hRow hle HR1c HR2c hmk hown hg hi hz0 hz1 hz2
    refine hK.out _ _ ⟨cell_blk B21.out.o8.at_ 0, cell_blk B21.out.o2.at_ 0, cell_blk B21.out.o7.at_ 3⟩ ?_
    clear hK K
    intro hSS
    try simp only [Act.put, List.setIfInBounds_toArray, List.set_cons_zero, List.set_cons_succ]
    refine wpAnyH_ready (rs := [5]) (by kernel_rfl) (by simp) ?_
    refine AllReadyH.cons rfl (fun K hK => ?_) AllReadyH.nil
    go_simp
    go_wp2_with (
      go_at_call 123
      refine (node_Make _ L _ _ (B21.out).m.st ⟨#[]⟩ a (List.replicate n 0) _ HLK.out (by simp; omega) (ok_of HN.out X16.out)).mono ?_
      intro e W22 hP
      rcases (B21.out).call hP with ⟨⟨f, e22⟩, s22, J22, v22, hr, rfl, rfl, hg, hB⟩ | ⟨s', J', hr, rfl, hM⟩
      rotate_left
      · exact post_panic rfl (by rw [x_paused X16.out hr]; exact hM.paused)
      have B22 := Lib.hid hB
      have G22 := Lib.hid hg
      have X22 := Ex.mk (x_ret X16.out hr)
      clear hP hr hg hB
      skip)
    by_cases he : e22 = 0
    rotate_left
    · exact (stuck_not HN.out (x_else X22.out he)).elim
    subst he
    have X23 := Ex.mk (x_if X22.out rfl)
    refine hK.out _ _ ⟨cell_blk B22.out.o8.at_ 0, cell_blk B22.out.o2.at_ 0, cell_blk B22.out.o7.at_ 3⟩ ?_
    clear hK K
    intro hSS
    try simp only [Act.put, List.setIfInBounds_toArray, List.set_cons_zero, List.set_cons_succ]
    refine wpAnyH_takeD 6 (some 85) (v := ?_) rfl rfl (by kernel_rfl) (by kernel_rfl) (by kernel_rfl) (fun _ _ _ h => h) (Or.inl ⟨by rfl, ?_⟩) (by assumption) ?_
    rotate_left
    · (intro _w hSw; (try dsimp only at hSw); go_simp; try with_reducible rfl)
    try simp only [Act.put, List.setIfInBounds_toArray, List.set_cons_zero, List.set_cons_succ]
    refine wpAnyH_takeD 7 (some 92) (v := ?_) rfl rfl (by kernel_rfl) (by kernel_rfl) (by kernel_rfl) (fun _ _ _ h => h) (Or.inl ⟨by rfl, ?_⟩) (by assumption) ?_
    rotate_left
    · (intro _w hSw; (try dsimp only at hSw); go_simp; try with_reducible rfl)
    try simp only [Act.put, List.setIfInBounds_toArray, List.set_cons_zero, List.set_cons_succ]
    refine wpAnyH_takeD 8 (some 93) (v := ?_) rfl rfl (by kernel_rfl) (by kernel_rfl) (by kernel_rfl) (fun _ _ _ h => h) (Or.inl ⟨by rfl, ?_⟩) (by assumption) ?_
    rotate_left
    · (intro _w hSw; (try dsimp only at hSw); go_simp; try with_reducible rfl)
    try simp only [Act.put, List.setIfInBounds_toArray, List.set_cons_zero, List.set_cons_succ]
    refine wpAnyH_takeD 9 (some 13) (v := ?_) rfl rfl (by kernel_rfl) (by kernel_rfl) (by kernel_rfl) (fun _ _ _ h => h) (Or.inl ⟨by rfl, ?_⟩) (by assumption) ?_
    rotate_left
    · (intro _w hSw; (try dsimp only at hSw); go_simp; try with_reducible rfl)
    try simp only [Act.put, List.setIfInBounds_toArray, List.set_cons_zero, List.set_cons_succ]
    refine wpAnyH_takeD 10 (some 9) (v := ?_) rfl rfl (by kernel_rfl) (by kernel_rfl) (by kernel_rfl) (fun _ _ _ h => h) (Or.inl ⟨by rfl, ?_⟩) (by assumption) ?_
    rotate_left
    · (intro _w hSw; (try dsimp only at hSw); go_simp; try with_reducible rfl)
    try simp only [Act.put, List.setIfInBounds_toArray, List.set_cons_zero, List.set_cons_succ]
    refine wpAnyH_done (by kernel_rfl) ?_ _
    have HR1e := Lib.hid (HR1d.out.mono G22.out.le)
    have HR2e := Lib.hid (HR2d.out.mono G22.out.le)
    clear hSS hS0 X22 HR1d HR2d G22 B21 HLK
    have gat := B22.out.o6.at_
    have g0 := cell_blk gat 0
    have g1 := cell_blk gat 1
    have g2 := cell_blk gat 2
    have g3 := cell_blk gat 3
    have g4 := cell_blk gat 4
    have g5 := cell_blk gat 5
    have g6 := cell_blk gat 6
    have g7 := cell_blk gat 7
    have g8 := cell_blk gat 8
    have g9 := cell_blk gat 9
    have g10 := cell_blk gat 10
    have gf0 := free_blk gat 0
    have gf1 := free_blk gat 1
    have gf2 := free_blk gat 2
    have gf3 := free_blk gat 3
    have gf4 := free_blk gat 4
    have gf5 := free_blk gat 5
    have gf6 := free_blk gat 6
    have gf7 := free_blk gat 7
    have gf8 := free_blk gat 8
    have gf9 := free_blk gat 9
    have gf10 := free_blk gat 10
    have gs := lt_of_block gat
    clear gat
    have rat := B22.out.o4.at_
    have r0 := cell_blk rat 0
    have r1 := cell_blk rat 1
    have r2 := cell_blk rat 2
    have rf0 := free_blk rat 0
    have rf1 := free_blk rat 1
    have rf2 := free_blk rat 2
    have rs := lt_of_block rat
    clear rat
    have cat := B22.out.o7.at_
    have c0 := cell_blk cat 0
    have c1 := cell_blk cat 1
    have c2 := cell_blk cat 2
    have c3 := cell_blk cat 3
    have c4 := cell_blk cat 4
    have c5 := cell_blk cat 5
    have c6 := cell_blk cat 6
    have cf0 := free_blk cat 0
    have cf1 := free_blk cat 1
    have cf2 := free_blk cat 2
    have cf3 := free_blk cat 3
    have cf4 := free_blk cat 4
    have cf5 := free_blk cat 5
    have cf6 := free_blk cat 6
    have cs := lt_of_block cat
    clear cat
    go_wp2
    refine bodyPost_ret (v := .tuple #[.agg #[.int .i64 f, .int .i64 r.top, .slice ra r.slots.length rc, .slice rb r.snaps.length rd, .int .i64 c.cells, .int .i64 c.clients, .int .i64 c.snaps, .int .i64 n, .int .i64 c.low, .int .i64 c.high, .int .i64 c.top], .int .i64 0]) (by simp [results, Tryz.results50, go_sem, g0, g1, g2, g3, g4, g5, g6, g7, g8, g9, g10, gs]) rfl ?_
    rw [x_done X23.out]
    exact Mg.post (J := J22) (by repeat (first | with_reducible exact B22.out.m | with_reducible refine Mg.drewN ?_ _ | with_reducible refine Mg.drew ?_ | with_reducible refine Mg.alloc ?_ _ | refine Mg.seto ?_ (by repeat (first | with_reducible exact B22.out.o6.ok | with_reducible refine OwnOk.set ?_ _ _ | with_reducible refine OwnOk.alloc ?_ _ | with_reducible refine OwnOk.drew ?_ | with_reducible refine OwnOk.drewN ?_ _)) _)) ⟨_, rfl, _, _, _, _, by rw [HNL.out], HR1e.out, HR2e.out⟩
end Go.Proofs.YtadaiihoclknmaaGreat
