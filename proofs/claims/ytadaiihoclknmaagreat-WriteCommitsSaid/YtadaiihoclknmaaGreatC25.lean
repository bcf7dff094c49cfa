/- Part 25 of the proof: Write2, Step1, Write3, Parts1. -/
import Derived.Test.YtadaiihoclknmaaGreatC10
import Derived.Test.YtadaiihoclknmaaGreatC11
import Derived.Test.YtadaiihoclknmaaGreatC24
import Derived.Test.YtadaiihoclknmaaGreatC14
import Derived.Deep.LoopGhost
import Derived.Test.YtadaiihoclknmaaGreatC12
import Derived.Test.YtadaiihoclknmaaGreatC21
/- Write: Settled. -/
namespace Go.Proofs.YtadaiihoclknmaaGreat
open Go.RowKit
set_option maxHeartbeats 4000000
set_option maxRecDepth 100000
set_option linter.unusedVariables false
set_option linter.unusedSimpArgs false

structure Ground where
  first : Int
  reg : Reg
  conf : Conf
  deriving DecidableEq
/-- A ground's eleven cells. -/
def GroundV (I : IHeap) (v : Value) (g : Ground) : Prop := ∃ a c b d, v = .agg #[.int .i64 g.first, .int .i64 g.reg.top, .slice a g.reg.slots.length c, .slice b g.reg.snaps.length d, .int .i64 g.conf.cells, .int .i64 g.conf.clients, .int .i64 g.conf.snaps, .int .i64 g.conf.levels, .int .i64 g.conf.low, .int .i64 g.conf.high, .int .i64 g.conf.top] ∧
  Ints I (.slice a g.reg.slots.length c) g.reg.slots ∧ Ints I (.slice b g.reg.snaps.length d) g.reg.snaps
def wSettled (top : Int) : Nat → Prog (Int × Desc × Int)
  | 0 => .stuck
  | f + 1 => do
    let x ← dLatest top
    if x.e ≠ 0 ∨ x.is = true then return (x.h, x.d, x.e)
    else do
      let e ← dHelp x.d
      if e = 0 then wSettled top f else return (0, Desc.none, e)
theorem wSettled_succ (top : Int) (f : Nat) : wSettled top (f + 1) = (do
    let x ← dLatest top
    if x.e ≠ 0 ∨ x.is = true then return (x.h, x.d, x.e)
    else do
      let e ← dHelp x.d
      if e = 0 then wSettled top f else return (0, Desc.none, e)) := rfl
def SetE (J : IHeap) (v : Value) (a : Int × Desc × Int) : Prop := ∃ x, v = .tuple #[.int .i64 a.1, x, .int .i64 a.2.2] ∧ DescV J x a.2.1
theorem write_Settled (w : World) (L : Loc) (I : IHeap) (s : PS) (hst : St w L I s) (g : Ground) (gv : Value) (hg : GroundV I gv g) (F : Nat) (hn : ((wSettled g.reg.top F).exec s).1.ok) :
    Calls Tryz.prog 20 #[.pointer (some ⟨L.p, 0, none⟩), gv] w (Post L w I ((wSettled g.reg.top F).exec s) SetE) := by
  have M0 := Lib.hid (Mg.start hst)
  have HN := Lib.hid hn
  obtain ⟨R0, hR0⟩ : ∃ R0, R0 = (wSettled g.reg.top F).exec s := ⟨_, rfl⟩
  have X0 := Ex.mk hR0
  rw [← hR0] at HN ⊢
  obtain ⟨ga, gc, gb, gd, rfl, _⟩ := hg
  clear hst hn hR0
  generalize g.reg.top = top at *
  go_enter Tryz.func20, Tryz.ntmps20
  go_wp2_with fail
  have G0 := Lib.hid ((OB.fresh M0.out #[.int .i64 g.first, .int .i64 top, .slice ga g.reg.slots.length gc, .slice gb g.reg.snaps.length gd, .int .i64 g.conf.cells, .int .i64 g.conf.clients, .int .i64 g.conf.snaps, .int .i64 g.conf.levels, .int .i64 g.conf.low, .int .i64 g.conf.high, .int .i64 g.conf.top] 29 rfl).alloc (.cells #[.int .i64 0, .int .i64 0, .int .i64 0, .slice none 0 0] 46))
  have D0 := Lib.hid (OB.fresh2 M0.out #[.int .i64 0, .int .i64 0, .int .i64 0, .slice none 0 0] 46 rfl (.cells #[.int .i64 g.first, .int .i64 top, .slice ga g.reg.slots.length gc, .slice gb g.reg.snaps.length gd, .int .i64 g.conf.cells, .int .i64 g.conf.clients, .int .i64 g.conf.snaps, .int .i64 g.conf.levels, .int .i64 g.conf.low, .int .i64 g.conf.high, .int .i64 g.conf.top] 29))
  have M1 := Lib.hid ((M0.out.alloc (.cells #[.int .i64 g.first, .int .i64 top, .slice ga g.reg.slots.length gc, .slice gb g.reg.snaps.length gd, .int .i64 g.conf.cells, .int .i64 g.conf.clients, .int .i64 g.conf.snaps, .int .i64 g.conf.levels, .int .i64 g.conf.low, .int .i64 g.conf.high, .int .i64 g.conf.top] 29)).alloc (.cells #[.int .i64 0, .int .i64 0, .int .i64 0, .slice none 0 0] 46))
  have hne : w.heap.size ≠ w.heap.size + 1 := by omega
  generalize (w.alloc (.cells #[.int .i64 g.first, .int .i64 top, .slice ga g.reg.slots.length gc, .slice gb g.reg.snaps.length gd, .int .i64 g.conf.cells, .int .i64 g.conf.clients, .int .i64 g.conf.snaps, .int .i64 g.conf.levels, .int .i64 g.conf.low, .int .i64 g.conf.high, .int .i64 g.conf.top] 29)).alloc (.cells #[.int .i64 0, .int .i64 0, .int .i64 0, .slice none 0 0] 46) = W1 at *
  generalize hbg : w.heap.size = bg at *
  generalize bg + 1 = bz at *
  go_loopg [] F (fun m W => ∃ (J : IHeap) (s' : PS), Hid (Mg w L I J s' W) ∧ Hid (OB w J W bg #[.int .i64 g.first, .int .i64 top, .slice ga g.reg.slots.length gc, .slice gb g.reg.snaps.length gd, .int .i64 g.conf.cells, .int .i64 g.conf.clients, .int .i64 g.conf.snaps, .int .i64 g.conf.levels, .int .i64 g.conf.low, .int .i64 g.conf.high, .int .i64 g.conf.top] 29) ∧ Hid (OB w J W bz #[.int .i64 0, .int .i64 0, .int .i64 0, .slice none 0 0] 46) ∧ Ex R0 ((wSettled top m).exec s'))
  case atStart => exact ⟨I, s, M1, G0, D0, X0⟩
  case round =>
  clear M0 M1 G0 D0 X0
  obtain ⟨J0, s0, M0, G0, D0, X0⟩ := hrel
  cases gk with
  | zero => exact (show R0.1.ok → False by rw [X0.out]; exact id) HN.out |>.elim
  | succ m =>
  rw [wSettled_succ] at X0
  have g1 := cell_blk G0.out.at_ 1
  have gf1 := free_blk G0.out.at_ 1
  have gs := lt_of_block G0.out.at_
  go_wp2_with fail
  refine (desc_Latest _ L _ _ (M0.out).st top (ok_of HN.out X0.out)).mono ?_
  intro e W1 hP
  rcases (M0.out).call hP with ⟨⟨h, d, is, e1⟩, s1, J1, v1, hr, rfl, ⟨x, rfl, hx⟩, hg, hk, hM⟩ | ⟨s', J', hr, rfl, hM⟩
  rotate_left
  · exact post_panic rfl (by rw [x_paused X0.out hr]; exact hM.paused)
  have M1 := Lib.hid hM
  have K1 := Lib.hid hk
  have G1 := Lib.hid hg
  have X1 := Ex.mk (x_ret X0.out hr)
  clear hP hr hg hk hM
  have G1' := Lib.hid (OB.call M0.out K1.out G1.out G0.out)
  have D1 := Lib.hid (OB.call M0.out K1.out G1.out D0.out)
  obtain ⟨A, cap, rfl, _⟩ := hx.form
  have HX := Lib.hid hx
  clear M0 K1 G1 G0 D0 hx g1 gf1 gs
  dsimp only at HX X1 ⊢
  by_cases hd : e1 ≠ 0 ∨ is = true
  · have X2 := Ex.mk (x_if X1.out hd)
    have hdd : ((e1 != 0) || is) = true := by rcases hd with h | h <;> simp [h]
    clear hd
    have z0 := cell_blk D1.out.at_ 0
    have z1 := cell_blk D1.out.at_ 1
    have z2 := cell_blk D1.out.at_ 2
    have z3 := cell_blk D1.out.at_ 3
    have zf0 := free_blk D1.out.at_ 0
    have zf1 := free_blk D1.out.at_ 1
    have zf2 := free_blk D1.out.at_ 2
    have zf3 := free_blk D1.out.at_ 3
    have zs := lt_of_block D1.out.at_
    by_cases he : e1 = 0
    · subst he
      have his : is = true := by simpa using hdd
      subst his
      go_wp2_with fail
      go_region
      all_goals
        go_wp2
        refine bodyPost_ret (v := .tuple #[.int .i64 h, .agg #[.int .i64 d.version, .int .i64 d.before, .int .i64 d.status, .slice A d.swaps.length cap], .int .i64 0]) (by simp [results, Tryz.results20, go_sem, z0, z1, z2, z3, zs]) rfl ?_
        rw [x_done X2.out]
        exact Mg.post (J := J1) (by repeat (first | with_reducible exact M1.out | with_reducible refine Mg.drewN ?_ _ | with_reducible refine Mg.drew ?_ | with_reducible refine Mg.alloc ?_ _ | refine Mg.seto ?_ (by repeat (first | with_reducible exact D1.out.ok | with_reducible refine OwnOk.set ?_ _ _ | with_reducible refine OwnOk.alloc ?_ _ | with_reducible refine OwnOk.drew ?_ | with_reducible refine OwnOk.drewN ?_ _)) _)) ⟨_, rfl, HX.out⟩
    · have t1 := ne_true he
      go_wp2_with fail
      go_region
      all_goals
        go_wp2
        refine bodyPost_ret (v := .tuple #[.int .i64 h, .agg #[.int .i64 d.version, .int .i64 d.before, .int .i64 d.status, .slice A d.swaps.length cap], .int .i64 e1]) (by simp [results, Tryz.results20, go_sem, z0, z1, z2, z3, zs]) rfl ?_
        rw [x_done X2.out]
        exact Mg.post (J := J1) (by repeat (first | with_reducible exact M1.out | with_reducible refine Mg.drewN ?_ _ | with_reducible refine Mg.drew ?_ | with_reducible refine Mg.alloc ?_ _ | refine Mg.seto ?_ (by repeat (first | with_reducible exact D1.out.ok | with_reducible refine OwnOk.set ?_ _ _ | with_reducible refine OwnOk.alloc ?_ _ | with_reducible refine OwnOk.drew ?_ | with_reducible refine OwnOk.drewN ?_ _)) _)) ⟨_, rfl, HX.out⟩
  · have X2 := Ex.mk (x_else X1.out hd)
    obtain rfl : e1 = 0 := by omega
    obtain rfl : is = false := by cases is <;> simp at hd ⊢
    clear hd
    go_wp2_with fail
    refine (desc_Help _ L _ _ (M1.out.alloc _).st d _ HX.out (ok_of HN.out X2.out)).mono ?_
    intro e W3 hP
    rcases (M1.out.alloc _).call hP with ⟨e3, s3, J3, v3, hr, rfl, rfl, hg, hk, hM⟩ | ⟨s', J', hr, rfl, hM⟩
    rotate_left
    · exact post_panic rfl (by rw [x_paused X2.out hr]; exact hM.paused)
    have M3 := Lib.hid hM
    have K3 := Lib.hid hk
    have G3 := Lib.hid hg
    have X3 := Ex.mk (x_ret X2.out hr)
    clear hP hr hg hk hM
    have G3' := Lib.hid (OB.call (M1.out.alloc _) K3.out G3.out (G1'.out.alloc _))
    have D3 := Lib.hid (OB.call (M1.out.alloc _) K3.out G3.out (D1.out.alloc _))
    clear M1 K3 G3 G1' D1
    by_cases he : e3 = 0
    · subst he
      have X4 := Ex.mk (x_if X3.out rfl)
      go_wp2
      go_roundg m
      case measure => omega
      case rel => exact ⟨J3, s3, M3, G3', D3, X4⟩
    · have t1 := ne_true he
      have X4 := Ex.mk (x_else X3.out he)
      have z0 := cell_blk D3.out.at_ 0
      have z1 := cell_blk D3.out.at_ 1
      have z2 := cell_blk D3.out.at_ 2
      have z3 := cell_blk D3.out.at_ 3
      have zf0 := free_blk D3.out.at_ 0
      have zf1 := free_blk D3.out.at_ 1
      have zf2 := free_blk D3.out.at_ 2
      have zf3 := free_blk D3.out.at_ 3
      have zs := lt_of_block D3.out.at_
      go_wp2
      try go_region
      all_goals
        try go_wp2
        refine bodyPost_ret (v := .tuple #[.int .i64 0, .agg #[.int .i64 0, .int .i64 0, .int .i64 0, .slice none 0 0], .int .i64 e3]) (by simp [results, Tryz.results20, go_sem, z0, z1, z2, z3, zs]) rfl ?_
        rw [x_done X4.out]
        exact Mg.post (J := J3) (by repeat (first | with_reducible exact M3.out | with_reducible refine Mg.drewN ?_ _ | with_reducible refine Mg.drew ?_ | with_reducible refine Mg.alloc ?_ _ | refine Mg.seto ?_ (by repeat (first | with_reducible exact D3.out.ok | with_reducible refine OwnOk.set ?_ _ _ | with_reducible refine OwnOk.alloc ?_ _ | with_reducible refine OwnOk.drew ?_ | with_reducible refine OwnOk.drewN ?_ _)) _)) ⟨_, rfl, _, rfl, Row.nil _ _ _⟩
end Go.Proofs.YtadaiihoclknmaaGreat
/- The port's own: a note, how many cells. -/
namespace Go.Proofs.YtadaiihoclknmaaGreat
open Go.RowKit
set_option maxHeartbeats 4000000
set_option maxRecDepth 100000
set_option linter.unusedVariables false
set_option linter.unusedSimpArgs false

def pNote (n : Int) : Prog Unit := .note n (.ret ())
def pCells : Prog Int := .peek fun M => .ret M.cells.length
def pLive : Prog Int := .peek fun M => .ret M.live
theorem port_Cells (w : World) (L : Loc) (I : IHeap) (s : PS) (hst : St w L I s) :
    Calls Tryz.prog 24 #[.pointer (some ⟨L.p, 0, none⟩)] w (Post L w I (pCells.exec s) (Is fun a => .int .i64 a)) := by
  have M0 := Lib.hid (Mg.start hst)
  have HM := Lib.hid hst.mem
  have c0 := port_pm hst
  clear hst
  go_enter Tryz.func24, Tryz.ntmps24
  go_wp2_with (go_at_call 51; refine (mem_Cells _ _ _ _ _ HM.out).mono ?_; rintro e w' ⟨rfl, rfl⟩)
  go_ret
  exact Mg.post (J := I) M0.out rfl
theorem port_Note (w : World) (L : Loc) (I : IHeap) (s : PS) (hst : St w L I s) (n : Int) :
    Calls Tryz.prog 92 #[.pointer (some ⟨L.p, 0, none⟩), .int .i64 n] w (Post L w I ((pNote n).exec s) (Is unitV)) := by
  obtain ⟨lv, hp⟩ := hst.port
  have M0 := Lib.hid (Mid.start hst)
  have HP := Lib.hid hp
  have c4 : w.cell? ⟨L.p, 4, none⟩ = some (.int .i64 s.note) := by rw [cell_blk hp.hd]; rfl
  have f4 := free_blk hp.hd 4
  have hs := lt_of_block hp.hd
  clear hst hp
  go_enter Tryz.func92, Tryz.ntmps92
  go_wp2
  refine bodyPost_ret (v := .tuple #[]) (by simp [results, Tryz.results92, go_sem]) rfl ?_
  exact Mid.post (s := { s with note := n }) (M0.out.port (s' := { s with note := n }) 4 (by decide) _ rfl rfl HP.out.le (fun lv => rfl)) rfl
end Go.Proofs.YtadaiihoclknmaaGreat
/- Write: Commit. -/
namespace Go.Proofs.YtadaiihoclknmaaGreat
open Go.RowKit
set_option maxHeartbeats 4000000
set_option maxRecDepth 100000
set_option linter.unusedVariables false
set_option linter.unusedSimpArgs false

def wCommit (top h version before : Int) (swaps : List Swap) : Prog (Bool × Int) := do
  let n ← dMake version before swaps
  if n.2 = 0 then do
    let p ← dPublish top h n.1
    if p.2 = 0 then
      if p.1 = true then do
        let _ ← pNote version
        let d ← dLoad n.1
        if d.2 = 0 then do
          let e ← dHelp d.1
          if e = 0 then do
            let e ← dDrop h before
            return (true, e)
          else return (false, e)
        else return (false, d.2)
      else do
        let e ← dUndo n.1
        return (false, e)
    else return (false, p.2)
  else return (false, n.2)
theorem write_Commit (w : World) (L : Loc) (I : IHeap) (s : PS) (hst : St w L I s) (g : Ground) (gv : Value) (hg : GroundV I gv g) (h version before : Int) (swaps : List Swap) (sv : Value) (hs : Swaps I sv swaps) (hb : swaps.length * 24 ≤ 140737488355328) (hn : ((wCommit g.reg.top h version before swaps).exec s).1.ok) :
    Calls Tryz.prog 21 #[.pointer (some ⟨L.p, 0, none⟩), gv, .int .i64 h, .int .i64 version, .int .i64 before, sv] w (Post L w I ((wCommit g.reg.top h version before swaps).exec s) (Is fun a : Bool × Int => .tuple #[.bool a.1, .int .i64 a.2])) := by
  have M0 := Lib.hid (Mg.start hst)
  have HN := Lib.hid hn
  obtain ⟨R0, hR0⟩ : ∃ R0, R0 = (wCommit g.reg.top h version before swaps).exec s := ⟨_, rfl⟩
  have X0 := Ex.mk hR0
  rw [← hR0] at HN ⊢
  obtain ⟨ga, gc, gb, gd, rfl, _⟩ := hg
  obtain ⟨sa, sc, rfl, _⟩ := hs.form
  have HS := Lib.hid hs
  clear hst hn hR0 hs
  go_enter Tryz.func21, Tryz.ntmps21
  have G0 := Lib.hid (OB.fresh M0.out #[.int .i64 g.first, .int .i64 g.reg.top, .slice ga g.reg.slots.length gc, .slice gb g.reg.snaps.length gd, .int .i64 g.conf.cells, .int .i64 g.conf.clients, .int .i64 g.conf.snaps, .int .i64 g.conf.levels, .int .i64 g.conf.low, .int .i64 g.conf.high, .int .i64 g.conf.top] 29 rfl)
  go_wp2_with fail
  refine (desc_Make _ L _ _ (M0.out.alloc _).st version before _ swaps HS.out hb (ok_of HN.out X0.out)).mono ?_
  intro e W1 hP
  rcases (M0.out.alloc _).call hP with ⟨⟨n, e1⟩, s1, J1, v1, hr, rfl, rfl, hg, hk, hM⟩ | ⟨s', J', hr, rfl, hM⟩
  rotate_left
  · exact post_panic rfl (by rw [x_paused X0.out hr]; exact hM.paused)
  have M1 := Lib.hid hM
  have K1 := Lib.hid hk
  have G1 := Lib.hid hg
  have X1 := Ex.mk (x_ret X0.out hr)
  clear hP hr hg hk hM
  have G1' := Lib.hid (OB.call (M0.out.alloc _) K1.out G1.out G0.out)
  clear G0 K1 G1 M0
  have g1 := cell_blk G1'.out.at_ 1
  have gf1 := free_blk G1'.out.at_ 1
  have gs := lt_of_block G1'.out.at_
  by_cases he : e1 = 0
  · subst he
    have X2 := Ex.mk (x_if X1.out rfl)
    go_wp2_with fail
    refine (desc_Publish _ L _ _ (M1.out).st g.reg.top h n (ok_of HN.out X2.out)).mono ?_
    intro e W3 hP
    rcases (M1.out).call hP with ⟨⟨ok, e3⟩, s3, J3, v3, hr, rfl, rfl, hg, hk, hM⟩ | ⟨s', J', hr, rfl, hM⟩
    rotate_left
    · exact post_panic rfl (by rw [x_paused X2.out hr]; exact hM.paused)
    have M3 := Lib.hid hM
    have K3 := Lib.hid hk
    have G3 := Lib.hid hg
    have X3 := Ex.mk (x_ret X2.out hr)
    clear hP hr hg hk hM
    clear M1 K3 G3 G1' g1 gf1 gs
    by_cases he : e3 = 0
    · subst he
      have X4 := Ex.mk (x_if X3.out rfl)
      cases ok with
      | true =>
        have X5 := Ex.mk (x_if X4.out rfl)
        go_wp2_with fail
        refine (port_Note _ L _ _ M3.out.st version).mono ?_
        intro e W6 hP
        rcases M3.out.call hP with ⟨⟨⟩, s6, J6, v6, hr, rfl, rfl, hg, hk, hM⟩ | ⟨s', J', hr, rfl, hM⟩
        rotate_left
        · exact post_panic rfl (by rw [x_paused X5.out hr]; exact hM.paused)
        have M6 := Lib.hid hM
        have X6 := Ex.mk (x_ret X5.out hr)
        clear hP hr hg hk hM
        go_wp2_with fail
        refine (desc_Load _ L _ _ (M6.out).st n (ok_of HN.out X6.out)).mono ?_
        intro e W7 hP
        rcases (M6.out).call hP with ⟨⟨d, e7⟩, s7, J7, v7, hr, rfl, ⟨x, rfl, hx⟩, hg, hk, hM⟩ | ⟨s', J', hr, rfl, hM⟩
        rotate_left
        · exact post_panic rfl (by rw [x_paused X6.out hr]; exact hM.paused)
        have M7 := Lib.hid hM
        have K7 := Lib.hid hk
        have G7 := Lib.hid hg
        have X7 := Ex.mk (x_ret X6.out hr)
        clear hP hr hg hk hM
        obtain ⟨A, cap, rfl, _⟩ := hx.form
        have HX := Lib.hid hx
        clear hx
        dsimp only at HX X7 ⊢
        by_cases he : e7 = 0
        · subst he
          have X8 := Ex.mk (x_if X7.out rfl)
          go_wp2_with fail
          refine (desc_Help _ L _ _ (M7.out.alloc _).st d _ HX.out (ok_of HN.out X8.out)).mono ?_
          intro e W9 hP
          rcases (M7.out.alloc _).call hP with ⟨e9, s9, J9, v9, hr, rfl, rfl, hg, hk, hM⟩ | ⟨s', J', hr, rfl, hM⟩
          rotate_left
          · exact post_panic rfl (by rw [x_paused X8.out hr]; exact hM.paused)
          have M9 := Lib.hid hM
          have K9 := Lib.hid hk
          have G9 := Lib.hid hg
          have X9 := Ex.mk (x_ret X8.out hr)
          clear hP hr hg hk hM
          by_cases he : e9 = 0
          · subst he
            have X10 := Ex.mk (x_if X9.out rfl)
            go_wp2_with fail
            refine (desc_Drop _ L _ _ (M9.out).st h before (ok_of HN.out X10.out)).mono ?_
            intro e W11 hP
            rcases (M9.out).call hP with ⟨e11, s11, J11, v11, hr, rfl, rfl, hg, hk, hM⟩ | ⟨s', J', hr, rfl, hM⟩
            rotate_left
            · exact post_panic rfl (by rw [x_paused X10.out hr]; exact hM.paused)
            have M11 := Lib.hid hM
            have K11 := Lib.hid hk
            have G11 := Lib.hid hg
            have X11 := Ex.mk (x_ret X10.out hr)
            clear hP hr hg hk hM
            go_wp2
            try go_region
            all_goals
              try go_wp2
              refine bodyPost_ret (v := .tuple #[.bool true, .int .i64 e11]) (by simp [results, Tryz.results21, go_sem]) rfl ?_
              rw [x_done X11.out]
              exact Mg.post (J := J11) (by repeat (first | with_reducible exact M11.out | with_reducible refine Mg.drewN ?_ _ | with_reducible refine Mg.drew ?_ | with_reducible refine Mg.alloc ?_ _ | refine Mg.seto ?_ (by repeat (first | with_reducible refine OwnOk.set ?_ _ _ | with_reducible refine OwnOk.alloc ?_ _ | with_reducible refine OwnOk.drew ?_ | with_reducible refine OwnOk.drewN ?_ _)) _)) rfl
          · have t1 := ne_true he
            have X10 := Ex.mk (x_else X9.out he)
            go_wp2
            try go_region
            all_goals
              try go_wp2
              refine bodyPost_ret (v := .tuple #[.bool false, .int .i64 e9]) (by simp [results, Tryz.results21, go_sem]) rfl ?_
              rw [x_done X10.out]
              exact Mg.post (J := J9) (by repeat (first | with_reducible exact M9.out | with_reducible refine Mg.drewN ?_ _ | with_reducible refine Mg.drew ?_ | with_reducible refine Mg.alloc ?_ _ | refine Mg.seto ?_ (by repeat (first | with_reducible refine OwnOk.set ?_ _ _ | with_reducible refine OwnOk.alloc ?_ _ | with_reducible refine OwnOk.drew ?_ | with_reducible refine OwnOk.drewN ?_ _)) _)) rfl
        · have t1 := ne_true he
          have X8 := Ex.mk (x_else X7.out he)
          go_wp2
          try go_region
          all_goals
            try go_wp2
            refine bodyPost_ret (v := .tuple #[.bool false, .int .i64 e7]) (by simp [results, Tryz.results21, go_sem]) rfl ?_
            rw [x_done X8.out]
            exact Mg.post (J := J7) (by repeat (first | with_reducible exact M7.out | with_reducible refine Mg.drewN ?_ _ | with_reducible refine Mg.drew ?_ | with_reducible refine Mg.alloc ?_ _ | refine Mg.seto ?_ (by repeat (first | with_reducible refine OwnOk.set ?_ _ _ | with_reducible refine OwnOk.alloc ?_ _ | with_reducible refine OwnOk.drew ?_ | with_reducible refine OwnOk.drewN ?_ _)) _)) rfl
      | false =>
        have X5 := Ex.mk (x_else X4.out (by decide))
        go_wp2_with fail
        refine (desc_Undo _ L _ _ (M3.out).st n (ok_of HN.out X5.out)).mono ?_
        intro e W6 hP
        rcases (M3.out).call hP with ⟨e6, s6, J6, v6, hr, rfl, rfl, hg, hk, hM⟩ | ⟨s', J', hr, rfl, hM⟩
        rotate_left
        · exact post_panic rfl (by rw [x_paused X5.out hr]; exact hM.paused)
        have M6 := Lib.hid hM
        have K6 := Lib.hid hk
        have G6 := Lib.hid hg
        have X6 := Ex.mk (x_ret X5.out hr)
        clear hP hr hg hk hM
        go_wp2
        try go_region
        all_goals
          try go_wp2
          refine bodyPost_ret (v := .tuple #[.bool false, .int .i64 e6]) (by simp [results, Tryz.results21, go_sem]) rfl ?_
          rw [x_done X6.out]
          exact Mg.post (J := J6) (by repeat (first | with_reducible exact M6.out | with_reducible refine Mg.drewN ?_ _ | with_reducible refine Mg.drew ?_ | with_reducible refine Mg.alloc ?_ _ | refine Mg.seto ?_ (by repeat (first | with_reducible refine OwnOk.set ?_ _ _ | with_reducible refine OwnOk.alloc ?_ _ | with_reducible refine OwnOk.drew ?_ | with_reducible refine OwnOk.drewN ?_ _)) _)) rfl
    · have t1 := ne_true he
      have X4 := Ex.mk (x_else X3.out he)
      go_wp2
      try go_region
      all_goals
        try go_wp2
        refine bodyPost_ret (v := .tuple #[.bool false, .int .i64 e3]) (by simp [results, Tryz.results21, go_sem]) rfl ?_
        rw [x_done X4.out]
        exact Mg.post (J := J3) (by repeat (first | with_reducible exact M3.out | with_reducible refine Mg.drewN ?_ _ | with_reducible refine Mg.drew ?_ | with_reducible refine Mg.alloc ?_ _ | refine Mg.seto ?_ (by repeat (first | with_reducible refine OwnOk.set ?_ _ _ | with_reducible refine OwnOk.alloc ?_ _ | with_reducible refine OwnOk.drew ?_ | with_reducible refine OwnOk.drewN ?_ _)) _)) rfl
  · have t1 := ne_true he
    have X2 := Ex.mk (x_else X1.out he)
    go_wp2
    refine bodyPost_ret (v := .tuple #[.bool false, .int .i64 e1]) (by simp [results, Tryz.results21, go_sem]) rfl ?_
    rw [x_done X2.out]
    exact Mg.post (J := J1) (by repeat (first | with_reducible exact M1.out | with_reducible refine Mg.drewN ?_ _ | with_reducible refine Mg.drew ?_ | with_reducible refine Mg.alloc ?_ _ | refine Mg.seto ?_ (by repeat (first | with_reducible refine OwnOk.set ?_ _ _ | with_reducible refine OwnOk.alloc ?_ _ | with_reducible refine OwnOk.drew ?_ | with_reducible refine OwnOk.drewN ?_ _)) _)) rfl
end Go.Proofs.YtadaiihoclknmaaGreat
/- Parts: what becomes of a node's keys; rows of them. -/
namespace Go.Proofs.YtadaiihoclknmaaGreat
open Go.RowKit
set_option maxHeartbeats 4000000
set_option maxRecDepth 100000
set_option linter.unusedVariables false
set_option linter.unusedSimpArgs false
structure Part where
  cell : Int
  head : Int
  rev : Rev
  entries : List Entry
  deriving DecidableEq
/-- A part, and the five slices in which its rows lie. -/
structure PartC where
  p : Part
  (ka va ga ta ea : Option Addr)
  (kc vc gc tc ec : Nat)
def PartC.k (c : PartC) : Value := .slice c.ka c.p.rev.keys.length c.kc
def PartC.v (c : PartC) : Value := .slice c.va c.p.rev.vals.length c.vc
def PartC.g (c : PartC) : Value := .slice c.ga c.p.rev.gone.length c.gc
def PartC.t (c : PartC) : Value := .slice c.ta c.p.rev.table.length c.tc
def PartC.e (c : PartC) : Value := .slice c.ea c.p.entries.length c.ec
def encPart (c : PartC) : List Value := [.int .i64 c.p.cell, .int .i64 c.p.head, .int .i64 c.p.rev.version, .int .i64 c.p.rev.rate, .string c.p.rev.span.lo, .string c.p.rev.span.hi, .bool c.p.rev.span.all, .bool c.p.rev.dead, c.k, c.v, c.g, c.t, c.e]
def PartC.ok (J : IHeap) (c : PartC) : Prop := Strs J c.k c.p.rev.keys ∧ Strs J c.v c.p.rev.vals ∧ Bools J c.g c.p.rev.gone ∧ Ints J c.t c.p.rev.table ∧ Entries J c.e c.p.entries
theorem PartC.ok.mono {I J : IHeap} {c : PartC} (h : c.ok I) (hl : ILe I J) : c.ok J := ⟨h.1.mono hl, h.2.1.mono hl, h.2.2.1.mono hl, h.2.2.2.1.mono hl, h.2.2.2.2.mono hl⟩
def OkAll (J : IHeap) (cs : List PartC) : Prop := ∀ c ∈ cs, c.ok J
theorem OkAll.mono {I J : IHeap} {cs : List PartC} (h : OkAll I cs) (hl : ILe I J) : OkAll J cs := fun c hc => (h c hc).mono hl
theorem OkAll.add {J : IHeap} {cs : List PartC} {c : PartC} (h : OkAll J cs) (hc : c.ok J) : OkAll J (cs ++ [c]) := fun x hx => by
  rcases List.mem_append.1 hx with h1 | h1
  · exact h x h1
  · rw [List.mem_singleton.1 h1]; exact hc
/-- A row of parts. -/
def Parts (J : IHeap) (v : Value) (l : List Part) : Prop := ∃ cs : List PartC, cs.map PartC.p = l ∧ Sl J 94 13 encPart v cs ∧ OkAll J cs
theorem Parts.mono {I J : IHeap} {v : Value} {l : List Part} (h : Parts I v l) (hl : ILe I J) : Parts J v l := by
  obtain ⟨cs, h1, h2, h3⟩ := h; exact ⟨cs, h1, h2.mono hl, h3.mono hl⟩
theorem info_part : (Tryz.prog.info? 94).map (fun i => (i.zero, i.size, i.bytes)) = some (some (.agg #[.int .i64 0, .int .i64 0, .int .i64 0, .int .i64 0, .string ⟨#[]⟩, .string ⟨#[]⟩, .bool false, .bool false, .slice none 0 0, .slice none 0 0, .slice none 0 0, .slice none 0 0, .slice none 0 0]), 13, 200) := by kernel_rfl
theorem wp_app_part {ops : Array Oper} {rest : List Oper} {o : Oper} {a : Act} {Q : Exit → Act → World → Prop} {w W : World} {L : Loc} {I J : IHeap} {st : PS} (hg : o.guard = none) (s x : Operand)
    (ho : o.op = .call { callee := .builtin .append, args := #[s, x], argTypes := #[65, 65] })
    (v : Value) (l : List PartC) (y : PartC) (b c : Nat) (cs : Array Value) (tb : TypeId) (fr : Nat × Nat) (hs : a.eval s = v) (hx : a.eval x = .slice (some ⟨b, 0, none⟩) 1 c) (hb : W.heap[b]? = some (.cells cs tb fr)) (hcs : cs = (encPart y).toArray)
    (HO : OL w J W 94 13 encPart v l) (HM : Mg w L I J st W) (hl : (l.length + 1) * 200 ≤ 140737488355328)
    (h : ∀ v1 W1, OL w J W1 94 13 encPart v1 (l ++ [y]) → Mg w L I J st W1 → W.grownBy W1 v.ownBlock → wpList Tryz.prog ops Q rest (a.put o.dst v1) W1) :
    wpList Tryz.prog ops Q (o :: rest) a W :=
  wp_app1 hg s x 65 94 (.agg #[.int .i64 0, .int .i64 0, .int .i64 0, .int .i64 0, .string ⟨#[]⟩, .string ⟨#[]⟩, .bool false, .bool false, .slice none 0 0, .slice none 0 0, .slice none 0 0, .slice none 0 0, .slice none 0 0]) 13 200 ho Tryz.underlying65 info_part rfl (by decide) (by decide) encPart v l y b c cs tb fr hs hx hb hcs rfl (by
    intro u hu
    simp only [encPart, List.mem_cons, List.not_mem_nil, or_false] at hu
    rcases hu with rfl | rfl | rfl | rfl | rfl | rfl | rfl | rfl | rfl | rfl | rfl | rfl | rfl <;> rfl) HO HM hl h
theorem slice_dropE (W : World) (b off n i cap : Nat) (h0 : 0 < n) (h1 : n ≤ i) (h2 : i ≤ cap) :
    (Instr.slice 55 (.slice (some ⟨b, off, none⟩) i cap) (some (.int .i64 n)) none none).run Tryz.prog W = .ok (.slice (some ⟨b, if cap = n then off else off + n * 3, none⟩) (i - n) (cap - n)) W := by
  have hu := fun W => run_underlying (P := Tryz.prog) (w := W) Tryz.underlying55
  obtain ⟨i0, hi, hz0, hz1, hz2⟩ := info_parts info_entry
  have h3 : ¬ ((i : Int) < n) := by omega
  by_cases hc : cap = n
  · subst hc
    simp [Instr.slice, Instr.sliceBounds, Instr.sliceBound, hu, sizeOf, typeInfo, hi, hz1, h1, h3, go_sem]
  · have hc' : ¬ (n = cap) := fun e => hc e.symm
    simp [Instr.slice, Instr.sliceBounds, Instr.sliceBound, hu, sizeOf, typeInfo, hi, hz1, h1, h3, hc, hc', go_sem]
theorem Row.dropE {I : IHeap} {b off m cap n : Nat} {l : List Entry} (h : Entries I (.slice (some ⟨b, off, none⟩) m cap) l) (hn : n ≤ l.length) : Entries I (.slice (some ⟨b, if cap = n then off else off + n * 3, none⟩) (l.length - n) (cap - n)) (l.drop n) := by
  obtain ⟨h1, a, c, hv, h2, h3, h4, h5⟩ := h
  simp only [Value.slice.injEq] at hv
  obtain ⟨rfl, rfl, rfl⟩ := hv
  have hl : (l.drop n).length = l.length - n := List.length_drop
  refine ⟨by rw [flat_len (sz := 3) (fun _ => rfl)], _, _, by rw [hl], ?_, by omega, fun h => (by cases h), ?_⟩
  · rw [hl]; omega
  · rcases h5 with h5 | ⟨b', off', cur, fr, ha, hI, hx⟩
    · exact .inl (by omega)
    · simp only [Option.some.injEq, Addr.mk.injEq, and_true] at ha
      obtain ⟨rfl, rfl⟩ := ha
      by_cases ht : l.length = n
      · exact .inl (by omega)
      · refine .inr ⟨b, _, cur, fr, rfl, hI, ?_⟩
        rw [if_neg (by omega), hl]
        have e := congrArg (List.drop (n * 3)) hx
        rw [List.drop_take, List.drop_drop, ← Nat.sub_mul] at e
        rw [e]
        have : l = l.take n ++ l.drop n := (List.take_append_drop n l).symm
        conv => lhs; rw [this, List.flatMap_append]
        have hl2 : ((l.take n).flatMap encEntry).length = n * 3 := by rw [flat_len (sz := 3) (fun _ => rfl), List.length_take, Nat.min_eq_left hn]
        rw [List.drop_append_of_le_length (by omega), List.drop_of_length_le (by omega), List.nil_append]
end Go.Proofs.YtadaiihoclknmaaGreat
