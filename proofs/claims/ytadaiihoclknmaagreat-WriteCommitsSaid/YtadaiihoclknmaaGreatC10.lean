/- Part 10 of the proof: Desc3, Desc4, Desc5, Desc6. -/
import Derived.Test.YtadaiihoclknmaaGreatC09
import Derived.Deep.RegionWith
import Derived.Test.YtadaiihoclknmaaGreatC06
import Derived.Deep.LoopGhost
/- Descriptors: the latest one; its version; errors; undone, dropped. -/
namespace Go.Proofs.YtadaiihoclknmaaGreat
open Go.RowKit
set_option maxHeartbeats 4000000
set_option maxRecDepth 100000
set_option linter.unusedVariables false
set_option linter.unusedSimpArgs false

structure Lat where
  h : Int
  d : Desc
  is : Bool
  e : Int
def dLatest (top : Int) : Prog Lat := do
  let x ← pWord top
  if x.2 = 0 then do
    let y ← dLoad x.1
    if y.2 = 0 then do
      let z ← pWord y.1.status
      if z.2 = 0 then return ⟨x.1, y.1, z.1 == 1, 0⟩
      else return ⟨0, Desc.none, false, z.2⟩
    else return ⟨0, Desc.none, false, y.2⟩
  else return ⟨0, Desc.none, false, x.2⟩
def LatV (J : IHeap) (v : Value) (a : Lat) : Prop := ∃ x, v = .tuple #[.int .i64 a.h, x, .bool a.is, .int .i64 a.e] ∧ DescV J x a.d
theorem desc_Latest (w : World) (L : Loc) (I : IHeap) (s : PS) (hst : St w L I s) (top : Int) (hn : ((dLatest top).exec s).1.ok) :
    Calls Tryz.prog 87 #[.pointer (some ⟨L.p, 0, none⟩), .int .i64 top] w (Post L w I ((dLatest top).exec s) LatV) := by
  have M0 := Lib.hid (Mg.start hst)
  have HN := Lib.hid hn
  have X0 : Ex ((dLatest top).exec s) ((dLatest top).exec s) := ⟨rfl⟩
  clear hst hn
  go_enter Tryz.func87, Tryz.ntmps87
  go_wp2_with fail
  refine (port_Word _ L _ _ (M0.out.alloc _).st top (ok_of HN.out X0.out)).mono ?_
  intro e W1 hP
  rcases (M0.out.alloc _).call hP with ⟨⟨a1, e1⟩, s1, J1, v1, hr, rfl, rfl, hg, hk, hM⟩ | ⟨s', J', hr, rfl, hM⟩
  rotate_left
  · exact post_panic rfl (by rw [x_paused X0.out hr]; exact hM.paused)
  have M1 := Lib.hid hM
  have K1 := Lib.hid hk
  have G1 := Lib.hid hg
  have X1 := Ex.mk (x_ret X0.out hr)
  clear hP hr hg hk hM
  have O0 := Lib.hid (OB.fresh (M0.out) #[.int .i64 0, .int .i64 0, .int .i64 0, .slice none 0 0] 46 rfl)
  have O1 := Lib.hid (OB.thru O0.out (M0.out.alloc _) K1.out G1.out (fun hh => by repeat (first | with_reducible exact hh | with_reducible refine OB.alloc ?_ _ | with_reducible refine OB.drew ?_ | with_reducible refine OB.drewN ?_ _ | refine OB.far ?_ (by dsimp only; omega) _)))
  clear O0
  by_cases he : e1 = 0
  · subst he
    have X2 := Ex.mk (x_if X1.out rfl)
    go_wp2_with fail
    refine (desc_Load _ L _ _ (M1.out).st a1 (ok_of HN.out X2.out)).mono ?_
    intro e W3 hP
    rcases (M1.out).call hP with ⟨⟨d, e3⟩, s3, J3, v3, hr, rfl, hR, hg, hk, hM⟩ | ⟨s', J', hr, rfl, hM⟩
    rotate_left
    · exact post_panic rfl (by rw [x_paused X2.out hr]; exact hM.paused)
    have M3 := Lib.hid hM
    have K3 := Lib.hid hk
    have G3 := Lib.hid hg
    have X3 := Ex.mk (x_ret X2.out hr)
    clear hP hr hg hk hM
    obtain ⟨x, rfl, hd⟩ := hR
    obtain ⟨A, cap, rfl, _⟩ := hd.form
    have HD := Lib.hid hd
    clear hd
    have O3 := Lib.hid (OB.thru O1.out (M1.out) K3.out G3.out (fun hh => by repeat (first | with_reducible exact hh | with_reducible refine OB.alloc ?_ _ | with_reducible refine OB.drew ?_ | with_reducible refine OB.drewN ?_ _ | refine OB.far ?_ (by dsimp only; omega) _)))
    by_cases he : e3 = 0
    · subst he
      have X4 := Ex.mk (x_if X3.out rfl)
      have P3 := Lib.hid (OB.fresh (M3.out) #[.int .i64 d.version, .int .i64 d.before, .int .i64 d.status, .slice A d.swaps.length cap] 46 rfl)
      have o3 := lt_of_block O3.out.at_
      go_wp2_with fail
      refine (port_Word _ L _ _ (M3.out.alloc _).st d.status (ok_of HN.out X4.out)).mono ?_
      intro e W5 hP
      rcases (M3.out.alloc _).call hP with ⟨⟨a5, e5⟩, s5, J5, v5, hr, rfl, rfl, hg, hk, hM⟩ | ⟨s', J', hr, rfl, hM⟩
      rotate_left
      · exact post_panic rfl (by rw [x_paused X4.out hr]; exact hM.paused)
      have M5 := Lib.hid hM
      have K5 := Lib.hid hk
      have G5 := Lib.hid hg
      have X5 := Ex.mk (x_ret X4.out hr)
      clear hP hr hg hk hM
      have P5 := Lib.hid (OB.thru P3.out (M3.out.alloc _) K5.out G5.out (fun hh => by repeat (first | with_reducible exact hh | with_reducible refine OB.alloc ?_ _ | with_reducible refine OB.drew ?_ | with_reducible refine OB.drewN ?_ _ | refine OB.far ?_ (by dsimp only; omega) _)))
      have O5 := Lib.hid (OB.thru O3.out (M3.out.alloc _) K5.out G5.out (fun hh => by repeat (first | with_reducible exact hh | with_reducible refine OB.alloc ?_ _ | with_reducible refine OB.drew ?_ | with_reducible refine OB.drewN ?_ _ | refine OB.far ?_ (by dsimp only; omega) _)))
      have p0 := cell_blk P5.out.at_ 0
      have p1 := cell_blk P5.out.at_ 1
      have p2 := cell_blk P5.out.at_ 2
      have p3 := cell_blk P5.out.at_ 3
      have pf0 := free_blk P5.out.at_ 0
      have pf1 := free_blk P5.out.at_ 1
      have pf2 := free_blk P5.out.at_ 2
      have pf3 := free_blk P5.out.at_ 3
      have ps := lt_of_block P5.out.at_
      have g0 := cell_blk O5.out.at_ 0
      have g1 := cell_blk O5.out.at_ 1
      have g2 := cell_blk O5.out.at_ 2
      have g3 := cell_blk O5.out.at_ 3
      have gf0 := free_blk O5.out.at_ 0
      have gf1 := free_blk O5.out.at_ 1
      have gf2 := free_blk O5.out.at_ 2
      have gf3 := free_blk O5.out.at_ 3
      have gs := lt_of_block O5.out.at_
      clear P3 O3 O1
      by_cases he : e5 = 0
      · subst he
        have X6 := Ex.mk (x_if X5.out rfl)
        go_wp2
        go_region
        all_goals
          go_wp2
          refine bodyPost_ret (v := .tuple #[.int .i64 a1, .agg #[.int .i64 d.version, .int .i64 d.before, .int .i64 d.status, .slice A d.swaps.length cap], .bool (a5 == 1), .int .i64 0]) (by simp [results, Tryz.results87, go_sem, g0, g1, g2, g3, gs]) rfl ?_
          rw [x_done X6.out]
          exact Mg.post (J := J5) (by repeat (first | with_reducible exact M5.out | with_reducible refine Mg.drewN ?_ _ | with_reducible refine Mg.drew ?_ | with_reducible refine Mg.alloc ?_ _ | refine Mg.seto ?_ (by repeat (first | with_reducible exact O5.out.ok | with_reducible refine OwnOk.set ?_ _ _ | with_reducible refine OwnOk.alloc ?_ _ | with_reducible refine OwnOk.drew ?_ | with_reducible refine OwnOk.drewN ?_ _)) _)) ⟨_, rfl, HD.out.mono G5.out.le⟩
      · have t1 := ne_true he
        have X6 := Ex.mk (x_else X5.out he)
        clear he
        go_wp2
        refine bodyPost_ret (v := .tuple #[.int .i64 0, .agg #[.int .i64 0, .int .i64 0, .int .i64 0, .slice none 0 0], .bool false, .int .i64 e5]) (by simp [results, Tryz.results87, go_sem, g0, g1, g2, g3, gs]) rfl ?_
        rw [x_done X6.out]
        exact Mg.post (J := J5) (by repeat (first | with_reducible exact M5.out | with_reducible refine Mg.drewN ?_ _ | with_reducible refine Mg.drew ?_ | with_reducible refine Mg.alloc ?_ _ | refine Mg.seto ?_ (by repeat (first | with_reducible exact O5.out.ok | with_reducible refine OwnOk.set ?_ _ _ | with_reducible refine OwnOk.alloc ?_ _ | with_reducible refine OwnOk.drew ?_ | with_reducible refine OwnOk.drewN ?_ _)) _)) ⟨_, rfl, DescV.none _⟩
    · have t1 := ne_true he
      have X4 := Ex.mk (x_else X3.out he)
      have g0 := cell_blk O3.out.at_ 0
      have g1 := cell_blk O3.out.at_ 1
      have g2 := cell_blk O3.out.at_ 2
      have g3 := cell_blk O3.out.at_ 3
      have gf0 := free_blk O3.out.at_ 0
      have gf1 := free_blk O3.out.at_ 1
      have gf2 := free_blk O3.out.at_ 2
      have gf3 := free_blk O3.out.at_ 3
      have gs := lt_of_block O3.out.at_
      clear he
      go_wp2
      refine bodyPost_ret (v := .tuple #[.int .i64 0, .agg #[.int .i64 0, .int .i64 0, .int .i64 0, .slice none 0 0], .bool false, .int .i64 e3]) (by simp [results, Tryz.results87, go_sem, g0, g1, g2, g3, gs]) rfl ?_
      rw [x_done X4.out]
      exact Mg.post (J := J3) (by repeat (first | with_reducible exact M3.out | with_reducible refine Mg.drewN ?_ _ | with_reducible refine Mg.drew ?_ | with_reducible refine Mg.alloc ?_ _ | refine Mg.seto ?_ (by repeat (first | with_reducible exact O3.out.ok | with_reducible refine OwnOk.set ?_ _ _ | with_reducible refine OwnOk.alloc ?_ _ | with_reducible refine OwnOk.drew ?_ | with_reducible refine OwnOk.drewN ?_ _)) _)) ⟨_, rfl, DescV.none _⟩
  · have t1 := ne_true he
    have X2 := Ex.mk (x_else X1.out he)
    have g0 := cell_blk O1.out.at_ 0
    have g1 := cell_blk O1.out.at_ 1
    have g2 := cell_blk O1.out.at_ 2
    have g3 := cell_blk O1.out.at_ 3
    have gf0 := free_blk O1.out.at_ 0
    have gf1 := free_blk O1.out.at_ 1
    have gf2 := free_blk O1.out.at_ 2
    have gf3 := free_blk O1.out.at_ 3
    have gs := lt_of_block O1.out.at_
    clear he
    go_wp2
    refine bodyPost_ret (v := .tuple #[.int .i64 0, .agg #[.int .i64 0, .int .i64 0, .int .i64 0, .slice none 0 0], .bool false, .int .i64 e1]) (by simp [results, Tryz.results87, go_sem, g0, g1, g2, g3, gs]) rfl ?_
    rw [x_done X2.out]
    exact Mg.post (J := J1) (by repeat (first | with_reducible exact M1.out | with_reducible refine Mg.drewN ?_ _ | with_reducible refine Mg.drew ?_ | with_reducible refine Mg.alloc ?_ _ | refine Mg.seto ?_ (by repeat (first | with_reducible exact O1.out.ok | with_reducible refine OwnOk.set ?_ _ _ | with_reducible refine OwnOk.alloc ?_ _ | with_reducible refine OwnOk.drew ?_ | with_reducible refine OwnOk.drewN ?_ _)) _)) ⟨_, rfl, DescV.none _⟩

def dVersion (top : Int) : Prog (Int × Int) := do
  let x ← dLatest top
  if x.e ≠ 0 ∨ x.is = true then return (x.d.version, x.e)
  else return (x.d.before, 0)
theorem desc_Version (w : World) (L : Loc) (I : IHeap) (s : PS) (hst : St w L I s) (top : Int) (hn : ((dVersion top).exec s).1.ok) :
    Calls Tryz.prog 127 #[.pointer (some ⟨L.p, 0, none⟩), .int .i64 top] w (Post L w I ((dVersion top).exec s) (Is pairV)) := by
  have M0 := Lib.hid (Mg.start hst)
  have HN := Lib.hid hn
  have X0 : Ex ((dVersion top).exec s) ((dVersion top).exec s) := ⟨rfl⟩
  clear hst hn
  go_enter Tryz.func127, Tryz.ntmps127
  go_wp2_with fail
  refine (desc_Latest _ L _ _ (M0.out).st top (ok_of HN.out X0.out)).mono ?_
  intro e W1 hP
  rcases (M0.out).call hP with ⟨⟨h1, d, is, e1⟩, s1, J1, v1, hr, rfl, hR, hg, hk, hM⟩ | ⟨s', J', hr, rfl, hM⟩
  rotate_left
  · exact post_panic rfl (by rw [x_paused X0.out hr]; exact hM.paused)
  have M1 := Lib.hid hM
  have K1 := Lib.hid hk
  have G1 := Lib.hid hg
  have X1 := Ex.mk (x_ret X0.out hr)
  clear hP hr hg hk hM
  obtain ⟨x, rfl, hd⟩ := hR
  obtain ⟨A, cap, rfl, _⟩ := hd.form
  clear hd
  by_cases he : e1 = 0
  · subst he
    cases is with
    | true =>
      have X2 := Ex.mk (x_if X1.out (.inr rfl))
      go_wp2
      go_ret2
      rw [x_done X2.out]
      exact Mg.post (J := J1) (by repeat (first | with_reducible exact M1.out | with_reducible refine Mg.drewN ?_ _ | with_reducible refine Mg.drew ?_ | with_reducible refine Mg.alloc ?_ _ | refine Mg.seto ?_ (by repeat (first | with_reducible refine OwnOk.set ?_ _ _ | with_reducible refine OwnOk.alloc ?_ _ | with_reducible refine OwnOk.drew ?_ | with_reducible refine OwnOk.drewN ?_ _)) _)) rfl
    | false =>
      have X2 := Ex.mk (x_else X1.out (by simp))
      go_wp2
      go_ret2
      rw [x_done X2.out]
      exact Mg.post (J := J1) (by repeat (first | with_reducible exact M1.out | with_reducible refine Mg.drewN ?_ _ | with_reducible refine Mg.drew ?_ | with_reducible refine Mg.alloc ?_ _ | refine Mg.seto ?_ (by repeat (first | with_reducible refine OwnOk.set ?_ _ _ | with_reducible refine OwnOk.alloc ?_ _ | with_reducible refine OwnOk.drew ?_ | with_reducible refine OwnOk.drewN ?_ _)) _)) rfl
  · have t1 := ne_true he
    have X2 := Ex.mk (x_if X1.out (.inl he))
    clear he
    go_wp2
    go_ret2
    rw [x_done X2.out]
    exact Mg.post (J := J1) (by repeat (first | with_reducible exact M1.out | with_reducible refine Mg.drewN ?_ _ | with_reducible refine Mg.drew ?_ | with_reducible refine Mg.alloc ?_ _ | refine Mg.seto ?_ (by repeat (first | with_reducible refine OwnOk.set ?_ _ _ | with_reducible refine OwnOk.alloc ?_ _ | with_reducible refine OwnOk.drew ?_ | with_reducible refine OwnOk.drewN ?_ _)) _)) rfl
end Go.Proofs.YtadaiihoclknmaaGreat
/- Descriptors: undone, dropped. -/
namespace Go.Proofs.YtadaiihoclknmaaGreat
open Go.RowKit
set_option maxHeartbeats 4000000
set_option maxRecDepth 100000
set_option linter.unusedVariables false
set_option linter.unusedSimpArgs false

def first2 (a b : Int) : Int := if a = 0 then b else a
theorem first2_any (w : World) (g : Nat) (a b : Int) (h0 : w.cell? ⟨g, 0, none⟩ = some (.int .i64 a)) (h1 : w.cell? ⟨g, 1, none⟩ = some (.int .i64 b)) :
    Calls Tryz.prog 144 #[.slice (some ⟨g, 0, none⟩) 2 2] w fun e w' => e = .returned (.int .i64 (first2 a b)) ∧ w = w' := by
  by_cases ha : a = 0
  · subst ha
    by_cases hb : b = 0
    · subst hb
      go_enter Tryz.func144, Tryz.ntmps144
      go_wp2
      refine wp_loop_rounds 3 ?_
      rw [rounds_succ]
      go_wp2
      rw [rounds_succ]
      go_wp2
      rw [rounds_succ]
      go_wp2
      go_ret
      exact ⟨rfl, rfl⟩
    · have t1 := ne_true hb
      have E := Lib.hid (show first2 0 b = b by simp [first2])
      clear hb
      go_enter Tryz.func144, Tryz.ntmps144
      go_wp2
      refine wp_loop_rounds 2 ?_
      rw [rounds_succ]
      go_wp2
      rw [rounds_succ]
      go_wp2
      go_ret
      rw [E.out]
      exact ⟨rfl, rfl⟩
  · have t1 := ne_true ha
    have E := Lib.hid (show first2 a b = a by simp [first2, ha])
    clear ha
    go_enter Tryz.func144, Tryz.ntmps144
    go_wp2
    refine wp_loop_rounds 1 ?_
    rw [rounds_succ]
    go_wp2
    go_ret
    rw [E.out]
    exact ⟨rfl, rfl⟩
def dUndo (h : Int) : Prog Int := do
  let x ← dLoad h
  if x.2 = 0 then do
    let y ← pFree h
    let z ← pFree x.1.status
    return first2 y z
  else return x.2
theorem desc_Undo (w : World) (L : Loc) (I : IHeap) (s : PS) (hst : St w L I s) (h : Int) (hn : ((dUndo h).exec s).1.ok) :
    Calls Tryz.prog 91 #[.pointer (some ⟨L.p, 0, none⟩), .int .i64 h] w (Post L w I ((dUndo h).exec s) (Is fun a => .int .i64 a)) := by
  have M0 := Lib.hid (Mg.start hst)
  have HN := Lib.hid hn
  have X0 : Ex ((dUndo h).exec s) ((dUndo h).exec s) := ⟨rfl⟩
  clear hst hn
  go_enter Tryz.func91, Tryz.ntmps91
  go_wp2_with fail
  refine (desc_Load _ L _ _ (M0.out).st h (ok_of HN.out X0.out)).mono ?_
  intro e W1 hP
  rcases (M0.out).call hP with ⟨⟨d, e1⟩, s1, J1, v1, hr, rfl, hR, hg, hk, hM⟩ | ⟨s', J', hr, rfl, hM⟩
  rotate_left
  · exact post_panic rfl (by rw [x_paused X0.out hr]; exact hM.paused)
  have M1 := Lib.hid hM
  have K1 := Lib.hid hk
  have G1 := Lib.hid hg
  have X1 := Ex.mk (x_ret X0.out hr)
  clear hP hr hg hk hM
  obtain ⟨x, rfl, hd⟩ := hR
  obtain ⟨A, cap, rfl, _⟩ := hd.form
  clear hd
  by_cases he : e1 = 0
  · subst he
    have X2 := Ex.mk (x_if X1.out rfl)
    have O2 := Lib.hid (OB.fresh (M1.out) #[.int .i64 d.version, .int .i64 d.before, .int .i64 d.status, .slice A d.swaps.length cap] 46 rfl)
    have M2 := Lib.hid ((M1.out.alloc (.cells #[.int .i64 d.version, .int .i64 d.before, .int .i64 d.status, .slice A d.swaps.length cap] 46)).drew)
    have Q2 := Lib.hid (cell_blk O2.out.at_ 2)
    go_wp2
    have p2 := cell_blk O2.out.at_ 2
    have pf2 := free_blk O2.out.at_ 2
    have ps := lt_of_block O2.out.at_
    go_region_with (first
        | (go_at_call 144; refine (first2_any _ _ e3 e4 ?a0 ?a1).mono ?_; (case a0 => exact (cell_blk (alloc_new _ _) 0).trans rfl); (case a1 => exact (cell_blk (alloc_new _ _) 1).trans rfl); rintro e w' ⟨rfl, rfl⟩)
        | (go_at_call 116; have _t := M3
           refine (port_Free _ L _ _ (M3.out).st d.status (ok_of HN.out X3.out)).mono ?_
           intro e W4 hP
           rcases (M3.out).call hP with ⟨e4, s4, J4, v4, hr, rfl, rfl, hg, hk, hM⟩ | ⟨s', J', hr, rfl, hM⟩
           rotate_left
           · exact post_panic rfl (by rw [x_paused X3.out hr]; exact hM.paused)
           have M4 := Lib.hid hM
           have K4 := Lib.hid hk
           have G4 := Lib.hid hg
           have X4 := Ex.mk (x_ret X3.out hr)
           clear hP hr hg hk hM
           skip)
        | (go_at_call 116
           refine (port_Free _ L _ _ (M2.out).st h (ok_of HN.out X2.out)).mono ?_
           intro e W3 hP
           rcases (M2.out).call hP with ⟨e3, s3, J3, v3, hr, rfl, rfl, hg, hk, hM⟩ | ⟨s', J', hr, rfl, hM⟩
           rotate_left
           · exact post_panic rfl (by rw [x_paused X2.out hr]; exact hM.paused)
           have M3 := Lib.hid hM
           have K3 := Lib.hid hk
           have G3 := Lib.hid hg
           have X3 := Ex.mk (x_ret X2.out hr)
           clear hP hr hg hk hM
           have O3 := Lib.hid (OB.thru O2.out M2.out K3.out G3.out (fun hh => hh.drew))
           have q2 := cell_blk O3.out.at_ 2
           have qf2 := free_blk O3.out.at_ 2
           have qs := lt_of_block O3.out.at_
           skip))
    all_goals
      go_wp2
      go_ret
      rw [x_done X4.out]
      exact Mg.post (J := J4) (by repeat (first | with_reducible exact M4.out | with_reducible refine Mg.drewN ?_ _ | with_reducible refine Mg.drew ?_ | with_reducible refine Mg.alloc ?_ _ | refine Mg.seto ?_ (by repeat (first | with_reducible refine OwnOk.set ?_ _ _ | with_reducible refine OwnOk.alloc ?_ _ | with_reducible refine OwnOk.drew ?_ | with_reducible refine OwnOk.drewN ?_ _)) _)) rfl
  · have t1 := ne_true he
    have X2 := Ex.mk (x_else X1.out he)
    clear he
    go_wp2
    go_ret
    rw [x_done X2.out]
    exact Mg.post (J := J1) (by repeat (first | with_reducible exact M1.out | with_reducible refine Mg.drewN ?_ _ | with_reducible refine Mg.drew ?_ | with_reducible refine Mg.alloc ?_ _ | refine Mg.seto ?_ (by repeat (first | with_reducible refine OwnOk.set ?_ _ _ | with_reducible refine OwnOk.alloc ?_ _ | with_reducible refine OwnOk.drew ?_ | with_reducible refine OwnOk.drewN ?_ _)) _)) rfl
def dDrop (h st : Int) : Prog Int := do
  let x ← dLoad h
  if x.2 = 0 then do
    let y ← pRetire h st
    let z ← pRetire x.1.status st
    return first2 y z
  else return x.2
theorem desc_Drop (w : World) (L : Loc) (I : IHeap) (s : PS) (hst : St w L I s) (h st : Int) (hn : ((dDrop h st).exec s).1.ok) :
    Calls Tryz.prog 94 #[.pointer (some ⟨L.p, 0, none⟩), .int .i64 h, .int .i64 st] w (Post L w I ((dDrop h st).exec s) (Is fun a => .int .i64 a)) := by
  have M0 := Lib.hid (Mg.start hst)
  have HN := Lib.hid hn
  have X0 : Ex ((dDrop h st).exec s) ((dDrop h st).exec s) := ⟨rfl⟩
  clear hst hn
  go_enter Tryz.func94, Tryz.ntmps94
  go_wp2_with fail
  refine (desc_Load _ L _ _ (M0.out).st h (ok_of HN.out X0.out)).mono ?_
  intro e W1 hP
  rcases (M0.out).call hP with ⟨⟨d, e1⟩, s1, J1, v1, hr, rfl, hR, hg, hk, hM⟩ | ⟨s', J', hr, rfl, hM⟩
  rotate_left
  · exact post_panic rfl (by rw [x_paused X0.out hr]; exact hM.paused)
  have M1 := Lib.hid hM
  have K1 := Lib.hid hk
  have G1 := Lib.hid hg
  have X1 := Ex.mk (x_ret X0.out hr)
  clear hP hr hg hk hM
  obtain ⟨x, rfl, hd⟩ := hR
  obtain ⟨A, cap, rfl, _⟩ := hd.form
  clear hd
  by_cases he : e1 = 0
  · subst he
    have X2 := Ex.mk (x_if X1.out rfl)
    have O2 := Lib.hid (OB.fresh (M1.out) #[.int .i64 d.version, .int .i64 d.before, .int .i64 d.status, .slice A d.swaps.length cap] 46 rfl)
    have M2 := Lib.hid ((M1.out.alloc (.cells #[.int .i64 d.version, .int .i64 d.before, .int .i64 d.status, .slice A d.swaps.length cap] 46)).drew)
    have Q2 := Lib.hid (cell_blk O2.out.at_ 2)
    go_wp2
    have p2 := cell_blk O2.out.at_ 2
    have pf2 := free_blk O2.out.at_ 2
    have ps := lt_of_block O2.out.at_
    go_region_with (first
        | (go_at_call 144; refine (first2_any _ _ e3 e4 ?a0 ?a1).mono ?_; (case a0 => exact (cell_blk (alloc_new _ _) 0).trans rfl); (case a1 => exact (cell_blk (alloc_new _ _) 1).trans rfl); rintro e w' ⟨rfl, rfl⟩)
        | (go_at_call 146; have _t := M3
           refine (port_Retire _ L _ _ (M3.out).st d.status st (ok_of HN.out X3.out)).mono ?_
           intro e W4 hP
           rcases (M3.out).call hP with ⟨e4, s4, J4, v4, hr, rfl, rfl, hg, hk, hM⟩ | ⟨s', J', hr, rfl, hM⟩
           rotate_left
           · exact post_panic rfl (by rw [x_paused X3.out hr]; exact hM.paused)
           have M4 := Lib.hid hM
           have K4 := Lib.hid hk
           have G4 := Lib.hid hg
           have X4 := Ex.mk (x_ret X3.out hr)
           clear hP hr hg hk hM
           skip)
        | (go_at_call 146
           refine (port_Retire _ L _ _ (M2.out).st h st (ok_of HN.out X2.out)).mono ?_
           intro e W3 hP
           rcases (M2.out).call hP with ⟨e3, s3, J3, v3, hr, rfl, rfl, hg, hk, hM⟩ | ⟨s', J', hr, rfl, hM⟩
           rotate_left
           · exact post_panic rfl (by rw [x_paused X2.out hr]; exact hM.paused)
           have M3 := Lib.hid hM
           have K3 := Lib.hid hk
           have G3 := Lib.hid hg
           have X3 := Ex.mk (x_ret X2.out hr)
           clear hP hr hg hk hM
           have O3 := Lib.hid (OB.thru O2.out M2.out K3.out G3.out (fun hh => hh.drew))
           have q2 := cell_blk O3.out.at_ 2
           have qf2 := free_blk O3.out.at_ 2
           have qs := lt_of_block O3.out.at_
           skip))
    all_goals
      go_wp2
      go_ret
      rw [x_done X4.out]
      exact Mg.post (J := J4) (by repeat (first | with_reducible exact M4.out | with_reducible refine Mg.drewN ?_ _ | with_reducible refine Mg.drew ?_ | with_reducible refine Mg.alloc ?_ _ | refine Mg.seto ?_ (by repeat (first | with_reducible refine OwnOk.set ?_ _ _ | with_reducible refine OwnOk.alloc ?_ _ | with_reducible refine OwnOk.drew ?_ | with_reducible refine OwnOk.drewN ?_ _)) _)) rfl
  · have t1 := ne_true he
    have X2 := Ex.mk (x_else X1.out he)
    clear he
    go_wp2
    go_ret
    rw [x_done X2.out]
    exact Mg.post (J := J1) (by repeat (first | with_reducible exact M1.out | with_reducible refine Mg.drewN ?_ _ | with_reducible refine Mg.drew ?_ | with_reducible refine Mg.alloc ?_ _ | refine Mg.seto ?_ (by repeat (first | with_reducible refine OwnOk.set ?_ _ _ | with_reducible refine OwnOk.alloc ?_ _ | with_reducible refine OwnOk.drew ?_ | with_reducible refine OwnOk.drewN ?_ _)) _)) rfl
end Go.Proofs.YtadaiihoclknmaaGreat
/- Descriptors: made, published. -/
namespace Go.Proofs.YtadaiihoclknmaaGreat
open Go.RowKit
set_option maxHeartbeats 4000000
set_option maxRecDepth 100000
set_option linter.unusedVariables false
set_option linter.unusedSimpArgs false

def dPublish (top old h : Int) : Prog (Bool × Int) := pSwap top old h
abbrev boolE (a : Bool × Int) : Value := .tuple #[.bool a.1, .int .i64 a.2]
theorem desc_Publish (w : World) (L : Loc) (I : IHeap) (s : PS) (hst : St w L I s) (top old h : Int) (hn : ((dPublish top old h).exec s).1.ok) :
    Calls Tryz.prog 90 #[.pointer (some ⟨L.p, 0, none⟩), .int .i64 top, .int .i64 old, .int .i64 h] w (Post L w I ((dPublish top old h).exec s) (Is boolE)) := by
  have M0 := Lib.hid (Mg.start hst)
  have HN := Lib.hid hn
  have X0 : Ex ((dPublish top old h).exec s) ((pSwap top old h).exec s) := ⟨rfl⟩
  clear hst hn
  go_enter Tryz.func90, Tryz.ntmps90
  go_wp2_with fail
  refine (port_Swap _ L _ _ (M0.out).st top old h (ok_last HN.out X0.out)).mono ?_
  intro e W1 hP
  rcases (M0.out).call hP with ⟨⟨a1, e1⟩, s1, J1, v1, hr, rfl, rfl, hg, hk, hM⟩ | ⟨s', J', hr, rfl, hM⟩
  rotate_left
  · exact post_panic rfl (by rw [X0.out.trans hr]; exact hM.paused)
  have M1 := Lib.hid hM
  have K1 := Lib.hid hk
  have G1 := Lib.hid hg
  have X1 := Ex.mk (X0.out.trans hr)
  clear hP hr hg hk hM
  go_wp2
  go_ret2
  rw [X1.out]
  exact Mg.post (J := J1) (by repeat (first | with_reducible exact M1.out | with_reducible refine Mg.drewN ?_ _ | with_reducible refine Mg.drew ?_ | with_reducible refine Mg.alloc ?_ _ | refine Mg.seto ?_ (by repeat (first | with_reducible refine OwnOk.set ?_ _ _ | with_reducible refine OwnOk.alloc ?_ _ | with_reducible refine OwnOk.drew ?_ | with_reducible refine OwnOk.drewN ?_ _)) _)) rfl

def dMake (version before : Int) (swaps : List Swap) : Prog (Int × Int) := dLaid 0 ⟨version, before, 0, swaps⟩
theorem desc_Make (w : World) (L : Loc) (I : IHeap) (s : PS) (hst : St w L I s) (version before : Int) (sv : Value) (swaps : List Swap) (hd : Swaps I sv swaps) (hb : swaps.length * 24 ≤ 140737488355328) (hn : ((dMake version before swaps).exec s).1.ok) :
    Calls Tryz.prog 89 #[.pointer (some ⟨L.p, 0, none⟩), .int .i64 version, .int .i64 before, sv] w (Post L w I ((dMake version before swaps).exec s) (Is pairV)) := by
  have M0 := Lib.hid (Mg.start hst)
  have HN := Lib.hid hn
  have X0 : Ex ((dMake version before swaps).exec s) ((dLaid 0 ⟨version, before, 0, swaps⟩).exec s) := ⟨rfl⟩
  have HD := Lib.hid hd
  clear hst hn hd
  go_enter Tryz.func89, Tryz.ntmps89
  go_wp2_with fail
  refine (clone_swaps _ I M0.out.st.held _ _ HD.out hb).mono ?_
  rintro e W1 ⟨cv, rfl, ho, hk⟩
  obtain ⟨J1, hM, hl, hR, _⟩ := (M0.out.new hk).row ho rfl (Nat.le_refl _)
  have M1 := Lib.hid hM
  have HD1 := Lib.hid (show Swaps J1 cv swaps from hR)
  obtain ⟨A, cap, rfl, _⟩ := HD1.out.form
  clear ho hk hM hl hR
  go_wp2_with fail
  refine (desc_laid _ L _ _ (M1.out).st 0 ⟨version, before, 0, swaps⟩ _ HD1.out (ok_last HN.out X0.out)).mono ?_
  intro e W2 hP
  rcases (M1.out).call hP with ⟨⟨a1, e1⟩, s2, J2, v2, hr, rfl, rfl, hg, hk, hM⟩ | ⟨s', J', hr, rfl, hM⟩
  rotate_left
  · exact post_panic rfl (by rw [X0.out.trans hr]; exact hM.paused)
  have M2 := Lib.hid hM
  have K2 := Lib.hid hk
  have G2 := Lib.hid hg
  have X2 := Ex.mk (X0.out.trans hr)
  clear hP hr hg hk hM
  go_wp2
  go_ret2
  rw [X2.out]
  exact Mg.post (J := J2) (by repeat (first | with_reducible exact M2.out | with_reducible refine Mg.drewN ?_ _ | with_reducible refine Mg.drew ?_ | with_reducible refine Mg.alloc ?_ _ | refine Mg.seto ?_ (by repeat (first | with_reducible refine OwnOk.set ?_ _ _ | with_reducible refine OwnOk.alloc ?_ _ | with_reducible refine OwnOk.drew ?_ | with_reducible refine OwnOk.drewN ?_ _)) _)) rfl

def dInit : Prog (Int × Int) := do
  let x ← dLaid 1 Desc.none
  if x.2 = 0 then do
    let y ← pAllocWord x.1
    if y.2 = 0 then return (y.1, 0)
    else do
      let z ← dUndo x.1
      return (0, first2 z y.2)
  else return (0, x.2)
theorem desc_Init (w : World) (L : Loc) (I : IHeap) (s : PS) (hst : St w L I s) (hn : (dInit.exec s).1.ok) :
    Calls Tryz.prog 114 #[.pointer (some ⟨L.p, 0, none⟩)] w (Post L w I (dInit.exec s) (Is pairV)) := by
  have M0 := Lib.hid (Mg.start hst)
  have HN := Lib.hid hn
  have X0 : Ex (dInit.exec s) (dInit.exec s) := ⟨rfl⟩
  clear hst hn
  go_enter Tryz.func114, Tryz.ntmps114
  go_wp2_with fail
  refine (desc_laid _ L _ _ (M0.out).st 1 Desc.none (.slice none 0 0) (Row.nil _ _ _) (ok_of HN.out X0.out)).mono ?_
  intro e W1 hP
  rcases (M0.out).call hP with ⟨⟨a1, e1⟩, s1, J1, v1, hr, rfl, rfl, hg, hk, hM⟩ | ⟨s', J', hr, rfl, hM⟩
  rotate_left
  · exact post_panic rfl (by rw [x_paused X0.out hr]; exact hM.paused)
  have M1 := Lib.hid hM
  have K1 := Lib.hid hk
  have G1 := Lib.hid hg
  have X1 := Ex.mk (x_ret X0.out hr)
  clear hP hr hg hk hM
  by_cases he : e1 = 0
  · subst he
    have X2 := Ex.mk (x_if X1.out rfl)
    go_wp2_with fail
    refine (port_AllocWord _ L _ _ (M1.out).st a1 (ok_of HN.out X2.out)).mono ?_
    intro e W3 hP
    rcases (M1.out).call hP with ⟨⟨a3, e3⟩, s3, J3, v3, hr, rfl, rfl, hg, hk, hM⟩ | ⟨s', J', hr, rfl, hM⟩
    rotate_left
    · exact post_panic rfl (by rw [x_paused X2.out hr]; exact hM.paused)
    have M3 := Lib.hid hM
    have K3 := Lib.hid hk
    have G3 := Lib.hid hg
    have X3 := Ex.mk (x_ret X2.out hr)
    clear hP hr hg hk hM
    by_cases he : e3 = 0
    · subst he
      have X4 := Ex.mk (x_if X3.out rfl)
      go_wp2
      go_ret2
      rw [x_done X4.out]
      exact Mg.post (J := J3) (by repeat (first | with_reducible exact M3.out | with_reducible refine Mg.drewN ?_ _ | with_reducible refine Mg.drew ?_ | with_reducible refine Mg.alloc ?_ _ | refine Mg.seto ?_ (by repeat (first | with_reducible refine OwnOk.set ?_ _ _ | with_reducible refine OwnOk.alloc ?_ _ | with_reducible refine OwnOk.drew ?_ | with_reducible refine OwnOk.drewN ?_ _)) _)) rfl
    · have t1 := ne_true he
      have X4 := Ex.mk (x_else X3.out he)
      clear he
      go_wp2_with fail
      refine (desc_Undo _ L _ _ (M3.out).st a1 (ok_of HN.out X4.out)).mono ?_
      intro e W5 hP
      rcases (M3.out).call hP with ⟨e5, s5, J5, v5, hr, rfl, rfl, hg, hk, hM⟩ | ⟨s', J', hr, rfl, hM⟩
      rotate_left
      · exact post_panic rfl (by rw [x_paused X4.out hr]; exact hM.paused)
      have M5 := Lib.hid hM
      have K5 := Lib.hid hk
      have G5 := Lib.hid hg
      have X5 := Ex.mk (x_ret X4.out hr)
      clear hP hr hg hk hM
      go_wp2_with fail
      refine (first2_any _ _ e5 e3 ((cell_blk (alloc_new _ _) 0).trans rfl) ((cell_blk (alloc_new _ _) 1).trans rfl)).mono ?_
      rintro e w' ⟨rfl, rfl⟩
      go_wp2
      go_ret2
      rw [x_done X5.out]
      exact Mg.post (J := J5) (by repeat (first | with_reducible exact M5.out | with_reducible refine Mg.drewN ?_ _ | with_reducible refine Mg.drew ?_ | with_reducible refine Mg.alloc ?_ _ | refine Mg.seto ?_ (by repeat (first | with_reducible refine OwnOk.set ?_ _ _ | with_reducible refine OwnOk.alloc ?_ _ | with_reducible refine OwnOk.drew ?_ | with_reducible refine OwnOk.drewN ?_ _)) _)) rfl
  · have t1 := ne_true he
    have X2 := Ex.mk (x_else X1.out he)
    clear he
    go_wp2
    go_ret2
    rw [x_done X2.out]
    exact Mg.post (J := J1) (by repeat (first | with_reducible exact M1.out | with_reducible refine Mg.drewN ?_ _ | with_reducible refine Mg.drew ?_ | with_reducible refine Mg.alloc ?_ _ | refine Mg.seto ?_ (by repeat (first | with_reducible refine OwnOk.set ?_ _ _ | with_reducible refine OwnOk.alloc ?_ _ | with_reducible refine OwnOk.drew ?_ | with_reducible refine OwnOk.drewN ?_ _)) _)) rfl
end Go.Proofs.YtadaiihoclknmaaGreat
/- Descriptors: help. -/
namespace Go.Proofs.YtadaiihoclknmaaGreat
open Go.RowKit
set_option maxHeartbeats 4000000
set_option maxRecDepth 100000
set_option linter.unusedVariables false
set_option linter.unusedSimpArgs false

def dSwaps (st : Int) : List Swap → Prog Int
  | [] => do
    let y ← pSwap st 0 1
    return y.2
  | x :: xs => do
    let y ← pSwap x.cell x.old x.new
    if y.2 = 0 then dSwaps st xs else return y.2
def dHelp (d : Desc) : Prog Int := dSwaps d.status d.swaps
theorem dSwaps_cons (st : Int) (x : Swap) (xs : List Swap) : dSwaps st (x :: xs) = (do let y ← pSwap x.cell x.old x.new; if y.2 = 0 then dSwaps st xs else return y.2) := rfl
theorem desc_Help (w : World) (L : Loc) (I : IHeap) (s : PS) (hst : St w L I s) (d : Desc) (dv : Value) (hd : DescV I dv d) (hn : ((dHelp d).exec s).1.ok) :
    Calls Tryz.prog 88 #[.pointer (some ⟨L.p, 0, none⟩), dv] w (Post L w I ((dHelp d).exec s) (Is fun a => .int .i64 a)) := by
  have M0 := Lib.hid (Mg.start hst)
  have HN := Lib.hid hn
  have X0 : Ex ((dHelp d).exec s) ((dSwaps d.status d.swaps).exec s) := ⟨rfl⟩
  obtain ⟨A, cap, rfl, hsw⟩ := hd.form
  have HD := Lib.hid hsw
  have LN := Lib.hid (show d.swaps.length ≤ maxLen by obtain ⟨_, _, hv, h1, h2, _⟩ := hsw.form; exact Nat.le_trans h1 h2)
  clear hst hn hd hsw
  go_enter Tryz.func88, Tryz.ntmps88
  go_wp2_with fail
  have O0 := Lib.hid (OB.fresh (M0.out) #[.int .i64 d.version, .int .i64 d.before, .int .i64 d.status, .slice A d.swaps.length cap] 46 rfl)
  have M1 := Lib.hid (M0.out.alloc (.cells #[.int .i64 d.version, .int .i64 d.before, .int .i64 d.status, .slice A d.swaps.length cap] 46))
  go_loopg [14] d.swaps.length (fun n v W => ∃ (i : Nat) (J : IHeap) (s' : PS), v = .int .i64 i ∧ i + n = d.swaps.length ∧ Hid (Mg w L I J s' W) ∧ Hid (OB w J W w.heap.size #[.int .i64 d.version, .int .i64 d.before, .int .i64 d.status, .slice A d.swaps.length cap] 46) ∧ Ex ((dHelp d).exec s) ((dSwaps d.status (d.swaps.drop i)).exec s'))
  case atStart => exact ⟨0, I, s, rfl, by simp, M1, O0, X0⟩
  case round =>
  obtain ⟨i, J0, s0, rfl, hi, M0, O0, X0⟩ := hrel
  by_cases hlt : i < d.swaps.length
  · obtain ⟨b, off, rfl, _, hc⟩ := Sl.cell M0.out.st.held (HD.out.mono M0.out.grow.le) (fun _ => rfl) (by omega)
    have hx := List.getElem?_eq_getElem hlt
    have c0 : wr.cell? ⟨b, off + i * 3, none⟩ = _ := hc i 0 _ _ hx rfl
    have c1 : wr.cell? ⟨b, off + i * 3 + 1, none⟩ = _ := hc i 1 _ _ hx rfl
    have c2 : wr.cell? ⟨b, off + i * 3 + 2, none⟩ = _ := hc i 2 _ _ hx rfl
    clear hc hx
    have E := Lib.hid (List.drop_eq_getElem_cons hlt)
    generalize d.swaps[i] = x at c0 c1 c2 E
    go_wp2_with fail
    rw [E.out, dSwaps_cons] at X0
    have O1 := Lib.hid (O0.out.alloc (.cells #[.int .i64 x.cell, .int .i64 x.old, .int .i64 x.new] 44))
    refine (port_Swap _ L _ _ (M0.out.alloc _).st x.cell x.old x.new (ok_of HN.out X0.out)).mono ?_
    intro e W1 hP
    rcases (M0.out.alloc _).call hP with ⟨⟨a1, e1⟩, s1, J1, v1, hr, rfl, rfl, hg, hk, hM⟩ | ⟨s', J', hr, rfl, hM⟩
    rotate_left
    · exact post_panic rfl (by rw [x_paused X0.out hr]; exact hM.paused)
    have M1 := Lib.hid hM
    have K1 := Lib.hid hk
    have G1 := Lib.hid hg
    have X1 := Ex.mk (x_ret X0.out hr)
    clear hP hr hg hk hM
    have O2 := Lib.hid (OB.thru O0.out (M0.out.alloc _) K1.out G1.out (fun hh => by repeat (first | with_reducible exact hh | with_reducible refine OB.alloc ?_ _ | with_reducible refine OB.drew ?_ | with_reducible refine OB.drewN ?_ _ | refine OB.far ?_ (by dsimp only; omega) _)))
    by_cases he : e1 = 0
    · subst he
      have X2 := Ex.mk (x_if X1.out rfl)
      go_wp2
      go_roundg (gk - 1)
      case measure => omega
      case rel => exact ⟨i + 1, J1, s1, next_int hlt LN.out, by omega, M1, O2, X2⟩
    · have t1 := ne_true he
      have X2 := Ex.mk (x_else X1.out he)
      clear he
      go_wp2
      have g2 := cell_blk O2.out.at_ 2
      have gf2 := free_blk O2.out.at_ 2
      have gs := lt_of_block O2.out.at_
      go_ret
      rw [x_done X2.out]
      exact Mg.post (J := J1) (by repeat (first | with_reducible exact M1.out | with_reducible refine Mg.drewN ?_ _ | with_reducible refine Mg.drew ?_ | with_reducible refine Mg.alloc ?_ _ | refine Mg.seto ?_ (by repeat (first | with_reducible refine OwnOk.set ?_ _ _ | with_reducible refine OwnOk.alloc ?_ _ | with_reducible refine OwnOk.drew ?_ | with_reducible refine OwnOk.drewN ?_ _)) _)) rfl
  · have h0 : List.drop i d.swaps = [] := List.drop_eq_nil_of_le (by omega)
    rw [h0] at X0
    have g2 := cell_blk O0.out.at_ 2
    have gf2 := free_blk O0.out.at_ 2
    have gs := lt_of_block O0.out.at_
    go_wp2_with fail
    refine (port_Swap _ L _ _ (M0.out).st d.status 0 1 (ok_of HN.out X0.out)).mono ?_
    intro e W1 hP
    rcases (M0.out).call hP with ⟨⟨a1, e1⟩, s1, J1, v1, hr, rfl, rfl, hg, hk, hM⟩ | ⟨s', J', hr, rfl, hM⟩
    rotate_left
    · exact post_panic rfl (by rw [x_paused X0.out hr]; exact hM.paused)
    have M1 := Lib.hid hM
    have K1 := Lib.hid hk
    have G1 := Lib.hid hg
    have X1 := Ex.mk (x_ret X0.out hr)
    clear hP hr hg hk hM
    go_wp2
    go_ret
    rw [x_done X1.out]
    exact Mg.post (J := J1) (by repeat (first | with_reducible exact M1.out | with_reducible refine Mg.drewN ?_ _ | with_reducible refine Mg.drew ?_ | with_reducible refine Mg.alloc ?_ _ | refine Mg.seto ?_ (by repeat (first | with_reducible refine OwnOk.set ?_ _ _ | with_reducible refine OwnOk.alloc ?_ _ | with_reducible refine OwnOk.drew ?_ | with_reducible refine OwnOk.drewN ?_ _)) _)) rfl
  end Go.Proofs.YtadaiihoclknmaaGreat
