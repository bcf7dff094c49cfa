/- Part 17 of the proof: Tower2, Read1, Rev1. -/
import Derived.Deep.LoopGhost
import Derived.WalkMore
import Derived.Test.YtadaiihoclknmaaGreatC16
import Derived.Test.YtadaiihoclknmaaGreatC09
/- The tower: Search. -/
namespace Go.Proofs.YtadaiihoclknmaaGreat
open Go.RowKit
set_option maxHeartbeats 4000000
set_option maxRecDepth 100000
set_option linter.unusedVariables false
set_option linter.unusedSimpArgs false

/-- Greater. -/
def sGt (a b : ByteArray) : Bool := !Op.bytesLess a.toList b.toList && !(a.toList == b.toList)
/-- Down the levels, lv of them left. -/
def twDown (k : ByteArray) : Nat → Int → Node → Nat → Prog (Int × Node × Int)
  | 0, _, _, _ => .stuck
  | _ + 1, h, n, 0 => return (h, n, 0)
  | f + 1, h, n, lv + 1 => do
    let x ← twNext n lv
    if x.2 = 0 then
      if x.1 = 0 then twDown k f h n lv
      else do
        let y ← nLoad x.1
        if y.2 = 0 then
          if sGt y.1.low k = true then twDown k f h n lv else twDown k f x.1 y.1 (lv + 1)
        else return (0, Node.none, y.2)
    else return (0, Node.none, x.2)
theorem twDown_succ (k : ByteArray) (f : Nat) (h : Int) (n : Node) (lv : Nat) : twDown k (f + 1) h n (lv + 1) = (do
    let x ← twNext n lv
    if x.2 = 0 then
      if x.1 = 0 then twDown k f h n lv
      else do
        let y ← nLoad x.1
        if y.2 = 0 then
          if sGt y.1.low k = true then twDown k f h n lv else twDown k f x.1 y.1 (lv + 1)
        else return (0, Node.none, y.2)
    else return (0, Node.none, x.2)) := rfl
theorem twDown_zero (k : ByteArray) (f : Nat) (h : Int) (n : Node) : twDown k (f + 1) h n 0 = return (h, n, 0) := rfl
def twSearch (F : Nat) (first : Int) (k : ByteArray) : Prog (Int × Node × Int) := do
  let x ← nLoad first
  if x.2 = 0 then twDown k F first x.1 x.1.next.length else return (0, Node.none, x.2)
def FndE (J : IHeap) (v : Value) (a : Int × Node × Int) : Prop := ∃ x, v = .tuple #[.int .i64 a.1, x, .int .i64 a.2.2] ∧ NodeV J x a.2.1
theorem wrap64_len {n : Nat} (h : n ≤ maxLen) : wrap64 ((n : Int) - 1) = (n : Int) - 1 := by
  unfold maxLen at h; unfold wrap64; omega
theorem tower_Search (w : World) (L : Loc) (I : IHeap) (s : PS) (hst : St w L I s) (F : Nat) (first : Int) (k : ByteArray) (hn : ((twSearch F first k).exec s).1.ok) :
    Calls Tryz.prog 131 #[.pointer (some ⟨L.p, 0, none⟩), .int .i64 first, .string k] w (Post L w I ((twSearch F first k).exec s) FndE) := by
  have M0 := Lib.hid (Mg.start hst)
  have HN := Lib.hid hn
  have X0 : Ex ((twSearch F first k).exec s) ((twSearch F first k).exec s) := ⟨rfl⟩
  clear hst hn
  go_enter Tryz.func131, Tryz.ntmps131
  go_wp2_with fail
  go_step3
  go_wp2_with fail
  have O0 := Lib.hid (OB.fresh (M0.out) #[.string ⟨#[]⟩, .int .i64 0, .slice none 0 0] 117 rfl)
  refine (node_Load _ L _ _ (M0.out.alloc _).st first (ok_of HN.out X0.out)).mono ?_
  intro e W1 hP
  rcases (M0.out.alloc _).call hP with ⟨⟨n, e1⟩, s1, J1, v1, hr, rfl, ⟨x, rfl, hx⟩, hg, hk, hM⟩ | ⟨s', J', hr, rfl, hM⟩
  rotate_left
  · exact post_panic rfl (by rw [x_paused X0.out hr]; exact hM.paused)
  have M1 := Lib.hid hM
  have K1 := Lib.hid hk
  have G1 := Lib.hid hg
  have X1 := Ex.mk (x_ret X0.out hr)
  clear hP hr hg hk hM
  have O1 := Lib.hid (OB.call (M0.out.alloc _) K1.out G1.out O0.out)
  obtain ⟨A, cap, rfl, hs, hl⟩ := hx.form
  have HX := Lib.hid hx
  clear hx O0 hs
  dsimp only at HX X1 ⊢
  have g0 := cell_blk O1.out.at_ 0
  have g1 := cell_blk O1.out.at_ 1
  have g2 := cell_blk O1.out.at_ 2
  have gf0 := free_blk O1.out.at_ 0
  have gf1 := free_blk O1.out.at_ 1
  have gf2 := free_blk O1.out.at_ 2
  have gs := lt_of_block O1.out.at_
  by_cases he : e1 = 0
  · subst he
    have X2 := Ex.mk (x_if X1.out rfl)
    clear X1
    go_wp2_with fail
    go_step3
    go_wp2_with fail
    have O2 := Lib.hid (O1.out.alloc (.cells #[.string n.low, .int .i64 n.head, .slice A n.next.length cap] 117))
    have P2 := Lib.hid (OB.fresh M1.out #[.string n.low, .int .i64 n.head, .slice A n.next.length cap] 117 rfl)
    have M2 := Lib.hid (M1.out.alloc (.cells #[.string n.low, .int .i64 n.head, .slice A n.next.length cap] 117))
    have hb : w.heap.size ≠ W1.heap.size := by omega
    clear O1 M1 g0 g1 g2 gf0 gf1 gf2 gs K1 G1
    generalize W1.alloc (.cells #[.string n.low, .int .i64 n.head, .slice A n.next.length cap] 117) = W2 at *
    generalize W1.heap.size = bn at *
    generalize hbr : w.heap.size = br at *
    have hlv : wrap64 ((n.next.length : Int) - 1) = (n.next.length : Int) - 1 := wrap64_len hl
    rw [hlv]
    go_loopg [9, 12] F (fun m h lv W => ∃ (i : Nat) (a : Int) (n : Node) (J : IHeap) (s' : PS) (A : Option Addr) (cap : Nat), h = .int .i64 a ∧ lv = .int .i64 ((i : Int) - 1) ∧ i ≤ maxLen ∧ Hid (Mg w L I J s' W) ∧ Hid (OB w J W br #[.string ⟨#[]⟩, .int .i64 0, .slice none 0 0] 117) ∧ Hid (OB w J W bn #[.string n.low, .int .i64 n.head, .slice A n.next.length cap] 117) ∧
      Hid (NodeV J (.agg #[.string n.low, .int .i64 n.head, .slice A n.next.length cap]) n) ∧ Ex ((twSearch F first k).exec s) ((twDown k m a n i).exec s'))
    case atStart => exact ⟨n.next.length, first, n, J1, s1, A, cap, rfl, rfl, hl, M2, O2, P2, HX, X2⟩
    case round =>
    clear HX M2 O2 P2 X2 X0 hl hlv
    obtain ⟨i, a, n', J2, s2, A', cap', rfl, rfl, hi, M2, O2, P2, HX, X2⟩ := hrel
    cases gk with
    | zero => exact (show ((twSearch F first k).exec s).1.ok → False by rw [X2.out]; cases i <;> exact id) HN.out |>.elim
    | succ m =>
    cases i with
    | zero =>
      have X3 := Ex.mk (X2.out.trans (by rw [twDown_zero]))
      have g0 := cell_blk O2.out.at_ 0
      have g1 := cell_blk O2.out.at_ 1
      have g2 := cell_blk O2.out.at_ 2
      have gf0 := free_blk O2.out.at_ 0
      have gf1 := free_blk O2.out.at_ 1
      have gf2 := free_blk O2.out.at_ 2
      have gs := lt_of_block O2.out.at_
      have p0 := cell_blk P2.out.at_ 0
      have p1 := cell_blk P2.out.at_ 1
      have p2 := cell_blk P2.out.at_ 2
      have pf0 := free_blk P2.out.at_ 0
      have pf1 := free_blk P2.out.at_ 1
      have pf2 := free_blk P2.out.at_ 2
      have ps := lt_of_block P2.out.at_
      have HV := Lib.hid (show FndE J2 (.tuple #[.int .i64 a, .agg #[.string n'.low, .int .i64 n'.head, .slice A' n'.next.length cap'], .int .i64 0]) (a, n', 0) from ⟨_, rfl, HX.out⟩)
      go_wp2
      go_region
      all_goals
        go_wp2
        refine bodyPost_ret (v := .tuple #[.int .i64 a, .agg #[.string n'.low, .int .i64 n'.head, .slice A' n'.next.length cap'], .int .i64 0]) (by simp [results, Tryz.results131, go_sem, g0, g1, g2, gs]) rfl ?_
        rw [x_done X3.out]
        exact Mg.post (J := J2) (by repeat (first | with_reducible exact M2.out | with_reducible refine Mg.drewN ?_ _ | with_reducible refine Mg.drew ?_ | with_reducible refine Mg.alloc ?_ _ | refine Mg.seto ?_ (by repeat (first | with_reducible exact O2.out.ok | with_reducible refine OwnOk.set ?_ _ _ | with_reducible refine OwnOk.alloc ?_ _ | with_reducible refine OwnOk.drew ?_ | with_reducible refine OwnOk.drewN ?_ _)) _)) HV.out
    | succ lv =>
    have e1 : ((lv + 1 : Nat) : Int) - 1 = lv := by omega
    rw [e1]
    have e2 : decide (0 ≤ (lv : Int)) = true := by simp
    have e3 : wrap64 ((lv : Int) - 1) = (lv : Int) - 1 := wrap64_len (by omega)
    go_wp2_with fail
    go_loopg [9] (m + 1) (fun m' h W => ∃ (a : Int) (n : Node) (J : IHeap) (s' : PS) (A : Option Addr) (cap : Nat), h = .int .i64 a ∧ m' ≤ m + 1 ∧ Hid (Mg w L I J s' W) ∧ Hid (OB w J W br #[.string ⟨#[]⟩, .int .i64 0, .slice none 0 0] 117) ∧ Hid (OB w J W bn #[.string n.low, .int .i64 n.head, .slice A n.next.length cap] 117) ∧
      Hid (NodeV J (.agg #[.string n.low, .int .i64 n.head, .slice A n.next.length cap]) n) ∧ Ex ((twSearch F first k).exec s) ((twDown k m' a n (lv + 1)).exec s'))
    case atStart => exact ⟨a, n', J2, s2, A', cap', rfl, Nat.le_refl _, M2, O2, P2, HX, X2⟩
    case round =>
    clear HX M2 O2 P2 X2
    obtain ⟨a, n, J2, s2, A, cap, rfl, hm, M2, O2, P2, HX, X2⟩ := hrel
    cases gk with
    | zero => exact (show ((twSearch F first k).exec s).1.ok → False by rw [X2.out]; exact id) HN.out |>.elim
    | succ m1 =>
    rw [twDown_succ] at X2
    have g0 := cell_blk O2.out.at_ 0
    have g1 := cell_blk O2.out.at_ 1
    have g2 := cell_blk O2.out.at_ 2
    have gf0 := free_blk O2.out.at_ 0
    have gf1 := free_blk O2.out.at_ 1
    have gf2 := free_blk O2.out.at_ 2
    have gs := lt_of_block O2.out.at_
    have p0 := cell_blk P2.out.at_ 0
    have p1 := cell_blk P2.out.at_ 1
    have p2 := cell_blk P2.out.at_ 2
    have pf0 := free_blk P2.out.at_ 0
    have pf1 := free_blk P2.out.at_ 1
    have pf2 := free_blk P2.out.at_ 2
    have ps := lt_of_block P2.out.at_
    go_wp2_with fail
    refine (tower_Next _ L _ _ (M2.out).st n _ HX.out lv (ok_of HN.out X2.out)).mono ?_
    intro e W3 hP
    rcases (M2.out).call hP with ⟨⟨h3, e4⟩, s3, J3, v3, hr, rfl, rfl, hg, hk, hM⟩ | ⟨s', J', hr, rfl, hM⟩
    rotate_left
    · exact post_panic rfl (by rw [x_paused X2.out hr]; exact hM.paused)
    have M3 := Lib.hid hM
    have K3 := Lib.hid hk
    have G3 := Lib.hid hg
    have X3 := Ex.mk (x_ret X2.out hr)
    clear hP hr hg hk hM
    have O3 := Lib.hid (OB.call M2.out K3.out G3.out O2.out)
    have P3 := Lib.hid (OB.call M2.out K3.out G3.out P2.out)
    have HX3 := Lib.hid (HX.out.mono G3.out.le)
    clear g0 g1 g2 gf0 gf1 gf2 gs p0 p1 p2 pf0 pf1 pf2 ps O2 P2 HX M2 K3 G3
    by_cases he : e4 = 0
    · subst he
      have X4 := Ex.mk (x_if X3.out rfl)
      clear X3
      by_cases hz : h3 = 0
      · subst hz
        have X5 := Ex.mk (x_if X4.out rfl)
        clear X4
        go_wp2_with fail
        go_roundg m1
        case measure => omega
        case rel => exact ⟨lv, a, n, J3, s3, A, cap, rfl, by rw [e3], by omega, M3, O3, P3, HX3, X5⟩
      · have X5 := Ex.mk (x_else X4.out hz)
        have hz' : (h3 == 0) = false := by simpa using hz
        clear X4
        go_wp2_with fail
        refine (node_Load _ L _ _ (M3.out).st h3 (ok_of HN.out X5.out)).mono ?_
        intro e W6 hP
        rcases (M3.out).call hP with ⟨⟨n6, e6⟩, s6, J6, v6, hr, rfl, ⟨x6, rfl, hx⟩, hg, hk, hM⟩ | ⟨s', J', hr, rfl, hM⟩
        rotate_left
        · exact post_panic rfl (by rw [x_paused X5.out hr]; exact hM.paused)
        have M6 := Lib.hid hM
        have K6 := Lib.hid hk
        have G6 := Lib.hid hg
        have X6 := Ex.mk (x_ret X5.out hr)
        clear hP hr hg hk hM
        have O6 := Lib.hid (OB.call M3.out K6.out G6.out O3.out)
        have P6 := Lib.hid (OB.call M3.out K6.out G6.out P3.out)
        have HX6 := Lib.hid (HX3.out.mono G6.out.le)
        obtain ⟨A6, cap6, rfl, _, _⟩ := hx.form
        have HY := Lib.hid hx
        clear hx O3 P3 HX3 M3 K6 G6
        dsimp only at HY X6 ⊢
        by_cases he : e6 = 0
        · subst he
          have X7 := Ex.mk (x_if X6.out rfl)
          clear X6
          have p0 := cell_blk P6.out.at_ 0
          have p1 := cell_blk P6.out.at_ 1
          have p2 := cell_blk P6.out.at_ 2
          have pf0 := free_blk P6.out.at_ 0
          have pf1 := free_blk P6.out.at_ 1
          have pf2 := free_blk P6.out.at_ 2
          have ps := lt_of_block P6.out.at_
          go_wp2_with fail
          · rename_i hk
            have X8 := Ex.mk (x_if X7.out (show sGt n6.low k = true by simpa [sGt] using hk))
            go_roundg m1
            case measure => omega
            case rel => exact ⟨lv, a, n, J6, s6, A, cap, rfl, rfl, by omega, M6.out.alloc _ |> Lib.hid, Lib.hid (O6.out.alloc _), Lib.hid (P6.out.alloc _), HX6, X8⟩
          · rename_i hk
            have X8 := Ex.mk (x_else X7.out (show ¬ sGt n6.low k = true by rcases hk with hk | hk <;> simp at hk <;> simp [sGt, hk]))
            go_region
            all_goals
              go_wp2
              go_roundg m1
              case measure => omega
              case rel => exact ⟨h3, n6, J6, s6, A6, cap6, rfl, by omega, Lib.hid ((((((M6.out.seto (a := ⟨bn, 0, none⟩) P6.out.ok _).seto (a := ⟨bn, 1, none⟩) (P6.out.ok.set _ _) _).seto (a := ⟨bn, 2, none⟩) ((P6.out.ok.set _ _).set _ _) _).alloc _).drew)), Lib.hid ((((O6.out.far hb _).far hb _).far hb _).alloc _).drew, Lib.hid (((((P6.out.set 0 (.string n6.low)).set 1 (.int .i64 n6.head)).set 2 (.slice A6 n6.next.length cap6)).alloc _).drew), HY, X8⟩
        · have t1 := ne_true he
          have X7 := Ex.mk (x_else X6.out he)
          clear he
          have g0 := cell_blk O6.out.at_ 0
          have g1 := cell_blk O6.out.at_ 1
          have g2 := cell_blk O6.out.at_ 2
          have gf0 := free_blk O6.out.at_ 0
          have gf1 := free_blk O6.out.at_ 1
          have gf2 := free_blk O6.out.at_ 2
          have gs := lt_of_block O6.out.at_
          go_wp2
          refine bodyPost_ret (v := .tuple #[.int .i64 0, .agg #[.string ⟨#[]⟩, .int .i64 0, .slice none 0 0], .int .i64 e6]) (by simp [results, Tryz.results131, go_sem, g0, g1, g2, gs]) rfl ?_
          rw [x_done X7.out]
          exact Mg.post (J := J6) (by repeat (first | with_reducible exact M6.out | with_reducible refine Mg.drewN ?_ _ | with_reducible refine Mg.drew ?_ | with_reducible refine Mg.alloc ?_ _ | refine Mg.seto ?_ (by repeat (first | with_reducible exact O6.out.ok | with_reducible refine OwnOk.set ?_ _ _ | with_reducible refine OwnOk.alloc ?_ _ | with_reducible refine OwnOk.drew ?_ | with_reducible refine OwnOk.drewN ?_ _)) _)) ⟨_, rfl, NodeV.none _⟩
    · have t1 := ne_true he
      have X4 := Ex.mk (x_else X3.out he)
      clear he
      have g0 := cell_blk O3.out.at_ 0
      have g1 := cell_blk O3.out.at_ 1
      have g2 := cell_blk O3.out.at_ 2
      have gf0 := free_blk O3.out.at_ 0
      have gf1 := free_blk O3.out.at_ 1
      have gf2 := free_blk O3.out.at_ 2
      have gs := lt_of_block O3.out.at_
      go_wp2
      try rw [Exit.noGoto_ret]
      refine bodyPost_ret (v := .tuple #[.int .i64 0, .agg #[.string ⟨#[]⟩, .int .i64 0, .slice none 0 0], .int .i64 e4]) (by simp [results, Tryz.results131, go_sem, g0, g1, g2, gs]) rfl ?_
      rw [x_done X4.out]
      exact Mg.post (J := J3) (by repeat (first | with_reducible exact M3.out | with_reducible refine Mg.drewN ?_ _ | with_reducible refine Mg.drew ?_ | with_reducible refine Mg.alloc ?_ _ | refine Mg.seto ?_ (by repeat (first | with_reducible exact O3.out.ok | with_reducible refine OwnOk.set ?_ _ _ | with_reducible refine OwnOk.alloc ?_ _ | with_reducible refine OwnOk.drew ?_ | with_reducible refine OwnOk.drewN ?_ _)) _)) ⟨_, rfl, NodeV.none _⟩
  · have t1 := ne_true he
    have X2 := Ex.mk (x_else X1.out he)
    clear he X1
    go_wp2
    refine bodyPost_ret (v := .tuple #[.int .i64 0, .agg #[.string ⟨#[]⟩, .int .i64 0, .slice none 0 0], .int .i64 e1]) (by simp [results, Tryz.results131, go_sem, g0, g1, g2, gs]) rfl ?_
    rw [x_done X2.out]
    exact Mg.post (J := J1) (by repeat (first | with_reducible exact M1.out | with_reducible refine Mg.drewN ?_ _ | with_reducible refine Mg.drew ?_ | with_reducible refine Mg.alloc ?_ _ | refine Mg.seto ?_ (by repeat (first | with_reducible exact O1.out.ok | with_reducible refine OwnOk.set ?_ _ _ | with_reducible refine OwnOk.alloc ?_ _ | with_reducible refine OwnOk.drew ?_ | with_reducible refine OwnOk.drewN ?_ _)) _)) ⟨_, rfl, NodeV.none _⟩
end Go.Proofs.YtadaiihoclknmaaGreat
/- Read: Find. -/
namespace Go.Proofs.YtadaiihoclknmaaGreat
open Go.RowKit
set_option maxHeartbeats 4000000
set_option maxRecDepth 100000
set_option linter.unusedVariables false
set_option linter.unusedSimpArgs false

theorem AgeV.rev {I : IHeap} {a : Age} {ka va ga ta : Option Addr} {kc vc gc tc : Nat} (h : AgeV I (.agg #[.int .i64 a.rev.version, .int .i64 a.rev.rate, .string a.rev.span.lo, .string a.rev.span.hi, .bool a.rev.span.all, .bool a.rev.dead, .slice ka a.rev.keys.length kc, .slice va a.rev.vals.length vc, .slice ga a.rev.gone.length gc, .slice ta a.rev.table.length tc, .int .i64 a.prev]) a) : RevV I (.agg #[.int .i64 a.rev.version, .int .i64 a.rev.rate, .string a.rev.span.lo, .string a.rev.span.hi, .bool a.rev.span.all, .bool a.rev.dead, .slice ka a.rev.keys.length kc, .slice va a.rev.vals.length vc, .slice ga a.rev.gone.length gc, .slice ta a.rev.table.length tc]) a.rev := by
  obtain ⟨k, l, g, t, e, h1, h2, h3, h4⟩ := h
  simp only [Value.agg.injEq, Array.mk.injEq, List.cons.injEq, true_and, and_true] at e
  obtain ⟨rfl, rfl, rfl, rfl⟩ := e
  exact ⟨_, rfl, _, _, _, _, rfl, h1, h2, h3, h4⟩
theorem RevV.none (I : IHeap) : RevV I (.agg #[.int .i64 0, .int .i64 0, .string ⟨#[]⟩, .string ⟨#[]⟩, .bool false, .bool false, .slice none 0 0, .slice none 0 0, .slice none 0 0, .slice none 0 0]) Rev.none := ⟨_, rfl, _, _, _, _, rfl, Row.nil _ _ _, Row.nil _ _ _, Row.nil _ _ _, Row.nil _ _ _⟩
def rdFind (F : Nat) (first v : Int) (k : ByteArray) : Nat → Prog (Rev × Int)
  | 0 => .stuck
  | f + 1 => do
    let x ← twSearch F first k
    if x.2.2 = 0 then do
      let y ← nAt F x.2.1 v
      if y.2 = 0 then
        match y.1 with
        | none => do
          let z ← nNewest x.2.1
          if z.2.2 = 0 then
            if z.2.1.rev.dead = true then rdFind F first v k f else return (Rev.none, 8)
          else return (Rev.none, z.2.2)
        | some a => if (!a.rev.dead && kHas a.rev.span k) = true then return (a.rev, 0) else rdFind F first v k f
      else return (Rev.none, y.2)
    else return (Rev.none, x.2.2)
theorem rdFind_succ (F : Nat) (first v : Int) (k : ByteArray) (f : Nat) : rdFind F first v k (f + 1) = (do
    let x ← twSearch F first k
    if x.2.2 = 0 then do
      let y ← nAt F x.2.1 v
      if y.2 = 0 then
        match y.1 with
        | none => do
          let z ← nNewest x.2.1
          if z.2.2 = 0 then
            if z.2.1.rev.dead = true then rdFind F first v k f else return (Rev.none, 8)
          else return (Rev.none, z.2.2)
        | some a => if (!a.rev.dead && kHas a.rev.span k) = true then return (a.rev, 0) else rdFind F first v k f
      else return (Rev.none, y.2)
    else return (Rev.none, x.2.2)) := rfl
def RevE (J : IHeap) (v : Value) (a : Rev × Int) : Prop := ∃ x, v = .tuple #[x, .int .i64 a.2] ∧ RevV J x a.1
theorem read_Find (w : World) (L : Loc) (I : IHeap) (s : PS) (hst : St w L I s) (F F' : Nat) (first v : Int) (k : ByteArray) (hn : ((rdFind F first v k F').exec s).1.ok) :
    Calls Tryz.prog 57 #[.pointer (some ⟨L.p, 0, none⟩), .int .i64 first, .int .i64 v, .string k] w (Post L w I ((rdFind F first v k F').exec s) RevE) := by
  have M0 := Lib.hid (Mg.start hst)
  have HN := Lib.hid hn
  obtain ⟨R0, hR0⟩ : ∃ R0, R0 = (rdFind F first v k F').exec s := ⟨_, rfl⟩
  have X0 := Ex.mk hR0
  rw [← hR0] at HN ⊢
  clear hst hn hR0
  go_enter Tryz.func57, Tryz.ntmps57
  go_wp2_with fail
  have O0 := Lib.hid (OB.fresh (M0.out) #[.int .i64 0, .int .i64 0, .string ⟨#[]⟩, .string ⟨#[]⟩, .bool false, .bool false, .slice none 0 0, .slice none 0 0, .slice none 0 0, .slice none 0 0] 92 rfl)
  have M9 := Lib.hid (M0.out.alloc (.cells #[.int .i64 0, .int .i64 0, .string ⟨#[]⟩, .string ⟨#[]⟩, .bool false, .bool false, .slice none 0 0, .slice none 0 0, .slice none 0 0, .slice none 0 0] 92))
  generalize hbr : w.heap.size = br at *
  generalize w.alloc (.cells #[.int .i64 0, .int .i64 0, .string ⟨#[]⟩, .string ⟨#[]⟩, .bool false, .bool false, .slice none 0 0, .slice none 0 0, .slice none 0 0, .slice none 0 0] 92) = W0 at *
  go_loopg [] F' (fun m W => ∃ (J : IHeap) (s' : PS), Hid (Mg w L I J s' W) ∧ Hid (OB w J W br #[.int .i64 0, .int .i64 0, .string ⟨#[]⟩, .string ⟨#[]⟩, .bool false, .bool false, .slice none 0 0, .slice none 0 0, .slice none 0 0, .slice none 0 0] 92) ∧ Ex R0 ((rdFind F first v k m).exec s'))
  case atStart => exact ⟨I, s, M9, O0, X0⟩
  case round =>
  clear M0 M9 O0 X0
  obtain ⟨J0, s0, M0, O0, X0⟩ := hrel
  cases gk with
  | zero => exact (show R0.1.ok → False by rw [X0.out]; exact id) HN.out |>.elim
  | succ m =>
  rw [rdFind_succ] at X0
  go_wp2_with fail
  refine (tower_Search _ L _ _ (M0.out).st F first k (ok_of HN.out X0.out)).mono ?_
  intro e W1 hP
  rcases (M0.out).call hP with ⟨⟨h1, n, e1⟩, s1, J1, v1, hr, rfl, ⟨x1, rfl, hx⟩, hg, hk, hM⟩ | ⟨s', J', hr, rfl, hM⟩
  rotate_left
  · exact post_panic rfl (by rw [x_paused X0.out hr]; exact hM.paused)
  have M1 := Lib.hid hM
  have K1 := Lib.hid hk
  have G1 := Lib.hid hg
  have X1 := Ex.mk (x_ret X0.out hr)
  clear hP hr hg hk hM
  have O1 := Lib.hid (OB.call M0.out K1.out G1.out O0.out)
  obtain ⟨A, cap, rfl, _, hl⟩ := hx.form
  have HX := Lib.hid hx
  clear hx M0 K1 G1 O0
  dsimp only at HX X1 ⊢
  by_cases he : e1 = 0
  · subst he
    have X2 := Ex.mk (x_if X1.out rfl)
    clear X1
    go_wp2_with fail
    have P2 := Lib.hid (OB.fresh M1.out #[.string n.low, .int .i64 n.head, .slice A n.next.length cap] 117 rfl)
    have O2 := Lib.hid (O1.out.alloc (.cells #[.string n.low, .int .i64 n.head, .slice A n.next.length cap] 117))
    have M2 := Lib.hid (M1.out.alloc (.cells #[.string n.low, .int .i64 n.head, .slice A n.next.length cap] 117))
    clear M1 O1
    generalize W1.heap.size = bn at *
    generalize W1.alloc (.cells #[.string n.low, .int .i64 n.head, .slice A n.next.length cap] 117) = W2 at *
    refine (node_At _ L _ _ (M2.out).st F n _ HX.out v (ok_of HN.out X2.out)).mono ?_
    intro e W3 hP
    rcases (M2.out).call hP with ⟨⟨o, e3⟩, s3, J3, v3, hr, rfl, ⟨x3, rfl, hx⟩, hg, hk, hM⟩ | ⟨s', J', hr, rfl, hM⟩
    rotate_left
    · exact post_panic rfl (by rw [x_paused X2.out hr]; exact hM.paused)
    have M3 := Lib.hid hM
    have K3 := Lib.hid hk
    have G3 := Lib.hid hg
    have X3 := Ex.mk (x_ret X2.out hr)
    clear hP hr hg hk hM
    have O3 := Lib.hid (OB.call M2.out K3.out G3.out O2.out)
    have P3 := Lib.hid (OB.call M2.out K3.out G3.out P2.out)
    have HX3 := Lib.hid (HX.out.mono G3.out.le)
    clear K3 G3 O2 P2 HX M2 X2
    by_cases he : e3 = 0
    · subst he
      have X4 := Ex.mk (x_if X3.out rfl)
      clear X3
      cases o with
      | none =>
        simp only [Option.getD] at hx
        generalize Age.none = a0 at hx
        obtain ⟨ka, kc, va, vc, ga, gc, ta, tc, rfl, _⟩ := hx.form
        clear hx
        dsimp only at X4 ⊢
        have p0 := cell_blk P3.out.at_ 0
        have p1 := cell_blk P3.out.at_ 1
        have p2 := cell_blk P3.out.at_ 2
        have pf0 := free_blk P3.out.at_ 0
        have pf1 := free_blk P3.out.at_ 1
        have pf2 := free_blk P3.out.at_ 2
        have ps := lt_of_block P3.out.at_
        go_wp2_with fail
        refine (node_Newest _ L _ _ (M3.out.alloc _).st n _ HX3.out (ok_of HN.out X4.out)).mono ?_
        intro e W5 hP
        rcases (M3.out.alloc _).call hP with ⟨⟨g5, a5, e5⟩, s5, J5, v5, hr, rfl, ⟨x5, rfl, hx⟩, hg, hk, hM⟩ | ⟨s', J', hr, rfl, hM⟩
        rotate_left
        · exact post_panic rfl (by rw [x_paused X4.out hr]; exact hM.paused)
        have M5 := Lib.hid hM
        have K5 := Lib.hid hk
        have G5 := Lib.hid hg
        have X5 := Ex.mk (x_ret X4.out hr)
        clear hP hr hg hk hM
        have O5 := Lib.hid (OB.call (M3.out.alloc _) K5.out G5.out (O3.out.alloc _))
        clear K5 G5 O3 P3 HX3 M3 p0 p1 p2 pf0 pf1 pf2 ps
        obtain ⟨ka1, kc1, va1, vc1, ga1, gc1, ta1, tc1, rfl, _⟩ := hx.form
        clear hx
        dsimp only at X5 ⊢
        by_cases he : e5 = 0
        · subst he
          have X6 := Ex.mk (x_if X5.out rfl)
          clear X5
          cases hd : a5.rev.dead with
          | true =>
            have X7 := Ex.mk (x_if X6.out hd)
            go_wp2_with fail
            go_roundg m
            case measure => omega
            case rel => exact ⟨J5, s5, M5.out.alloc _ |> Lib.hid, Lib.hid (O5.out.alloc _), X7⟩
          | false =>
            have X7 := Ex.mk (x_else X6.out (by rw [hd]; decide))
            have g0 := cell_blk O5.out.at_ 0
            have g1 := cell_blk O5.out.at_ 1
            have g2 := cell_blk O5.out.at_ 2
            have g3 := cell_blk O5.out.at_ 3
            have g4 := cell_blk O5.out.at_ 4
            have g5 := cell_blk O5.out.at_ 5
            have g6 := cell_blk O5.out.at_ 6
            have g7 := cell_blk O5.out.at_ 7
            have g8 := cell_blk O5.out.at_ 8
            have g9 := cell_blk O5.out.at_ 9
            have gf0 := free_blk O5.out.at_ 0
            have gf1 := free_blk O5.out.at_ 1
            have gf2 := free_blk O5.out.at_ 2
            have gf3 := free_blk O5.out.at_ 3
            have gf4 := free_blk O5.out.at_ 4
            have gf5 := free_blk O5.out.at_ 5
            have gf6 := free_blk O5.out.at_ 6
            have gf7 := free_blk O5.out.at_ 7
            have gf8 := free_blk O5.out.at_ 8
            have gf9 := free_blk O5.out.at_ 9
            have gs := lt_of_block O5.out.at_
            go_wp2
            try go_region
            all_goals
              try go_wp2
              refine bodyPost_ret (v := .tuple #[.agg #[.int .i64 0, .int .i64 0, .string ⟨#[]⟩, .string ⟨#[]⟩, .bool false, .bool false, .slice none 0 0, .slice none 0 0, .slice none 0 0, .slice none 0 0], .int .i64 8]) (by simp [results, Tryz.results57, go_sem, g0, g1, g2, g3, g4, g5, g6, g7, g8, g9, gs]) rfl ?_
              rw [x_done X7.out]
              exact Mg.post (J := J5) (by repeat (first | with_reducible exact M5.out | with_reducible refine Mg.drewN ?_ _ | with_reducible refine Mg.drew ?_ | with_reducible refine Mg.alloc ?_ _ | refine Mg.seto ?_ (by repeat (first | with_reducible exact O5.out.ok | with_reducible refine OwnOk.set ?_ _ _ | with_reducible refine OwnOk.alloc ?_ _ | with_reducible refine OwnOk.drew ?_ | with_reducible refine OwnOk.drewN ?_ _)) _)) ⟨_, rfl, RevV.none _⟩
        · have t1 := ne_true he
          have X6 := Ex.mk (x_else X5.out he)
          clear he
          have g0 := cell_blk O5.out.at_ 0
          have g1 := cell_blk O5.out.at_ 1
          have g2 := cell_blk O5.out.at_ 2
          have g3 := cell_blk O5.out.at_ 3
          have g4 := cell_blk O5.out.at_ 4
          have g5 := cell_blk O5.out.at_ 5
          have g6 := cell_blk O5.out.at_ 6
          have g7 := cell_blk O5.out.at_ 7
          have g8 := cell_blk O5.out.at_ 8
          have g9 := cell_blk O5.out.at_ 9
          have gf0 := free_blk O5.out.at_ 0
          have gf1 := free_blk O5.out.at_ 1
          have gf2 := free_blk O5.out.at_ 2
          have gf3 := free_blk O5.out.at_ 3
          have gf4 := free_blk O5.out.at_ 4
          have gf5 := free_blk O5.out.at_ 5
          have gf6 := free_blk O5.out.at_ 6
          have gf7 := free_blk O5.out.at_ 7
          have gf8 := free_blk O5.out.at_ 8
          have gf9 := free_blk O5.out.at_ 9
          have gs := lt_of_block O5.out.at_
          go_wp2
          try go_region
          all_goals
            try go_wp2
            refine bodyPost_ret (v := .tuple #[.agg #[.int .i64 0, .int .i64 0, .string ⟨#[]⟩, .string ⟨#[]⟩, .bool false, .bool false, .slice none 0 0, .slice none 0 0, .slice none 0 0, .slice none 0 0], .int .i64 e5]) (by simp [results, Tryz.results57, go_sem, g0, g1, g2, g3, g4, g5, g6, g7, g8, g9, gs]) rfl ?_
            rw [x_done X6.out]
            exact Mg.post (J := J5) (by repeat (first | with_reducible exact M5.out | with_reducible refine Mg.drewN ?_ _ | with_reducible refine Mg.drew ?_ | with_reducible refine Mg.alloc ?_ _ | refine Mg.seto ?_ (by repeat (first | with_reducible exact O5.out.ok | with_reducible refine OwnOk.set ?_ _ _ | with_reducible refine OwnOk.alloc ?_ _ | with_reducible refine OwnOk.drew ?_ | with_reducible refine OwnOk.drewN ?_ _)) _)) ⟨_, rfl, RevV.none _⟩
      | some a =>
        simp only [Option.getD] at hx
        obtain ⟨ka, kc, va, vc, ga, gc, ta, tc, rfl, _⟩ := hx.form
        have HA := Lib.hid (AgeV.rev hx)
        clear hx
        dsimp only at X4 HA ⊢
        cases hd : a.rev.dead with
        | true =>
          have X5 := Ex.mk (x_else X4.out (by rw [hd]; simp))
          go_wp2_with fail
          go_roundg m
          case measure => omega
          case rel => exact ⟨J3, s3, M3.out.alloc _ |> Lib.hid, Lib.hid (O3.out.alloc _), X5⟩
        | false =>
          go_wp2_with fail
          have P4 := Lib.hid (OB.fresh M3.out #[.int .i64 a.rev.version, .int .i64 a.rev.rate, .string a.rev.span.lo, .string a.rev.span.hi, .bool a.rev.span.all, .bool false, .slice ka a.rev.keys.length kc, .slice va a.rev.vals.length vc, .slice ga a.rev.gone.length gc, .slice ta a.rev.table.length tc, .int .i64 a.prev] 211 rfl)
          refine (key_Has _ a.rev.span k).mono ?_
          rintro e W5 ⟨rfl, hk⟩
          have M5 := Lib.hid ((M3.out.alloc _).new hk)
          have N5 := Lib.hid hk
          clear hk
          have O5 := Lib.hid ((O3.out.alloc _).new N5.out)
          have P5 := Lib.hid (P4.out.new N5.out)
          clear O3 P4 M3 N5
          by_cases hk : kHas a.rev.span k = true
          · have X5 := Ex.mk (x_if X4.out (by rw [hd, hk]; rfl))
            rw [hk]
            have g0 := cell_blk O5.out.at_ 0
            have g1 := cell_blk O5.out.at_ 1
            have g2 := cell_blk O5.out.at_ 2
            have g3 := cell_blk O5.out.at_ 3
            have g4 := cell_blk O5.out.at_ 4
            have g5 := cell_blk O5.out.at_ 5
            have g6 := cell_blk O5.out.at_ 6
            have g7 := cell_blk O5.out.at_ 7
            have g8 := cell_blk O5.out.at_ 8
            have g9 := cell_blk O5.out.at_ 9
            have gf0 := free_blk O5.out.at_ 0
            have gf1 := free_blk O5.out.at_ 1
            have gf2 := free_blk O5.out.at_ 2
            have gf3 := free_blk O5.out.at_ 3
            have gf4 := free_blk O5.out.at_ 4
            have gf5 := free_blk O5.out.at_ 5
            have gf6 := free_blk O5.out.at_ 6
            have gf7 := free_blk O5.out.at_ 7
            have gf8 := free_blk O5.out.at_ 8
            have gf9 := free_blk O5.out.at_ 9
            have gs := lt_of_block O5.out.at_
            have p0 := cell_blk P5.out.at_ 0
            have p1 := cell_blk P5.out.at_ 1
            have p2 := cell_blk P5.out.at_ 2
            have p3 := cell_blk P5.out.at_ 3
            have p4 := cell_blk P5.out.at_ 4
            have p5 := cell_blk P5.out.at_ 5
            have p6 := cell_blk P5.out.at_ 6
            have p7 := cell_blk P5.out.at_ 7
            have p8 := cell_blk P5.out.at_ 8
            have p9 := cell_blk P5.out.at_ 9
            have p10 := cell_blk P5.out.at_ 10
            have pf0 := free_blk P5.out.at_ 0
            have pf1 := free_blk P5.out.at_ 1
            have pf2 := free_blk P5.out.at_ 2
            have pf3 := free_blk P5.out.at_ 3
            have pf4 := free_blk P5.out.at_ 4
            have pf5 := free_blk P5.out.at_ 5
            have pf6 := free_blk P5.out.at_ 6
            have pf7 := free_blk P5.out.at_ 7
            have pf8 := free_blk P5.out.at_ 8
            have pf9 := free_blk P5.out.at_ 9
            have pf10 := free_blk P5.out.at_ 10
            have ps := lt_of_block P5.out.at_
            rw [hd] at HA
            go_wp2
            try go_region
            all_goals
              try go_wp2
              refine bodyPost_ret (v := .tuple #[.agg #[.int .i64 a.rev.version, .int .i64 a.rev.rate, .string a.rev.span.lo, .string a.rev.span.hi, .bool a.rev.span.all, .bool false, .slice ka a.rev.keys.length kc, .slice va a.rev.vals.length vc, .slice ga a.rev.gone.length gc, .slice ta a.rev.table.length tc], .int .i64 0]) (by simp [results, Tryz.results57, go_sem, g0, g1, g2, g3, g4, g5, g6, g7, g8, g9, gs]) rfl ?_
              rw [x_done X5.out]
              exact Mg.post (J := J3) (by repeat (first | with_reducible exact M5.out | with_reducible refine Mg.drewN ?_ _ | with_reducible refine Mg.drew ?_ | with_reducible refine Mg.alloc ?_ _ | refine Mg.seto ?_ (by repeat (first | with_reducible exact O5.out.ok | with_reducible refine OwnOk.set ?_ _ _ | with_reducible refine OwnOk.alloc ?_ _ | with_reducible refine OwnOk.drew ?_ | with_reducible refine OwnOk.drewN ?_ _)) _)) ⟨_, rfl, HA.out⟩
          · have X5 := Ex.mk (x_else X4.out (by simp [hk]))
            rw [show kHas a.rev.span k = false by simpa using hk]
            go_wp2
            go_roundg m
            case measure => omega
            case rel => exact ⟨J3, s3, M5, O5, X5⟩
    · have t1 := ne_true he
      have X4 := Ex.mk (x_else X3.out he)
      obtain ⟨ka, kc, va, vc, ga, gc, ta, tc, rfl, _⟩ := hx.form
      clear he hx
      have g0 := cell_blk O3.out.at_ 0
      have g1 := cell_blk O3.out.at_ 1
      have g2 := cell_blk O3.out.at_ 2
      have g3 := cell_blk O3.out.at_ 3
      have g4 := cell_blk O3.out.at_ 4
      have g5 := cell_blk O3.out.at_ 5
      have g6 := cell_blk O3.out.at_ 6
      have g7 := cell_blk O3.out.at_ 7
      have g8 := cell_blk O3.out.at_ 8
      have g9 := cell_blk O3.out.at_ 9
      have gf0 := free_blk O3.out.at_ 0
      have gf1 := free_blk O3.out.at_ 1
      have gf2 := free_blk O3.out.at_ 2
      have gf3 := free_blk O3.out.at_ 3
      have gf4 := free_blk O3.out.at_ 4
      have gf5 := free_blk O3.out.at_ 5
      have gf6 := free_blk O3.out.at_ 6
      have gf7 := free_blk O3.out.at_ 7
      have gf8 := free_blk O3.out.at_ 8
      have gf9 := free_blk O3.out.at_ 9
      have gs := lt_of_block O3.out.at_
      dsimp only
      go_wp2
      try go_region
      all_goals
        try go_wp2
        refine bodyPost_ret (v := .tuple #[.agg #[.int .i64 0, .int .i64 0, .string ⟨#[]⟩, .string ⟨#[]⟩, .bool false, .bool false, .slice none 0 0, .slice none 0 0, .slice none 0 0, .slice none 0 0], .int .i64 e3]) (by simp [results, Tryz.results57, go_sem, g0, g1, g2, g3, g4, g5, g6, g7, g8, g9, gs]) rfl ?_
        rw [x_done X4.out]
        exact Mg.post (J := J3) (by repeat (first | with_reducible exact M3.out | with_reducible refine Mg.drewN ?_ _ | with_reducible refine Mg.drew ?_ | with_reducible refine Mg.alloc ?_ _ | refine Mg.seto ?_ (by repeat (first | with_reducible exact O3.out.ok | with_reducible refine OwnOk.set ?_ _ _ | with_reducible refine OwnOk.alloc ?_ _ | with_reducible refine OwnOk.drew ?_ | with_reducible refine OwnOk.drewN ?_ _)) _)) ⟨_, rfl, RevV.none _⟩
  · have t1 := ne_true he
    have X2 := Ex.mk (x_else X1.out he)
    clear he
    have g0 := cell_blk O1.out.at_ 0
    have g1 := cell_blk O1.out.at_ 1
    have g2 := cell_blk O1.out.at_ 2
    have g3 := cell_blk O1.out.at_ 3
    have g4 := cell_blk O1.out.at_ 4
    have g5 := cell_blk O1.out.at_ 5
    have g6 := cell_blk O1.out.at_ 6
    have g7 := cell_blk O1.out.at_ 7
    have g8 := cell_blk O1.out.at_ 8
    have g9 := cell_blk O1.out.at_ 9
    have gf0 := free_blk O1.out.at_ 0
    have gf1 := free_blk O1.out.at_ 1
    have gf2 := free_blk O1.out.at_ 2
    have gf3 := free_blk O1.out.at_ 3
    have gf4 := free_blk O1.out.at_ 4
    have gf5 := free_blk O1.out.at_ 5
    have gf6 := free_blk O1.out.at_ 6
    have gf7 := free_blk O1.out.at_ 7
    have gf8 := free_blk O1.out.at_ 8
    have gf9 := free_blk O1.out.at_ 9
    have gs := lt_of_block O1.out.at_
    go_wp2
    try go_region
    all_goals
      try go_wp2
      refine bodyPost_ret (v := .tuple #[.agg #[.int .i64 0, .int .i64 0, .string ⟨#[]⟩, .string ⟨#[]⟩, .bool false, .bool false, .slice none 0 0, .slice none 0 0, .slice none 0 0, .slice none 0 0], .int .i64 e1]) (by simp [results, Tryz.results57, go_sem, g0, g1, g2, g3, g4, g5, g6, g7, g8, g9, gs]) rfl ?_
      rw [x_done X2.out]
      exact Mg.post (J := J1) (by repeat (first | with_reducible exact M1.out | with_reducible refine Mg.drewN ?_ _ | with_reducible refine Mg.drew ?_ | with_reducible refine Mg.alloc ?_ _ | refine Mg.seto ?_ (by repeat (first | with_reducible exact O1.out.ok | with_reducible refine OwnOk.set ?_ _ _ | with_reducible refine OwnOk.alloc ?_ _ | with_reducible refine OwnOk.drew ?_ | with_reducible refine OwnOk.drewN ?_ _)) _)) ⟨_, rfl, RevV.none _⟩
end Go.Proofs.YtadaiihoclknmaaGreat
/- Revisions: Get, Live. -/
namespace Go.Proofs.YtadaiihoclknmaaGreat
open Go.RowKit
set_option maxHeartbeats 4000000
set_option maxRecDepth 100000
set_option linter.unusedVariables false
set_option linter.unusedSimpArgs false

/-- A revision as the functions make it: rows of one length, no greater than any machine's. -/
def rvOk (r : Rev) : Prop := r.vals.length = r.keys.length ∧ r.gone.length = r.keys.length ∧ r.keys.length ≤ 1048576 ∧ ∀ k ∈ r.keys, k.size ≤ maxLen
instance (r : Rev) : Decidable (rvOk r) := by unfold rvOk; infer_instance
theorem pFindF_range (t : List Int) (keys : List ByteArray) (k : ByteArray) : ∀ (f a : Nat), (pFindF t keys k f a).1 = -1 ∨ (0 ≤ (pFindF t keys k f a).1 ∧ (pFindF t keys k f a).1 < keys.length)
  | 0, a => .inl rfl
  | f + 1, a => by
    unfold pFindF
    split
    · exact .inl rfl
    · split
      · rename_i h
        exact .inr ⟨by simp only; omega, by simp only; omega⟩
      · exact pFindF_range t keys k f _
theorem pFind_range (t : List Int) (keys : List ByteArray) (k : ByteArray) : (pFind t keys k).1 = -1 ∨ (0 ≤ (pFind t keys k).1 ∧ (pFind t keys k).1 < keys.length) := by
  unfold pFind
  split
  · exact pFindF_range _ _ _ _ _
  · exact .inl rfl
def rGet (r : Rev) (k : ByteArray) : ByteArray × Bool :=
  let i := (pFind r.table r.keys k).1
  if 0 ≤ i ∧ r.gone.getD i.toNat true = false then (r.vals.getD i.toNat ⟨#[]⟩, true) else (⟨#[]⟩, false)
theorem rev_Get (w : World) (I : IHeap) (hI : Held I w) (r : Rev) (rv : Value) (hr : RevV I rv r) (hok : rvOk r) (k : ByteArray) (hs : k.size ≤ maxLen) :
    Calls Tryz.prog 39 #[rv, .string k] w fun e w' => e = .returned (.tuple #[.string (rGet r k).1, .bool (rGet r k).2]) ∧ New w w' := by
  obtain ⟨ka, kc, va, vc, ga, gc, ta, tc, rfl, h1, h2, h3, h4⟩ := hr.form
  obtain ⟨o1, o2, o3, o4⟩ := hok
  have O1 := Lib.hid o1
  have O2 := Lib.hid o2
  have HF := fun w hI => Lib.hid (probe_Find w I hI r.table r.keys k _ _ h4 h1 (by omega) hs)
  have H2 := Lib.hid h2
  have H3 := Lib.hid h3
  have HI := Lib.hid hI
  have hrg := pFind_range r.table r.keys k
  obtain ⟨G, hG⟩ : ∃ G, G = rGet r k := ⟨_, rfl⟩
  rw [← hG]
  unfold rGet at hG
  have HG := Lib.hid hG
  clear hG
  clear h1 h2 h3 h4 hr hI o4 o1 o2
  generalize pFind r.table r.keys k = p at *
  obtain ⟨i, m⟩ := p
  simp only at hrg HG
  go_enter Tryz.func39, Tryz.ntmps39
  have A1 := Lib.hid (alloc_new w (.cells #[.int .i64 r.version, .int .i64 r.rate, .string r.span.lo, .string r.span.hi, .bool r.span.all, .bool r.dead, .slice ka r.keys.length kc, .slice va r.vals.length vc, .slice ga r.gone.length gc, .slice ta r.table.length tc] 92))
  have HI1 := Lib.hid (HI.out.alloc (.cells #[.int .i64 r.version, .int .i64 r.rate, .string r.span.lo, .string r.span.hi, .bool r.span.all, .bool r.dead, .slice ka r.keys.length kc, .slice va r.vals.length vc, .slice ga r.gone.length gc, .slice ta r.table.length tc] 92))
  have hk0 := Lib.hid ((Kept.refl (fun _ => False) w).alloc (.cells #[.int .i64 r.version, .int .i64 r.rate, .string r.span.lo, .string r.span.hi, .bool r.span.all, .bool r.dead, .slice ka r.keys.length kc, .slice va r.vals.length vc, .slice ga r.gone.length gc, .slice ta r.table.length tc] 92))
  rcases hrg with hi | ⟨hi0, hi1⟩
  · subst hi
    have HG2 := Lib.hid (HG.out.trans (if_neg (by simp)))
    go_wp2_with (go_at_call 111; refine (HF _ HI1.out).out.mono ?_; rintro e w' ⟨rfl, rfl⟩)
    go_ret2
    exact ⟨by rw [HG2.out]; rfl, (Kept.refl _ _).alloc _⟩
  · obtain ⟨j, rfl⟩ : ∃ j : Nat, i = j := ⟨i.toNat, by omega⟩
    have hj : j < r.keys.length := by omega
    have hg : j < r.gone.length := by have := O2.out; omega
    have hv : j < r.vals.length := by have := O1.out; omega
    have t0 : decide ((0 : Int) ≤ j) = true := decide_eq_true (by omega)
    have tb : ∃ b off, ga = some ⟨b, off, none⟩ := by
      obtain ⟨b, off, h, _⟩ := Sl.cell HI.out H3.out (fun _ => rfl) (by omega)
      exact ⟨b, off, h⟩
    obtain ⟨gb, goff, rfl, _, hc⟩ := Sl.cell HI.out H3.out (fun _ => rfl) (by omega)
    have hx := List.getElem?_eq_getElem hg
    have c0 : w.cell? ⟨gb, goff + j * 1, none⟩ = _ := hc j 0 _ _ hx rfl
    rw [Nat.mul_one] at c0
    have E : r.gone.getD (j : Int).toNat true = r.gone[j] := by simp [List.getD, hx]
    rw [E] at HG
    generalize r.gone[j] = q at c0 HG
    obtain ⟨vb, voff, rfl, _, hc⟩ := Sl.cell HI.out H2.out (fun _ => rfl) (by omega)
    have hx := List.getElem?_eq_getElem hv
    have c1 : w.cell? ⟨vb, voff + j * 1, none⟩ = _ := hc j 0 _ _ hx rfl
    rw [Nat.mul_one] at c1
    have E : r.vals.getD (j : Int).toNat ⟨#[]⟩ = r.vals[j] := by simp [List.getD, hx]
    rw [E] at HG
    generalize r.vals[j] = y at c1 HG
    have s0 := World.block_lt_of_cell? _ _ c0
    have s1 := World.block_lt_of_cell? _ _ c1
    clear hc hx E
    cases q with
    | false =>
      have HG2 := Lib.hid (HG.out.trans (if_pos ⟨by omega, rfl⟩))
      go_wp2_with (go_at_call 111; refine (HF _ HI1.out).out.mono ?_; rintro e w' ⟨rfl, rfl⟩)
      go_ret2
      exact ⟨by rw [HG2.out]; rfl, (Kept.refl _ _).alloc _⟩
    | true =>
      have HG2 := Lib.hid (HG.out.trans (if_neg (by simp)))
      go_wp2_with (go_at_call 111; refine (HF _ HI1.out).out.mono ?_; rintro e w' ⟨rfl, rfl⟩)
      go_ret2
      exact ⟨by rw [HG2.out]; rfl, (Kept.refl _ _).alloc _⟩
end Go.Proofs.YtadaiihoclknmaaGreat
