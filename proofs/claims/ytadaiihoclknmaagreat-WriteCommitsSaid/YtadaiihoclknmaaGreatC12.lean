/- Part 12 of the proof: Reg4, Node1, Node2. -/
import Derived.Test.YtadaiihoclknmaaGreatC11
/- The register: the least version. -/
namespace Go.Proofs.YtadaiihoclknmaaGreat
open Go.RowKit
set_option maxHeartbeats 4000000
set_option maxRecDepth 100000
set_option linter.unusedVariables false
set_option linter.unusedSimpArgs false

def maskW (w : Int) : Int := bits .and .i64 w 4294967295
def rLow (but : Int) : Int → List Int → Prog (Int × Int)
  | n, [] => return (n, 0)
  | n, h :: t =>
    if h = but then rLow but n t
    else do
      let x ← pWord h
      if x.2 = 0 then rLow but (if 0 < maskW x.1 then min n (wrap64 (maskW x.1 - 1)) else n) t
      else return (0, x.2)
theorem rLow_cons (but n h : Int) (t : List Int) : rLow but n (h :: t) = (if h = but then rLow but n t
    else do
      let x ← pWord h
      if x.2 = 0 then rLow but (if 0 < maskW x.1 then min n (wrap64 (maskW x.1 - 1)) else n) t
      else return (0, x.2)) := rfl
theorem reg_lowest (w : World) (L : Loc) (I : IHeap) (s : PS) (hst : St w L I s) (n : Int) (l : List Int) (lv : Value) (hl : Ints I lv l) (but : Int) (hn : ((rLow but n l).exec s).1.ok) :
    Calls Tryz.prog 128 #[.pointer (some ⟨L.p, 0, none⟩), .int .i64 n, lv, .int .i64 but, .int .i64 4294967295] w (Post L w I ((rLow but n l).exec s) (Is pairV)) := by
  have M0 := Lib.hid (Mg.start hst)
  have HN := Lib.hid hn
  have X0 : Ex ((rLow but n l).exec s) ((rLow but n l).exec s) := ⟨rfl⟩
  obtain ⟨A, cap, rfl, hc1, hc2, _⟩ := hl.form
  have HD := Lib.hid hl
  have LN := Lib.hid (Nat.le_trans hc1 hc2)
  clear hst hn hl hc1 hc2
  go_enter Tryz.func128, Tryz.ntmps128
  go_wp2_with fail
  go_loopg [1, 18] l.length (fun g nv v W => ∃ (i : Nat) (J : IHeap) (s' : PS) (n' : Int), nv = .int .i64 n' ∧ v = .int .i64 i ∧ i + g = l.length ∧ Hid (Mg w L I J s' W) ∧ Ex ((rLow but n l).exec s) ((rLow but n' (l.drop i)).exec s'))
  case atStart => exact ⟨0, I, s, n, rfl, rfl, by simp, M0, X0⟩
  case round =>
  obtain ⟨i, J0, s0, m, rfl, rfl, hi, M0, X0⟩ := hrel
  by_cases hlt : i < l.length
  · obtain ⟨b, off, rfl, _, hc⟩ := Sl.cell M0.out.st.held (HD.out.mono M0.out.grow.le) (fun _ => rfl) (by omega)
    have hx := List.getElem?_eq_getElem hlt
    have c0 : wr.cell? ⟨b, off + i * 1, none⟩ = _ := hc i 0 _ _ hx rfl
    rw [Nat.mul_one] at c0
    have E := Lib.hid (List.drop_eq_getElem_cons hlt)
    generalize l[i] = x at c0 E
    clear hc hx
    rw [E.out, rLow_cons] at X0
    by_cases hx : x = but
    · subst hx
      have X1 := Ex.mk (x_if X0.out rfl)
      go_wp2
      go_roundg (gk - 1)
      case measure => omega
      case rel => exact ⟨i + 1, J0, s0, m, rfl, next_int hlt LN.out, by omega, M0, X1⟩
    · have t0 : (x == but) = false := by simpa using hx
      have X1 := Ex.mk (x_else X0.out hx)
      clear hx
      go_wp2_with fail
      refine (port_Word _ L _ _ (M0.out).st x (ok_of HN.out X1.out)).mono ?_
      intro e W2 hP
      rcases (M0.out).call hP with ⟨⟨a2, e2⟩, s2, J2, v2, hr, rfl, rfl, hg, hk, hM⟩ | ⟨s', J', hr, rfl, hM⟩
      rotate_left
      · exact post_panic rfl (by rw [x_paused X1.out hr]; exact hM.paused)
      have M2 := Lib.hid hM
      have K2 := Lib.hid hk
      have G2 := Lib.hid hg
      have X2 := Ex.mk (x_ret X1.out hr)
      clear hP hr hg hk hM
      by_cases he : e2 = 0
      · subst he
        have X3 := Ex.mk (x_if X2.out rfl)
        by_cases hq : 0 < maskW a2
        · have X4 := Ex.mk (X3.out.trans (by rw [if_pos hq]))
          have hq' : decide (0 < bits .and .i64 a2 4294967295) = true := by simpa [maskW] using hq
          clear hq
          by_cases hm : m ≤ wrap64 (bits .and .i64 a2 4294967295 - 1)
          · have X5 := Ex.mk (X4.out.trans (by rw [Int.min_eq_left (show m ≤ wrap64 (maskW a2 - 1) from hm)]))
            go_wp2
            go_roundg (gk - 1)
            case measure => omega
            case rel => exact ⟨i + 1, J2, s2, _, rfl, next_int hlt LN.out, by omega, M2, X5⟩
          · have X5 := Ex.mk (X4.out.trans (by rw [Int.min_eq_right (show wrap64 (maskW a2 - 1) ≤ m from by unfold maskW; omega)]))
            go_wp2
            go_roundg (gk - 1)
            case measure => omega
            case rel => exact ⟨i + 1, J2, s2, _, rfl, next_int hlt LN.out, by omega, M2, X5⟩
        · have X4 := Ex.mk (X3.out.trans (by rw [if_neg hq]))
          have hq' : decide (0 < bits .and .i64 a2 4294967295) = false := by simpa [maskW] using hq
          clear hq
          go_wp2
          go_roundg (gk - 1)
          case measure => omega
          case rel => exact ⟨i + 1, J2, s2, m, rfl, next_int hlt LN.out, by omega, M2, X4⟩
      · have t1 := ne_true he
        have X3 := Ex.mk (x_else X2.out he)
        clear he
        go_wp2
        go_ret2
        rw [x_done X3.out]
        exact Mg.post (J := J2) (by repeat (first | with_reducible exact M2.out | with_reducible refine Mg.drewN ?_ _ | with_reducible refine Mg.drew ?_ | with_reducible refine Mg.alloc ?_ _ | refine Mg.seto ?_ (by repeat (first | with_reducible refine OwnOk.set ?_ _ _ | with_reducible refine OwnOk.alloc ?_ _ | with_reducible refine OwnOk.drew ?_ | with_reducible refine OwnOk.drewN ?_ _)) _)) rfl
  · have h0 : List.drop i l = [] := List.drop_eq_nil_of_le (by omega)
    rw [h0] at X0
    go_wp2
    go_ret2
    rw [x_done X0.out]
    exact Mg.post (J := J0) (by repeat (first | with_reducible exact M0.out | with_reducible refine Mg.drewN ?_ _ | with_reducible refine Mg.drew ?_ | with_reducible refine Mg.alloc ?_ _ | refine Mg.seto ?_ (by repeat (first | with_reducible refine OwnOk.set ?_ _ _ | with_reducible refine OwnOk.alloc ?_ _ | with_reducible refine OwnOk.drew ?_ | with_reducible refine OwnOk.drewN ?_ _)) _)) rfl
def rLeast (r : Reg) (c : Int) : Prog (Int × Int) := do
  let x ← dVersion r.top
  if x.2 = 0 then do
    let y ← rLow (rSlot r c).1 x.1 r.slots
    if y.2 = 0 then do
      let z ← rLow (rSlot r c).1 y.1 r.snaps
      if z.2 = 0 then do
        let u ← rLow (rSlot r c).1 z.1 r.slots
        if u.2 = 0 then return (u.1, 0) else return (0, u.2)
      else return (0, z.2)
    else return (0, y.2)
  else return (0, x.2)
theorem reg_Least (w : World) (L : Loc) (I : IHeap) (s : PS) (hst : St w L I s) (r : Reg) (rv : Value) (hr : RegV I rv r) (c : Int) (hn : ((rLeast r c).exec s).1.ok) :
    Calls Tryz.prog 53 #[.pointer (some ⟨L.p, 0, none⟩), rv, .int .i64 c] w (Post L w I ((rLeast r c).exec s) (Is pairV)) := by
  have M0 := Lib.hid (Mg.start hst)
  have HN := Lib.hid hn
  have HR := Lib.hid hr
  have X0 : Ex ((rLeast r c).exec s) ((rLeast r c).exec s) := ⟨rfl⟩
  obtain ⟨a, ca, b, cb, rfl, h1, h2, l1, l2⟩ := hr.form
  have H1 := Lib.hid h1
  have H2 := Lib.hid h2
  clear hst hn hr h1 h2
  go_enter Tryz.func53, Tryz.ntmps53
  go_wp2_with fail
  have O0 := Lib.hid (OB.fresh (M0.out) #[.int .i64 r.top, .slice a r.slots.length ca, .slice b r.snaps.length cb] 25 rfl)
  refine (reg_slot _ I (M0.out.alloc _).st.held _ _ HR.out c).mono ?_
  rintro e W1 ⟨rfl, hk⟩
  have M1 := Lib.hid ((M0.out.alloc _).new hk)
  have N1 := Lib.hid hk
  clear hk
  have O1 := Lib.hid (O0.out.new N1.out)
  have g0 := cell_blk O1.out.at_ 0
  have g1 := cell_blk O1.out.at_ 1
  have g2 := cell_blk O1.out.at_ 2
  have gf0 := free_blk O1.out.at_ 0
  have gf1 := free_blk O1.out.at_ 1
  have gf2 := free_blk O1.out.at_ 2
  have gs := lt_of_block O1.out.at_
  go_wp2_with fail
  refine (desc_Version _ L _ _ (M1.out).st r.top (ok_of HN.out X0.out)).mono ?_
  intro e W2 hP
  rcases (M1.out).call hP with ⟨⟨v, e2⟩, s2, J2, v2, hr, rfl, rfl, hg, hk, hM⟩ | ⟨s', J', hr, rfl, hM⟩
  rotate_left
  · exact post_panic rfl (by rw [x_paused X0.out hr]; exact hM.paused)
  have M2 := Lib.hid hM
  have K2 := Lib.hid hk
  have G2 := Lib.hid hg
  have X2 := Ex.mk (x_ret X0.out hr)
  clear hP hr hg hk hM
  have O2 := Lib.hid (OB.thru O1.out (M1.out) K2.out G2.out (fun hh => by repeat (first | with_reducible exact hh | with_reducible refine OB.alloc ?_ _ | with_reducible refine OB.drew ?_ | with_reducible refine OB.drewN ?_ _ | refine OB.far ?_ (by dsimp only; omega) _)))
  have q0 := cell_blk O2.out.at_ 0
  have q1 := cell_blk O2.out.at_ 1
  have q2 := cell_blk O2.out.at_ 2
  have qf0 := free_blk O2.out.at_ 0
  have qf1 := free_blk O2.out.at_ 1
  have qf2 := free_blk O2.out.at_ 2
  have qs := lt_of_block O2.out.at_
  by_cases he : e2 = 0
  · subst he
    have X3 := Ex.mk (x_if X2.out rfl)
    go_wp2_with fail
    have B2 := Lib.hid (OB.fresh (M2.out) #[.slice a r.slots.length ca, .slice b r.snaps.length cb, .slice a r.slots.length ca] 23 rfl)
    have u0 := cell_blk B2.out.at_ 0
    have u1 := cell_blk B2.out.at_ 1
    have u2 := cell_blk B2.out.at_ 2
    have uf0 := free_blk B2.out.at_ 0
    have uf1 := free_blk B2.out.at_ 1
    have uf2 := free_blk B2.out.at_ 2
    have us := lt_of_block B2.out.at_
    have z1 := H1.out.mono M2.out.grow.le
    refine wp_loop_rounds 4 ?_
    rw [rounds_succ]
    go_wp2_with fail
    refine (reg_lowest _ L _ _ (M2.out.alloc _).st v _ _ (H1.out.mono M2.out.grow.le) (rSlot r c).1 (ok_of HN.out X3.out)).mono ?_
    intro e W4 hP
    rcases (M2.out.alloc _).call hP with ⟨⟨v4, e4⟩, s4, J4, v4, hr, rfl, rfl, hg, hk, hM⟩ | ⟨s', J', hr, rfl, hM⟩
    rotate_left
    · exact post_panic rfl (by rw [x_paused X3.out hr]; exact hM.paused)
    have M4 := Lib.hid hM
    have K4 := Lib.hid hk
    have G4 := Lib.hid hg
    have X4 := Ex.mk (x_ret X3.out hr)
    clear hP hr hg hk hM
    have B4 := Lib.hid (OB.thru B2.out (M2.out.alloc _) K4.out G4.out id)
    have p0 := cell_blk B4.out.at_ 0
    have p1 := cell_blk B4.out.at_ 1
    have p2 := cell_blk B4.out.at_ 2
    have pf0 := free_blk B4.out.at_ 0
    have pf1 := free_blk B4.out.at_ 1
    have pf2 := free_blk B4.out.at_ 2
    have ps := lt_of_block B4.out.at_
    by_cases he : e4 = 0
    · subst he
      have X5 := Ex.mk (x_if X4.out rfl)
      go_wp2
      rw [rounds_succ]
      go_wp2_with fail
      refine (reg_lowest _ L _ _ (M4.out).st v4 _ _ (H2.out.mono M4.out.grow.le) (rSlot r c).1 (ok_of HN.out X5.out)).mono ?_
      intro e W6 hP
      rcases (M4.out).call hP with ⟨⟨v6, e6⟩, s6, J6, v6, hr, rfl, rfl, hg, hk, hM⟩ | ⟨s', J', hr, rfl, hM⟩
      rotate_left
      · exact post_panic rfl (by rw [x_paused X5.out hr]; exact hM.paused)
      have M6 := Lib.hid hM
      have K6 := Lib.hid hk
      have G6 := Lib.hid hg
      have X6 := Ex.mk (x_ret X5.out hr)
      clear hP hr hg hk hM
      have B6 := Lib.hid (OB.thru B4.out (M4.out) K6.out G6.out (fun hh => by repeat (first | with_reducible exact hh | with_reducible refine OB.alloc ?_ _ | with_reducible refine OB.drew ?_ | with_reducible refine OB.drewN ?_ _ | refine OB.far ?_ (by dsimp only; omega) _)))
      have h0 := cell_blk B6.out.at_ 0
      have h1 := cell_blk B6.out.at_ 1
      have h2 := cell_blk B6.out.at_ 2
      have hf0 := free_blk B6.out.at_ 0
      have hf1 := free_blk B6.out.at_ 1
      have hf2 := free_blk B6.out.at_ 2
      have hs := lt_of_block B6.out.at_
      by_cases he : e6 = 0
      · subst he
        have X7 := Ex.mk (x_if X6.out rfl)
        go_wp2
        rw [rounds_succ]
        go_wp2_with fail
        refine (reg_lowest _ L _ _ (M6.out).st v6 _ _ (H1.out.mono M6.out.grow.le) (rSlot r c).1 (ok_of HN.out X7.out)).mono ?_
        intro e W8 hP
        rcases (M6.out).call hP with ⟨⟨v8, e8⟩, s8, J8, v8, hr, rfl, rfl, hg, hk, hM⟩ | ⟨s', J', hr, rfl, hM⟩
        rotate_left
        · exact post_panic rfl (by rw [x_paused X7.out hr]; exact hM.paused)
        have M8 := Lib.hid hM
        have K8 := Lib.hid hk
        have G8 := Lib.hid hg
        have X8 := Ex.mk (x_ret X7.out hr)
        clear hP hr hg hk hM
        by_cases he : e8 = 0
        · subst he
          have X9 := Ex.mk (x_if X8.out rfl)
          go_wp2
          rw [rounds_succ]
          go_wp2
          go_ret2
          rw [x_done X9.out]
          exact Mg.post (J := J8) (by repeat (first | with_reducible exact M8.out | with_reducible refine Mg.drewN ?_ _ | with_reducible refine Mg.drew ?_ | with_reducible refine Mg.alloc ?_ _ | refine Mg.seto ?_ (by repeat (first | with_reducible refine OwnOk.set ?_ _ _ | with_reducible refine OwnOk.alloc ?_ _ | with_reducible refine OwnOk.drew ?_ | with_reducible refine OwnOk.drewN ?_ _)) _)) rfl
        · have t1 := ne_true he
          have X9 := Ex.mk (x_else X8.out he)
          clear he
          go_wp2
          go_ret2
          rw [x_done X9.out]
          exact Mg.post (J := J8) (by repeat (first | with_reducible exact M8.out | with_reducible refine Mg.drewN ?_ _ | with_reducible refine Mg.drew ?_ | with_reducible refine Mg.alloc ?_ _ | refine Mg.seto ?_ (by repeat (first | with_reducible refine OwnOk.set ?_ _ _ | with_reducible refine OwnOk.alloc ?_ _ | with_reducible refine OwnOk.drew ?_ | with_reducible refine OwnOk.drewN ?_ _)) _)) rfl
      · have t1 := ne_true he
        have X7 := Ex.mk (x_else X6.out he)
        clear he
        go_wp2
        go_ret2
        rw [x_done X7.out]
        exact Mg.post (J := J6) (by repeat (first | with_reducible exact M6.out | with_reducible refine Mg.drewN ?_ _ | with_reducible refine Mg.drew ?_ | with_reducible refine Mg.alloc ?_ _ | refine Mg.seto ?_ (by repeat (first | with_reducible refine OwnOk.set ?_ _ _ | with_reducible refine OwnOk.alloc ?_ _ | with_reducible refine OwnOk.drew ?_ | with_reducible refine OwnOk.drewN ?_ _)) _)) rfl
    · have t1 := ne_true he
      have X5 := Ex.mk (x_else X4.out he)
      clear he
      go_wp2
      go_ret2
      rw [x_done X5.out]
      exact Mg.post (J := J4) (by repeat (first | with_reducible exact M4.out | with_reducible refine Mg.drewN ?_ _ | with_reducible refine Mg.drew ?_ | with_reducible refine Mg.alloc ?_ _ | refine Mg.seto ?_ (by repeat (first | with_reducible refine OwnOk.set ?_ _ _ | with_reducible refine OwnOk.alloc ?_ _ | with_reducible refine OwnOk.drew ?_ | with_reducible refine OwnOk.drewN ?_ _)) _)) rfl
  · have t1 := ne_true he
    have X3 := Ex.mk (x_else X2.out he)
    clear he
    go_wp2
    go_ret2
    rw [x_done X3.out]
    exact Mg.post (J := J2) (by repeat (first | with_reducible exact M2.out | with_reducible refine Mg.drewN ?_ _ | with_reducible refine Mg.drew ?_ | with_reducible refine Mg.alloc ?_ _ | refine Mg.seto ?_ (by repeat (first | with_reducible refine OwnOk.set ?_ _ _ | with_reducible refine OwnOk.alloc ?_ _ | with_reducible refine OwnOk.drew ?_ | with_reducible refine OwnOk.drewN ?_ _)) _)) rfl
end Go.Proofs.YtadaiihoclknmaaGreat
/- Nodes: ages laid, blocks taken, cells freed. -/
namespace Go.Proofs.YtadaiihoclknmaaGreat
open Go.RowKit
set_option maxHeartbeats 4000000
set_option maxRecDepth 100000
set_option linter.unusedVariables false
set_option linter.unusedSimpArgs false

/-- A revision's value, its rows written out. -/
theorem RevV.form {I : IHeap} {v : Value} {r : Rev} (h : RevV I v r) : ∃ ka kc va vc ga gc ta tc, v = .agg #[.int .i64 r.version, .int .i64 r.rate, .string r.span.lo, .string r.span.hi, .bool r.span.all, .bool r.dead, .slice ka r.keys.length kc, .slice va r.vals.length vc, .slice ga r.gone.length gc, .slice ta r.table.length tc] ∧
    Strs I (.slice ka r.keys.length kc) r.keys ∧ Strs I (.slice va r.vals.length vc) r.vals ∧ Bools I (.slice ga r.gone.length gc) r.gone ∧ Ints I (.slice ta r.table.length tc) r.table := by
  obtain ⟨c, rfl, k, l, g, t, rfl, h1, h2, h3, h4⟩ := h
  obtain ⟨ka, kc, rfl, _⟩ := h1.form
  obtain ⟨va, vc, rfl, _⟩ := h2.form
  obtain ⟨ga, gc, rfl, _⟩ := h3.form
  obtain ⟨ta, tc, rfl, _⟩ := h4.form
  exact ⟨ka, kc, va, vc, ga, gc, ta, tc, rfl, h1, h2, h3, h4⟩
theorem AgeV.form {I : IHeap} {v : Value} {a : Age} (h : AgeV I v a) : ∃ ka kc va vc ga gc ta tc, v = .agg #[.int .i64 a.rev.version, .int .i64 a.rev.rate, .string a.rev.span.lo, .string a.rev.span.hi, .bool a.rev.span.all, .bool a.rev.dead, .slice ka a.rev.keys.length kc, .slice va a.rev.vals.length vc, .slice ga a.rev.gone.length gc, .slice ta a.rev.table.length tc, .int .i64 a.prev] ∧
    Strs I (.slice ka a.rev.keys.length kc) a.rev.keys ∧ Strs I (.slice va a.rev.vals.length vc) a.rev.vals ∧ Bools I (.slice ga a.rev.gone.length gc) a.rev.gone ∧ Ints I (.slice ta a.rev.table.length tc) a.rev.table := by
  obtain ⟨k, l, g, t, rfl, h1, h2, h3, h4⟩ := h
  obtain ⟨ka, kc, rfl, _⟩ := h1.form
  obtain ⟨va, vc, rfl, _⟩ := h2.form
  obtain ⟨ga, gc, rfl, _⟩ := h3.form
  obtain ⟨ta, tc, rfl, _⟩ := h4.form
  exact ⟨ka, kc, va, vc, ga, gc, ta, tc, rfl, h1, h2, h3, h4⟩
def nLay (r : Rev) (before : Int) : Prog (Int × Int) := do
  let x ← pAllocWord before
  if x.2 = 0 then do
    let y ← pAlloc (.age ⟨r, x.1⟩)
    if y.2 = 0 then return (y.1, 0)
    else do
      let _ ← pFree x.1
      return (0, y.2)
  else return (0, x.2)
theorem node_Lay (w : World) (L : Loc) (I : IHeap) (s : PS) (hst : St w L I s) (r : Rev) (rv : Value) (hr : RevV I rv r) (before : Int) (hn : ((nLay r before).exec s).1.ok) :
    Calls Tryz.prog 120 #[.pointer (some ⟨L.p, 0, none⟩), rv, .int .i64 before] w (Post L w I ((nLay r before).exec s) (Is pairV)) := by
  have M0 := Lib.hid (Mg.start hst)
  have HN := Lib.hid hn
  have X0 : Ex ((nLay r before).exec s) ((nLay r before).exec s) := ⟨rfl⟩
  obtain ⟨ka, kc, va, vc, ga, gc, ta, tc, rfl, h1, h2, h3, h4⟩ := hr.form
  have H := Lib.hid (And.intro h1 (And.intro h2 (And.intro h3 h4)))
  clear hst hn hr h1 h2 h3 h4
  go_enter Tryz.func120, Tryz.ntmps120
  go_wp2_with fail
  have O0 := Lib.hid (OB.fresh (M0.out) #[.int .i64 r.version, .int .i64 r.rate, .string r.span.lo, .string r.span.hi, .bool r.span.all, .bool r.dead, .slice ka r.keys.length kc, .slice va r.vals.length vc, .slice ga r.gone.length gc, .slice ta r.table.length tc] 92 rfl)
  refine (port_AllocWord _ L _ _ (M0.out.alloc _).st before (ok_of HN.out X0.out)).mono ?_
  intro e W1 hP
  rcases (M0.out.alloc _).call hP with ⟨⟨a1, e1⟩, s1, J1, v1, hr, rfl, rfl, hg, hk, hM⟩ | ⟨s', J', hr, rfl, hM⟩
  rotate_left
  · exact post_panic rfl (by rw [x_paused X0.out hr]; exact hM.paused)
  have M1 := Lib.hid hM
  have K1 := Lib.hid hk
  have G1 := Lib.hid hg
  have X1 := Ex.mk (x_ret X0.out hr)
  clear hP hr hg hk hM
  have O1 := Lib.hid (OB.thru O0.out (M0.out.alloc _) K1.out G1.out (fun hh => by repeat (first | with_reducible exact hh | with_reducible refine OB.alloc ?_ _ | with_reducible refine OB.drew ?_ | with_reducible refine OB.drewN ?_ _ | refine OB.far ?_ (by dsimp only; omega) _)))
  have g0 := cell_blk O1.out.at_ 0
  have g1 := cell_blk O1.out.at_ 1
  have g2 := cell_blk O1.out.at_ 2
  have g3 := cell_blk O1.out.at_ 3
  have g4 := cell_blk O1.out.at_ 4
  have g5 := cell_blk O1.out.at_ 5
  have g6 := cell_blk O1.out.at_ 6
  have g7 := cell_blk O1.out.at_ 7
  have g8 := cell_blk O1.out.at_ 8
  have g9 := cell_blk O1.out.at_ 9
  have gf0 := free_blk O1.out.at_ 0
  have gf1 := free_blk O1.out.at_ 1
  have gf2 := free_blk O1.out.at_ 2
  have gf3 := free_blk O1.out.at_ 3
  have gf4 := free_blk O1.out.at_ 4
  have gf5 := free_blk O1.out.at_ 5
  have gf6 := free_blk O1.out.at_ 6
  have gf7 := free_blk O1.out.at_ 7
  have gf8 := free_blk O1.out.at_ 8
  have gf9 := free_blk O1.out.at_ 9
  have gs := lt_of_block O1.out.at_
  by_cases he : e1 = 0
  · subst he
    have X2 := Ex.mk (x_if X1.out rfl)
    go_wp2_with fail
    refine (port_Alloc _ L _ _ (M1.out).st _ (.age ⟨r, a1⟩) ⟨_, rfl, _, _, _, _, rfl, H.out.1.mono M1.out.grow.le, H.out.2.1.mono M1.out.grow.le, H.out.2.2.1.mono M1.out.grow.le, H.out.2.2.2.mono M1.out.grow.le⟩ (ok_of HN.out X2.out)).mono ?_
    intro e W3 hP
    rcases (M1.out).call hP with ⟨⟨a3, e3⟩, s3, J3, v3, hr, rfl, rfl, hg, hk, hM⟩ | ⟨s', J', hr, rfl, hM⟩
    rotate_left
    · exact post_panic rfl (by rw [x_paused X2.out hr]; exact hM.paused)
    have M3 := Lib.hid hM
    have K3 := Lib.hid hk
    have G3 := Lib.hid hg
    have X3 := Ex.mk (x_ret X2.out hr)
    clear hP hr hg hk hM
    by_cases he : e3 = 0
    · subst he
      have X4 := Ex.mk (x_if X3.out rfl)
      go_wp2
      go_ret2
      rw [x_done X4.out]
      exact Mg.post (J := J3) (by repeat (first | with_reducible exact M3.out | with_reducible refine Mg.drewN ?_ _ | with_reducible refine Mg.drew ?_ | with_reducible refine Mg.alloc ?_ _ | refine Mg.seto ?_ (by repeat (first | with_reducible refine OwnOk.set ?_ _ _ | with_reducible refine OwnOk.alloc ?_ _ | with_reducible refine OwnOk.drew ?_ | with_reducible refine OwnOk.drewN ?_ _)) _)) rfl
    · have t1 := ne_true he
      have X4 := Ex.mk (x_else X3.out he)
      clear he
      go_wp2_with fail
      refine (port_Free _ L _ _ (M3.out).st a1 (ok_of HN.out X4.out)).mono ?_
      intro e W5 hP
      rcases (M3.out).call hP with ⟨e5, s5, J5, v5, hr, rfl, rfl, hg, hk, hM⟩ | ⟨s', J', hr, rfl, hM⟩
      rotate_left
      · exact post_panic rfl (by rw [x_paused X4.out hr]; exact hM.paused)
      have M5 := Lib.hid hM
      have K5 := Lib.hid hk
      have G5 := Lib.hid hg
      have X5 := Ex.mk (x_ret X4.out hr)
      clear hP hr hg hk hM
      go_wp2
      go_ret2
      rw [x_done X5.out]
      exact Mg.post (J := J5) (by repeat (first | with_reducible exact M5.out | with_reducible refine Mg.drewN ?_ _ | with_reducible refine Mg.drew ?_ | with_reducible refine Mg.alloc ?_ _ | refine Mg.seto ?_ (by repeat (first | with_reducible refine OwnOk.set ?_ _ _ | with_reducible refine OwnOk.alloc ?_ _ | with_reducible refine OwnOk.drew ?_ | with_reducible refine OwnOk.drewN ?_ _)) _)) rfl
  · have t1 := ne_true he
    have X2 := Ex.mk (x_else X1.out he)
    clear he
    go_wp2
    go_ret2
    rw [x_done X2.out]
    exact Mg.post (J := J1) (by repeat (first | with_reducible exact M1.out | with_reducible refine Mg.drewN ?_ _ | with_reducible refine Mg.drew ?_ | with_reducible refine Mg.alloc ?_ _ | refine Mg.seto ?_ (by repeat (first | with_reducible refine OwnOk.set ?_ _ _ | with_reducible refine OwnOk.alloc ?_ _ | with_reducible refine OwnOk.drew ?_ | with_reducible refine OwnOk.drewN ?_ _)) _)) rfl
end Go.Proofs.YtadaiihoclknmaaGreat
/- Nodes: blocks taken, cells freed. -/
namespace Go.Proofs.YtadaiihoclknmaaGreat
open Go.RowKit
set_option maxHeartbeats 4000000
set_option maxRecDepth 100000
set_option linter.unusedVariables false
set_option linter.unusedSimpArgs false

def asAge : Option Blk → Option Age
  | some (.age a) => some a
  | _ => none
def asNode : Option Blk → Option Node
  | some (.node a) => some a
  | _ => none
def nTake (h : Int) : Prog (Age × Int) := do
  let x ← pLoad h
  if x.2 = 0 then
    match x.1 with
    | some (.age a) => return (a, 0)
    | _ => return (Age.none, 6)
  else return (Age.none, x.2)
def AgeE (J : IHeap) (v : Value) (a : Age × Int) : Prop := ∃ x, v = .tuple #[x, .int .i64 a.2] ∧ AgeV J x a.1
theorem AgeV.none (J : IHeap) : AgeV J (.agg #[.int .i64 0, .int .i64 0, .string ⟨#[]⟩, .string ⟨#[]⟩, .bool false, .bool false, .slice none 0 0, .slice none 0 0, .slice none 0 0, .slice none 0 0, .int .i64 0]) Age.none := ⟨_, _, _, _, rfl, Row.nil _ _ _, Row.nil _ _ _, Row.nil _ _ _, Row.nil _ _ _⟩
theorem node_block_age (w : World) (L : Loc) (I : IHeap) (s : PS) (hst : St w L I s) (h : Int) (hn : ((nTake h).exec s).1.ok) :
    Calls Tryz.prog 219 #[.pointer (some ⟨L.p, 0, none⟩), .int .i64 h] w (Post L w I ((nTake h).exec s) AgeE) := by
  have M0 := Lib.hid (Mg.start hst)
  have HN := Lib.hid hn
  have X0 : Ex ((nTake h).exec s) ((nTake h).exec s) := ⟨rfl⟩
  clear hst hn
  go_enter Tryz.func219, Tryz.ntmps219
  go_wp2_with fail
  have O0 := Lib.hid (OB.fresh (M0.out) #[.int .i64 0, .int .i64 0, .string ⟨#[]⟩, .string ⟨#[]⟩, .bool false, .bool false, .slice none 0 0, .slice none 0 0, .slice none 0 0, .slice none 0 0, .int .i64 0] 211 rfl)
  have M9 := Lib.hid (M0.out.alloc (.cells #[.int .i64 0, .int .i64 0, .string ⟨#[]⟩, .string ⟨#[]⟩, .bool false, .bool false, .slice none 0 0, .slice none 0 0, .slice none 0 0, .slice none 0 0, .int .i64 0] 211))
  have P0 := Lib.hid (OB.fresh (M9.out) #[.int .i64 0, .int .i64 0, .string ⟨#[]⟩, .string ⟨#[]⟩, .bool false, .bool false, .slice none 0 0, .slice none 0 0, .slice none 0 0, .slice none 0 0, .int .i64 0] 211 rfl)
  refine (port_Load _ L _ _ (M9.out.alloc _).st h (ok_of HN.out X0.out)).mono ?_
  intro e W1 hP
  rcases (M9.out.alloc _).call hP with ⟨⟨a1, e1⟩, s1, J1, v1, hr, rfl, ⟨b, rfl, hb⟩, hg, hk, hM⟩ | ⟨s', J', hr, rfl, hM⟩
  rotate_left
  · exact post_panic rfl (by rw [x_paused X0.out hr]; exact hM.paused)
  have M1 := Lib.hid hM
  have K1 := Lib.hid hk
  have G1 := Lib.hid hg
  have X1 := Ex.mk (x_ret X0.out hr)
  clear hP hr hg hk hM
  have O1 := Lib.hid (OB.thru O0.out (M9.out.alloc _) K1.out G1.out (fun hh => hh.alloc _))
  have P1 := Lib.hid (OB.thru P0.out (M9.out.alloc _) K1.out G1.out (fun hh => by repeat (first | with_reducible exact hh | with_reducible refine OB.alloc ?_ _ | with_reducible refine OB.drew ?_ | with_reducible refine OB.drewN ?_ _ | refine OB.far ?_ (by dsimp only; omega) _)))
  rw [show (w.alloc (.cells #[.int .i64 0, .int .i64 0, .string ⟨#[]⟩, .string ⟨#[]⟩, .bool false, .bool false, .slice none 0 0, .slice none 0 0, .slice none 0 0, .slice none 0 0, .int .i64 0] 211)).heap.size = w.heap.size + 1 by simp] at P1
  clear O0 P0
  have g0 := cell_blk O1.out.at_ 0
  have g1 := cell_blk O1.out.at_ 1
  have g2 := cell_blk O1.out.at_ 2
  have g3 := cell_blk O1.out.at_ 3
  have g4 := cell_blk O1.out.at_ 4
  have g5 := cell_blk O1.out.at_ 5
  have g6 := cell_blk O1.out.at_ 6
  have g7 := cell_blk O1.out.at_ 7
  have g8 := cell_blk O1.out.at_ 8
  have g9 := cell_blk O1.out.at_ 9
  have g10 := cell_blk O1.out.at_ 10
  have gf0 := free_blk O1.out.at_ 0
  have gf1 := free_blk O1.out.at_ 1
  have gf2 := free_blk O1.out.at_ 2
  have gf3 := free_blk O1.out.at_ 3
  have gf4 := free_blk O1.out.at_ 4
  have gf5 := free_blk O1.out.at_ 5
  have gf6 := free_blk O1.out.at_ 6
  have gf7 := free_blk O1.out.at_ 7
  have gf8 := free_blk O1.out.at_ 8
  have gf9 := free_blk O1.out.at_ 9
  have gf10 := free_blk O1.out.at_ 10
  have gs := lt_of_block O1.out.at_
  have p0 := cell_blk P1.out.at_ 0
  have p1 := cell_blk P1.out.at_ 1
  have p2 := cell_blk P1.out.at_ 2
  have p3 := cell_blk P1.out.at_ 3
  have p4 := cell_blk P1.out.at_ 4
  have p5 := cell_blk P1.out.at_ 5
  have p6 := cell_blk P1.out.at_ 6
  have p7 := cell_blk P1.out.at_ 7
  have p8 := cell_blk P1.out.at_ 8
  have p9 := cell_blk P1.out.at_ 9
  have p10 := cell_blk P1.out.at_ 10
  have pf0 := free_blk P1.out.at_ 0
  have pf1 := free_blk P1.out.at_ 1
  have pf2 := free_blk P1.out.at_ 2
  have pf3 := free_blk P1.out.at_ 3
  have pf4 := free_blk P1.out.at_ 4
  have pf5 := free_blk P1.out.at_ 5
  have pf6 := free_blk P1.out.at_ 6
  have pf7 := free_blk P1.out.at_ 7
  have pf8 := free_blk P1.out.at_ 8
  have pf9 := free_blk P1.out.at_ 9
  have pf10 := free_blk P1.out.at_ 10
  have ps := lt_of_block P1.out.at_
  by_cases he : e1 = 0
  · subst he
    have X2 := Ex.mk (x_if X1.out rfl)
    have HB := Lib.hid hb
    clear hb
    rcases a1 with _ | (n | d | a | n)
    · obtain rfl : b = .nilIface := HB.out
      go_wp2
      refine bodyPost_ret (v := .tuple #[.agg #[.int .i64 0, .int .i64 0, .string ⟨#[]⟩, .string ⟨#[]⟩, .bool false, .bool false, .slice none 0 0, .slice none 0 0, .slice none 0 0, .slice none 0 0, .int .i64 0], .int .i64 6]) (by simp [results, Tryz.results219, go_sem, g0, g1, g2, g3, g4, g5, g6, g7, g8, g9, g10, gs, p0, p1, p2, p3, p4, p5, p6, p7, p8, p9, p10, ps]) rfl ?_
      rw [x_done X2.out]
      exact Mg.post (J := J1) (by repeat (first | with_reducible exact M1.out | with_reducible refine Mg.drewN ?_ _ | with_reducible refine Mg.drew ?_ | with_reducible refine Mg.alloc ?_ _ | refine Mg.seto ?_ (by repeat (first | with_reducible exact O1.out.ok | with_reducible exact P1.out.ok | with_reducible refine OwnOk.set ?_ _ _ | with_reducible refine OwnOk.alloc ?_ _ | with_reducible refine OwnOk.drew ?_ | with_reducible refine OwnOk.drewN ?_ _)) _)) ⟨_, rfl, AgeV.none _⟩
    · obtain rfl : b = .iface 227 (.int .i64 n) := HB.out
      go_wp2
      refine bodyPost_ret (v := .tuple #[.agg #[.int .i64 0, .int .i64 0, .string ⟨#[]⟩, .string ⟨#[]⟩, .bool false, .bool false, .slice none 0 0, .slice none 0 0, .slice none 0 0, .slice none 0 0, .int .i64 0], .int .i64 6]) (by simp [results, Tryz.results219, go_sem, g0, g1, g2, g3, g4, g5, g6, g7, g8, g9, g10, gs, p0, p1, p2, p3, p4, p5, p6, p7, p8, p9, p10, ps]) rfl ?_
      rw [x_done X2.out]
      exact Mg.post (J := J1) (by repeat (first | with_reducible exact M1.out | with_reducible refine Mg.drewN ?_ _ | with_reducible refine Mg.drew ?_ | with_reducible refine Mg.alloc ?_ _ | refine Mg.seto ?_ (by repeat (first | with_reducible exact O1.out.ok | with_reducible exact P1.out.ok | with_reducible refine OwnOk.set ?_ _ _ | with_reducible refine OwnOk.alloc ?_ _ | with_reducible refine OwnOk.drew ?_ | with_reducible refine OwnOk.drewN ?_ _)) _)) ⟨_, rfl, AgeV.none _⟩
    · obtain ⟨x, rfl, _⟩ := HB.out
      go_wp2
      refine bodyPost_ret (v := .tuple #[.agg #[.int .i64 0, .int .i64 0, .string ⟨#[]⟩, .string ⟨#[]⟩, .bool false, .bool false, .slice none 0 0, .slice none 0 0, .slice none 0 0, .slice none 0 0, .int .i64 0], .int .i64 6]) (by simp [results, Tryz.results219, go_sem, g0, g1, g2, g3, g4, g5, g6, g7, g8, g9, g10, gs, p0, p1, p2, p3, p4, p5, p6, p7, p8, p9, p10, ps]) rfl ?_
      rw [x_done X2.out]
      exact Mg.post (J := J1) (by repeat (first | with_reducible exact M1.out | with_reducible refine Mg.drewN ?_ _ | with_reducible refine Mg.drew ?_ | with_reducible refine Mg.alloc ?_ _ | refine Mg.seto ?_ (by repeat (first | with_reducible exact O1.out.ok | with_reducible exact P1.out.ok | with_reducible refine OwnOk.set ?_ _ _ | with_reducible refine OwnOk.alloc ?_ _ | with_reducible refine OwnOk.drew ?_ | with_reducible refine OwnOk.drewN ?_ _)) _)) ⟨_, rfl, AgeV.none _⟩
    · obtain ⟨x, rfl, hd⟩ := HB.out
      obtain ⟨ka, kc, va, vc, ga, gc, ta, tc, rfl, _⟩ := hd.form
      have HD := Lib.hid hd
      clear hd
      go_wp2
      refine bodyPost_ret (v := .tuple #[.agg #[.int .i64 a.rev.version, .int .i64 a.rev.rate, .string a.rev.span.lo, .string a.rev.span.hi, .bool a.rev.span.all, .bool a.rev.dead, .slice ka a.rev.keys.length kc, .slice va a.rev.vals.length vc, .slice ga a.rev.gone.length gc, .slice ta a.rev.table.length tc, .int .i64 a.prev], .int .i64 0]) (by simp [results, Tryz.results219, go_sem, g0, g1, g2, g3, g4, g5, g6, g7, g8, g9, g10, gs, p0, p1, p2, p3, p4, p5, p6, p7, p8, p9, p10, ps]) rfl ?_
      rw [x_done X2.out]
      exact Mg.post (J := J1) (by repeat (first | with_reducible exact M1.out | with_reducible refine Mg.drewN ?_ _ | with_reducible refine Mg.drew ?_ | with_reducible refine Mg.alloc ?_ _ | refine Mg.seto ?_ (by repeat (first | with_reducible exact O1.out.ok | with_reducible exact P1.out.ok | with_reducible refine OwnOk.set ?_ _ _ | with_reducible refine OwnOk.alloc ?_ _ | with_reducible refine OwnOk.drew ?_ | with_reducible refine OwnOk.drewN ?_ _)) _)) ⟨_, rfl, HD.out⟩
    · obtain ⟨x, rfl, _⟩ := HB.out
      go_wp2
      refine bodyPost_ret (v := .tuple #[.agg #[.int .i64 0, .int .i64 0, .string ⟨#[]⟩, .string ⟨#[]⟩, .bool false, .bool false, .slice none 0 0, .slice none 0 0, .slice none 0 0, .slice none 0 0, .int .i64 0], .int .i64 6]) (by simp [results, Tryz.results219, go_sem, g0, g1, g2, g3, g4, g5, g6, g7, g8, g9, g10, gs, p0, p1, p2, p3, p4, p5, p6, p7, p8, p9, p10, ps]) rfl ?_
      rw [x_done X2.out]
      exact Mg.post (J := J1) (by repeat (first | with_reducible exact M1.out | with_reducible refine Mg.drewN ?_ _ | with_reducible refine Mg.drew ?_ | with_reducible refine Mg.alloc ?_ _ | refine Mg.seto ?_ (by repeat (first | with_reducible exact O1.out.ok | with_reducible exact P1.out.ok | with_reducible refine OwnOk.set ?_ _ _ | with_reducible refine OwnOk.alloc ?_ _ | with_reducible refine OwnOk.drew ?_ | with_reducible refine OwnOk.drewN ?_ _)) _)) ⟨_, rfl, AgeV.none _⟩
  · have t1 := ne_true he
    have X2 := Ex.mk (x_else X1.out he)
    clear he hb
    go_wp2
    refine bodyPost_ret (v := .tuple #[.agg #[.int .i64 0, .int .i64 0, .string ⟨#[]⟩, .string ⟨#[]⟩, .bool false, .bool false, .slice none 0 0, .slice none 0 0, .slice none 0 0, .slice none 0 0, .int .i64 0], .int .i64 e1]) (by simp [results, Tryz.results219, go_sem, g0, g1, g2, g3, g4, g5, g6, g7, g8, g9, g10, gs, p0, p1, p2, p3, p4, p5, p6, p7, p8, p9, p10, ps]) rfl ?_
    rw [x_done X2.out]
    exact Mg.post (J := J1) (by repeat (first | with_reducible exact M1.out | with_reducible refine Mg.drewN ?_ _ | with_reducible refine Mg.drew ?_ | with_reducible refine Mg.alloc ?_ _ | refine Mg.seto ?_ (by repeat (first | with_reducible exact O1.out.ok | with_reducible exact P1.out.ok | with_reducible refine OwnOk.set ?_ _ _ | with_reducible refine OwnOk.alloc ?_ _ | with_reducible refine OwnOk.drew ?_ | with_reducible refine OwnOk.drewN ?_ _)) _)) ⟨_, rfl, AgeV.none _⟩
theorem NodeV.form {I : IHeap} {v : Value} {n : Node} (h : NodeV I v n) : ∃ A cap, v = .agg #[.string n.low, .int .i64 n.head, .slice A n.next.length cap] ∧ Ints I (.slice A n.next.length cap) n.next ∧ n.next.length ≤ maxLen := by
  obtain ⟨s, rfl, h1⟩ := h
  obtain ⟨A, cap, rfl, p, q, _⟩ := h1.form
  exact ⟨A, cap, rfl, h1, Nat.le_trans p q⟩
theorem NodeV.none (J : IHeap) : NodeV J (.agg #[.string ⟨#[]⟩, .int .i64 0, .slice none 0 0]) Node.none := ⟨_, rfl, Row.nil _ _ _⟩
def nLoad (h : Int) : Prog (Node × Int) := do
  let x ← pLoad h
  if x.2 = 0 then
    match x.1 with
    | some (.node a) => return (a, 0)
    | _ => return (Node.none, 6)
  else return (Node.none, x.2)
def NodeE (J : IHeap) (v : Value) (a : Node × Int) : Prop := ∃ x, v = .tuple #[x, .int .i64 a.2] ∧ NodeV J x a.1
theorem node_block (w : World) (L : Loc) (I : IHeap) (s : PS) (hst : St w L I s) (h : Int) (hn : ((nLoad h).exec s).1.ok) :
    Calls Tryz.prog 221 #[.pointer (some ⟨L.p, 0, none⟩), .int .i64 h] w (Post L w I ((nLoad h).exec s) NodeE) := by
  have M0 := Lib.hid (Mg.start hst)
  have HN := Lib.hid hn
  have X0 : Ex ((nLoad h).exec s) ((nLoad h).exec s) := ⟨rfl⟩
  clear hst hn
  go_enter Tryz.func221, Tryz.ntmps221
  go_wp2_with fail
  have O0 := Lib.hid (OB.fresh (M0.out) #[.string ⟨#[]⟩, .int .i64 0, .slice none 0 0] 117 rfl)
  have M9 := Lib.hid (M0.out.alloc (.cells #[.string ⟨#[]⟩, .int .i64 0, .slice none 0 0] 117))
  have P0 := Lib.hid (OB.fresh (M9.out) #[.string ⟨#[]⟩, .int .i64 0, .slice none 0 0] 117 rfl)
  refine (port_Load _ L _ _ (M9.out.alloc _).st h (ok_of HN.out X0.out)).mono ?_
  intro e W1 hP
  rcases (M9.out.alloc _).call hP with ⟨⟨a1, e1⟩, s1, J1, v1, hr, rfl, ⟨b, rfl, hb⟩, hg, hk, hM⟩ | ⟨s', J', hr, rfl, hM⟩
  rotate_left
  · exact post_panic rfl (by rw [x_paused X0.out hr]; exact hM.paused)
  have M1 := Lib.hid hM
  have K1 := Lib.hid hk
  have G1 := Lib.hid hg
  have X1 := Ex.mk (x_ret X0.out hr)
  clear hP hr hg hk hM
  have O1 := Lib.hid (OB.thru O0.out (M9.out.alloc _) K1.out G1.out (fun hh => hh.alloc _))
  have P1 := Lib.hid (OB.thru P0.out (M9.out.alloc _) K1.out G1.out (fun hh => by repeat (first | with_reducible exact hh | with_reducible refine OB.alloc ?_ _ | with_reducible refine OB.drew ?_ | with_reducible refine OB.drewN ?_ _ | refine OB.far ?_ (by dsimp only; omega) _)))
  rw [show (w.alloc (.cells #[.string ⟨#[]⟩, .int .i64 0, .slice none 0 0] 117)).heap.size = w.heap.size + 1 by simp] at P1
  clear O0 P0
  have g0 := cell_blk O1.out.at_ 0
  have g1 := cell_blk O1.out.at_ 1
  have g2 := cell_blk O1.out.at_ 2
  have gf0 := free_blk O1.out.at_ 0
  have gf1 := free_blk O1.out.at_ 1
  have gf2 := free_blk O1.out.at_ 2
  have gs := lt_of_block O1.out.at_
  have p0 := cell_blk P1.out.at_ 0
  have p1 := cell_blk P1.out.at_ 1
  have p2 := cell_blk P1.out.at_ 2
  have pf0 := free_blk P1.out.at_ 0
  have pf1 := free_blk P1.out.at_ 1
  have pf2 := free_blk P1.out.at_ 2
  have ps := lt_of_block P1.out.at_
  by_cases he : e1 = 0
  · subst he
    have X2 := Ex.mk (x_if X1.out rfl)
    have HB := Lib.hid hb
    clear hb
    rcases a1 with _ | (n | d | a | n)
    · obtain rfl : b = .nilIface := HB.out
      go_wp2
      refine bodyPost_ret (v := .tuple #[.agg #[.string ⟨#[]⟩, .int .i64 0, .slice none 0 0], .int .i64 6]) (by simp [results, Tryz.results221, go_sem, g0, g1, g2, gs, p0, p1, p2, ps]) rfl ?_
      rw [x_done X2.out]
      exact Mg.post (J := J1) (by repeat (first | with_reducible exact M1.out | with_reducible refine Mg.drewN ?_ _ | with_reducible refine Mg.drew ?_ | with_reducible refine Mg.alloc ?_ _ | refine Mg.seto ?_ (by repeat (first | with_reducible exact O1.out.ok | with_reducible exact P1.out.ok | with_reducible refine OwnOk.set ?_ _ _ | with_reducible refine OwnOk.alloc ?_ _ | with_reducible refine OwnOk.drew ?_ | with_reducible refine OwnOk.drewN ?_ _)) _)) ⟨_, rfl, NodeV.none _⟩
    · obtain rfl : b = .iface 227 (.int .i64 n) := HB.out
      go_wp2
      refine bodyPost_ret (v := .tuple #[.agg #[.string ⟨#[]⟩, .int .i64 0, .slice none 0 0], .int .i64 6]) (by simp [results, Tryz.results221, go_sem, g0, g1, g2, gs, p0, p1, p2, ps]) rfl ?_
      rw [x_done X2.out]
      exact Mg.post (J := J1) (by repeat (first | with_reducible exact M1.out | with_reducible refine Mg.drewN ?_ _ | with_reducible refine Mg.drew ?_ | with_reducible refine Mg.alloc ?_ _ | refine Mg.seto ?_ (by repeat (first | with_reducible exact O1.out.ok | with_reducible exact P1.out.ok | with_reducible refine OwnOk.set ?_ _ _ | with_reducible refine OwnOk.alloc ?_ _ | with_reducible refine OwnOk.drew ?_ | with_reducible refine OwnOk.drewN ?_ _)) _)) ⟨_, rfl, NodeV.none _⟩
    · obtain ⟨x, rfl, _⟩ := HB.out
      go_wp2
      refine bodyPost_ret (v := .tuple #[.agg #[.string ⟨#[]⟩, .int .i64 0, .slice none 0 0], .int .i64 6]) (by simp [results, Tryz.results221, go_sem, g0, g1, g2, gs, p0, p1, p2, ps]) rfl ?_
      rw [x_done X2.out]
      exact Mg.post (J := J1) (by repeat (first | with_reducible exact M1.out | with_reducible refine Mg.drewN ?_ _ | with_reducible refine Mg.drew ?_ | with_reducible refine Mg.alloc ?_ _ | refine Mg.seto ?_ (by repeat (first | with_reducible exact O1.out.ok | with_reducible exact P1.out.ok | with_reducible refine OwnOk.set ?_ _ _ | with_reducible refine OwnOk.alloc ?_ _ | with_reducible refine OwnOk.drew ?_ | with_reducible refine OwnOk.drewN ?_ _)) _)) ⟨_, rfl, NodeV.none _⟩
    · obtain ⟨x, rfl, _⟩ := HB.out
      go_wp2
      refine bodyPost_ret (v := .tuple #[.agg #[.string ⟨#[]⟩, .int .i64 0, .slice none 0 0], .int .i64 6]) (by simp [results, Tryz.results221, go_sem, g0, g1, g2, gs, p0, p1, p2, ps]) rfl ?_
      rw [x_done X2.out]
      exact Mg.post (J := J1) (by repeat (first | with_reducible exact M1.out | with_reducible refine Mg.drewN ?_ _ | with_reducible refine Mg.drew ?_ | with_reducible refine Mg.alloc ?_ _ | refine Mg.seto ?_ (by repeat (first | with_reducible exact O1.out.ok | with_reducible exact P1.out.ok | with_reducible refine OwnOk.set ?_ _ _ | with_reducible refine OwnOk.alloc ?_ _ | with_reducible refine OwnOk.drew ?_ | with_reducible refine OwnOk.drewN ?_ _)) _)) ⟨_, rfl, NodeV.none _⟩
    · obtain ⟨x, rfl, hd⟩ := HB.out
      obtain ⟨A, cap, rfl, _⟩ := hd.form
      have HD := Lib.hid hd
      clear hd
      go_wp2
      refine bodyPost_ret (v := .tuple #[.agg #[.string n.low, .int .i64 n.head, .slice A n.next.length cap], .int .i64 0]) (by simp [results, Tryz.results221, go_sem, g0, g1, g2, gs, p0, p1, p2, ps]) rfl ?_
      rw [x_done X2.out]
      exact Mg.post (J := J1) (by repeat (first | with_reducible exact M1.out | with_reducible refine Mg.drewN ?_ _ | with_reducible refine Mg.drew ?_ | with_reducible refine Mg.alloc ?_ _ | refine Mg.seto ?_ (by repeat (first | with_reducible exact O1.out.ok | with_reducible exact P1.out.ok | with_reducible refine OwnOk.set ?_ _ _ | with_reducible refine OwnOk.alloc ?_ _ | with_reducible refine OwnOk.drew ?_ | with_reducible refine OwnOk.drewN ?_ _)) _)) ⟨_, rfl, HD.out⟩
  · have t1 := ne_true he
    have X2 := Ex.mk (x_else X1.out he)
    clear he hb
    go_wp2
    refine bodyPost_ret (v := .tuple #[.agg #[.string ⟨#[]⟩, .int .i64 0, .slice none 0 0], .int .i64 e1]) (by simp [results, Tryz.results221, go_sem, g0, g1, g2, gs, p0, p1, p2, ps]) rfl ?_
    rw [x_done X2.out]
    exact Mg.post (J := J1) (by repeat (first | with_reducible exact M1.out | with_reducible refine Mg.drewN ?_ _ | with_reducible refine Mg.drew ?_ | with_reducible refine Mg.alloc ?_ _ | refine Mg.seto ?_ (by repeat (first | with_reducible exact O1.out.ok | with_reducible exact P1.out.ok | with_reducible refine OwnOk.set ?_ _ _ | with_reducible refine OwnOk.alloc ?_ _ | with_reducible refine OwnOk.drew ?_ | with_reducible refine OwnOk.drewN ?_ _)) _)) ⟨_, rfl, NodeV.none _⟩
end Go.Proofs.YtadaiihoclknmaaGreat
