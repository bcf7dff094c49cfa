/- Part 11 of the proof: Reg1, Reg2, Reg3. -/
import Derived.Test.YtadaiihoclknmaaGreatC07
import Derived.Test.YtadaiihoclknmaaGreatC10
/- The register: words, undone. -/
namespace Go.Proofs.YtadaiihoclknmaaGreat
open Go.RowKit
set_option maxHeartbeats 4000000
set_option maxRecDepth 100000
set_option linter.unusedVariables false
set_option linter.unusedSimpArgs false

abbrev unitV : Unit → Value := fun _ => .tuple #[]
def rUndo : List Int → Prog Unit
  | [] => return ()
  | h :: t => do
    let _ ← pFree h
    rUndo t
theorem rUndo_cons (h : Int) (t : List Int) : rUndo (h :: t) = (do let _ ← pFree h; rUndo t) := rfl
theorem reg_undo (w : World) (L : Loc) (I : IHeap) (s : PS) (hst : St w L I s) (l : List Int) (lv : Value) (hl : Ints I lv l) (hn : ((rUndo l).exec s).1.ok) :
    Calls Tryz.prog 163 #[.pointer (some ⟨L.p, 0, none⟩), lv] w (Post L w I ((rUndo l).exec s) (Is unitV)) := by
  have M0 := Lib.hid (Mg.start hst)
  have HN := Lib.hid hn
  have X0 : Ex ((rUndo l).exec s) ((rUndo l).exec s) := ⟨rfl⟩
  obtain ⟨A, cap, rfl, hc1, hc2, _⟩ := hl.form
  have HD := Lib.hid hl
  have LN := Lib.hid (Nat.le_trans hc1 hc2)
  clear hst hn hl hc1 hc2
  go_enter Tryz.func163, Tryz.ntmps163
  go_wp2_with fail
  go_loopg [8] l.length (fun n v W => ∃ (i : Nat) (J : IHeap) (s' : PS), v = .int .i64 i ∧ i + n = l.length ∧ Hid (Mg w L I J s' W) ∧ Ex ((rUndo l).exec s) ((rUndo (l.drop i)).exec s'))
  case atStart => exact ⟨0, I, s, rfl, by simp, M0, X0⟩
  case round =>
  obtain ⟨i, J0, s0, rfl, hi, M0, X0⟩ := hrel
  by_cases hlt : i < l.length
  · obtain ⟨b, off, rfl, _, hc⟩ := Sl.cell M0.out.st.held (HD.out.mono M0.out.grow.le) (fun _ => rfl) (by omega)
    have hx := List.getElem?_eq_getElem hlt
    have c0 : wr.cell? ⟨b, off + i * 1, none⟩ = _ := hc i 0 _ _ hx rfl
    rw [Nat.mul_one] at c0
    have E := Lib.hid (List.drop_eq_getElem_cons hlt)
    generalize l[i] = x at c0 E
    clear hc hx
    rw [E.out, rUndo_cons] at X0
    go_wp2_with fail
    refine (port_Free _ L _ _ (M0.out).st x (ok_of HN.out X0.out)).mono ?_
    intro e W1 hP
    rcases (M0.out).call hP with ⟨e1, s1, J1, v1, hr, rfl, rfl, hg, hk, hM⟩ | ⟨s', J', hr, rfl, hM⟩
    rotate_left
    · exact post_panic rfl (by rw [x_paused X0.out hr]; exact hM.paused)
    have M1 := Lib.hid hM
    have K1 := Lib.hid hk
    have G1 := Lib.hid hg
    have X1 := Ex.mk (x_ret X0.out hr)
    clear hP hr hg hk hM
    go_wp2
    go_roundg (gk - 1)
    case measure => omega
    case rel => exact ⟨i + 1, J1, s1, next_int hlt LN.out, by omega, M1, X1⟩
  · have h0 : List.drop i l = [] := List.drop_eq_nil_of_le (by omega)
    rw [h0] at X0
    go_wp2
    refine bodyPost_ret (v := .tuple #[]) (by simp [results, Tryz.results163, go_sem]) rfl ?_
    rw [x_done X0.out]
    exact Mg.post (J := J0) (by repeat (first | with_reducible exact M0.out | with_reducible refine Mg.drewN ?_ _ | with_reducible refine Mg.drew ?_ | with_reducible refine Mg.alloc ?_ _ | refine Mg.seto ?_ (by repeat (first | with_reducible refine OwnOk.set ?_ _ _ | with_reducible refine OwnOk.alloc ?_ _ | with_reducible refine OwnOk.drew ?_ | with_reducible refine OwnOk.drewN ?_ _)) _)) rfl
def rWords : Nat → List Int → Prog (List Int × Int)
  | 0, out => return (out, 0)
  | n + 1, out => do
    let x ← pAllocWord 0
    if x.2 = 0 then rWords n (out ++ [x.1])
    else do
      rUndo out
      return ([], x.2)
theorem rWords_succ (n : Nat) (out : List Int) : rWords (n + 1) out = (do let x ← pAllocWord 0; if x.2 = 0 then rWords n (out ++ [x.1]) else do { rUndo out; return ([], x.2) }) := rfl
def IntsE (J : IHeap) (v : Value) (a : List Int × Int) : Prop := ∃ x, v = .tuple #[x, .int .i64 a.2] ∧ Ints J x a.1
theorem reg_words (w : World) (L : Loc) (I : IHeap) (s : PS) (hst : St w L I s) (n : Nat) (hb : n ≤ 1000000) (hn : ((rWords n []).exec s).1.ok) :
    Calls Tryz.prog 162 #[.pointer (some ⟨L.p, 0, none⟩), .int .i64 n] w (Post L w I ((rWords n []).exec s) IntsE) := by
  have M0 := Lib.hid (Mg.start hst)
  have HN := Lib.hid hn
  have X0 : Ex ((rWords n []).exec s) ((rWords n []).exec s) := ⟨rfl⟩
  clear hst hn
  go_enter Tryz.func162, Tryz.ntmps162
  go_wp2_with fail
  have O0 := Lib.hid (OL.nil w I w 3 1 encInt rfl)
  go_loopg [6, 10] n (fun g o v W => ∃ (i : Nat) (J : IHeap) (s' : PS) (l : List Int), v = .int .i64 i ∧ i + g = n ∧ Hid (Mg w L I J s' W) ∧ Hid (OL w J W 3 1 encInt o l) ∧ l.length = i ∧ Ex ((rWords n []).exec s) ((rWords g l).exec s'))
  case atStart => exact ⟨0, I, s, [], rfl, by simp, M0, O0, rfl, X0⟩
  case round =>
  obtain ⟨i, J0, s0, l, rfl, hi, M0, O0, hl, X0⟩ := hrel
  by_cases hlt : i < n
  · obtain ⟨g, rfl⟩ : ∃ g, gk = g + 1 := ⟨gk - 1, by omega⟩
    rw [rWords_succ] at X0
    go_wp2_with fail
    refine (port_AllocWord _ L _ _ (M0.out).st 0 (ok_of HN.out X0.out)).mono ?_
    intro e W1 hP
    rcases (M0.out).call hP with ⟨⟨a1, e1⟩, s1, J1, v1, hr, rfl, rfl, hg, hk, hM⟩ | ⟨s', J', hr, rfl, hM⟩
    rotate_left
    · exact post_panic rfl (by rw [x_paused X0.out hr]; exact hM.paused)
    have M1 := Lib.hid hM
    have K1 := Lib.hid hk
    have G1 := Lib.hid hg
    have X1 := Ex.mk (x_ret X0.out hr)
    clear hP hr hg hk hM
    have O1 := Lib.hid (OR.call M0.out K1.out G1.out O0.out)
    by_cases he : e1 = 0
    · subst he
      have X2 := Ex.mk (x_if X1.out rfl)
      go_wp2_with (at_builtin; refine wp_app_int rfl _ _ rfl _ l a1 _ _ _ _ _ rfl rfl (alloc_new _ _) rfl (OR.alloc O1.out _) (M1.out.alloc _) (by omega) ?_)
      intro v1 W2 hO hM hg
      have M2 := Lib.hid hM
      have O2 := Lib.hid hO
      clear hO hM hg
      go_wp2
      go_roundg g
      case measure => omega
      case rel => exact ⟨i + 1, J1, s1, _, rfl, by omega, M2, O2, by simp [hl], X2⟩
    · have t1 := ne_true he
      have X2 := Ex.mk (x_else X1.out he)
      clear he
      obtain ⟨J2, hM, hle, hR, hno⟩ := O1.out.row M1.out
      have M2 := Lib.hid hM
      have HR := Lib.hid hR
      clear hM hle hR hno
      go_wp2_with fail
      refine (reg_undo _ L _ _ (M2.out).st l _ HR.out (ok_of HN.out X2.out)).mono ?_
      intro e W3 hP
      rcases (M2.out).call hP with ⟨⟨⟩, s3, J3, v3, hr, rfl, rfl, hg, hk, hM⟩ | ⟨s', J', hr, rfl, hM⟩
      rotate_left
      · exact post_panic rfl (by rw [x_paused X2.out hr]; exact hM.paused)
      have M3 := Lib.hid hM
      have K3 := Lib.hid hk
      have G3 := Lib.hid hg
      have X3 := Ex.mk (x_ret X2.out hr)
      clear hP hr hg hk hM
      go_wp2
      go_ret2
      rw [x_done X3.out]
      exact Mg.post (J := J3) (by repeat (first | with_reducible exact M3.out | with_reducible refine Mg.drewN ?_ _ | with_reducible refine Mg.drew ?_ | with_reducible refine Mg.alloc ?_ _ | refine Mg.seto ?_ (by repeat (first | with_reducible refine OwnOk.set ?_ _ _ | with_reducible refine OwnOk.alloc ?_ _ | with_reducible refine OwnOk.drew ?_ | with_reducible refine OwnOk.drewN ?_ _)) _)) ⟨_, rfl, Row.nil _ _ _⟩
  · obtain rfl : gk = 0 := by omega
    obtain ⟨J2, hM, hle, hR, hno⟩ := O0.out.row M0.out
    have M2 := Lib.hid hM
    have HR := Lib.hid hR
    clear hM hle hR hno
    go_wp2
    go_ret2
    rw [x_done X0.out]
    exact Mg.post (J := J2) (by repeat (first | with_reducible exact M2.out | with_reducible refine Mg.drewN ?_ _ | with_reducible refine Mg.drew ?_ | with_reducible refine Mg.alloc ?_ _ | refine Mg.seto ?_ (by repeat (first | with_reducible refine OwnOk.set ?_ _ _ | with_reducible refine OwnOk.alloc ?_ _ | with_reducible refine OwnOk.drew ?_ | with_reducible refine OwnOk.drewN ?_ _)) _)) ⟨_, rfl, HR.out⟩
end Go.Proofs.YtadaiihoclknmaaGreat
/- The register: made; who is at work. -/
namespace Go.Proofs.YtadaiihoclknmaaGreat
open Go.RowKit
set_option maxHeartbeats 4000000
set_option maxRecDepth 100000
set_option linter.unusedVariables false
set_option linter.unusedSimpArgs false

structure Reg where
  top : Int
  slots : List Int
  snaps : List Int
  deriving DecidableEq, Inhabited
def Reg.none : Reg := ⟨0, [], []⟩
def RegV (I : IHeap) (v : Value) (r : Reg) : Prop := ∃ a b, v = .agg #[.int .i64 r.top, a, b] ∧ Ints I a r.slots ∧ Ints I b r.snaps
theorem RegV.mono {I J : IHeap} {v : Value} {r : Reg} (h : RegV I v r) (hl : ILe I J) : RegV J v r := by
  obtain ⟨a, b, hv, h1, h2⟩ := h; exact ⟨a, b, hv, h1.mono hl, h2.mono hl⟩
theorem RegV.form {I : IHeap} {v : Value} {r : Reg} (h : RegV I v r) : ∃ a c b d, v = .agg #[.int .i64 r.top, .slice a r.slots.length c, .slice b r.snaps.length d] ∧ Ints I (.slice a r.slots.length c) r.slots ∧ Ints I (.slice b r.snaps.length d) r.snaps ∧ r.slots.length ≤ maxLen ∧ r.snaps.length ≤ maxLen := by
  obtain ⟨x, y, rfl, h1, h2⟩ := h
  obtain ⟨a, c, rfl, p1, p2, _⟩ := h1.form
  obtain ⟨b, d, rfl, p3, p4, _⟩ := h2.form
  exact ⟨a, c, b, d, rfl, h1, h2, Nat.le_trans p1 p2, Nat.le_trans p3 p4⟩
theorem RegV.none (I : IHeap) : RegV I (.agg #[.int .i64 0, .slice none 0 0, .slice none 0 0]) Reg.none := ⟨_, _, rfl, Row.nil _ _ _, Row.nil _ _ _⟩
def RegE (J : IHeap) (v : Value) (a : Reg × Int) : Prop := ∃ x, v = .tuple #[x, .int .i64 a.2] ∧ RegV J x a.1
def rInit (top : Int) (clients snaps : Int) : Prog (Reg × Int) :=
  if clients < 1 ∨ 64 < clients ∨ snaps < 0 ∨ 64 < snaps then return (Reg.none, 10)
  else do
    let x ← rWords clients.toNat []
    if x.2 = 0 then do
      let y ← rWords snaps.toNat []
      if y.2 = 0 then return (⟨top, x.1, y.1⟩, 0)
      else do
        rUndo x.1
        return (Reg.none, y.2)
    else return (Reg.none, x.2)
theorem reg_Init (w : World) (L : Loc) (I : IHeap) (s : PS) (hst : St w L I s) (top clients snaps : Int) (hn : ((rInit top clients snaps).exec s).1.ok) :
    Calls Tryz.prog 117 #[.pointer (some ⟨L.p, 0, none⟩), .int .i64 top, .int .i64 clients, .int .i64 snaps] w (Post L w I ((rInit top clients snaps).exec s) RegE) := by
  have M0 := Lib.hid (Mg.start hst)
  have HN := Lib.hid hn
  have X0 : Ex ((rInit top clients snaps).exec s) ((rInit top clients snaps).exec s) := ⟨rfl⟩
  clear hst hn
  by_cases hc : clients < 1 ∨ 64 < clients ∨ snaps < 0 ∨ 64 < snaps
  · have X1 := Ex.mk (x_if X0.out hc)
    have O0 := Lib.hid (OB.fresh (M0.out) #[.int .i64 0, .slice none 0 0, .slice none 0 0] 25 rfl)
    have g0 := cell_blk O0.out.at_ 0
    have g1 := cell_blk O0.out.at_ 1
    have g2 := cell_blk O0.out.at_ 2
    have gf0 := free_blk O0.out.at_ 0
    have gf1 := free_blk O0.out.at_ 1
    have gf2 := free_blk O0.out.at_ 2
    have gs := lt_of_block O0.out.at_
    have hd : (decide (clients < 1) = true) ∨ (decide (clients < 1) = false ∧ decide (clients > 64) = true) ∨ (decide (clients < 1) = false ∧ decide (clients > 64) = false ∧ decide (snaps < 0) = true) ∨ (decide (clients < 1) = false ∧ decide (clients > 64) = false ∧ decide (snaps < 0) = false ∧ decide (snaps > 64) = true) := by
      simp only [decide_eq_true_eq, decide_eq_false_iff_not]; omega
    clear hc
    rcases hd with h1 | ⟨h1, h2⟩ | ⟨h1, h2, h3⟩ | ⟨h1, h2, h3, h4⟩
    all_goals
      go_enter Tryz.func117, Tryz.ntmps117
      go_wp2
      refine bodyPost_ret (v := .tuple #[.agg #[.int .i64 0, .slice none 0 0, .slice none 0 0], .int .i64 10]) (by simp [results, Tryz.results117, go_sem, g0, g1, g2, gs]) rfl ?_
      rw [x_done X1.out]
      exact Mg.post (J := I) (by repeat (first | with_reducible exact M0.out | with_reducible refine Mg.drewN ?_ _ | with_reducible refine Mg.drew ?_ | with_reducible refine Mg.alloc ?_ _ | refine Mg.seto ?_ (by repeat (first | with_reducible refine OwnOk.set ?_ _ _ | with_reducible refine OwnOk.alloc ?_ _ | with_reducible refine OwnOk.drew ?_ | with_reducible refine OwnOk.drewN ?_ _)) _)) ⟨_, rfl, RegV.none _⟩
  · obtain ⟨c, rfl⟩ : ∃ c : Nat, clients = c := ⟨clients.toNat, by omega⟩
    obtain ⟨n, rfl⟩ : ∃ c : Nat, snaps = c := ⟨snaps.toNat, by omega⟩
    have X1 := Ex.mk (x_else X0.out hc)
    have C1 := Lib.hid (show c ≤ 1000000 by omega)
    have C2 := Lib.hid (show n ≤ 1000000 by omega)
    simp only [Int.toNat_natCast] at X1
    have t1 : decide ((c : Int) < 1) = false := by simp; omega
    have t2 : decide ((c : Int) > 64) = false := by simp; omega
    have t3 : decide ((n : Int) < 0) = false := by simp
    have t4 : decide ((n : Int) > 64) = false := by simp; omega
    clear hc
    go_enter Tryz.func117, Tryz.ntmps117
    go_wp2_with fail
    refine (reg_words _ L _ _ (M0.out.alloc _).st c C1.out (ok_of HN.out X1.out)).mono ?_
    intro e W2 hP
    rcases (M0.out.alloc _).call hP with ⟨⟨l1, e1⟩, s2, J2, v2, hr, rfl, hR, hg, hk, hM⟩ | ⟨s', J', hr, rfl, hM⟩
    rotate_left
    · exact post_panic rfl (by rw [x_paused X1.out hr]; exact hM.paused)
    have M2 := Lib.hid hM
    have K2 := Lib.hid hk
    have G2 := Lib.hid hg
    have X2 := Ex.mk (x_ret X1.out hr)
    clear hP hr hg hk hM
    obtain ⟨x1, rfl, hl1⟩ := hR
    have O0 := Lib.hid (OB.fresh (M0.out) #[.int .i64 0, .slice none 0 0, .slice none 0 0] 25 rfl)
    have O2 := Lib.hid (OB.thru O0.out (M0.out.alloc _) K2.out G2.out (fun hh => by repeat (first | with_reducible exact hh | with_reducible refine OB.alloc ?_ _ | with_reducible refine OB.drew ?_ | with_reducible refine OB.drewN ?_ _ | refine OB.far ?_ (by dsimp only; omega) _)))
    have R2 := Lib.hid hl1
    clear hl1
    by_cases he : e1 = 0
    · subst he
      have X3 := Ex.mk (x_if X2.out rfl)
      go_wp2_with fail
      refine (reg_words _ L _ _ (M2.out).st n C2.out (ok_of HN.out X3.out)).mono ?_
      intro e W4 hP
      rcases (M2.out).call hP with ⟨⟨l2, e2⟩, s4, J4, v4, hr, rfl, hR, hg, hk, hM⟩ | ⟨s', J', hr, rfl, hM⟩
      rotate_left
      · exact post_panic rfl (by rw [x_paused X3.out hr]; exact hM.paused)
      have M4 := Lib.hid hM
      have K4 := Lib.hid hk
      have G4 := Lib.hid hg
      have X4 := Ex.mk (x_ret X3.out hr)
      clear hP hr hg hk hM
      obtain ⟨x2, rfl, hl2⟩ := hR
      have O4 := Lib.hid (OB.thru O2.out (M2.out) K4.out G4.out (fun hh => by repeat (first | with_reducible exact hh | with_reducible refine OB.alloc ?_ _ | with_reducible refine OB.drew ?_ | with_reducible refine OB.drewN ?_ _ | refine OB.far ?_ (by dsimp only; omega) _)))
      have R4 := Lib.hid hl2
      clear hl2
      by_cases he : e2 = 0
      · subst he
        have X5 := Ex.mk (x_if X4.out rfl)
        have P1 := Lib.hid (R2.out.mono G4.out.le)
        obtain ⟨A1, c1, rfl, _⟩ := P1.out.form
        obtain ⟨A2, c2, rfl, _⟩ := R4.out.form
        have g0 := cell_blk O4.out.at_ 0
        have g1 := cell_blk O4.out.at_ 1
        have g2 := cell_blk O4.out.at_ 2
        have gf0 := free_blk O4.out.at_ 0
        have gf1 := free_blk O4.out.at_ 1
        have gf2 := free_blk O4.out.at_ 2
        have gs := lt_of_block O4.out.at_
        go_wp2
        refine bodyPost_ret (v := .tuple #[.agg #[.int .i64 top, .slice A1 l1.length c1, .slice A2 l2.length c2], .int .i64 0]) (by simp [results, Tryz.results117, go_sem, g0, g1, g2, gs]) rfl ?_
        rw [x_done X5.out]
        exact Mg.post (J := J4) (by repeat (first | with_reducible exact M4.out | with_reducible refine Mg.drewN ?_ _ | with_reducible refine Mg.drew ?_ | with_reducible refine Mg.alloc ?_ _ | refine Mg.seto ?_ (by repeat (first | with_reducible exact O4.out.ok | with_reducible refine OwnOk.set ?_ _ _ | with_reducible refine OwnOk.alloc ?_ _ | with_reducible refine OwnOk.drew ?_ | with_reducible refine OwnOk.drewN ?_ _)) _)) ⟨_, rfl, _, _, rfl, P1.out, R4.out⟩
      · have t5 := ne_true he
        have X5 := Ex.mk (x_else X4.out he)
        clear he
        go_wp2_with fail
        refine (reg_undo _ L _ _ (M4.out).st l1 _ (R2.out.mono G4.out.le) (ok_of HN.out X5.out)).mono ?_
        intro e W6 hP
        rcases (M4.out).call hP with ⟨⟨⟩, s6, J6, v6, hr, rfl, rfl, hg, hk, hM⟩ | ⟨s', J', hr, rfl, hM⟩
        rotate_left
        · exact post_panic rfl (by rw [x_paused X5.out hr]; exact hM.paused)
        have M6 := Lib.hid hM
        have K6 := Lib.hid hk
        have G6 := Lib.hid hg
        have X6 := Ex.mk (x_ret X5.out hr)
        clear hP hr hg hk hM
        have O6 := Lib.hid (OB.thru O4.out (M4.out) K6.out G6.out (fun hh => by repeat (first | with_reducible exact hh | with_reducible refine OB.alloc ?_ _ | with_reducible refine OB.drew ?_ | with_reducible refine OB.drewN ?_ _ | refine OB.far ?_ (by dsimp only; omega) _)))
        have g0 := cell_blk O6.out.at_ 0
        have g1 := cell_blk O6.out.at_ 1
        have g2 := cell_blk O6.out.at_ 2
        have gf0 := free_blk O6.out.at_ 0
        have gf1 := free_blk O6.out.at_ 1
        have gf2 := free_blk O6.out.at_ 2
        have gs := lt_of_block O6.out.at_
        go_wp2
        refine bodyPost_ret (v := .tuple #[.agg #[.int .i64 0, .slice none 0 0, .slice none 0 0], .int .i64 e2]) (by simp [results, Tryz.results117, go_sem, g0, g1, g2, gs]) rfl ?_
        rw [x_done X6.out]
        exact Mg.post (J := J6) (by repeat (first | with_reducible exact M6.out | with_reducible refine Mg.drewN ?_ _ | with_reducible refine Mg.drew ?_ | with_reducible refine Mg.alloc ?_ _ | refine Mg.seto ?_ (by repeat (first | with_reducible exact O6.out.ok | with_reducible refine OwnOk.set ?_ _ _ | with_reducible refine OwnOk.alloc ?_ _ | with_reducible refine OwnOk.drew ?_ | with_reducible refine OwnOk.drewN ?_ _)) _)) ⟨_, rfl, RegV.none _⟩
    · have t5 := ne_true he
      have X3 := Ex.mk (x_else X2.out he)
      clear he
      have g0 := cell_blk O2.out.at_ 0
      have g1 := cell_blk O2.out.at_ 1
      have g2 := cell_blk O2.out.at_ 2
      have gf0 := free_blk O2.out.at_ 0
      have gf1 := free_blk O2.out.at_ 1
      have gf2 := free_blk O2.out.at_ 2
      have gs := lt_of_block O2.out.at_
      go_wp2
      refine bodyPost_ret (v := .tuple #[.agg #[.int .i64 0, .slice none 0 0, .slice none 0 0], .int .i64 e1]) (by simp [results, Tryz.results117, go_sem, g0, g1, g2, gs]) rfl ?_
      rw [x_done X3.out]
      exact Mg.post (J := J2) (by repeat (first | with_reducible exact M2.out | with_reducible refine Mg.drewN ?_ _ | with_reducible refine Mg.drew ?_ | with_reducible refine Mg.alloc ?_ _ | refine Mg.seto ?_ (by repeat (first | with_reducible exact O2.out.ok | with_reducible refine OwnOk.set ?_ _ _ | with_reducible refine OwnOk.alloc ?_ _ | with_reducible refine OwnOk.drew ?_ | with_reducible refine OwnOk.drewN ?_ _)) _)) ⟨_, rfl, RegV.none _⟩
end Go.Proofs.YtadaiihoclknmaaGreat
/- The register: a client's cell; who enters, and leaves. -/
namespace Go.Proofs.YtadaiihoclknmaaGreat
open Go.RowKit
set_option maxHeartbeats 4000000
set_option maxRecDepth 100000
set_option linter.unusedVariables false
set_option linter.unusedSimpArgs false

def rSlot (r : Reg) (c : Int) : Int × Bool := if c < 0 ∨ (r.slots.length : Int) ≤ c then (0, false) else (r.slots.getD c.toNat 0, true)
theorem reg_slot (w : World) (I : IHeap) (hI : Held I w) (r : Reg) (rv : Value) (hr : RegV I rv r) (c : Int) :
    Calls Tryz.prog 126 #[rv, .int .i64 c] w fun e w' => e = .returned (.tuple #[.int .i64 (rSlot r c).1, .bool (rSlot r c).2]) ∧ New w w' := by
  obtain ⟨a, ca, b, cb, rfl, h1, h2, l1, l2⟩ := hr.form
  by_cases hc : c < 0 ∨ (r.slots.length : Int) ≤ c
  · have HE := Lib.hid (show rSlot r c = (0, false) from if_pos hc)
    have hd : (decide (c < 0) = true) ∨ (decide (c < 0) = false ∧ decide (c ≥ (r.slots.length : Int)) = true) := by
      simp only [decide_eq_true_eq, decide_eq_false_iff_not]; omega
    clear hc h1 h2 hI hr
    rcases hd with t1 | ⟨t1, t2⟩
    all_goals
      go_enter Tryz.func126, Tryz.ntmps126
      go_wp2
      go_ret2
      rw [HE.out]
      exact ⟨rfl, (Kept.refl _ _).alloc _⟩
  · have HE := Lib.hid (show rSlot r c = (r.slots.getD c.toNat 0, true) from if_neg hc)
    obtain ⟨n, rfl⟩ : ∃ n : Nat, c = n := ⟨c.toNat, by omega⟩
    have hlt : n < r.slots.length := by omega
    obtain ⟨g, off, rfl, _, hcell⟩ := Sl.cell (hI.alloc (.cells #[.int .i64 r.top, .slice a r.slots.length ca, .slice b r.snaps.length cb] 25)) h1 (fun _ => rfl) (by omega)
    have c0 := hcell n 0 _ _ (List.getElem?_eq_getElem hlt) rfl
    rw [Nat.mul_one, Nat.add_zero] at c0
    have E2 := Lib.hid (show r.slots.getD (n : Int).toNat 0 = r.slots[n] by simp [List.getD_eq_getElem?_getD, hlt])
    generalize r.slots[n] = x at c0 E2
    have t1 : decide ((n : Int) < 0) = false := by simp
    have t2 : decide ((n : Int) ≥ (r.slots.length : Int)) = false := by simp; omega
    clear hcell hc h1 h2 hI hr
    go_enter Tryz.func126, Tryz.ntmps126
    go_wp2
    go_ret2
    rw [HE.out, E2.out]
    exact ⟨rfl, (Kept.refl _ _).alloc _⟩
theorem slot_form (r : Reg) (c : Int) : ∃ h ok, rSlot r c = (h, ok) := ⟨_, _, rfl⟩

def rEnter (r : Reg) (c : Int) : Prog (Int × Int) :=
  if (rSlot r c).2 = true then do
    let e ← pStore (rSlot r c).1 1
    if e = 0 then do
      let x ← dVersion r.top
      if x.2 = 0 then do
        let y ← pStore (rSlot r c).1 (wrap64 (x.1 + 1))
        return (x.1, y)
      else return (0, x.2)
    else return (0, e)
  else return (0, 10)
theorem rEnter_eq {r : Reg} {c h : Int} {ok : Bool} (hs : rSlot r c = (h, ok)) : rEnter r c = (if ok = true then do
    let e ← pStore h 1
    if e = 0 then do
      let x ← dVersion r.top
      if x.2 = 0 then do
        let y ← pStore h (wrap64 (x.1 + 1))
        return (x.1, y)
      else return (0, x.2)
    else return (0, e)
  else return (0, 10)) := by unfold rEnter; rw [hs]
theorem reg_Enter (w : World) (L : Loc) (I : IHeap) (s : PS) (hst : St w L I s) (r : Reg) (rv : Value) (hr : RegV I rv r) (c : Int) (hn : ((rEnter r c).exec s).1.ok) :
    Calls Tryz.prog 66 #[.pointer (some ⟨L.p, 0, none⟩), rv, .int .i64 c] w (Post L w I ((rEnter r c).exec s) (Is pairV)) := by
  have M0 := Lib.hid (Mg.start hst)
  have HN := Lib.hid hn
  have X0 : Ex ((rEnter r c).exec s) ((rEnter r c).exec s) := ⟨rfl⟩
  have HR := Lib.hid hr
  obtain ⟨a, ca, b, cb, rfl, h1, h2, l1, l2⟩ := hr.form
  clear hst hn hr h1 h2
  go_enter Tryz.func66, Tryz.ntmps66
  go_wp2_with fail
  have O0 := Lib.hid (OB.fresh (M0.out) #[.int .i64 r.top, .slice a r.slots.length ca, .slice b r.snaps.length cb] 25 rfl)
  refine (reg_slot _ I (M0.out.alloc _).st.held _ _ HR.out c).mono ?_
  rintro e W1 ⟨rfl, hk⟩
  have M1 := Lib.hid ((M0.out.alloc _).new hk)
  have N1 := Lib.hid hk
  clear hk
  have O1 := Lib.hid (O0.out.new N1.out)
  have g0 := cell_blk O1.out.at_ 0
  have gf0 := free_blk O1.out.at_ 0
  have gs := lt_of_block O1.out.at_
  obtain ⟨h, ok, hs⟩ := slot_form r c
  have HS := Lib.hid hs
  have X0 := Ex.mk (congrArg (fun m => m.exec s) (rEnter_eq hs))
  rw [hs]
  clear hs
  cases ok with
  | false =>
    have X1 := Ex.mk (x_else X0.out (by simp))
    go_wp2
    go_ret2
    rw [x_done X1.out]
    exact Mg.post (J := I) (by repeat (first | with_reducible exact M1.out | with_reducible refine Mg.drewN ?_ _ | with_reducible refine Mg.drew ?_ | with_reducible refine Mg.alloc ?_ _ | refine Mg.seto ?_ (by repeat (first | with_reducible refine OwnOk.set ?_ _ _ | with_reducible refine OwnOk.alloc ?_ _ | with_reducible refine OwnOk.drew ?_ | with_reducible refine OwnOk.drewN ?_ _)) _)) rfl
  | true =>
    have X1 := Ex.mk (x_if X0.out rfl)
    go_wp2_with fail
    refine (port_Store _ L _ _ (M1.out).st h 1 (ok_of HN.out X1.out)).mono ?_
    intro e W2 hP
    rcases (M1.out).call hP with ⟨e2, s2, J2, v2, hr, rfl, rfl, hg, hk, hM⟩ | ⟨s', J', hr, rfl, hM⟩
    rotate_left
    · exact post_panic rfl (by rw [x_paused X1.out hr]; exact hM.paused)
    have M2 := Lib.hid hM
    have K2 := Lib.hid hk
    have G2 := Lib.hid hg
    have X2 := Ex.mk (x_ret X1.out hr)
    clear hP hr hg hk hM
    have O2 := Lib.hid (OB.thru O1.out (M1.out) K2.out G2.out (fun hh => by repeat (first | with_reducible exact hh | with_reducible refine OB.alloc ?_ _ | with_reducible refine OB.drew ?_ | with_reducible refine OB.drewN ?_ _ | refine OB.far ?_ (by dsimp only; omega) _)))
    have q0 := cell_blk O2.out.at_ 0
    have qf0 := free_blk O2.out.at_ 0
    have qs := lt_of_block O2.out.at_
    by_cases he : e2 = 0
    · subst he
      have X3 := Ex.mk (x_if X2.out rfl)
      go_wp2_with fail
      refine (desc_Version _ L _ _ (M2.out).st r.top (ok_of HN.out X3.out)).mono ?_
      intro e W4 hP
      rcases (M2.out).call hP with ⟨⟨v, e4⟩, s4, J4, v4, hr, rfl, rfl, hg, hk, hM⟩ | ⟨s', J', hr, rfl, hM⟩
      rotate_left
      · exact post_panic rfl (by rw [x_paused X3.out hr]; exact hM.paused)
      have M4 := Lib.hid hM
      have K4 := Lib.hid hk
      have G4 := Lib.hid hg
      have X4 := Ex.mk (x_ret X3.out hr)
      clear hP hr hg hk hM
      by_cases he : e4 = 0
      · subst he
        have X5 := Ex.mk (x_if X4.out rfl)
        go_wp2_with fail
        refine (port_Store _ L _ _ (M4.out).st h (wrap64 (v + 1)) (ok_of HN.out X5.out)).mono ?_
        intro e W6 hP
        rcases (M4.out).call hP with ⟨e6, s6, J6, v6, hr, rfl, rfl, hg, hk, hM⟩ | ⟨s', J', hr, rfl, hM⟩
        rotate_left
        · exact post_panic rfl (by rw [x_paused X5.out hr]; exact hM.paused)
        have M6 := Lib.hid hM
        have K6 := Lib.hid hk
        have G6 := Lib.hid hg
        have X6 := Ex.mk (x_ret X5.out hr)
        clear hP hr hg hk hM
        go_wp2
        go_ret2
        rw [x_done X6.out]
        exact Mg.post (J := J6) (by repeat (first | with_reducible exact M6.out | with_reducible refine Mg.drewN ?_ _ | with_reducible refine Mg.drew ?_ | with_reducible refine Mg.alloc ?_ _ | refine Mg.seto ?_ (by repeat (first | with_reducible refine OwnOk.set ?_ _ _ | with_reducible refine OwnOk.alloc ?_ _ | with_reducible refine OwnOk.drew ?_ | with_reducible refine OwnOk.drewN ?_ _)) _)) rfl
      · have t1 := ne_true he
        have X5 := Ex.mk (x_else X4.out he)
        clear he
        go_wp2
        go_ret2
        rw [x_done X5.out]
        exact Mg.post (J := J4) (by repeat (first | with_reducible exact M4.out | with_reducible refine Mg.drewN ?_ _ | with_reducible refine Mg.drew ?_ | with_reducible refine Mg.alloc ?_ _ | refine Mg.seto ?_ (by repeat (first | with_reducible refine OwnOk.set ?_ _ _ | with_reducible refine OwnOk.alloc ?_ _ | with_reducible refine OwnOk.drew ?_ | with_reducible refine OwnOk.drewN ?_ _)) _)) rfl
    · have t1 := ne_true he
      have X3 := Ex.mk (x_else X2.out he)
      clear he
      go_wp2
      go_ret2
      rw [x_done X3.out]
      exact Mg.post (J := J2) (by repeat (first | with_reducible exact M2.out | with_reducible refine Mg.drewN ?_ _ | with_reducible refine Mg.drew ?_ | with_reducible refine Mg.alloc ?_ _ | refine Mg.seto ?_ (by repeat (first | with_reducible refine OwnOk.set ?_ _ _ | with_reducible refine OwnOk.alloc ?_ _ | with_reducible refine OwnOk.drew ?_ | with_reducible refine OwnOk.drewN ?_ _)) _)) rfl
def rLeave (r : Reg) (c : Int) : Prog Int := if (rSlot r c).2 = true then pStore (rSlot r c).1 0 else return 10
theorem rLeave_eq {r : Reg} {c h : Int} {ok : Bool} (hs : rSlot r c = (h, ok)) : rLeave r c = (if ok = true then pStore h 0 else return 10) := by unfold rLeave; rw [hs]
theorem reg_Leave (w : World) (L : Loc) (I : IHeap) (s : PS) (hst : St w L I s) (r : Reg) (rv : Value) (hr : RegV I rv r) (c : Int) (hn : ((rLeave r c).exec s).1.ok) :
    Calls Tryz.prog 67 #[.pointer (some ⟨L.p, 0, none⟩), rv, .int .i64 c] w (Post L w I ((rLeave r c).exec s) (Is fun a => .int .i64 a)) := by
  have M0 := Lib.hid (Mg.start hst)
  have HN := Lib.hid hn
  have HR := Lib.hid hr
  obtain ⟨a, ca, b, cb, rfl, h1, h2, l1, l2⟩ := hr.form
  clear hst hn hr h1 h2
  go_enter Tryz.func67, Tryz.ntmps67
  go_wp2_with fail
  refine (reg_slot _ I (M0.out.alloc _).st.held _ _ HR.out c).mono ?_
  rintro e W1 ⟨rfl, hk⟩
  have M1 := Lib.hid ((M0.out.alloc _).new hk)
  have N1 := Lib.hid hk
  clear hk
  obtain ⟨h, ok, hs⟩ := slot_form r c
  have HS := Lib.hid hs
  have X0 := Ex.mk (congrArg (fun m => m.exec s) (rLeave_eq hs))
  rw [hs]
  clear hs
  cases ok with
  | false =>
    have X1 := Ex.mk (x_else X0.out (by simp))
    go_wp2
    go_ret
    rw [x_done X1.out]
    exact Mg.post (J := I) (by repeat (first | with_reducible exact M1.out | with_reducible refine Mg.drewN ?_ _ | with_reducible refine Mg.drew ?_ | with_reducible refine Mg.alloc ?_ _ | refine Mg.seto ?_ (by repeat (first | with_reducible refine OwnOk.set ?_ _ _ | with_reducible refine OwnOk.alloc ?_ _ | with_reducible refine OwnOk.drew ?_ | with_reducible refine OwnOk.drewN ?_ _)) _)) rfl
  | true =>
    have X1 := Ex.mk (x_if X0.out rfl)
    go_wp2_with fail
    refine (port_Store _ L _ _ (M1.out).st h 0 (ok_last HN.out X1.out)).mono ?_
    intro e W2 hP
    rcases (M1.out).call hP with ⟨e2, s2, J2, v2, hr, rfl, rfl, hg, hk, hM⟩ | ⟨s', J', hr, rfl, hM⟩
    rotate_left
    · exact post_panic rfl (by rw [X1.out.trans hr]; exact hM.paused)
    have M2 := Lib.hid hM
    have K2 := Lib.hid hk
    have G2 := Lib.hid hg
    have X2 := Ex.mk (X1.out.trans hr)
    clear hP hr hg hk hM
    go_wp2
    go_ret
    rw [X2.out]
    exact Mg.post (J := J2) (by repeat (first | with_reducible exact M2.out | with_reducible refine Mg.drewN ?_ _ | with_reducible refine Mg.drew ?_ | with_reducible refine Mg.alloc ?_ _ | refine Mg.seto ?_ (by repeat (first | with_reducible refine OwnOk.set ?_ _ _ | with_reducible refine OwnOk.alloc ?_ _ | with_reducible refine OwnOk.drew ?_ | with_reducible refine OwnOk.drewN ?_ _)) _)) rfl
end Go.Proofs.YtadaiihoclknmaaGreat
