/- Part 26 of the proof: Parts2. -/
import Derived.Test.YtadaiihoclknmaaGreatC25
/- Write: Parts. -/
namespace Go.Proofs.YtadaiihoclknmaaGreat
open Go.RowKit
set_option maxHeartbeats 4000000
set_option maxRecDepth 100000
set_option linter.unusedVariables false
set_option linter.unusedSimpArgs false
def wParts (F : Nat) (first : Int) : Nat → List Entry → List Part → Prog (List Part × Int)
  | 0, _, _ => .stuck
  | _ + 1, [], out => return (out, 0)
  | f + 1, x :: l, out => do
    let s ← twSearch F first x.key
    if s.2.2 = 0 then do
      let a ← nNewest s.2.1
      if a.2.2 = 0 then
        if (!a.2.1.rev.dead && kHas a.2.1.rev.span x.key) = true then
          wParts F first f ((x :: l).drop (eWithin (x :: l) a.2.1.rev.span).length) (out ++ [⟨s.2.1.head, a.1, a.2.1.rev, eWithin (x :: l) a.2.1.rev.span⟩])
        else wParts F first f (x :: l) out
      else return ([], a.2.2)
    else return ([], s.2.2)
theorem wParts_nil (F : Nat) (first : Int) (f : Nat) (out : List Part) : wParts F first (f + 1) [] out = return (out, 0) := rfl
theorem wParts_at (F : Nat) (first : Int) (f : Nat) (l : List Entry) (x : Entry) (out : List Part) (h : l.head? = some x) : wParts F first (f + 1) l out = (do
    let s ← twSearch F first x.key
    if s.2.2 = 0 then do
      let a ← nNewest s.2.1
      if a.2.2 = 0 then
        if (!a.2.1.rev.dead && kHas a.2.1.rev.span x.key) = true then
          wParts F first f (l.drop (eWithin l a.2.1.rev.span).length) (out ++ [⟨s.2.1.head, a.1, a.2.1.rev, eWithin l a.2.1.rev.span⟩])
        else wParts F first f l out
      else return ([], a.2.2)
    else return ([], s.2.2)) := by
  cases l with
  | nil => cases h
  | cons y t => injection h with h; subst h; rfl
def PartsE (J : IHeap) (v : Value) (a : List Part × Int) : Prop := ∃ x, v = .tuple #[x, .int .i64 a.2] ∧ Parts J x a.1
theorem eWithin_le (l : List Entry) (sp : Span) : (eWithin l sp).length ≤ l.length := by
  unfold eWithin; exact (List.takeWhile_sublist _).length_le
theorem eWithin_pos (l : List Entry) (sp : Span) (x : Entry) (h : l.head? = some x) (hk : kHas sp x.key = true) : 0 < (eWithin l sp).length := by
  cases l with
  | nil => cases h
  | cons y t =>
    injection h with h; subst h
    unfold eWithin
    rw [List.takeWhile_cons_of_pos (by simpa using hk)]
    simp
theorem write_Parts (w : World) (L : Loc) (I : IHeap) (s : PS) (hst : St w L I s) (F F' : Nat) (first : Int) (l0 : List Entry) (lv : Value) (hl : Entries I lv l0) (hb : l0.length ≤ 1048576) (hn : ((wParts F first F' l0 []).exec s).1.ok) :
    Calls Tryz.prog 81 #[.pointer (some ⟨L.p, 0, none⟩), .int .i64 first, lv] w (Post L w I ((wParts F first F' l0 []).exec s) PartsE) := by
  have M0 := Lib.hid (Mg.start hst)
  have HN := Lib.hid hn
  obtain ⟨R0, hR0⟩ : ∃ R0, R0 = (wParts F first F' l0 []).exec s := ⟨_, rfl⟩
  have X0 := Ex.mk hR0
  rw [← hR0] at HN ⊢
  obtain ⟨la, lc, rfl, _, _, _⟩ := hl.form
  have HL := Lib.hid hl
  clear hst hn hR0 hl
  go_enter Tryz.func81, Tryz.ntmps81
  go_wp2_with fail
  have O0 := Lib.hid (OL.nil w I w 94 13 encPart rfl)
  go_loopg [2, 8] F' (fun m lv ov W => ∃ (J : IHeap) (s' : PS) (l : List Entry) (cs : List PartC) (la : Option Addr) (lc : Nat), lv = .slice la l.length lc ∧ cs.length + l.length ≤ 1048576 ∧ Hid (Mg w L I J s' W) ∧ Hid (Entries J (.slice la l.length lc) l) ∧ Hid (OL w J W 94 13 encPart ov cs) ∧ Hid (OkAll J cs) ∧ Ex R0 ((wParts F first m l (cs.map PartC.p)).exec s'))
  case atStart => exact ⟨I, s, l0, [], la, lc, rfl, by simpa using hb, M0, HL, O0, Lib.hid (fun _ h => by cases h), X0⟩
  case round =>
  clear M0 HL O0 X0
  obtain ⟨J0, s0, l, cs, la, lc, rfl, hlen, M0, HL, O0, HC, X0⟩ := hrel
  cases gk with
  | zero => exact (show R0.1.ok → False by rw [X0.out]; exact id) HN.out |>.elim
  | succ m =>
  rcases hh : l.head? with _ | x
  · obtain rfl : l = [] := by cases l with | nil => rfl | cons y t => cases hh
    rw [wParts_nil] at X0
    obtain ⟨J2, hM, hle, hR, hno⟩ := O0.out.row M0.out
    have M2 := Lib.hid hM
    have HR := Lib.hid (show Parts J2 _ (cs.map PartC.p) from ⟨cs, rfl, hR, HC.out.mono hle⟩)
    clear hM hle hR hno
    go_wp2
    go_ret2
    rw [x_done X0.out]
    exact Mg.post (J := J2) (by repeat (first | with_reducible exact M2.out | with_reducible refine Mg.drewN ?_ _ | with_reducible refine Mg.drew ?_ | with_reducible refine Mg.alloc ?_ _ | refine Mg.seto ?_ (by repeat (first | with_reducible refine OwnOk.set ?_ _ _ | with_reducible refine OwnOk.alloc ?_ _ | with_reducible refine OwnOk.drew ?_ | with_reducible refine OwnOk.drewN ?_ _)) _)) ⟨_, rfl, HR.out⟩
  · rw [wParts_at _ _ _ _ _ _ hh] at X0
    have hpos : 0 < l.length := by cases l with | nil => cases hh | cons y t => simp
    have hd0 : decide ((l.length : Int) > 0) = true := decide_eq_true (by omega)
    obtain ⟨kb, koff, rfl, _, c0, _, _, kbs⟩ := entries_at2 M0.out.st.held HL.out hpos
    have hx0 : l[0].key = x.key := by cases l with | nil => cases hh | cons y t => injection hh with hh; rw [← hh]; rfl
    rw [hx0] at c0
    simp only [Nat.zero_mul, Nat.add_zero] at c0
    have HE := Lib.hid (fun sp => eWithin_pos l sp x hh)
    have HLE := Lib.hid (fun sp => eWithin_le l sp)
    clear hh
    generalize x.key = k at *
    go_wp2_with fail
    refine (tower_Search _ L _ _ (M0.out).st F first k (ok_of HN.out X0.out)).mono ?_
    intro e W1 hP
    rcases (M0.out).call hP with ⟨⟨h1, n, e1⟩, s1, J1, v1, hr, rfl, ⟨x1, rfl, hx⟩, hg, hk, hM⟩ | ⟨s', J', hr, rfl, hM⟩
    rotate_left
    · exact post_panic rfl (by rw [x_paused X0.out hr]; exact hM.paused)
    have M1 := Lib.hid hM
    have K1 := Lib.hid hk
    have G1 := Lib.hid hg
    have X1 := Ex.mk (x_ret X0.out hr)
    clear hP hr hg hk hM
    have O1 := Lib.hid (OR.call M0.out K1.out G1.out O0.out)
    have HL1 := Lib.hid (HL.out.mono G1.out.le)
    have HC1 := Lib.hid (HC.out.mono G1.out.le)
    obtain ⟨A, cap, rfl, _, _⟩ := hx.form
    have HX := Lib.hid hx
    clear hx M0 K1 G1 O0 HL HC c0 kbs
    dsimp only at HX X1 ⊢
    by_cases he : e1 = 0
    · subst he
      have X2 := Ex.mk (x_if X1.out rfl)
      clear X1
      go_wp2_with fail
      have P2 := Lib.hid (OB.fresh M1.out #[.string n.low, .int .i64 n.head, .slice A n.next.length cap] 117 rfl)
      have O2 := Lib.hid (OR.alloc O1.out (.cells #[.string n.low, .int .i64 n.head, .slice A n.next.length cap] 117))
      have M2 := Lib.hid (M1.out.alloc (.cells #[.string n.low, .int .i64 n.head, .slice A n.next.length cap] 117))
      clear M1 O1
      generalize W1.heap.size = bn at *
      generalize W1.alloc (.cells #[.string n.low, .int .i64 n.head, .slice A n.next.length cap] 117) = W2 at *
      refine (node_Newest _ L _ _ (M2.out).st n _ HX.out (ok_of HN.out X2.out)).mono ?_
      intro e W3 hP
      rcases (M2.out).call hP with ⟨⟨hc3, a, e3⟩, s3, J3, v3, hr, rfl, ⟨x3, rfl, hx⟩, hg, hk, hM⟩ | ⟨s', J', hr, rfl, hM⟩
      rotate_left
      · exact post_panic rfl (by rw [x_paused X2.out hr]; exact hM.paused)
      have M3 := Lib.hid hM
      have K3 := Lib.hid hk
      have G3 := Lib.hid hg
      have X3 := Ex.mk (x_ret X2.out hr)
      clear hP hr hg hk hM
      have O3 := Lib.hid (OR.call M2.out K3.out G3.out O2.out)
      have P3 := Lib.hid (OB.call M2.out K3.out G3.out P2.out)
      have HL3 := Lib.hid (HL1.out.mono G3.out.le)
      have HC3 := Lib.hid (HC1.out.mono G3.out.le)
      obtain ⟨ka, kc, va, vc, ga, gc, ta, tc, rfl, hrows⟩ := hx.form
      have HRW := Lib.hid hrows
      have HA := Lib.hid (AgeV.rev hx)
      clear K3 G3 O2 P2 HX M2 X2 HL1 HC1 hx hrows
      dsimp only at X3 HA ⊢
      by_cases he : e3 = 0
      · subst he
        have X4 := Ex.mk (x_if X3.out rfl)
        clear X3
        go_wp2_with fail
        have Q4 := Lib.hid (OB.fresh M3.out #[.int .i64 a.rev.version, .int .i64 a.rev.rate, .string a.rev.span.lo, .string a.rev.span.hi, .bool a.rev.span.all, .bool a.rev.dead, .slice ka a.rev.keys.length kc, .slice va a.rev.vals.length vc, .slice ga a.rev.gone.length gc, .slice ta a.rev.table.length tc, .int .i64 a.prev] 211 rfl)
        have P4 := Lib.hid (P3.out.alloc (.cells #[.int .i64 a.rev.version, .int .i64 a.rev.rate, .string a.rev.span.lo, .string a.rev.span.hi, .bool a.rev.span.all, .bool a.rev.dead, .slice ka a.rev.keys.length kc, .slice va a.rev.vals.length vc, .slice ga a.rev.gone.length gc, .slice ta a.rev.table.length tc, .int .i64 a.prev] 211))
        have O4 := Lib.hid (OR.alloc O3.out (.cells #[.int .i64 a.rev.version, .int .i64 a.rev.rate, .string a.rev.span.lo, .string a.rev.span.hi, .bool a.rev.span.all, .bool a.rev.dead, .slice ka a.rev.keys.length kc, .slice va a.rev.vals.length vc, .slice ga a.rev.gone.length gc, .slice ta a.rev.table.length tc, .int .i64 a.prev] 211))
        have M4 := Lib.hid (M3.out.alloc (.cells #[.int .i64 a.rev.version, .int .i64 a.rev.rate, .string a.rev.span.lo, .string a.rev.span.hi, .bool a.rev.span.all, .bool a.rev.dead, .slice ka a.rev.keys.length kc, .slice va a.rev.vals.length vc, .slice ga a.rev.gone.length gc, .slice ta a.rev.table.length tc, .int .i64 a.prev] 211))
        obtain ⟨kb', koff', hkb, _, c0, _, _, kbs⟩ := entries_at2 M4.out.st.held HL3.out hpos
        injection hkb with hkb
        injection hkb with hb1 hb2
        subst hb1 hb2
        rw [hx0] at c0
        simp only [Nat.zero_mul, Nat.add_zero] at c0
        clear M3 O3 P3
        generalize W3.heap.size = ba at *
        generalize W3.alloc (.cells #[.int .i64 a.rev.version, .int .i64 a.rev.rate, .string a.rev.span.lo, .string a.rev.span.hi, .bool a.rev.span.all, .bool a.rev.dead, .slice ka a.rev.keys.length kc, .slice va a.rev.vals.length vc, .slice ga a.rev.gone.length gc, .slice ta a.rev.table.length tc, .int .i64 a.prev] 211) = W4 at *
        have g0 := cell_blk Q4.out.at_ 0
        have g1 := cell_blk Q4.out.at_ 1
        have g2 := cell_blk Q4.out.at_ 2
        have g3 := cell_blk Q4.out.at_ 3
        have g4 := cell_blk Q4.out.at_ 4
        have g5 := cell_blk Q4.out.at_ 5
        have g6 := cell_blk Q4.out.at_ 6
        have g7 := cell_blk Q4.out.at_ 7
        have g8 := cell_blk Q4.out.at_ 8
        have g9 := cell_blk Q4.out.at_ 9
        have g10 := cell_blk Q4.out.at_ 10
        have gf0 := free_blk Q4.out.at_ 0
        have gf1 := free_blk Q4.out.at_ 1
        have gf2 := free_blk Q4.out.at_ 2
        have gf3 := free_blk Q4.out.at_ 3
        have gf4 := free_blk Q4.out.at_ 4
        have gf5 := free_blk Q4.out.at_ 5
        have gf6 := free_blk Q4.out.at_ 6
        have gf7 := free_blk Q4.out.at_ 7
        have gf8 := free_blk Q4.out.at_ 8
        have gf9 := free_blk Q4.out.at_ 9
        have gf10 := free_blk Q4.out.at_ 10
        have gs := lt_of_block Q4.out.at_
        cases hd : a.rev.dead with
        | true =>
          have X5 := Ex.mk (x_else X4.out (by rw [hd]; simp))
          clear X4
          rw [hd] at g5
          refine wp_region_held_drew (S := fun W5 => W5.cell? ⟨ba, 5, none⟩ = some (.bool true)) (by kernel_rfl) g5 (fun hS0 => ?_)
          refine wpAnyH_takeD 0 (some 42) (v := ?_) rfl rfl (by kernel_rfl) (by kernel_rfl) (by kernel_rfl) (fun _ _ _ h => h) (Or.inl ⟨by rfl, ?_⟩) (by assumption) ?_
          rotate_left
          · (intro _w hSw; (try dsimp only at hSw); go_simp; try with_reducible rfl)
          try simp only [Act.put, List.setIfInBounds_toArray, List.set_cons_zero, List.set_cons_succ]
          refine wpAnyH_takeD 1 (some 43) (v := ?_) rfl rfl (by kernel_rfl) (by kernel_rfl) (by kernel_rfl) (fun _ _ _ h => h) (Or.inl ⟨by rfl, ?_⟩) (by assumption) ?_
          rotate_left
          · (intro _w hSw; (try dsimp only at hSw); go_simp; try with_reducible rfl)
          try simp only [Act.put, List.setIfInBounds_toArray, List.set_cons_zero, List.set_cons_succ]
          refine wpAnyH_takeD 2 (some 44) (v := ?_) rfl rfl (by kernel_rfl) (by kernel_rfl) (by kernel_rfl) (fun _ _ _ h => h) (Or.inl ⟨by rfl, ?_⟩) (by assumption) ?_
          rotate_left
          · (intro _w hSw; (try dsimp only at hSw); go_simp; try with_reducible rfl)
          try simp only [Act.put, List.setIfInBounds_toArray, List.set_cons_zero, List.set_cons_succ]
          refine wpAnyH_takeD 3 (some 45) (v := ?_) rfl rfl (by kernel_rfl) (by kernel_rfl) (by kernel_rfl) (fun _ _ _ h => h) (Or.inl ⟨by rfl, ?_⟩) (by assumption) ?_
          rotate_left
          · (intro _w hSw; (try dsimp only at hSw); go_simp; try with_reducible rfl)
          try simp only [Act.put, List.setIfInBounds_toArray, List.set_cons_zero, List.set_cons_succ]
          refine wpAnyH_takeD 4 (some 46) (v := undef) rfl rfl (by kernel_rfl) (by kernel_rfl) (by kernel_rfl) (fun _ _ _ h => h) (Or.inr ⟨by rfl, rfl⟩) (by assumption) ?_
          try simp only [Act.put, List.setIfInBounds_toArray, List.set_cons_zero, List.set_cons_succ]
          refine wpAnyH_takeD 5 (some 47) (v := undef) rfl rfl (by kernel_rfl) (by kernel_rfl) (by kernel_rfl) (fun _ _ _ h => h) (Or.inr ⟨by rfl, rfl⟩) (by assumption) ?_
          try simp only [Act.put, List.setIfInBounds_toArray, List.set_cons_zero, List.set_cons_succ]
          refine wpAnyH_takeD 6 (some 48) (v := undef) rfl rfl (by kernel_rfl) (by kernel_rfl) (by kernel_rfl) (fun _ _ _ h => h) (Or.inr ⟨by rfl, rfl⟩) (by assumption) ?_
          try simp only [Act.put, List.setIfInBounds_toArray, List.set_cons_zero, List.set_cons_succ]
          refine wpAnyH_takeD 7 (some 49) (v := undef) rfl rfl (by kernel_rfl) (by kernel_rfl) (by kernel_rfl) (fun _ _ _ h => h) (Or.inr ⟨by rfl, rfl⟩) (by assumption) ?_
          try simp only [Act.put, List.setIfInBounds_toArray, List.set_cons_zero, List.set_cons_succ]
          refine wpAnyH_takeD 8 (some 50) (v := undef) rfl rfl (by kernel_rfl) (by kernel_rfl) (by kernel_rfl) (fun _ _ _ h => h) (Or.inr ⟨by rfl, rfl⟩) (by assumption) ?_
          try simp only [Act.put, List.setIfInBounds_toArray, List.set_cons_zero, List.set_cons_succ]
          refine wpAnyH_takeD 9 (some 51) (v := undef) rfl rfl (by kernel_rfl) (by kernel_rfl) (by kernel_rfl) (fun _ _ _ h => h) (Or.inr ⟨by rfl, rfl⟩) (by assumption) ?_
          try simp only [Act.put, List.setIfInBounds_toArray, List.set_cons_zero, List.set_cons_succ]
          refine wpAnyH_takeD 10 (some 52) (v := undef) rfl rfl (by kernel_rfl) (by kernel_rfl) (by kernel_rfl) (fun _ _ _ h => h) (Or.inr ⟨by rfl, rfl⟩) (by assumption) ?_
          try simp only [Act.put, List.setIfInBounds_toArray, List.set_cons_zero, List.set_cons_succ]
          refine wpAnyH_takeD 11 (some 53) (v := undef) rfl rfl (by kernel_rfl) (by kernel_rfl) (by kernel_rfl) (fun _ _ _ h => h) (Or.inr ⟨by rfl, rfl⟩) (by assumption) ?_
          try simp only [Act.put, List.setIfInBounds_toArray, List.set_cons_zero, List.set_cons_succ]
          refine wpAnyH_takeD 12 (some 54) (v := undef) rfl rfl (by kernel_rfl) (by kernel_rfl) (by kernel_rfl) (fun _ _ _ h => h) (Or.inr ⟨by rfl, rfl⟩) (by assumption) ?_
          try simp only [Act.put, List.setIfInBounds_toArray, List.set_cons_zero, List.set_cons_succ]
          refine wpAnyH_takeD 13 (some 55) (v := ?_) rfl rfl (by kernel_rfl) (by kernel_rfl) (by kernel_rfl) (fun _ _ _ h => h) (Or.inl ⟨by rfl, ?_⟩) (by assumption) ?_
          rotate_left
          · (intro _w hSw; (try dsimp only at hSw); go_simp; try with_reducible rfl)
          try simp only [Act.put, List.setIfInBounds_toArray, List.set_cons_zero, List.set_cons_succ]
          refine wpAnyH_done (by kernel_rfl) ?_ _
          go_wp2
          go_roundg m
          case measure => omega
          case rel => exact ⟨J3, s3, l, cs, _, _, rfl, hlen, Lib.hid M4.out.drew, HL3, Lib.hid O4.out.drew, HC3, X5⟩
        | false =>
          rw [hd] at g5 HA
          have HQ := Lib.hid (show ∀ W5, New W4 W5 → W5.cell? ⟨ba, 0, none⟩ = some (.int .i64 a.rev.version) ∧ W5.cell? ⟨ba, 1, none⟩ = some (.int .i64 a.rev.rate) ∧ W5.cell? ⟨ba, 2, none⟩ = some (.string a.rev.span.lo) ∧ W5.cell? ⟨ba, 3, none⟩ = some (.string a.rev.span.hi) ∧ W5.cell? ⟨ba, 4, none⟩ = some (.bool a.rev.span.all) ∧ W5.cell? ⟨ba, 5, none⟩ = some (.bool false) ∧ W5.cell? ⟨kb, koff, none⟩ = some (.string k) from fun W5 hk => ⟨hk.cell g0, hk.cell g1, hk.cell g2, hk.cell g3, hk.cell g4, hk.cell g5, hk.cell c0⟩)
          refine wp_region_held_drew (S := fun W5 => W5.cell? ⟨ba, 0, none⟩ = some (.int .i64 a.rev.version) ∧ W5.cell? ⟨ba, 1, none⟩ = some (.int .i64 a.rev.rate) ∧ W5.cell? ⟨ba, 2, none⟩ = some (.string a.rev.span.lo) ∧ W5.cell? ⟨ba, 3, none⟩ = some (.string a.rev.span.hi) ∧ W5.cell? ⟨ba, 4, none⟩ = some (.bool a.rev.span.all) ∧ W5.cell? ⟨ba, 5, none⟩ = some (.bool false) ∧ W5.cell? ⟨kb, koff, none⟩ = some (.string k)) (by kernel_rfl) (HQ.out _ (Kept.refl _ _).drew) (fun hS0 => ?_)
          refine wpAnyH_takeD 0 (some 42) (v := ?_) rfl rfl (by kernel_rfl) (by kernel_rfl) (by kernel_rfl) (fun _ _ _ h => h) (Or.inl ⟨by rfl, ?_⟩) (by assumption) ?_
          rotate_left
          · (intro _w hSw; (try dsimp only at hSw); go_simp; try with_reducible rfl)
          try simp only [Act.put, List.setIfInBounds_toArray, List.set_cons_zero, List.set_cons_succ]
          refine wpAnyH_takeD 1 (some 43) (v := ?_) rfl rfl (by kernel_rfl) (by kernel_rfl) (by kernel_rfl) (fun _ _ _ h => h) (Or.inl ⟨by rfl, ?_⟩) (by assumption) ?_
          rotate_left
          · (intro _w hSw; (try dsimp only at hSw); go_simp; try with_reducible rfl)
          try simp only [Act.put, List.setIfInBounds_toArray, List.set_cons_zero, List.set_cons_succ]
          refine wpAnyH_takeD 2 (some 44) (v := ?_) rfl rfl (by kernel_rfl) (by kernel_rfl) (by kernel_rfl) (fun _ _ _ h => h) (Or.inl ⟨by rfl, ?_⟩) (by assumption) ?_
          rotate_left
          · (intro _w hSw; (try dsimp only at hSw); go_simp; try with_reducible rfl)
          try simp only [Act.put, List.setIfInBounds_toArray, List.set_cons_zero, List.set_cons_succ]
          refine wpAnyH_takeD 3 (some 45) (v := ?_) rfl rfl (by kernel_rfl) (by kernel_rfl) (by kernel_rfl) (fun _ _ _ h => h) (Or.inl ⟨by rfl, ?_⟩) (by assumption) ?_
          rotate_left
          · (intro _w hSw; (try dsimp only at hSw); go_simp; try with_reducible rfl)
          try simp only [Act.put, List.setIfInBounds_toArray, List.set_cons_zero, List.set_cons_succ]
          refine wpAnyH_takeD 4 (some 46) (v := ?_) rfl rfl (by kernel_rfl) (by kernel_rfl) (by kernel_rfl) (fun _ _ _ h => h) (Or.inl ⟨by rfl, ?_⟩) (by assumption) ?_
          rotate_left
          · (intro _w hSw; (try dsimp only at hSw); go_simp; try with_reducible rfl)
          try simp only [Act.put, List.setIfInBounds_toArray, List.set_cons_zero, List.set_cons_succ]
          refine wpAnyH_takeD 5 (some 47) (v := ?_) rfl rfl (by kernel_rfl) (by kernel_rfl) (by kernel_rfl) (fun _ _ _ h => h) (Or.inl ⟨by rfl, ?_⟩) (by assumption) ?_
          rotate_left
          · (intro _w hSw; (try dsimp only at hSw); go_simp; try with_reducible rfl)
          try simp only [Act.put, List.setIfInBounds_toArray, List.set_cons_zero, List.set_cons_succ]
          refine wpAnyH_takeD 6 (some 48) (v := ?_) rfl rfl (by kernel_rfl) (by kernel_rfl) (by kernel_rfl) (fun _ _ _ h => h) (Or.inl ⟨by rfl, ?_⟩) (by assumption) ?_
          rotate_left
          · (intro _w hSw; (try dsimp only at hSw); go_simp; try with_reducible rfl)
          try simp only [Act.put, List.setIfInBounds_toArray, List.set_cons_zero, List.set_cons_succ]
          refine wpAnyH_takeD 7 (some 49) (v := ?_) rfl rfl (by kernel_rfl) (by kernel_rfl) (by kernel_rfl) (fun _ _ _ h => h) (Or.inl ⟨by rfl, ?_⟩) (by assumption) ?_
          rotate_left
          · (intro _w hSw; (try dsimp only at hSw); go_simp; try with_reducible rfl)
          try simp only [Act.put, List.setIfInBounds_toArray, List.set_cons_zero, List.set_cons_succ]
          refine wpAnyH_takeD 8 (some 50) (v := ?_) rfl rfl (by kernel_rfl) (by kernel_rfl) (by kernel_rfl) (fun _ _ _ h => h) (Or.inl ⟨by rfl, ?_⟩) (by assumption) ?_
          rotate_left
          · (intro _w hSw; (try dsimp only at hSw); go_simp; try with_reducible rfl)
          try simp only [Act.put, List.setIfInBounds_toArray, List.set_cons_zero, List.set_cons_succ]
          refine wpAnyH_takeD 9 (some 51) (v := ?_) rfl rfl (by kernel_rfl) (by kernel_rfl) (by kernel_rfl) (fun _ _ _ h => h) (Or.inl ⟨by rfl, ?_⟩) (by assumption) ?_
          rotate_left
          · (intro _w hSw; (try dsimp only at hSw); go_simp; try with_reducible rfl)
          try simp only [Act.put, List.setIfInBounds_toArray, List.set_cons_zero, List.set_cons_succ]
          refine wpAnyH_takeD 10 (some 52) (v := ?_) rfl rfl (by kernel_rfl) (by kernel_rfl) (by kernel_rfl) (fun _ _ _ h => h) (Or.inl ⟨by rfl, ?_⟩) (by assumption) ?_
          rotate_left
          · (intro _w hSw; (try dsimp only at hSw); go_simp; try with_reducible rfl)
          try simp only [Act.put, List.setIfInBounds_toArray, List.set_cons_zero, List.set_cons_succ]
          refine wpAnyH_ready (rs := [11]) (by kernel_rfl) (by simp) ?_
          refine AllReadyH.cons rfl (fun K hK => ?_) AllReadyH.nil
          go_simp
          go_wp2_with (go_at_call 59; refine (key_Has _ a.rev.span k).mono ?_; rintro e2 W5 ⟨rfl, hk⟩; have HNk := Lib.hid hk; have HR := Lib.hid (HQ.out _ ((Kept.refl _ _).drew.trans hk)); clear hk)
          refine hK.out _ _ HR.out ?_
          clear hK K
          intro hSS
          try simp only [Act.put, List.setIfInBounds_toArray, List.set_cons_zero, List.set_cons_succ]
          refine wpAnyH_takeD 12 (some 54) (v := ?_) rfl rfl (by kernel_rfl) (by kernel_rfl) (by kernel_rfl) (fun _ _ _ h => h) (Or.inl ⟨by rfl, ?_⟩) (by assumption) ?_
          rotate_left
          · (intro _w hSw; (try dsimp only at hSw); go_simp; try with_reducible rfl)
          try simp only [Act.put, List.setIfInBounds_toArray, List.set_cons_zero, List.set_cons_succ]
          refine wpAnyH_takeD 13 (some 55) (v := ?_) rfl rfl (by kernel_rfl) (by kernel_rfl) (by kernel_rfl) (fun _ _ _ h => h) (Or.inl ⟨by rfl, ?_⟩) (by assumption) ?_
          rotate_left
          · (intro _w hSw; (try dsimp only at hSw); go_simp; try with_reducible rfl)
          try simp only [Act.put, List.setIfInBounds_toArray, List.set_cons_zero, List.set_cons_succ]
          refine wpAnyH_done (by kernel_rfl) ?_ _
          have M5 := Lib.hid (M4.out.drew.new HNk.out)
          have O5 := Lib.hid (OR.new O4.out.drew HNk.out)
          have P5 := Lib.hid (P4.out.drew.new HNk.out)
          have Q5 := Lib.hid (Q4.out.drew.new HNk.out)
          clear HNk HR hSS hS0 HQ M4 O4 P4 Q4
          cases hk : kHas a.rev.span k with
          | false =>
            have X5 := Ex.mk (x_else X4.out (by rw [hd, hk]; simp))
            clear X4
            go_wp2
            go_roundg m
            case measure => omega
            case rel => exact ⟨J3, s3, l, cs, _, _, rfl, hlen, M5, HL3, O5, HC3, X5⟩
          | true =>
            have X5 := Ex.mk (x_if X4.out (by rw [hd, hk]; rfl))
            clear X4
            have hw0 := HE.out a.rev.span hk
            have hw1 := HLE.out a.rev.span
            have HWI := Lib.hid (batch_Within W5 J3 M5.out.st.held l _ HL3.out a.rev.span (by omega))
            generalize eWithin l a.rev.span = own at *
            clear hd hk HE HLE  gf0 gf1 gf2 gf3 gf4 gf5 gf6 gf7 gf8 gf9 gf10 c0
            have g0 := cell_blk Q5.out.at_ 0
            have g1 := cell_blk Q5.out.at_ 1
            have g2 := cell_blk Q5.out.at_ 2
            have g3 := cell_blk Q5.out.at_ 3
            have g4 := cell_blk Q5.out.at_ 4
            have g5 := cell_blk Q5.out.at_ 5
            have g6 := cell_blk Q5.out.at_ 6
            have g7 := cell_blk Q5.out.at_ 7
            have g8 := cell_blk Q5.out.at_ 8
            have g9 := cell_blk Q5.out.at_ 9
            have g10 := cell_blk Q5.out.at_ 10
            have gf0 := free_blk Q5.out.at_ 0
            have gf1 := free_blk Q5.out.at_ 1
            have gf2 := free_blk Q5.out.at_ 2
            have gf3 := free_blk Q5.out.at_ 3
            have gf4 := free_blk Q5.out.at_ 4
            have gf5 := free_blk Q5.out.at_ 5
            have gf6 := free_blk Q5.out.at_ 6
            have gf7 := free_blk Q5.out.at_ 7
            have gf8 := free_blk Q5.out.at_ 8
            have gf9 := free_blk Q5.out.at_ 9
            have gf10 := free_blk Q5.out.at_ 10
            have gs := lt_of_block Q5.out.at_
            go_wp2_with fail
            refine HWI.out.mono ?_
            rintro e W6 ⟨K6, v6, rfl, hP, hV⟩
            obtain ⟨ea, ec, rfl, _, _, _⟩ := hV.form
            have M6 := Lib.hid (M5.out.pure hP)
            have O6 := Lib.hid (OR.pure O5.out hP)
            have P6 := Lib.hid (OB.pure P5.out hP rfl)
            have Q6 := Lib.hid (OB.pure Q5.out hP rfl)
            have HL6 := Lib.hid (HL3.out.mono hP.grow.le)
            have HC6 := Lib.hid (HC3.out.mono hP.grow.le)
            have HY := Lib.hid (show PartC.ok K6 ⟨⟨n.head, hc3, a.rev, own⟩, ka, va, ga, ta, ea, kc, vc, gc, tc, ec⟩ from ⟨HRW.out.1.mono hP.grow.le, HRW.out.2.1.mono hP.grow.le, HRW.out.2.2.1.mono hP.grow.le, HRW.out.2.2.2.mono hP.grow.le, hV⟩)
            clear HWI hP hV M5 O5 P5 Q5 HL3 HC3 HRW HA g0 g1 g2 g3 g4 g5 g6 g7 g8 g9 g10 gf0 gf1 gf2 gf3 gf4 gf5 gf6 gf7 gf8 gf9 gf10 gs
            have g0 := cell_blk Q6.out.at_ 0
            have g1 := cell_blk Q6.out.at_ 1
            have g2 := cell_blk Q6.out.at_ 2
            have g3 := cell_blk Q6.out.at_ 3
            have g4 := cell_blk Q6.out.at_ 4
            have g5 := cell_blk Q6.out.at_ 5
            have g6 := cell_blk Q6.out.at_ 6
            have g7 := cell_blk Q6.out.at_ 7
            have g8 := cell_blk Q6.out.at_ 8
            have g9 := cell_blk Q6.out.at_ 9
            have g10 := cell_blk Q6.out.at_ 10
            have gf0 := free_blk Q6.out.at_ 0
            have gf1 := free_blk Q6.out.at_ 1
            have gf2 := free_blk Q6.out.at_ 2
            have gf3 := free_blk Q6.out.at_ 3
            have gf4 := free_blk Q6.out.at_ 4
            have gf5 := free_blk Q6.out.at_ 5
            have gf6 := free_blk Q6.out.at_ 6
            have gf7 := free_blk Q6.out.at_ 7
            have gf8 := free_blk Q6.out.at_ 8
            have gf9 := free_blk Q6.out.at_ 9
            have gf10 := free_blk Q6.out.at_ 10
            have gs := lt_of_block Q6.out.at_
            have p0 := cell_blk P6.out.at_ 0
            have p1 := cell_blk P6.out.at_ 1
            have p2 := cell_blk P6.out.at_ 2
            have pf0 := free_blk P6.out.at_ 0
            have pf1 := free_blk P6.out.at_ 1
            have pf2 := free_blk P6.out.at_ 2
            have ps := lt_of_block P6.out.at_
            go_wp2_with (at_builtin; refine wp_app_part rfl _ _ rfl _ cs ⟨⟨n.head, hc3, a.rev, own⟩, ka, va, ga, ta, ea, kc, vc, gc, tc, ec⟩ _ _ _ _ _ rfl rfl (alloc_new _ _) rfl (OR.alloc O6.out _) (M6.out.alloc _) (by omega) ?_)
            intro v1 W7 hO hM hg
            have M7 := Lib.hid hM
            have O7 := Lib.hid hO
            clear hO hM hg g0 g1 g2 g3 g4 g5 g6 g7 g8 g9 g10 gf0 gf1 gf2 gf3 gf4 gf5 gf6 gf7 gf8 gf9 gf10 gs p0 p1 p2 pf0 pf1 pf2 ps P6 Q6
            have hcap : l.length ≤ lc := by
              obtain ⟨_, _, hv, q, _⟩ := HL6.out.form
              injection hv with _ q1 q2
              omega
            have hsl := fun W => slice_dropE W kb koff own.length l.length lc hw0 hw1 hcap
            have HT := Lib.hid (Row.dropE HL6.out hw1)
            generalize (if lc = own.length then koff else koff + own.length * 3) = off' at hsl HT
            go_wp2
            go_roundg m
            case measure => omega
            case rel => exact ⟨K6, s3, l.drop own.length, _, _, _, by rw [List.length_drop], by simp; omega, M7, Lib.hid (by rw [List.length_drop]; exact HT.out), O7, Lib.hid (HC6.out.add HY.out), by rw [List.map_append]; exact X5⟩
      · have t1 := ne_true he
        have X4 := Ex.mk (x_else X3.out he)
        clear he
        go_wp2
        go_ret2
        rw [x_done X4.out]
        exact Mg.post (J := J3) (by repeat (first | with_reducible exact M3.out | with_reducible refine Mg.drewN ?_ _ | with_reducible refine Mg.drew ?_ | with_reducible refine Mg.alloc ?_ _ | refine Mg.seto ?_ (by repeat (first | with_reducible refine OwnOk.set ?_ _ _ | with_reducible refine OwnOk.alloc ?_ _ | with_reducible refine OwnOk.drew ?_ | with_reducible refine OwnOk.drewN ?_ _)) _)) ⟨_, rfl, [], rfl, Row.nil _ _ _, fun _ h => by cases h⟩
    · have t1 := ne_true he
      have X2 := Ex.mk (x_else X1.out he)
      clear he
      go_wp2
      go_ret2
      rw [x_done X2.out]
      exact Mg.post (J := J1) (by repeat (first | with_reducible exact M1.out | with_reducible refine Mg.drewN ?_ _ | with_reducible refine Mg.drew ?_ | with_reducible refine Mg.alloc ?_ _ | refine Mg.seto ?_ (by repeat (first | with_reducible refine OwnOk.set ?_ _ _ | with_reducible refine OwnOk.alloc ?_ _ | with_reducible refine OwnOk.drew ?_ | with_reducible refine OwnOk.drewN ?_ _)) _)) ⟨_, rfl, [], rfl, Row.nil _ _ _, fun _ h => by cases h⟩
end Go.Proofs.YtadaiihoclknmaaGreat
