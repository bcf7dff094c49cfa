/- Part 30 of the proof: Wc3, Wc4. -/
import Derived.Test.YtadaiihoclknmaaGreatC29
/- Law 20, WriteCommits: what is done at the port. -/
namespace Go.Proofs.YtadaiihoclknmaaGreat
open Go.RowKit
set_option maxHeartbeats 4000000
set_option maxRecDepth 100000
set_option linter.unusedVariables false
set_option linter.unusedSimpArgs false
theorem wrap64_sm {n : Int} (h : -9223372036854775808 ≤ n ∧ n ≤ 9223372036854775807) : wrap64 n = n := by unfold wrap64; omega
def wcWant (late : Bool) (more : Int) (a : WcR) : Prop := a.1 = (if late = true then 1 else 2 + more) ∧ a.2.1 = (if late = true then 0 else 2) ∧ a.2.2.1 = a.2.2.2
theorem wcSwaps_succ (rest : List Swap → Prog WcR) (k : Int) (f : Nat) (i : Int) (out : List Swap) : wcSwaps rest k (f + 1) i out = (
    if i < k then do
      let a ← pAllocWord i
      if a.2 = 0 then wcSwaps rest k f (i + 1) (out ++ [⟨a.1, i, 100 + i⟩]) else .stuck
    else rest out) := rfl
theorem wcReaps_succ (rest : Int → Prog WcR) (f : Nat) (i freed : Int) : wcReaps rest (f + 1) i freed = (do
    let n ← pCells
    if i < n then do
      let a ← pReap i 0
      if a.1 = false ∧ a.2 = 0 then do
        let b ← pReap i 1
        wcReaps rest f (i + 1) (if b.1 = true then freed + 1 else freed)
      else .stuck
    else rest freed) := rfl
theorem law_commits1 {w0 W : World} {L : Loc} {J : IHeap} {s : PS} (g : Ground) (x : GC) (bY bw bl bm : Nat) (words more : Int) (late : Bool) (hm0 : 0 ≤ more) (hm1 : more ≤ 255) (hw0 : 0 ≤ words) (hw1 : words ≤ 255)
    (B : Bag w0 L I0 J s W [.blk bY (#[.pointer (some ⟨L.m, 0, none⟩)] ++ (x.cells g).toArray) 31, .blk bw #[.int .u8 words] 5, .blk bl #[.bool late] 4, .blk bm #[.int .u8 more] 5]) (hG : GroundV J (.agg (x.cells g).toArray) g)
    (hn : ((wcBody g (words % 6) late more).exec s).1.ok) (hp : ((wcBody g (words % 6) late more).exec s).1 ≠ .paused) (hr : ∀ a, ((wcBody g (words % 6) late more).exec s).1 = .ret a → wcWant late more a) :
    Calls Tryz.prog 18 #[.pointer (some ⟨L.p, 0, none⟩), .pointer (some ⟨bw, 0, none⟩), .pointer (some ⟨bY, 0, none⟩), .pointer (some ⟨bl, 0, none⟩), .pointer (some ⟨bm, 0, none⟩)] W fun r W2 => ∃ v, r = .returned v ∧ v = .iface 4 (.bool true) ∧ ∃ (J2 : IHeap) (s2 : PS), Bag w0 L I0 J2 s2 W2 [] := by
  obtain ⟨ga, gb, gc, gd⟩ := x
  have HXC := Lib.hid (show (⟨ga, gb, gc, gd⟩ : GC).cells g = [.int .i64 g.first, .int .i64 g.reg.top, .slice ga g.reg.slots.length gc, .slice gb g.reg.snaps.length gd, .int .i64 g.conf.cells, .int .i64 g.conf.clients, .int .i64 g.conf.snaps, .int .i64 g.conf.levels, .int .i64 g.conf.low, .int .i64 g.conf.high, .int .i64 g.conf.top] from rfl)
  rw [HXC.out] at B hG
  simp only [List.append_toArray, List.cons_append, List.nil_append] at B
  have B0 := Lib.hid B
  have HN := Lib.hid hn
  have HR := Lib.hid hr
  have HP := Lib.hid hp
  have HG := Lib.hid (show ∀ J2, ILe J J2 → _ from fun J2 h => hG.mono h)
  obtain ⟨R0, hR0⟩ : ∃ R0, R0 = (wcBody g (words % 6) late more).exec s := ⟨_, rfl⟩
  have X0 := Ex.mk hR0
  rw [← hR0] at HN HR HP
  obtain ⟨PQ, hPQ⟩ : ∃ PQ : Ending → World → Prop, PQ = fun r W2 => ∃ v, r = .returned v ∧ v = .iface 4 (.bool true) ∧ ∃ (J2 : IHeap) (s2 : PS), Bag w0 L I0 J2 s2 W2 [] := ⟨_, rfl⟩
  have HPQ := Lib.hid (show ∀ (J2 : IHeap) (s2 : PS) (W2 : World), Bag w0 L I0 J2 s2 W2 [] → PQ (.returned (.iface 4 (.bool true))) W2 from fun J2 s2 W2 h => by rw [hPQ]; exact ⟨_, rfl, rfl, J2, s2, h⟩)
  rw [← hPQ]
  have hk : ∃ k : Nat, words % 6 = k ∧ k ≤ 5 := ⟨(words % 6).toNat, by omega, by omega⟩
  obtain ⟨k, hk, hk5⟩ := hk
  rw [hk] at X0
  unfold wcBody at X0
  clear B hn hr hp hG hR0 hPQ
  have B1 := Lib.hid (B0.out.row0 (E := 44) 3 rfl)
  have vat := B0.out.o1.at_
  have v0 := cell_blk vat 0
  have vf0 := free_blk vat 0
  have vs := lt_of_block vat
  clear vat
  go_enter Tryz.func18, Tryz.ntmps18
  go_wp2_with fail
  go_loopg [7, 8] 10 (fun m sv iv W => ∃ (J2 : IHeap) (s' : PS) (i : Nat) (out : List Swap), iv = .int .i64 i ∧ out.length = i ∧ i + m = 10 ∧ i ≤ k ∧ Hid (ILe J J2) ∧ Hid (Bag w0 L I0 J2 s' W [.row 44 3 sv out.length (out.flatMap encSwap), .blk bY #[.pointer (some ⟨L.m, 0, none⟩), .int .i64 g.first, .int .i64 g.reg.top, .slice ga g.reg.slots.length gc, .slice gb g.reg.snaps.length gd, .int .i64 g.conf.cells, .int .i64 g.conf.clients, .int .i64 g.conf.snaps, .int .i64 g.conf.levels, .int .i64 g.conf.low, .int .i64 g.conf.high, .int .i64 g.conf.top] 31, .blk bw #[.int .u8 words] 5, .blk bl #[.bool late] 4, .blk bm #[.int .u8 more] 5]) ∧ Ex R0 ((wcSwaps (fun swaps => do
    let x ← wSettled g.reg.top F0
    if x.2.2 = 0 ∧ x.2.1.version = 0 then
      if late = true then do
        let c ← wCommit g.reg.top x.1 1 0 []
        if c.1 = true ∧ c.2 = 0 then wcEnd g late more x.1 swaps else .stuck
      else wcEnd g late more x.1 swaps
    else .stuck) k m i out).exec s'))
  case atStart => exact ⟨J, s, 0, [], rfl, rfl, rfl, Nat.zero_le _, Lib.hid (ILe.refl _), B1, X0⟩
  case round =>
  clear B0 B1 X0
  obtain ⟨J0, s0, i, out, rfl, hout, hi, hik', HJ, B0, X0⟩ := hrel
  cases gk with
  | zero => exact (stuck_not HN.out X0.out).elim
  | succ m =>
  rw [wcSwaps_succ] at X0
  have vat := B0.out.o2.at_
  have v0 := cell_blk vat 0
  have vf0 := free_blk vat 0
  have vs := lt_of_block vat
  clear vat
  by_cases hik : i < k
  · have X1 := Ex.mk (x_if X0.out (by omega))
    go_wp2_with fail
    refine (port_AllocWord _ L _ _ (B0.out).m.st i (ok_of HN.out X1.out)).mono ?_
    intro e W2 hP
    rcases (B0.out).call hP with ⟨⟨c2, e2⟩, s2, J2, v2, hr, rfl, rfl, hg, hB⟩ | ⟨s', J', hr, rfl, hM⟩
    rotate_left
    · exact (HP.out (congrArg Prod.fst (x_paused X1.out hr))).elim
    have B2 := Lib.hid hB
    have G2 := Lib.hid hg
    have X2 := Ex.mk (x_ret X1.out hr)
    clear hP hr hg hB
    have HJ2 := Lib.hid (HJ.out.trans G2.out.le)
    by_cases he : e2 = 0
    rotate_left
    · exact (stuck_not HN.out (x_else X2.out he)).elim
    subst he
    have X3 := Ex.mk (x_if X2.out rfl)
    have hob : (out.length + 1) * 24 ≤ 140737488355328 := by omega
    clear B0 HJ G2 X0 X1 X2 v0 vf0 vs
    go_wp2_with (at_builtin; refine wp_app_swap rfl _ _ rfl _ out ⟨c2, i, 100 + i⟩ _ _ _ _ _ rfl rfl (alloc_new _ _) rfl (OR.alloc B2.out.r0 _) (B2.out.m.alloc _) hob ?_)
    intro v4 W4 hO hM hg
    have B4 := Lib.hid ((B2.out.alloc _).app (by simp [It.other]) hM hO hg)
    clear hO hM hg B2
    go_wp2
    go_roundg m
    case measure => omega
    case rel => exact ⟨J2, s2, i + 1, out ++ [⟨c2, i, 100 + i⟩], by simp, by simp [hout], by omega, by omega, HJ2, B4, by rw [show ((i + 1 : Nat) : Int) = (i : Int) + 1 from rfl]; exact X3⟩
  have X1 := Ex.mk (x_else X0.out (by omega))
  have hol : out.length ≤ 5 := by omega
  subst hout
  clear X0 hi hk5
  have yat := B0.out.o1.at_
  have y1 := cell_blk yat 1
  have y2 := cell_blk yat 2
  have y3 := cell_blk yat 3
  have y4 := cell_blk yat 4
  have y5 := cell_blk yat 5
  have y6 := cell_blk yat 6
  have y7 := cell_blk yat 7
  have y8 := cell_blk yat 8
  have y9 := cell_blk yat 9
  have y10 := cell_blk yat 10
  have y11 := cell_blk yat 11
  have yf1 := free_blk yat 1
  have yf2 := free_blk yat 2
  have yf3 := free_blk yat 3
  have yf4 := free_blk yat 4
  have yf5 := free_blk yat 5
  have yf6 := free_blk yat 6
  have yf7 := free_blk yat 7
  have yf8 := free_blk yat 8
  have yf9 := free_blk yat 9
  have yf10 := free_blk yat 10
  have yf11 := free_blk yat 11
  have ys := lt_of_block yat
  clear yat
  go_wp2_with fail
  refine (write_Settled _ L _ _ (B0.out).m.st g _ (HG.out _ HJ.out) F0 (ok_of HN.out X1.out)).mono ?_
  intro e W2 hP
  rcases (B0.out).call hP with ⟨⟨h, d, e2⟩, s2, J2, v2, hr, rfl, ⟨dx, rfl, hd⟩, hg, hB⟩ | ⟨s', J', hr, rfl, hM⟩
  rotate_left
  · exact (HP.out (congrArg Prod.fst (x_paused X1.out hr))).elim
  have B2 := Lib.hid hB
  have G2 := Lib.hid hg
  have X2 := Ex.mk (x_ret X1.out hr)
  clear hP hr hg hB
  have HJ2 := Lib.hid (HJ.out.trans G2.out.le)
  obtain ⟨A, cap, rfl, _⟩ := hd.form
  clear B0 HJ G2 X1 hd hik hik' v0 vf0 vs y1 y2 y3 y4 y5 y6 y7 y8 y9 y10 y11 yf1 yf2 yf3 yf4 yf5 yf6 yf7 yf8 yf9 yf10 yf11 ys
  dsimp only at X2 ⊢
  by_cases hc : e2 = 0 ∧ d.version = 0
  rotate_left
  · exact (stuck_not HN.out (x_else X2.out hc)).elim
  have X3 := Ex.mk (x_if X2.out hc)
  obtain ⟨rfl, hver⟩ := hc
  rw [hver]
  clear X2 hver
  cases late with
  | true =>
  have lat := B2.out.o3.at_
  have l0 := cell_blk lat 0
  have lf0 := free_blk lat 0
  have ls := lt_of_block lat
  clear lat
  have yat := B2.out.o1.at_
  have y1 := cell_blk yat 1
  have y2 := cell_blk yat 2
  have y3 := cell_blk yat 3
  have y4 := cell_blk yat 4
  have y5 := cell_blk yat 5
  have y6 := cell_blk yat 6
  have y7 := cell_blk yat 7
  have y8 := cell_blk yat 8
  have y9 := cell_blk yat 9
  have y10 := cell_blk yat 10
  have y11 := cell_blk yat 11
  have yf1 := free_blk yat 1
  have yf2 := free_blk yat 2
  have yf3 := free_blk yat 3
  have yf4 := free_blk yat 4
  have yf5 := free_blk yat 5
  have yf6 := free_blk yat 6
  have yf7 := free_blk yat 7
  have yf8 := free_blk yat 8
  have yf9 := free_blk yat 9
  have yf10 := free_blk yat 10
  have yf11 := free_blk yat 11
  have ys := lt_of_block yat
  clear yat
  go_wp2_with fail
  have X4 := Ex.mk (x_if X3.out (by trivial))
  refine (write_Commit _ L _ _ (B2.out.alloc _).m.st g _ (HG.out _ HJ2.out) h 1 0 [] _ (Row.nil _ _ _) (by simp) (ok_of HN.out X4.out)).mono ?_
  intro e W5 hP
  rcases (B2.out.alloc _).call hP with ⟨⟨ok5, e5⟩, s5, J5, v5, hr, rfl, rfl, hg, hB⟩ | ⟨s', J', hr, rfl, hM⟩
  rotate_left
  · exact (HP.out (congrArg Prod.fst (x_paused X4.out hr))).elim
  have B5 := Lib.hid hB
  have G5 := Lib.hid hg
  have X5 := Ex.mk (x_ret X4.out hr)
  clear hP hr hg hB
  have HJ5 := Lib.hid (HJ2.out.trans G5.out.le)
  dsimp only at X5 ⊢
  by_cases hc : ok5 = true ∧ e5 = 0
  rotate_left
  · exact (stuck_not HN.out (x_else X5.out hc)).elim
  have X6 := Ex.mk (x_if X5.out hc)
  obtain ⟨rfl, rfl⟩ := hc
  clear B2 HJ2 G5 X3 X4 X5 l0 lf0 ls y1 y2 y3 y4 y5 y6 y7 y8 y9 y10 y11 yf1 yf2 yf3 yf4 yf5 yf6 yf7 yf8 yf9 yf10 yf11 ys
  have B6 := B5
  clear B5
  have HJ6 := HJ5
  clear HJ5
  have yat := B6.out.o1.at_
  have y0 := cell_blk yat 0
  have yf0 := free_blk yat 0
  have ys := lt_of_block yat
  clear yat
  go_wp2_with fail
  unfold wcEnd at X6
  refine (mem_Live _ _ _ _ _ B6.out.m.st.mem).mono ?_
  rintro e7 W7 ⟨rfl, rfl⟩
  have X7 := Ex.mk (x_ret X6.out (show pLive.exec s5 = (.ret s5.mem.live, s5) from rfl))
  obtain ⟨live, hlive⟩ : ∃ live, live = s5.mem.live := ⟨_, rfl⟩
  rw [← hlive] at X7 ⊢
  clear hlive
  obtain ⟨K, hB, hle, hRow⟩ := B6.out.done (by simp [It.other])
  have B8 := Lib.hid hB
  have HJ8 := Lib.hid (HJ6.out.trans hle)
  obtain ⟨sa, sc, rfl, _, _, _⟩ := Row.form hRow
  have HSW := Lib.hid (show Swaps K (.slice sa out.length sc) out from hRow)
  clear hB hle hRow B6 HJ6 X6 y0 yf0 ys
  have yat := B8.out.o0.at_
  have y1 := cell_blk yat 1
  have y2 := cell_blk yat 2
  have y3 := cell_blk yat 3
  have y4 := cell_blk yat 4
  have y5 := cell_blk yat 5
  have y6 := cell_blk yat 6
  have y7 := cell_blk yat 7
  have y8 := cell_blk yat 8
  have y9 := cell_blk yat 9
  have y10 := cell_blk yat 10
  have y11 := cell_blk yat 11
  have yf1 := free_blk yat 1
  have yf2 := free_blk yat 2
  have yf3 := free_blk yat 3
  have yf4 := free_blk yat 4
  have yf5 := free_blk yat 5
  have yf6 := free_blk yat 6
  have yf7 := free_blk yat 7
  have yf8 := free_blk yat 8
  have yf9 := free_blk yat 9
  have yf10 := free_blk yat 10
  have yf11 := free_blk yat 11
  have ys := lt_of_block yat
  clear yat
  have qat := B8.out.o3.at_
  have q0 := cell_blk qat 0
  have qf0 := free_blk qat 0
  have qs := lt_of_block qat
  clear qat
  go_wp2_with fail
  refine (write_Commit _ L _ _ (B8.out).m.st g _ (HG.out _ HJ8.out) h (2 + more) 0 out _ HSW.out (by omega) (ok_of HN.out X7.out)).mono ?_
  intro e W9 hP
  rcases (B8.out).call hP with ⟨⟨ok9, e9⟩, s9, J9, v9, hr, rfl, rfl, hg, hB⟩ | ⟨s', J', hr, rfl, hM⟩
  rotate_left
  · exact (HP.out (congrArg Prod.fst (x_paused X7.out hr))).elim
  have B9 := Lib.hid hB
  have G9 := Lib.hid hg
  have X9 := Ex.mk (x_ret X7.out hr)
  clear hP hr hg hB
  have HJ9 := Lib.hid (HJ8.out.trans G9.out.le)
  have HSW9 := Lib.hid (HSW.out.mono G9.out.le)
  clear B8 HJ8 G9 X7 HSW y1 y2 y3 y4 y5 y6 y7 y8 y9 y10 y11 yf1 yf2 yf3 yf4 yf5 yf6 yf7 yf8 yf9 yf10 yf11 ys q0 qf0 qs
  dsimp only at X9 ⊢
  have yat := B9.out.o0.at_
  have y1 := cell_blk yat 1
  have y2 := cell_blk yat 2
  have y3 := cell_blk yat 3
  have y4 := cell_blk yat 4
  have y5 := cell_blk yat 5
  have y6 := cell_blk yat 6
  have y7 := cell_blk yat 7
  have y8 := cell_blk yat 8
  have y9 := cell_blk yat 9
  have y10 := cell_blk yat 10
  have y11 := cell_blk yat 11
  have yf1 := free_blk yat 1
  have yf2 := free_blk yat 2
  have yf3 := free_blk yat 3
  have yf4 := free_blk yat 4
  have yf5 := free_blk yat 5
  have yf6 := free_blk yat 6
  have yf7 := free_blk yat 7
  have yf8 := free_blk yat 8
  have yf9 := free_blk yat 9
  have yf10 := free_blk yat 10
  have yf11 := free_blk yat 11
  have ys := lt_of_block yat
  clear yat
  go_wp2_with fail
  refine (write_Settled _ L _ _ (B9.out).m.st g _ (HG.out _ HJ9.out) F0 (ok_of HN.out X9.out)).mono ?_
  intro e W10 hP
  rcases (B9.out).call hP with ⟨⟨h10, z, e10⟩, s10, J10, v10, hr, rfl, ⟨zx, rfl, hz⟩, hg, hB⟩ | ⟨s', J', hr, rfl, hM⟩
  rotate_left
  · exact (HP.out (congrArg Prod.fst (x_paused X9.out hr))).elim
  have B10 := Lib.hid hB
  have G10 := Lib.hid hg
  have X10 := Ex.mk (x_ret X9.out hr)
  clear hP hr hg hB
  obtain ⟨za, zc, rfl, _⟩ := hz.form
  have HSW10 := Lib.hid (HSW9.out.mono G10.out.le)
  clear B9 HJ9 G10 X9 HSW9 hz y1 y2 y3 y4 y5 y6 y7 y8 y9 y10 y11 yf1 yf2 yf3 yf4 yf5 yf6 yf7 yf8 yf9 yf10 yf11 ys
  dsimp only at X10 ⊢
  by_cases hc : e9 = 0 ∧ e10 = 0 ∧ ok9 = !true
  rotate_left
  · exact (stuck_not HN.out (x_else X10.out hc)).elim
  have X11 := Ex.mk (x_if X10.out hc)
  obtain ⟨rfl, rfl, rfl⟩ := hc
  clear X10
  obtain ⟨rest, hrest, X12⟩ : ∃ rest : Prog WcR, rest = (do let l2 ← pLive; return (z.version, 0, l2, live)) ∧ Ex R0 ((wcWords rest true out 0).exec s10) := ⟨_, rfl, X11⟩
  have HRE := Lib.hid hrest
  clear hrest X11
  have lat := B10.out.o2.at_
  have l0 := cell_blk lat 0
  have lf0 := free_blk lat 0
  have ls := lt_of_block lat
  clear lat
  go_wp2_with fail
  have B12 := Lib.hid (B10.out.fresh #[.int .i64 z.version, .int .i64 z.before, .int .i64 z.status, .slice za z.swaps.length zc] 46 rfl)
  clear B10 l0 lf0 ls
  generalize W10.heap.size = bz at *
  generalize W10.alloc (.cells #[.int .i64 z.version, .int .i64 z.before, .int .i64 z.status, .slice za z.swaps.length zc] 46) = W12 at *
  go_loopg [23] out.length (fun m iv W => ∃ (J2 : IHeap) (s' : PS) (i : Nat), iv = .int .i64 i ∧ i + m = out.length ∧ Hid (ILe J10 J2) ∧ Hid (Bag w0 L I0 J2 s' W [.blk bz #[.int .i64 z.version, .int .i64 z.before, .int .i64 z.status, .slice za z.swaps.length zc] 46, .blk bY #[.pointer (some ⟨L.m, 0, none⟩), .int .i64 g.first, .int .i64 g.reg.top, .slice ga g.reg.slots.length gc, .slice gb g.reg.snaps.length gd, .int .i64 g.conf.cells, .int .i64 g.conf.clients, .int .i64 g.conf.snaps, .int .i64 g.conf.levels, .int .i64 g.conf.low, .int .i64 g.conf.high, .int .i64 g.conf.top] 31, .blk bw #[.int .u8 words] 5, .blk bl #[.bool true] 4, .blk bm #[.int .u8 more] 5]) ∧ Ex R0 ((wcWords rest true (out.drop i) i).exec s'))
  case atStart => exact ⟨J10, s10, 0, rfl, by simp, Lib.hid (ILe.refl _), B12, X12⟩
  case round =>
  clear B12 X12
  obtain ⟨J13, s13, i', rfl, hi', HJ13, B13, X13⟩ := hrel
  by_cases hlt : i' < out.length
  · have hd1 : decide ((i' : Int) < out.length) = true := decide_eq_true (by omega)
    obtain ⟨b, off, rfl, _, hcell⟩ := Sl.cell B13.out.m.st.held (HSW10.out.mono HJ13.out) (fun _ => rfl) (by omega)
    have hx := List.getElem?_eq_getElem hlt
    have c0 : wr.cell? ⟨b, off + i' * 3, none⟩ = _ := hcell i' 0 _ _ hx rfl
    have E := Lib.hid (List.drop_eq_getElem_cons hlt)
    rw [E.out] at X13
    generalize out[i'] = x at c0 X13
    have X14 := Ex.mk (show R0 = (do let y ← pWord x.cell; if y.2 = 0 ∧ y.1 = (if true = true then (i' : Int) else 100 + (i' : Int)) then wcWords rest true (out.drop (i' + 1)) ((i' : Int) + 1) else .stuck : Prog WcR).exec s13 from X13.out)
    clear hcell hx E X13
    go_wp2_with fail
    refine (port_Word _ L _ _ (B13.out).m.st x.cell (ok_of HN.out X14.out)).mono ?_
    intro e W15 hP
    rcases (B13.out).call hP with ⟨⟨n15, e15⟩, s15, J15, v15, hr, rfl, rfl, hg, hB⟩ | ⟨s', J', hr, rfl, hM⟩
    rotate_left
    · exact (HP.out (congrArg Prod.fst (x_paused X14.out hr))).elim
    have B15 := Lib.hid hB
    have G15 := Lib.hid hg
    have X15 := Ex.mk (x_ret X14.out hr)
    clear hP hr hg hB
    have HJ15 := Lib.hid (HJ13.out.trans G15.out.le)
    clear B13 HJ13 G15 X14 c0
    dsimp only at X15
    by_cases hc : e15 = 0 ∧ n15 = (if true = true then (i' : Int) else 100 + (i' : Int))
    rotate_left
    · exact (stuck_not HN.out (x_else X15.out hc)).elim
    have X16 := Ex.mk (x_if X15.out hc)
    rw [if_pos rfl] at hc
    obtain ⟨rfl, rfl⟩ := hc
    clear X15
    have lat := B15.out.o3.at_
    have l0 := cell_blk lat 0
    have lf0 := free_blk lat 0
    have ls := lt_of_block lat
    clear lat
    go_wp2
    go_roundg (gk - 1)
    case measure => omega
    case rel => exact ⟨J15, s15, i' + 1, by simp, by omega, HJ15, B15, by rw [show ((i' + 1 : Nat) : Int) = (i' : Int) + 1 from rfl]; exact X16⟩
  have h0 : List.drop i' out = [] := List.drop_eq_nil_of_le (by omega)
  rw [h0] at X13
  have hd1 : decide ((i' : Int) < out.length) = false := decide_eq_false (by omega)
  have X14 := Ex.mk (show R0 = rest.exec s13 from X13.out)
  rw [HRE.out] at X14
  clear X13 h0 HRE HJ13 hi'
  have X15 := Ex.mk (x_ret X14.out (show pLive.exec s13 = (.ret s13.mem.live, s13) from rfl))
  obtain ⟨hz1, _, hz3⟩ := HR.out _ (by rw [X15.out]; rfl)
  simp only [if_pos] at hz1
  dsimp only at hz3
  have zat := B13.out.o0.at_
  have z0 := cell_blk zat 0
  have zf0 := free_blk zat 0
  have zs := lt_of_block zat
  clear zat
  have yat := B13.out.o1.at_
  have y0 := cell_blk yat 0
  have yf0 := free_blk yat 0
  have ys := lt_of_block yat
  clear yat
  have lat := B13.out.o3.at_
  have l0 := cell_blk lat 0
  have lf0 := free_blk lat 0
  have ls := lt_of_block lat
  clear lat
  rw [hz1] at z0
  go_wp2_with fail
  refine (mem_Live _ _ _ _ _ B13.out.m.st.mem).mono ?_
  rintro e20 W20 ⟨rfl, rfl⟩
  rw [hz3]
  dsimp only
  go_wp2
  first | (go_ret; exact HPQ.out _ _ _ (B13.out.sub (by simp))) | exact HPQ.out _ _ _ (B13.out.sub (by simp)) | trace_state
  | false =>
  have lat := B2.out.o3.at_
  have l0 := cell_blk lat 0
  have lf0 := free_blk lat 0
  have ls := lt_of_block lat
  clear lat
  have yat := B2.out.o1.at_
  have y0 := cell_blk yat 0
  have yf0 := free_blk yat 0
  have ys := lt_of_block yat
  clear yat
  go_wp2_with fail
  have X6 := Ex.mk (x_else X3.out (by decide))
  have B6 := Lib.hid (B2.out.alloc (.cells #[.int .i64 0, .int .i64 d.before, .int .i64 d.status, .slice A d.swaps.length cap] 46))
  have HJ6 := HJ2
  clear B2 HJ2 X3 l0 lf0 ls
  unfold wcEnd at X6
  refine (mem_Live _ _ _ _ _ B6.out.m.st.mem).mono ?_
  rintro e7 W7 ⟨rfl, rfl⟩
  have X7 := Ex.mk (x_ret X6.out (show pLive.exec s2 = (.ret s2.mem.live, s2) from rfl))
  obtain ⟨live, hlive⟩ : ∃ live, live = s2.mem.live := ⟨_, rfl⟩
  rw [← hlive] at X7 ⊢
  clear hlive
  obtain ⟨K, hB, hle, hRow⟩ := B6.out.done (by simp [It.other])
  have B8 := Lib.hid hB
  have HJ8 := Lib.hid (HJ6.out.trans hle)
  obtain ⟨sa, sc, rfl, _, _, _⟩ := Row.form hRow
  have HSW := Lib.hid (show Swaps K (.slice sa out.length sc) out from hRow)
  clear hB hle hRow B6 HJ6 X6 y0 yf0 ys
  have yat := B8.out.o0.at_
  have y1 := cell_blk yat 1
  have y2 := cell_blk yat 2
  have y3 := cell_blk yat 3
  have y4 := cell_blk yat 4
  have y5 := cell_blk yat 5
  have y6 := cell_blk yat 6
  have y7 := cell_blk yat 7
  have y8 := cell_blk yat 8
  have y9 := cell_blk yat 9
  have y10 := cell_blk yat 10
  have y11 := cell_blk yat 11
  have yf1 := free_blk yat 1
  have yf2 := free_blk yat 2
  have yf3 := free_blk yat 3
  have yf4 := free_blk yat 4
  have yf5 := free_blk yat 5
  have yf6 := free_blk yat 6
  have yf7 := free_blk yat 7
  have yf8 := free_blk yat 8
  have yf9 := free_blk yat 9
  have yf10 := free_blk yat 10
  have yf11 := free_blk yat 11
  have ys := lt_of_block yat
  clear yat
  have qat := B8.out.o3.at_
  have q0 := cell_blk qat 0
  have qf0 := free_blk qat 0
  have qs := lt_of_block qat
  clear qat
  go_wp2_with fail
  refine (write_Commit _ L _ _ (B8.out).m.st g _ (HG.out _ HJ8.out) h (2 + more) 0 out _ HSW.out (by omega) (ok_of HN.out X7.out)).mono ?_
  intro e W9 hP
  rcases (B8.out).call hP with ⟨⟨ok9, e9⟩, s9, J9, v9, hr, rfl, rfl, hg, hB⟩ | ⟨s', J', hr, rfl, hM⟩
  rotate_left
  · exact (HP.out (congrArg Prod.fst (x_paused X7.out hr))).elim
  have B9 := Lib.hid hB
  have G9 := Lib.hid hg
  have X9 := Ex.mk (x_ret X7.out hr)
  clear hP hr hg hB
  have HJ9 := Lib.hid (HJ8.out.trans G9.out.le)
  have HSW9 := Lib.hid (HSW.out.mono G9.out.le)
  clear B8 HJ8 G9 X7 HSW y1 y2 y3 y4 y5 y6 y7 y8 y9 y10 y11 yf1 yf2 yf3 yf4 yf5 yf6 yf7 yf8 yf9 yf10 yf11 ys q0 qf0 qs
  dsimp only at X9 ⊢
  have yat := B9.out.o0.at_
  have y1 := cell_blk yat 1
  have y2 := cell_blk yat 2
  have y3 := cell_blk yat 3
  have y4 := cell_blk yat 4
  have y5 := cell_blk yat 5
  have y6 := cell_blk yat 6
  have y7 := cell_blk yat 7
  have y8 := cell_blk yat 8
  have y9 := cell_blk yat 9
  have y10 := cell_blk yat 10
  have y11 := cell_blk yat 11
  have yf1 := free_blk yat 1
  have yf2 := free_blk yat 2
  have yf3 := free_blk yat 3
  have yf4 := free_blk yat 4
  have yf5 := free_blk yat 5
  have yf6 := free_blk yat 6
  have yf7 := free_blk yat 7
  have yf8 := free_blk yat 8
  have yf9 := free_blk yat 9
  have yf10 := free_blk yat 10
  have yf11 := free_blk yat 11
  have ys := lt_of_block yat
  clear yat
  go_wp2_with fail
  refine (write_Settled _ L _ _ (B9.out).m.st g _ (HG.out _ HJ9.out) F0 (ok_of HN.out X9.out)).mono ?_
  intro e W10 hP
  rcases (B9.out).call hP with ⟨⟨h10, z, e10⟩, s10, J10, v10, hr, rfl, ⟨zx, rfl, hz⟩, hg, hB⟩ | ⟨s', J', hr, rfl, hM⟩
  rotate_left
  · exact (HP.out (congrArg Prod.fst (x_paused X9.out hr))).elim
  have B10 := Lib.hid hB
  have G10 := Lib.hid hg
  have X10 := Ex.mk (x_ret X9.out hr)
  clear hP hr hg hB
  obtain ⟨za, zc, rfl, _⟩ := hz.form
  have HSW10 := Lib.hid (HSW9.out.mono G10.out.le)
  clear B9 HJ9 G10 X9 HSW9 hz y1 y2 y3 y4 y5 y6 y7 y8 y9 y10 y11 yf1 yf2 yf3 yf4 yf5 yf6 yf7 yf8 yf9 yf10 yf11 ys
  dsimp only at X10 ⊢
  by_cases hc : e9 = 0 ∧ e10 = 0 ∧ ok9 = !false
  rotate_left
  · exact (stuck_not HN.out (x_else X10.out hc)).elim
  have X11 := Ex.mk (x_if X10.out hc)
  obtain ⟨rfl, rfl, rfl⟩ := hc
  clear X10
  obtain ⟨rest, hrest, X12⟩ : ∃ rest : Prog WcR, rest = (wcReaps (fun freed => do let l2 ← pLive; return (z.version, freed, l2, live)) 200 0 0) ∧ Ex R0 ((wcWords rest false out 0).exec s10) := ⟨_, rfl, X11⟩
  have HRE := Lib.hid hrest
  clear hrest X11
  have lat := B10.out.o2.at_
  have l0 := cell_blk lat 0
  have lf0 := free_blk lat 0
  have ls := lt_of_block lat
  clear lat
  go_wp2_with fail
  have B12 := Lib.hid (B10.out.fresh #[.int .i64 z.version, .int .i64 z.before, .int .i64 z.status, .slice za z.swaps.length zc] 46 rfl)
  clear B10 l0 lf0 ls
  generalize W10.heap.size = bz at *
  generalize W10.alloc (.cells #[.int .i64 z.version, .int .i64 z.before, .int .i64 z.status, .slice za z.swaps.length zc] 46) = W12 at *
  go_loopg [23] out.length (fun m iv W => ∃ (J2 : IHeap) (s' : PS) (i : Nat), iv = .int .i64 i ∧ i + m = out.length ∧ Hid (ILe J10 J2) ∧ Hid (Bag w0 L I0 J2 s' W [.blk bz #[.int .i64 z.version, .int .i64 z.before, .int .i64 z.status, .slice za z.swaps.length zc] 46, .blk bY #[.pointer (some ⟨L.m, 0, none⟩), .int .i64 g.first, .int .i64 g.reg.top, .slice ga g.reg.slots.length gc, .slice gb g.reg.snaps.length gd, .int .i64 g.conf.cells, .int .i64 g.conf.clients, .int .i64 g.conf.snaps, .int .i64 g.conf.levels, .int .i64 g.conf.low, .int .i64 g.conf.high, .int .i64 g.conf.top] 31, .blk bw #[.int .u8 words] 5, .blk bl #[.bool false] 4, .blk bm #[.int .u8 more] 5]) ∧ Ex R0 ((wcWords rest false (out.drop i) i).exec s'))
  case atStart => exact ⟨J10, s10, 0, rfl, by simp, Lib.hid (ILe.refl _), B12, X12⟩
  case round =>
  clear B12 X12
  obtain ⟨J13, s13, i', rfl, hi', HJ13, B13, X13⟩ := hrel
  by_cases hlt : i' < out.length
  · have hd1 : decide ((i' : Int) < out.length) = true := decide_eq_true (by omega)
    obtain ⟨b, off, rfl, _, hcell⟩ := Sl.cell B13.out.m.st.held (HSW10.out.mono HJ13.out) (fun _ => rfl) (by omega)
    have hx := List.getElem?_eq_getElem hlt
    have c0 : wr.cell? ⟨b, off + i' * 3, none⟩ = _ := hcell i' 0 _ _ hx rfl
    have E := Lib.hid (List.drop_eq_getElem_cons hlt)
    rw [E.out] at X13
    generalize out[i'] = x at c0 X13
    have X14 := Ex.mk (show R0 = (do let y ← pWord x.cell; if y.2 = 0 ∧ y.1 = (if false = true then (i' : Int) else 100 + (i' : Int)) then wcWords rest false (out.drop (i' + 1)) ((i' : Int) + 1) else .stuck : Prog WcR).exec s13 from X13.out)
    clear hcell hx E X13
    go_wp2_with fail
    refine (port_Word _ L _ _ (B13.out).m.st x.cell (ok_of HN.out X14.out)).mono ?_
    intro e W15 hP
    rcases (B13.out).call hP with ⟨⟨n15, e15⟩, s15, J15, v15, hr, rfl, rfl, hg, hB⟩ | ⟨s', J', hr, rfl, hM⟩
    rotate_left
    · exact (HP.out (congrArg Prod.fst (x_paused X14.out hr))).elim
    have B15 := Lib.hid hB
    have G15 := Lib.hid hg
    have X15 := Ex.mk (x_ret X14.out hr)
    clear hP hr hg hB
    have HJ15 := Lib.hid (HJ13.out.trans G15.out.le)
    clear B13 HJ13 G15 X14 c0
    dsimp only at X15
    by_cases hc : e15 = 0 ∧ n15 = (if false = true then (i' : Int) else 100 + (i' : Int))
    rotate_left
    · exact (stuck_not HN.out (x_else X15.out hc)).elim
    have X16 := Ex.mk (x_if X15.out hc)
    rw [if_neg (by decide)] at hc
    obtain ⟨rfl, rfl⟩ := hc
    clear X15
    have lat := B15.out.o3.at_
    have l0 := cell_blk lat 0
    have lf0 := free_blk lat 0
    have ls := lt_of_block lat
    clear lat
    go_wp2
    go_roundg (gk - 1)
    case measure => omega
    case rel => exact ⟨J15, s15, i' + 1, by simp, by omega, HJ15, B15, by rw [show ((i' + 1 : Nat) : Int) = (i' : Int) + 1 from rfl]; exact X16⟩
  have h0 : List.drop i' out = [] := List.drop_eq_nil_of_le (by omega)
  rw [h0] at X13
  have hd1 : decide ((i' : Int) < out.length) = false := decide_eq_false (by omega)
  have X14 := Ex.mk (show R0 = rest.exec s13 from X13.out)
  rw [HRE.out] at X14
  clear X13 h0 HRE HJ13 hi'
  have lat := B13.out.o3.at_
  have l0 := cell_blk lat 0
  have lf0 := free_blk lat 0
  have ls := lt_of_block lat
  clear lat
  go_wp2_with fail
  clear hd1 hlt l0 lf0 ls
  go_loopg [26, 27] 200 (fun m fv iv W => ∃ (J2 : IHeap) (s' : PS) (i f : Nat), iv = .int .i64 i ∧ fv = .int .i64 f ∧ i + m = 200 ∧ f ≤ i ∧ Hid (Bag w0 L I0 J2 s' W [.blk bz #[.int .i64 z.version, .int .i64 z.before, .int .i64 z.status, .slice za z.swaps.length zc] 46, .blk bY #[.pointer (some ⟨L.m, 0, none⟩), .int .i64 g.first, .int .i64 g.reg.top, .slice ga g.reg.slots.length gc, .slice gb g.reg.snaps.length gd, .int .i64 g.conf.cells, .int .i64 g.conf.clients, .int .i64 g.conf.snaps, .int .i64 g.conf.levels, .int .i64 g.conf.low, .int .i64 g.conf.high, .int .i64 g.conf.top] 31, .blk bw #[.int .u8 words] 5, .blk bl #[.bool false] 4, .blk bm #[.int .u8 more] 5]) ∧ Ex R0 ((wcReaps (fun freed => do let l2 ← pLive; return (z.version, freed, l2, live)) m i f).exec s'))
  case atStart => exact ⟨J13, s13, 0, 0, rfl, rfl, rfl, Nat.le_refl _, B13, X14⟩
  case round =>
  clear B13 X14
  obtain ⟨J13, s13, i', f, rfl, rfl, hi', hf, B13, X14⟩ := hrel
  cases gk with
  | zero => exact (stuck_not HN.out X14.out).elim
  | succ m =>
  rw [wcReaps_succ] at X14
  go_wp2_with fail
  refine (port_Cells _ L _ _ B13.out.m.st).mono ?_
  intro e15 W15 hP
  rcases B13.out.call hP with ⟨n, s15, J15, v15, hr, rfl, rfl, _, hB⟩ | ⟨s', J', hr, _, _⟩
  rotate_left
  · cases hr
  have X15 := Ex.mk (x_ret X14.out hr)
  have B15 := Lib.hid hB
  clear hP hr hB B13 X14
  by_cases hin : (i' : Int) < n
  · have hd2 : decide ((i' : Int) < n) = true := decide_eq_true hin
    have X16 := Ex.mk (x_if X15.out hin)
    go_wp2_with fail
    refine (port_Reap _ L _ _ (B15.out).m.st i' 0 (ok_of HN.out X16.out)).mono ?_
    intro e W17 hP
    rcases (B15.out).call hP with ⟨⟨a17, e17⟩, s17, J17, v17, hr, rfl, rfl, hg, hB⟩ | ⟨s', J', hr, rfl, hM⟩
    rotate_left
    · exact (HP.out (congrArg Prod.fst (x_paused X16.out hr))).elim
    have B17 := Lib.hid hB
    have G17 := Lib.hid hg
    have X17 := Ex.mk (x_ret X16.out hr)
    clear hP hr hg hB
    clear X15 X16 B15 hin hd2 G17
    dsimp only at X17 ⊢
    by_cases hc : a17 = false ∧ e17 = 0
    rotate_left
    · exact (stuck_not HN.out (x_else X17.out hc)).elim
    have X18 := Ex.mk (x_if X17.out hc)
    obtain ⟨rfl, rfl⟩ := hc
    clear X17
    go_wp2_with fail
    refine (port_Reap _ L _ _ (B17.out).m.st i' 1 (ok_of HN.out X18.out)).mono ?_
    intro e W19 hP
    rcases (B17.out).call hP with ⟨⟨a19, e19⟩, s19, J19, v19, hr, rfl, rfl, hg, hB⟩ | ⟨s', J', hr, rfl, hM⟩
    rotate_left
    · exact (HP.out (congrArg Prod.fst (x_paused X18.out hr))).elim
    have B19 := Lib.hid hB
    have G19 := Lib.hid hg
    have X19 := Ex.mk (x_ret X18.out hr)
    clear hP hr hg hB
    clear X18 B17 G19
    dsimp only at X19 ⊢
    cases a19 with
    | true =>
      rw [if_pos rfl] at X19
      go_wp2
      go_roundg m
      case measure => omega
      case rel => exact ⟨J19, s19, i' + 1, f + 1, by simp, by simp, by omega, by omega, B19, by rw [show ((i' + 1 : Nat) : Int) = (i' : Int) + 1 from rfl, show ((f + 1 : Nat) : Int) = (f : Int) + 1 from rfl]; exact X19⟩
    | false =>
      rw [if_neg (by decide)] at X19
      go_wp2
      go_roundg m
      case measure => omega
      case rel => exact ⟨J19, s19, i' + 1, f, by simp, rfl, by omega, by omega, B19, by rw [show ((i' + 1 : Nat) : Int) = (i' : Int) + 1 from rfl]; exact X19⟩
  have hd2 : decide ((i' : Int) < n) = false := decide_eq_false hin
  have X16 := Ex.mk (x_else X15.out hin)
  have X17 := Ex.mk (x_ret X16.out (show pLive.exec s15 = (.ret s15.mem.live, s15) from rfl))
  obtain ⟨hz1, hz2, hz3⟩ := HR.out _ (by rw [X17.out]; rfl)
  simp only [if_neg, Bool.false_eq_true, not_false_eq_true] at hz1 hz2
  dsimp only at hz3
  have hf2 : f = 2 := by omega
  subst hf2
  have zat := B15.out.o0.at_
  have z0 := cell_blk zat 0
  have zf0 := free_blk zat 0
  have zs := lt_of_block zat
  clear zat
  have yat := B15.out.o1.at_
  have y0 := cell_blk yat 0
  have yf0 := free_blk yat 0
  have ys := lt_of_block yat
  clear yat
  have qat := B15.out.o4.at_
  have q0 := cell_blk qat 0
  have qf0 := free_blk qat 0
  have qs := lt_of_block qat
  clear qat
  rw [hz1] at z0
  clear hin X15 X16 X17 hz2 hf
  go_wp2_with fail
  refine (mem_Live _ _ _ _ _ B15.out.m.st.mem).mono ?_
  rintro e20 W20 ⟨rfl, rfl⟩
  rw [hz3]
  dsimp only
  go_wp2
  first | (go_ret; exact HPQ.out _ _ _ (B15.out.sub (by simp))) | exact HPQ.out _ _ _ (B15.out.sub (by simp))
end Go.Proofs.YtadaiihoclknmaaGreat
/- Law 20: WriteCommits. -/
namespace Go.Proofs.YtadaiihoclknmaaGreat
open Go.RowKit
set_option maxHeartbeats 4000000
set_option maxRecDepth 100000
set_option linter.unusedVariables false
set_option linter.unusedSimpArgs false
theorem Yd.weak {w w1 W : World} {J : IHeap} {m cb : Nat} {M : Mem} {its : List It} (h : Yd w1 J W m cb M its) (hk : New w w1) : Yd w J W m cb M its := by
  have hs := hk.size
  refine ⟨hk.trans h.new, h.held, ⟨h.grow.le, fun k hk' => ?_⟩, h.mem, Nat.le_trans hs h.lom, Nat.le_trans hs h.loc, fun i hi => ?_⟩
  · rcases h.grow.new k hk' with h1 | h1
    · exact .inl h1
    · exact .inr (Nat.le_trans hs h1)
  · have := h.a i hi
    cases i with
    | blk b cs t => exact ⟨this.at_, this.ty, Nat.le_trans hs this.ge, this.no⟩
    | row E sz v n xs =>
      refine ⟨⟨this.own.1, ?_⟩, this.ty, this.no⟩
      rcases this.own.2 with h1 | ⟨g, cap, cur, h1, h2, h3⟩
      · exact .inl h1
      · exact .inr ⟨g, cap, cur, h1, Nat.le_trans hs h2, h3⟩
/-- A block that was there ahead of it. -/
theorem Yd.old {w w1 W : World} {J : IHeap} {m cb : Nat} {M : Mem} {its : List It} (h : Yd w J W m cb M its) (hJ : Grow I0 w1 J) (hk : New w1 W) {b : Nat} {cs : Array Value} {t : TypeId} (hb : w1.heap[b]? = some (.cells cs t (0, 0))) (hw : w.heap.size ≤ b) (ht : mutT t = false) : Yd w J W m cb M (.blk b cs t :: its) :=
  ⟨h.new, h.held, h.grow, h.mem, h.lom, h.loc, fun i hi => by
    rcases List.mem_cons.1 hi with rfl | hi
    · exact ⟨hk.obj hb, ht, hw, hJ.none rfl (lt_of_block hb)⟩
    · exact h.a i hi⟩
def OkR (w : World) (r : Ending) (W2 : World) : Prop := r = .returned (.bool true) ∧ New w W2
theorem law_commits (w : World) (words more : Int) (late : Bool) (hm0 : 0 ≤ more) (hm1 : more ≤ 255) (hw0 : 0 ≤ words) (hw1 : words ≤ 255) :
    Calls Tryz.prog 3 #[.int .u8 words, .int .u8 more, .bool late] w (OkR w) := by
  obtain ⟨k, hk, hk5⟩ : ∃ k : Nat, words % 6 = k ∧ k ≤ 5 := ⟨(words % 6).toNat, by omega, by omega⟩
  obtain ⟨g, s0, s1, h0, h1⟩ := wcQ_of (wc_all k hk5 late more)
  rw [← hk] at h1
  have HP := fun w => Lib.hid (law_plain w 100 100000)
  have HLAY := fun w => Lib.hid (law_lay w (plainC 100 100000) 100 rfl (by omega) (by omega) g 0 s0 h0)
  have HAW := fun w => Lib.hid (law_awake w)
  have hn : ((wcBody g (words % 6) late more).exec (ps0 s0.mem)).1.ok := by rw [h1]; trivial
  have hp : ((wcBody g (words % 6) late more).exec (ps0 s0.mem)).1 ≠ .paused := by rw [h1]; intro h; cases h
  have hr : ∀ a, ((wcBody g (words % 6) late more).exec (ps0 s0.mem)).1 = .ret a → wcWant late more a := by
    rw [h1]
    intro a h
    injection h with h
    subst h
    unfold wcWant
    cases late <;> exact ⟨rfl, rfl, rfl⟩
  have HC := Lib.hid (fun (w0 W : World) (L : Loc) (J : IHeap) (x : GC) (bY bw bl bm : Nat) B hG => law_commits1 (w0 := w0) (W := W) (L := L) (J := J) (s := ps0 s0.mem) g x bY bw bl bm words more late hm0 hm1 hw0 hw1 B hG hn hp hr)
  clear h0 h1 hn hp hr hk hk5 hm0 hm1 hw0 hw1
  generalize plainC 100 100000 = c at *
  have o1 := alloc_old (q := .cells #[.bool late] 4) (alloc_old (q := .cells #[.int .u8 more] 5) (alloc_new w (.cells #[.int .u8 words] 5)))
  have o2 := alloc_old (q := .cells #[.bool late] 4) (alloc_at (W := w.alloc (.cells #[.int .u8 words] 5)) (o := .cells #[.int .u8 more] 5) (s := w.heap.size + 1) (by simp))
  have o3 := alloc_at (W := (w.alloc (.cells #[.int .u8 words] 5)).alloc (.cells #[.int .u8 more] 5)) (o := .cells #[.bool late] 4) (s := w.heap.size + 1 + 1) (by simp)
  have k0 : New w (((w.alloc (.cells #[.int .u8 words] 5)).alloc (.cells #[.int .u8 more] 5)).alloc (.cells #[.bool late] 4)) := (((Kept.refl _ _).alloc _).alloc _).alloc _
  have O1 := Lib.hid o1
  have O2 := Lib.hid o2
  have O3 := Lib.hid o3
  have K0 := Lib.hid k0
  clear o1 o2 o3 k0
  go_enter Tryz.func3, Tryz.ntmps3
  go_wp2_with fail
  refine (HP _).out.mono ?_
  rintro e1 W1 ⟨rfl, hk1⟩
  have K1 := Lib.hid (K0.out.trans hk1)
  have P1 := Lib.hid (New.obj hk1 O1.out)
  have P2 := Lib.hid (New.obj hk1 O2.out)
  have P3 := Lib.hid (New.obj hk1 O3.out)
  clear hk1 HP K0 O1 O2 O3
  go_wp2_with fail
  refine (HLAY _).out.mono ?_
  rintro e2 W2 ⟨J, m, cb, ⟨ga, gb, gc, gd⟩, rfl, hY, hG⟩
  have Y2 := Lib.hid (((hY.weak K1.out).old hY.grow hY.new P3.out (by omega) rfl).old hY.grow hY.new P2.out (by omega) rfl)
  have Y3 := Lib.hid (Y2.out.old hY.grow hY.new P1.out (Nat.le_refl _) rfl)
  have HG := Lib.hid hG
  have HXC := Lib.hid (show (⟨ga, gb, gc, gd⟩ : GC).cells g = [.int .i64 g.first, .int .i64 g.reg.top, .slice ga g.reg.slots.length gc, .slice gb g.reg.snaps.length gd, .int .i64 g.conf.cells, .int .i64 g.conf.clients, .int .i64 g.conf.snaps, .int .i64 g.conf.levels, .int .i64 g.conf.low, .int .i64 g.conf.high, .int .i64 g.conf.top] from rfl)
  rw [HXC.out]
  simp only [List.append_toArray, List.cons_append, List.nil_append]
  clear hY hG HLAY Y2 P1 P2 P3 K1
  go_wp2_with fail
  have Y4 := Lib.hid (Y3.out.freshAt W2.heap.size rfl #[.pointer (some ⟨m, 0, none⟩), .int .i64 g.first, .int .i64 g.reg.top, .slice ga g.reg.slots.length gc, .slice gb g.reg.snaps.length gd, .int .i64 g.conf.cells, .int .i64 g.conf.clients, .int .i64 g.conf.snaps, .int .i64 g.conf.levels, .int .i64 g.conf.low, .int .i64 g.conf.high, .int .i64 g.conf.top] 31 rfl)
  clear Y3
  generalize W2.heap.size = bY at *
  refine (HAW _).out.mono ?_
  rintro e3 W3 ⟨rfl, hk3⟩
  have Y5 := Lib.hid (Y4.out.step hk3)
  clear Y4 hk3 HAW
  have yat := Y5.out.o0.at_
  have y0 := cell_blk yat 0
  have yf0 := free_blk yat 0
  have ys := lt_of_block yat
  clear yat
  go_wp2_with fail
  have hb := Y5.out.new.size
  have HE := Lib.hid (show (#[.pointer (some ⟨m, 0, none⟩)] ++ ((⟨ga, gb, gc, gd⟩ : GC).cells g).toArray : Array Value) = #[.pointer (some ⟨m, 0, none⟩), .int .i64 g.first, .int .i64 g.reg.top, .slice ga g.reg.slots.length gc, .slice gb g.reg.snaps.length gd, .int .i64 g.conf.cells, .int .i64 g.conf.clients, .int .i64 g.conf.snaps, .int .i64 g.conf.levels, .int .i64 g.conf.low, .int .i64 g.conf.high, .int .i64 g.conf.top] from by rw [HXC.out]; simp only [List.append_toArray, List.cons_append, List.nil_append])
  refine (step_Do (Y5.out.sub (jts := [.blk bY #[.pointer (some ⟨m, 0, none⟩), .int .i64 g.first, .int .i64 g.reg.top, .slice ga g.reg.slots.length gc, .slice gb g.reg.snaps.length gd, .int .i64 g.conf.cells, .int .i64 g.conf.clients, .int .i64 g.conf.snaps, .int .i64 g.conf.levels, .int .i64 g.conf.low, .int .i64 g.conf.high, .int .i64 g.conf.top] 31, .blk w.heap.size #[.int .u8 words] 5, .blk (w.heap.size + 1 + 1) #[.bool late] 4, .blk (w.heap.size + 1) #[.int .u8 more] 5]) (by simp)) 18 _ (fun args W => enters Tryz.func18 (by kernel_rfl) rfl _ W) (fun v W4 => v = .iface 4 (.bool true) ∧ New w W4) (fun W3 B => ?_)).mono ?_
  · rw [← HE.out] at B
    refine (HC.out _ _ _ _ ⟨ga, gb, gc, gd⟩ bY _ _ _ B HG.out).mono ?_
    rintro r W4 ⟨v, rfl, rfl, J2, s2, hB⟩
    exact ⟨_, rfl, rfl, (hB.yd hb Y5.out.lom Y5.out.loc).new⟩
  rintro e3 W3 ⟨v, rfl, rfl, hk⟩
  have K3 := Lib.hid hk
  clear hk hb Y5 y0 yf0 ys
  go_wp2
  go_ret
  exact ⟨rfl, K3.out⟩
end Go.Proofs.YtadaiihoclknmaaGreat
