/- Part 6 of the proof: Port4, Walk, Clone. -/
import Derived.Test.YtadaiihoclknmaaGreatC05
/- The port's calls, part 2. -/
namespace Go.Proofs.YtadaiihoclknmaaGreat
open Go.RowKit
set_option maxHeartbeats 4000000
set_option maxRecDepth 100000
set_option linter.unusedVariables false
set_option linter.unusedSimpArgs false
theorem Store_do (w : World) (L : Loc) (I : IHeap) (M : Mem) (hM : MemAt w L.m L.cb I M) (bp : Nat) (hp : w.heap[bp]? = some (.cells #[.pointer (some ⟨L.p, 0, none⟩)] 39 (0, 0))) (bh : Nat) (h : Int) (hh : w.heap[bh]? = some (.cells #[.int .i64 h] 3 (0, 0))) (bn : Nat) (n : Int) (hn : w.heap[bn]? = some (.cells #[.int .i64 n] 3 (0, 0)))
    (hpm : w.cell? ⟨L.p, 0, none⟩ = some (.pointer (some ⟨L.m, 0, none⟩))) (hpn : L.p ≠ L.m ∧ L.p ≠ L.cb) :
    Calls Tryz.prog 175 #[.pointer (some ⟨bp, 0, none⟩), .pointer (some ⟨bh, 0, none⟩), .pointer (some ⟨bn, 0, none⟩)] w fun e w' => ∃ b, BlkV I b (M.ask (.store h n)).1.b ∧ e = .returned (.agg #[b, .int .i64 (M.ask (.store h n)).1.n, .bool (M.ask (.store h n)).1.ok, .int .i64 (M.ask (.store h n)).1.e]) ∧
    MemAt w' L.m L.cb I (M.ask (.store h n)).2 ∧ Kept (fun k => k = L.m ∨ k = L.cb) w w' := by
  have c0 := cell_blk hp 0
  have c_h := cell_blk hh 0
  have c_n := cell_blk hn 0
  have l0 := lt_of_block hp
  have l_h := lt_of_block hh
  have l_n := lt_of_block hn
  have l1 := World.block_lt_of_cell? w _ hpm
  have hm1 := lt_of_block hM.hd
  have hm2 := hM.cbLt
  have HF := Lib.hid (opStore_b M h n)
  have HM := Lib.hid hM
  have HS := Lib.hid (show ∀ o1 w', Kept (fun k => k = L.m ∨ k = L.cb) (w.alloc o1).drew w' → w'.cell? ⟨bp, 0, none⟩ = some (.pointer (some ⟨L.p, 0, none⟩)) ∧ w'.cell? ⟨L.p, 0, none⟩ = some (.pointer (some ⟨L.m, 0, none⟩)) ∧ w'.cell? ⟨bh, 0, none⟩ = some (.int .i64 h) ∧ w'.cell? ⟨bn, 0, none⟩ = some (.int .i64 n) from fun o1 w' hk => ⟨kept_cell hk c0 (box_ne hM hp (by decide) (by decide)), kept_cell hk hpm hpn, kept_cell hk c_h (box_ne hM hh (by decide) (by decide)), kept_cell hk c_n (box_ne hM hn (by decide) (by decide))⟩)
  clear hpn
  clear hM hp hh hn
  go_enter Tryz.func175, Tryz.ntmps175
  go_wp2
  go_region_held3 (fun w' => w'.cell? ⟨bp, 0, none⟩ = some (.pointer (some ⟨L.p, 0, none⟩)) ∧ w'.cell? ⟨L.p, 0, none⟩ = some (.pointer (some ⟨L.m, 0, none⟩)) ∧ w'.cell? ⟨bh, 0, none⟩ = some (.int .i64 h) ∧ w'.cell? ⟨bn, 0, none⟩ = some (.int .i64 n))
    (first | go_keep | exact HQ.out | (obtain ⟨q0, q1, q_h, q_n⟩ := HQ.out; refine ⟨?_, ?_, ?_, ?_⟩ <;> (repeat (refine cell_far ?_ _ (by dsimp only; omega) _)) <;> first | exact q0 | exact q1 | exact q_h | exact q_n))
    ((go_at_call 176; refine (mem_Store _ L.m L.cb I M h n ((HM.out.new ((Kept.refl _ _).alloc _)).drew)).mono ?_; rintro e w2 ⟨rfl, hM2, hK2⟩; have HQ := Lib.hid (HS.out _ _ hK2); have hres := closure_res hK2 hm1 hm2; have g0 := cell_blk hres 0; have g1 := cell_blk hres 1; have g2 := cell_blk hres 2; have g3 := cell_blk hres 3; have f0 := free_blk hres 0; have f1 := free_blk hres 1; have f2 := free_blk hres 2; have f3 := free_blk hres 3; have hsz := lt_of_block hres; clear hres; have HZ := Lib.hid (Kept.under hK2); have H2 := Lib.hid hM2; clear hM2 hK2))
  all_goals
    ·
      go_wp2
      refine bodyPost_ret (v := .agg #[.nilIface, .int .i64 0, .bool false, .int .i64 (M.opStore h n).1.e]) (by simp [results, Tryz.results175, go_sem, g0, g1, g2, g3, hsz]) rfl ?_
      refine ⟨_, by show BlkV I _ (M.opStore h n).1.b; rw [HF.out.1]; rfl, by simp [Mem.ask, HF.out], ?_, ?_⟩
      · repeat (first | exact H2.out | (refine MemAt.far ?_ (by show _ ≠ w.heap.size; omega) (by show _ ≠ w.heap.size; omega) _) | refine MemAt.drew ?_)
      · repeat (first | exact HZ.out | (refine Kept.setCell ?_ (fun hl => absurd hl (Nat.lt_irrefl _)) _) | refine Kept.drew ?_)
theorem Free_do (w : World) (L : Loc) (I : IHeap) (M : Mem) (hM : MemAt w L.m L.cb I M) (bp : Nat) (hp : w.heap[bp]? = some (.cells #[.pointer (some ⟨L.p, 0, none⟩)] 39 (0, 0))) (bh : Nat) (h : Int) (hh : w.heap[bh]? = some (.cells #[.int .i64 h] 3 (0, 0)))
    (hpm : w.cell? ⟨L.p, 0, none⟩ = some (.pointer (some ⟨L.m, 0, none⟩))) (hpn : L.p ≠ L.m ∧ L.p ≠ L.cb) :
    Calls Tryz.prog 160 #[.pointer (some ⟨bp, 0, none⟩), .pointer (some ⟨bh, 0, none⟩)] w fun e w' => ∃ b, BlkV I b (M.ask (.free h)).1.b ∧ e = .returned (.agg #[b, .int .i64 (M.ask (.free h)).1.n, .bool (M.ask (.free h)).1.ok, .int .i64 (M.ask (.free h)).1.e]) ∧
    MemAt w' L.m L.cb I (M.ask (.free h)).2 ∧ Kept (fun k => k = L.m ∨ k = L.cb) w w' := by
  have c0 := cell_blk hp 0
  have c_h := cell_blk hh 0
  have l0 := lt_of_block hp
  have l_h := lt_of_block hh
  have l1 := World.block_lt_of_cell? w _ hpm
  have hm1 := lt_of_block hM.hd
  have hm2 := hM.cbLt
  have HF := Lib.hid (opFree_b M h)
  have HM := Lib.hid hM
  have HS := Lib.hid (show ∀ o1 w', Kept (fun k => k = L.m ∨ k = L.cb) (w.alloc o1).drew w' → w'.cell? ⟨bp, 0, none⟩ = some (.pointer (some ⟨L.p, 0, none⟩)) ∧ w'.cell? ⟨L.p, 0, none⟩ = some (.pointer (some ⟨L.m, 0, none⟩)) ∧ w'.cell? ⟨bh, 0, none⟩ = some (.int .i64 h) from fun o1 w' hk => ⟨kept_cell hk c0 (box_ne hM hp (by decide) (by decide)), kept_cell hk hpm hpn, kept_cell hk c_h (box_ne hM hh (by decide) (by decide))⟩)
  clear hpn
  clear hM hp hh
  go_enter Tryz.func160, Tryz.ntmps160
  go_wp2
  go_region_held3 (fun w' => w'.cell? ⟨bp, 0, none⟩ = some (.pointer (some ⟨L.p, 0, none⟩)) ∧ w'.cell? ⟨L.p, 0, none⟩ = some (.pointer (some ⟨L.m, 0, none⟩)) ∧ w'.cell? ⟨bh, 0, none⟩ = some (.int .i64 h))
    (first | go_keep | exact HQ.out | (obtain ⟨q0, q1, q_h⟩ := HQ.out; refine ⟨?_, ?_, ?_⟩ <;> (repeat (refine cell_far ?_ _ (by dsimp only; omega) _)) <;> first | exact q0 | exact q1 | exact q_h))
    ((go_at_call 161; refine (mem_Free _ L.m L.cb I M h ((HM.out.new ((Kept.refl _ _).alloc _)).drew)).mono ?_; rintro e w2 ⟨rfl, hM2, hK2⟩; have HQ := Lib.hid (HS.out _ _ hK2); have hres := closure_res hK2 hm1 hm2; have g0 := cell_blk hres 0; have g1 := cell_blk hres 1; have g2 := cell_blk hres 2; have g3 := cell_blk hres 3; have f0 := free_blk hres 0; have f1 := free_blk hres 1; have f2 := free_blk hres 2; have f3 := free_blk hres 3; have hsz := lt_of_block hres; clear hres; have HZ := Lib.hid (Kept.under hK2); have H2 := Lib.hid hM2; clear hM2 hK2))
  all_goals
    ·
      go_wp2
      refine bodyPost_ret (v := .agg #[.nilIface, .int .i64 0, .bool false, .int .i64 (M.opFree h).1.e]) (by simp [results, Tryz.results160, go_sem, g0, g1, g2, g3, hsz]) rfl ?_
      refine ⟨_, by show BlkV I _ (M.opFree h).1.b; rw [HF.out.1]; rfl, by simp [Mem.ask, HF.out], ?_, ?_⟩
      · repeat (first | exact H2.out | (refine MemAt.far ?_ (by show _ ≠ w.heap.size; omega) (by show _ ≠ w.heap.size; omega) _) | refine MemAt.drew ?_)
      · repeat (first | exact HZ.out | (refine Kept.setCell ?_ (fun hl => absurd hl (Nat.lt_irrefl _)) _) | refine Kept.drew ?_)
theorem Retire_do (w : World) (L : Loc) (I : IHeap) (M : Mem) (hM : MemAt w L.m L.cb I M) (bp : Nat) (hp : w.heap[bp]? = some (.cells #[.pointer (some ⟨L.p, 0, none⟩)] 39 (0, 0))) (bh : Nat) (h : Int) (hh : w.heap[bh]? = some (.cells #[.int .i64 h] 3 (0, 0))) (bn : Nat) (n : Int) (hn : w.heap[bn]? = some (.cells #[.int .i64 n] 3 (0, 0)))
    (hpm : w.cell? ⟨L.p, 0, none⟩ = some (.pointer (some ⟨L.m, 0, none⟩))) (hpn : L.p ≠ L.m ∧ L.p ≠ L.cb) :
    Calls Tryz.prog 194 #[.pointer (some ⟨bp, 0, none⟩), .pointer (some ⟨bh, 0, none⟩), .pointer (some ⟨bn, 0, none⟩)] w fun e w' => ∃ b, BlkV I b (M.ask (.retire h n)).1.b ∧ e = .returned (.agg #[b, .int .i64 (M.ask (.retire h n)).1.n, .bool (M.ask (.retire h n)).1.ok, .int .i64 (M.ask (.retire h n)).1.e]) ∧
    MemAt w' L.m L.cb I (M.ask (.retire h n)).2 ∧ Kept (fun k => k = L.m ∨ k = L.cb) w w' := by
  have c0 := cell_blk hp 0
  have c_h := cell_blk hh 0
  have c_n := cell_blk hn 0
  have l0 := lt_of_block hp
  have l_h := lt_of_block hh
  have l_n := lt_of_block hn
  have l1 := World.block_lt_of_cell? w _ hpm
  have hm1 := lt_of_block hM.hd
  have hm2 := hM.cbLt
  have HF := Lib.hid (opRetire_b M h n)
  have HM := Lib.hid hM
  have HS := Lib.hid (show ∀ o1 w', Kept (fun k => k = L.m ∨ k = L.cb) (w.alloc o1).drew w' → w'.cell? ⟨bp, 0, none⟩ = some (.pointer (some ⟨L.p, 0, none⟩)) ∧ w'.cell? ⟨L.p, 0, none⟩ = some (.pointer (some ⟨L.m, 0, none⟩)) ∧ w'.cell? ⟨bh, 0, none⟩ = some (.int .i64 h) ∧ w'.cell? ⟨bn, 0, none⟩ = some (.int .i64 n) from fun o1 w' hk => ⟨kept_cell hk c0 (box_ne hM hp (by decide) (by decide)), kept_cell hk hpm hpn, kept_cell hk c_h (box_ne hM hh (by decide) (by decide)), kept_cell hk c_n (box_ne hM hn (by decide) (by decide))⟩)
  clear hpn
  clear hM hp hh hn
  go_enter Tryz.func194, Tryz.ntmps194
  go_wp2
  go_region_held3 (fun w' => w'.cell? ⟨bp, 0, none⟩ = some (.pointer (some ⟨L.p, 0, none⟩)) ∧ w'.cell? ⟨L.p, 0, none⟩ = some (.pointer (some ⟨L.m, 0, none⟩)) ∧ w'.cell? ⟨bh, 0, none⟩ = some (.int .i64 h) ∧ w'.cell? ⟨bn, 0, none⟩ = some (.int .i64 n))
    (first | go_keep | exact HQ.out | (obtain ⟨q0, q1, q_h, q_n⟩ := HQ.out; refine ⟨?_, ?_, ?_, ?_⟩ <;> (repeat (refine cell_far ?_ _ (by dsimp only; omega) _)) <;> first | exact q0 | exact q1 | exact q_h | exact q_n))
    ((go_at_call 195; refine (mem_Retire _ L.m L.cb I M h n ((HM.out.new ((Kept.refl _ _).alloc _)).drew)).mono ?_; rintro e w2 ⟨rfl, hM2, hK2⟩; have HQ := Lib.hid (HS.out _ _ hK2); have hres := closure_res hK2 hm1 hm2; have g0 := cell_blk hres 0; have g1 := cell_blk hres 1; have g2 := cell_blk hres 2; have g3 := cell_blk hres 3; have f0 := free_blk hres 0; have f1 := free_blk hres 1; have f2 := free_blk hres 2; have f3 := free_blk hres 3; have hsz := lt_of_block hres; clear hres; have HZ := Lib.hid (Kept.under hK2); have H2 := Lib.hid hM2; clear hM2 hK2))
  all_goals
    ·
      go_wp2
      refine bodyPost_ret (v := .agg #[.nilIface, .int .i64 0, .bool false, .int .i64 (M.opRetire h n).1.e]) (by simp [results, Tryz.results194, go_sem, g0, g1, g2, g3, hsz]) rfl ?_
      refine ⟨_, by show BlkV I _ (M.opRetire h n).1.b; rw [HF.out.1]; rfl, by simp [Mem.ask, HF.out], ?_, ?_⟩
      · repeat (first | exact H2.out | (refine MemAt.far ?_ (by show _ ≠ w.heap.size; omega) (by show _ ≠ w.heap.size; omega) _) | refine MemAt.drew ?_)
      · repeat (first | exact HZ.out | (refine Kept.setCell ?_ (fun hl => absurd hl (Nat.lt_irrefl _)) _) | refine Kept.drew ?_)
theorem Swap_do (w : World) (L : Loc) (I : IHeap) (M : Mem) (hM : MemAt w L.m L.cb I M) (bp : Nat) (hp : w.heap[bp]? = some (.cells #[.pointer (some ⟨L.p, 0, none⟩)] 39 (0, 0))) (bh : Nat) (h : Int) (hh : w.heap[bh]? = some (.cells #[.int .i64 h] 3 (0, 0))) (bo : Nat) (o : Int) (ho : w.heap[bo]? = some (.cells #[.int .i64 o] 3 (0, 0))) (bn : Nat) (n : Int) (hn : w.heap[bn]? = some (.cells #[.int .i64 n] 3 (0, 0)))
    (hpm : w.cell? ⟨L.p, 0, none⟩ = some (.pointer (some ⟨L.m, 0, none⟩))) (hpn : L.p ≠ L.m ∧ L.p ≠ L.cb) :
    Calls Tryz.prog 190 #[.pointer (some ⟨bp, 0, none⟩), .pointer (some ⟨bh, 0, none⟩), .pointer (some ⟨bo, 0, none⟩), .pointer (some ⟨bn, 0, none⟩)] w fun e w' => ∃ b, BlkV I b (M.ask (.swap h o n)).1.b ∧ e = .returned (.agg #[b, .int .i64 (M.ask (.swap h o n)).1.n, .bool (M.ask (.swap h o n)).1.ok, .int .i64 (M.ask (.swap h o n)).1.e]) ∧
    MemAt w' L.m L.cb I (M.ask (.swap h o n)).2 ∧ Kept (fun k => k = L.m ∨ k = L.cb) w w' := by
  have c0 := cell_blk hp 0
  have c_h := cell_blk hh 0
  have c_o := cell_blk ho 0
  have c_n := cell_blk hn 0
  have l0 := lt_of_block hp
  have l_h := lt_of_block hh
  have l_o := lt_of_block ho
  have l_n := lt_of_block hn
  have l1 := World.block_lt_of_cell? w _ hpm
  have hm1 := lt_of_block hM.hd
  have hm2 := hM.cbLt
  have HF := Lib.hid (opSwap_b M h o n)
  have HM := Lib.hid hM
  have HS := Lib.hid (show ∀ o1 w', Kept (fun k => k = L.m ∨ k = L.cb) (w.alloc o1).drew w' → w'.cell? ⟨bp, 0, none⟩ = some (.pointer (some ⟨L.p, 0, none⟩)) ∧ w'.cell? ⟨L.p, 0, none⟩ = some (.pointer (some ⟨L.m, 0, none⟩)) ∧ w'.cell? ⟨bh, 0, none⟩ = some (.int .i64 h) ∧ w'.cell? ⟨bo, 0, none⟩ = some (.int .i64 o) ∧ w'.cell? ⟨bn, 0, none⟩ = some (.int .i64 n) from fun o1 w' hk => ⟨kept_cell hk c0 (box_ne hM hp (by decide) (by decide)), kept_cell hk hpm hpn, kept_cell hk c_h (box_ne hM hh (by decide) (by decide)), kept_cell hk c_o (box_ne hM ho (by decide) (by decide)), kept_cell hk c_n (box_ne hM hn (by decide) (by decide))⟩)
  clear hpn
  clear hM hp hh ho hn
  go_enter Tryz.func190, Tryz.ntmps190
  go_wp2
  go_region_held3 (fun w' => w'.cell? ⟨bp, 0, none⟩ = some (.pointer (some ⟨L.p, 0, none⟩)) ∧ w'.cell? ⟨L.p, 0, none⟩ = some (.pointer (some ⟨L.m, 0, none⟩)) ∧ w'.cell? ⟨bh, 0, none⟩ = some (.int .i64 h) ∧ w'.cell? ⟨bo, 0, none⟩ = some (.int .i64 o) ∧ w'.cell? ⟨bn, 0, none⟩ = some (.int .i64 n))
    (first | go_keep | exact HQ.out)
    ((go_at_call 191; refine (mem_Swap _ L.m L.cb I M h o n ((HM.out.new ((Kept.refl _ _).alloc _)).drew)).mono ?_; rintro e w2 ⟨rfl, hM2, hK2⟩; have HQ := Lib.hid (HS.out _ _ hK2); have hres := closure_res hK2 hm1 hm2; have g0 := cell_blk hres 0; have g1 := cell_blk hres 1; have g2 := cell_blk hres 2; have g3 := cell_blk hres 3; have f0 := free_blk hres 0; have f1 := free_blk hres 1; have f2 := free_blk hres 2; have f3 := free_blk hres 3; have hsz := lt_of_block hres; clear hres; have HZ := Lib.hid (Kept.under hK2); have H2 := Lib.hid hM2; clear hM2 hK2))
  all_goals
    ·
      go_wp2
      refine bodyPost_ret (v := .agg #[.nilIface, .int .i64 0, .bool (M.opSwap h o n).1.ok, .int .i64 (M.opSwap h o n).1.e]) (by simp [results, Tryz.results190, go_sem, g0, g1, g2, g3, hsz]) rfl ?_
      refine ⟨_, by show BlkV I _ (M.opSwap h o n).1.b; rw [HF.out.1]; rfl, by simp [Mem.ask, HF.out], ?_, ?_⟩
      · repeat (first | exact H2.out | (refine MemAt.far ?_ (by show _ ≠ w.heap.size; omega) (by show _ ≠ w.heap.size; omega) _) | refine MemAt.drew ?_)
      · repeat (first | exact HZ.out | (refine Kept.setCell ?_ (fun hl => absurd hl (Nat.lt_irrefl _)) _) | refine Kept.drew ?_)
theorem Reap_do (w : World) (L : Loc) (I : IHeap) (M : Mem) (hM : MemAt w L.m L.cb I M) (bp : Nat) (hp : w.heap[bp]? = some (.cells #[.pointer (some ⟨L.p, 0, none⟩)] 39 (0, 0))) (bh : Nat) (h : Int) (hh : w.heap[bh]? = some (.cells #[.int .i64 h] 3 (0, 0))) (bn : Nat) (n : Int) (hn : w.heap[bn]? = some (.cells #[.int .i64 n] 3 (0, 0)))
    (hpm : w.cell? ⟨L.p, 0, none⟩ = some (.pointer (some ⟨L.m, 0, none⟩))) (hpn : L.p ≠ L.m ∧ L.p ≠ L.cb) :
    Calls Tryz.prog 97 #[.pointer (some ⟨bp, 0, none⟩), .pointer (some ⟨bh, 0, none⟩), .pointer (some ⟨bn, 0, none⟩)] w fun e w' => ∃ b, BlkV I b (M.ask (.reap h n)).1.b ∧ e = .returned (.agg #[b, .int .i64 (M.ask (.reap h n)).1.n, .bool (M.ask (.reap h n)).1.ok, .int .i64 (M.ask (.reap h n)).1.e]) ∧
    MemAt w' L.m L.cb I (M.ask (.reap h n)).2 ∧ Kept (fun k => k = L.m ∨ k = L.cb) w w' := by
  have c0 := cell_blk hp 0
  have c_h := cell_blk hh 0
  have c_n := cell_blk hn 0
  have l0 := lt_of_block hp
  have l_h := lt_of_block hh
  have l_n := lt_of_block hn
  have l1 := World.block_lt_of_cell? w _ hpm
  have hm1 := lt_of_block hM.hd
  have hm2 := hM.cbLt
  have HF := Lib.hid (opReap_b M h n)
  have HM := Lib.hid hM
  have HS := Lib.hid (show ∀ o1 w', Kept (fun k => k = L.m ∨ k = L.cb) (w.alloc o1).drew w' → w'.cell? ⟨bp, 0, none⟩ = some (.pointer (some ⟨L.p, 0, none⟩)) ∧ w'.cell? ⟨L.p, 0, none⟩ = some (.pointer (some ⟨L.m, 0, none⟩)) ∧ w'.cell? ⟨bh, 0, none⟩ = some (.int .i64 h) ∧ w'.cell? ⟨bn, 0, none⟩ = some (.int .i64 n) from fun o1 w' hk => ⟨kept_cell hk c0 (box_ne hM hp (by decide) (by decide)), kept_cell hk hpm hpn, kept_cell hk c_h (box_ne hM hh (by decide) (by decide)), kept_cell hk c_n (box_ne hM hn (by decide) (by decide))⟩)
  clear hpn
  clear hM hp hh hn
  go_enter Tryz.func97, Tryz.ntmps97
  go_wp2
  go_region_held3 (fun w' => w'.cell? ⟨bp, 0, none⟩ = some (.pointer (some ⟨L.p, 0, none⟩)) ∧ w'.cell? ⟨L.p, 0, none⟩ = some (.pointer (some ⟨L.m, 0, none⟩)) ∧ w'.cell? ⟨bh, 0, none⟩ = some (.int .i64 h) ∧ w'.cell? ⟨bn, 0, none⟩ = some (.int .i64 n))
    (first | go_keep | exact HQ.out)
    ((go_at_call 98; refine (mem_Reap _ L.m L.cb I M h n ((HM.out.new ((Kept.refl _ _).alloc _)).drew)).mono ?_; rintro e w2 ⟨rfl, hM2, hK2⟩; have HQ := Lib.hid (HS.out _ _ hK2); have hres := closure_res hK2 hm1 hm2; have g0 := cell_blk hres 0; have g1 := cell_blk hres 1; have g2 := cell_blk hres 2; have g3 := cell_blk hres 3; have f0 := free_blk hres 0; have f1 := free_blk hres 1; have f2 := free_blk hres 2; have f3 := free_blk hres 3; have hsz := lt_of_block hres; clear hres; have HZ := Lib.hid (Kept.under hK2); have H2 := Lib.hid hM2; clear hM2 hK2))
  all_goals
    ·
      go_wp2
      refine bodyPost_ret (v := .agg #[.nilIface, .int .i64 0, .bool (M.opReap h n).1.ok, .int .i64 (M.opReap h n).1.e]) (by simp [results, Tryz.results97, go_sem, g0, g1, g2, g3, hsz]) rfl ?_
      refine ⟨_, by show BlkV I _ (M.opReap h n).1.b; rw [HF.out.1]; rfl, by simp [Mem.ask, HF.out], ?_, ?_⟩
      · repeat (first | exact H2.out | (refine MemAt.far ?_ (by show _ ≠ w.heap.size; omega) (by show _ ≠ w.heap.size; omega) _) | refine MemAt.drew ?_)
      · repeat (first | exact HZ.out | (refine Kept.setCell ?_ (fun hl => absurd hl (Nat.lt_irrefl _)) _) | refine Kept.drew ?_)
end Go.Proofs.YtadaiihoclknmaaGreat
/- How a function's walk at a port is written: where it stands. -/

namespace Go.Proofs.YtadaiihoclknmaaGreat
open Go.RowKit
set_option linter.unusedVariables false
set_option linter.unusedSimpArgs false

/-- In the midst of a call: begun in w with I; now W, J, s. -/
structure Mg (w : World) (L : Loc) (I J : IHeap) (s : PS) (W : World) : Prop where
  grow : Grow I w J
  keeps : Keeps L w W
  st : St W L J s
theorem Mg.start {w : World} {L : Loc} {I : IHeap} {s : PS} (h : St w L I s) : Mg w L I I s w := ⟨Grow.refl _ _, Keeps.refl _ _, h⟩
theorem Mg.new {w W W' : World} {L : Loc} {I J : IHeap} {s : PS} (h : Mg w L I J s W) (hk : New W W') : Mg w L I J s W' := ⟨h.grow, h.keeps.trans (Keeps.new h.st hk), h.st.new hk⟩
theorem Mg.alloc {w W : World} {L : Loc} {I J : IHeap} {s : PS} (h : Mg w L I J s W) (o : Obj) : Mg w L I J s (W.alloc o) := h.new ((Kept.refl _ _).alloc o)
theorem Mg.drew {w W : World} {L : Loc} {I J : IHeap} {s : PS} (h : Mg w L I J s W) : Mg w L I J s W.drew := h.new ((Kept.refl _ _).drew)
theorem Mg.drewN {w W : World} {L : Loc} {I J : IHeap} {s : PS} (h : Mg w L I J s W) (n : Nat) : Mg w L I J s (W.drewN n) := h.new ((Kept.refl _ _).drewN n)
theorem Mg.size {w W : World} {L : Loc} {I J : IHeap} {s : PS} (h : Mg w L I J s W) : w.heap.size ≤ W.heap.size := h.keeps.kept.size
/-- Blocks of the call's own are written. -/
theorem Mg.own {w W W' : World} {L : Loc} {I J : IHeap} {s : PS} {S : Nat → Prop} (h : Mg w L I J s W) (hk : Kept S W W') (hs : ∀ k, S k → w.heap.size ≤ k) (h1 : ∀ k, S k → ¬ SS L W k) (h2 : ∀ k, S k → J k = none) : Mg w L I J s W' := by
  refine ⟨h.grow, ⟨⟨hk.os.trans h.keeps.kept.os, hk.tape.trans h.keeps.kept.tape, hk.output.trans h.keeps.kept.output, Nat.le_trans h.size hk.size, fun k hl hn => ?_⟩, fun k x => ?_⟩, ?_⟩
  · exact (hk.block k (Nat.lt_of_lt_of_le hl h.size) (fun y => by have := hs k y; omega)).trans (h.keeps.kept.block k hl hn)
  · refine h.keeps.ss k ?_
    obtain ⟨lv, hp, _⟩ := h.st.port
    have e : logBlk W' L.p = logBlk W L.p := by
      unfold logBlk; rw [cell_blk hp, cell_blk (hk.obj hp (fun y => h1 _ y (.inl rfl)))]
    unfold SS at x ⊢
    rw [e] at x
    exact x
  · exact h.st.kept hk (fun k x y => h1 k y x) (fun k o hI y => by rw [h2 k y] at hI; cases hI)
theorem St.not_ss {w : World} {L : Loc} {I : IHeap} {s : PS} (h : St w L I s) {k : Nat} {cs : Array Value} {t : TypeId} {fr : Nat × Nat} (ho : w.heap[k]? = some (.cells cs t fr)) (ht : mutT t = false) : ¬ SS L w k := fun x => by
  obtain ⟨cs', t', fr', h1, h2⟩ := h.ss_type x
  rw [h1] at ho
  injection ho with ho
  injection ho with _ ho
  rw [ho, ht] at h2
  cases h2
/-- A cell of a block of the call's own is written. -/
theorem Mg.set {w W : World} {L : Loc} {I J : IHeap} {s : PS} (h : Mg w L I J s W) {a : Addr} {cs : Array Value} {t : TypeId} {fr : Nat × Nat} (ho : W.heap[a.block]? = some (.cells cs t fr)) (ht : mutT t = false) (ha : w.heap.size ≤ a.block) (hJ : J a.block = none) (u : Value) : Mg w L I J s (W.setCell a u) :=
  h.own (S := fun k => k = a.block) (Kept.setCell (S := fun k => k = a.block) (Kept.refl _ _) (fun _ => rfl) u) (fun k e => e ▸ ha) (fun k e => e ▸ h.st.not_ss ho ht) (fun k e => e ▸ hJ)
/-- .. of a row of the call's own. -/
theorem Mg.grown {w W W' : World} {L : Loc} {I J : IHeap} {s : PS} (h : Mg w L I J s W) {base n sz : Nat} {E : TypeId} {v : Value} {xs : List Value} (hown : W.ownsRow base E sz v n xs) (ht : mutT E = false) (hb : w.heap.size ≤ base) (hJ : ∀ k, v.ownBlock = some k → J k = none) (hg : W.grownBy W' v.ownBlock) : Mg w L I J s W' := by
  have hk : Kept (fun k => v.ownBlock = some k) W W' := Kept.grown (S := fun k => v.ownBlock = some k) (Kept.refl _ _) hg (fun k e _ => e)
  refine h.own hk (fun k e => Nat.le_trans hb (hown.lt k e).1) (fun k e => ?_) hJ
  rcases hown.2 with ⟨rfl, _⟩ | ⟨g, cap, cur, rfl, _, hh, _⟩
  · simp [Value.ownBlock] at e
  · simp [Value.ownBlock] at e; subst e; exact h.st.not_ss hh ht
/-- One object more is written no more. -/
theorem Mg.put {w W : World} {L : Loc} {I J : IHeap} {s : PS} (h : Mg w L I J s W) {k : Nat} {o : Obj} (hk : W.heap[k]? = some o) (ho : immO o) (hw : w.heap.size ≤ k) : Mg w L I (J.put k o) s W ∧ ILe J (J.put k o) := by
  have hl := ILe.put h.st.held hk
  refine ⟨⟨⟨h.grow.le.trans hl, fun j hj => ?_⟩, h.keeps, h.st.mono hl (h.st.held.put hk ho)⟩, hl⟩
  unfold IHeap.put at hj
  by_cases e : j = k
  · exact .inr (e ▸ hw)
  · rw [if_neg e] at hj; exact h.grow.new j hj
/-- A row that is complete. -/
theorem Mg.row {w W : World} {L : Loc} {I J : IHeap} {s : PS} (h : Mg w L I J s W) {base n sz : Nat} {E : TypeId} {v : Value} {xs : List Value} (hown : W.ownsRow base E sz v n xs) (ht : mutT E = false) (hb : w.heap.size ≤ base) :
    ∃ K, Mg w L I K s W ∧ ILe J K ∧ Row K E sz v n xs ∧ (∀ k, K k ≠ none → J k ≠ none ∨ some k = v.ownBlock) := by
  obtain ⟨h1, h2⟩ := hown
  rcases h2 with ⟨rfl, rfl⟩ | ⟨g, cap, cur, rfl, hg0, hg, hnc, hcm, hcs, htake⟩
  · exact ⟨J, h, ILe.refl _, ⟨h1, none, 0, rfl, Nat.le_refl _, Nat.zero_le _, fun _ => rfl, .inl rfl⟩, fun k hk => .inl hk⟩
  · obtain ⟨h3, h4⟩ := h.put hg (show immO (.cells cur E (0, 0)) from ht) (Nat.le_trans hb hg0)
    refine ⟨_, h3, h4, ⟨h1, some ⟨g, 0, none⟩, cap, rfl, hnc, hcm, (fun h => by cases h), .inr ⟨g, 0, cur, (0, 0), rfl, by simp [IHeap.put], by simpa using htake⟩⟩, fun k hk => ?_⟩
    unfold IHeap.put at hk
    by_cases e : k = g
    · exact .inr (by simp [Value.ownBlock, e])
    · rw [if_neg e] at hk; exact .inl hk
theorem Mg.none {w W : World} {L : Loc} {I J : IHeap} {s : PS} (h : Mg w L I J s W) : J W.heap.size = none := by
  cases e : J W.heap.size with
  | none => rfl
  | some o => exact absurd (h.st.held.lt e) (Nat.lt_irrefl _)
theorem Grow.none {I J : IHeap} {w : World} (h : Grow I w J) {k : Nat} (hk : I k = none) (hl : k < w.heap.size) : J k = none := by
  cases e : J k with
  | none => rfl
  | some o =>
    rcases h.new k (by rw [e]; simp) with h1 | h1
    · exact absurd hk h1
    · omega
theorem Mg.post {α : Type} {w W : World} {L : Loc} {I J : IHeap} {s : PS} (h : Mg w L I J s W) {R : IHeap → Value → α → Prop} {v : Value} {a : α} (hR : R J v a) : Post L w I (.ret a, s) R (.returned v) W :=
  ⟨J, h.grow, h.keeps, h.st, .inl ⟨a, v, rfl, rfl, hR⟩⟩
theorem Mg.paused {α : Type} {w W : World} {L : Loc} {I J : IHeap} {s : PS} (h : Mg w L I J s W) {R : IHeap → Value → α → Prop} : Post L w I (.paused, s) R (.panicked [pzEntry]) W :=
  ⟨J, h.grow, h.keeps, h.st, .inr ⟨rfl, rfl⟩⟩
/-- Behind a callee: it has answered, or the machine pauses. -/
theorem Mg.call {α : Type} {w W W1 : World} {L : Loc} {I J : IHeap} {s : PS} (h : Mg w L I J s W) {r : Out α × PS} {R : IHeap → Value → α → Prop} {e : Ending} (hp : Post L W J r R e W1) :
    (∃ a s1 K v, r = (.ret a, s1) ∧ e = .returned v ∧ R K v a ∧ Grow J W K ∧ Keeps L W W1 ∧ Mg w L I K s1 W1) ∨ (∃ s1 K, r = (.paused, s1) ∧ e = .panicked [pzEntry] ∧ Mg w L I K s1 W1) := by
  obtain ⟨K, hg, hk, hs, hr | hr⟩ := hp
  · obtain ⟨a, v, h1, h2, h3⟩ := hr
    exact .inl ⟨a, r.2, K, v, by rw [← h1], h2, h3, hg, hk, ⟨h.grow.trans hg h.size, h.keeps.trans hk, hs⟩⟩
  · exact .inr ⟨r.2, K, by rw [← hr.1], hr.2, ⟨h.grow.trans hg h.size, h.keeps.trans hk, hs⟩⟩
/-- A callee that asks nothing. -/
theorem Mg.below {w W W1 : World} {L : Loc} {I J : IHeap} {s : PS} (h : Mg w L I J s W) (hb : Below W.heap.size W W1) : Mg w L I J s W1 := h.new ((Kept.refl _ _).below hb)

/-- The blocks of w lie in W still, but for those that are written. -/
theorem Mg.obj {w W W1 : World} {L : Loc} {I J : IHeap} {s : PS} (h : Mg w L I J s W) (hk : Keeps L W W1) {k : Nat} {cs : Array Value} {t : TypeId} {fr : Nat × Nat} (ho : W.heap[k]? = some (.cells cs t fr)) (ht : mutT t = false) : W1.heap[k]? = some (.cells cs t fr) := hk.obj h.st ho ht
/-- A block of the call's own. -/
def OwnOk (w : World) (J : IHeap) (W : World) (b : Nat) : Prop := (∃ cs t fr, W.heap[b]? = some (.cells cs t fr) ∧ mutT t = false) ∧ w.heap.size ≤ b ∧ J b = none
theorem OwnOk.set {w W : World} {J : IHeap} {b : Nat} (h : OwnOk w J W b) (a : Addr) (u : Value) : OwnOk w J (W.setCell a u) b := by
  obtain ⟨⟨cs, t, fr, h1, h2⟩, h3⟩ := h
  refine ⟨?_, h3⟩
  by_cases e : b = a.block
  · subst e
    have hlt := (Array.getElem?_eq_some_iff.1 h1).1
    have h' : W.heap[a.block] = .cells cs t fr := by simpa [Array.getElem?_eq_getElem hlt] using h1
    refine ⟨if a.spot.isSome then cs else cs.setIfInBounds a.off u, t, fr, ?_, h2⟩
    show (W.heap.modify a.block _)[a.block]? = _
    rw [Array.getElem?_eq_getElem (by simpa using hlt), Array.getElem_modify_self, h']
  · exact ⟨cs, t, fr, set_far h1 e u, h2⟩
theorem OwnOk.alloc {w W : World} {J : IHeap} {b : Nat} (h : OwnOk w J W b) (o : Obj) : OwnOk w J (W.alloc o) b := by
  obtain ⟨⟨cs, t, fr, h1, h2⟩, h3⟩ := h
  exact ⟨⟨cs, t, fr, alloc_old h1, h2⟩, h3⟩
theorem OwnOk.drew {w W : World} {J : IHeap} {b : Nat} (h : OwnOk w J W b) : OwnOk w J W.drew b := h
theorem OwnOk.drewN {w W : World} {J : IHeap} {b : Nat} (h : OwnOk w J W b) (n : Nat) : OwnOk w J (W.drewN n) b := h
theorem OwnOk.fresh {w W : World} {L : Loc} {I J : IHeap} {s : PS} (h : Mg w L I J s W) (cs : Array Value) (t : TypeId) (fr : Nat × Nat) (ht : mutT t = false) : OwnOk w J (W.alloc (.cells cs t fr)) W.heap.size :=
  ⟨⟨cs, t, fr, alloc_new W _, ht⟩, h.size, h.none⟩
theorem OwnOk.call {w W W1 : World} {L : Loc} {I J K : IHeap} {s : PS} {b : Nat} (h : Mg w L I J s W) (hk : Keeps L W W1) (hg : Grow J W K) (ho : OwnOk w J W b) : OwnOk w K W1 b := by
  obtain ⟨⟨cs, t, fr, h1, h2⟩, h3, h4⟩ := ho
  exact ⟨⟨cs, t, fr, h.obj hk h1 h2, h2⟩, h3, hg.none h4 (lt_of_block h1)⟩
theorem Mg.seto {w W : World} {L : Loc} {I J : IHeap} {s : PS} (h : Mg w L I J s W) {a : Addr} (ho : OwnOk w J W a.block) (u : Value) : Mg w L I J s (W.setCell a u) := by
  obtain ⟨⟨cs, t, fr, h1, h2⟩, h3, h4⟩ := ho
  exact h.set h1 h2 h3 h4 u

theorem port_pm {w : World} {L : Loc} {I : IHeap} {s : PS} (h : St w L I s) : w.cell? ⟨L.p, 0, none⟩ = some (.pointer (some ⟨L.m, 0, none⟩)) := by
  obtain ⟨lv, hp⟩ := h.port
  rw [cell_blk hp.hd]; rfl
theorem exec_q {β : Type} (q : Q) (f : Ans → β) (s : PS) : (do let a ← qAsk q; return f a : Prog β).exec s = match ask1 q s with
    | (.ret a, s') => (.ret (f a), s')
    | (.paused, s') => (.paused, s')
    | (.stuck, s') => (.stuck, s') := by
  rw [Prog.exec_bind, exec_qAsk]
  rcases ask1 q s with ⟨o, s'⟩
  cases o <;> rfl
theorem ask_ok {β : Type} {q : Q} {f : Ans → β} {s : PS} (h : ((do let a ← qAsk q; return f a : Prog β).exec s).1.ok) : (ask1 q s).1.ok := by
  rw [exec_q] at h
  rcases hq : ask1 q s with ⟨_ | _ | _, s'⟩ <;> rw [hq] at h <;> first | trivial | exact h
/-- A program's first part. -/
theorem bind_ok {α β : Type} {m : Prog α} {f : α → Prog β} {s : PS} (h : ((m >>= f).exec s).1.ok) : (m.exec s).1.ok := by
  rw [Prog.exec_bind] at h
  rcases hq : m.exec s with ⟨_ | _ | _, s'⟩ <;> rw [hq] at h <;> first | trivial | exact h
theorem bind_ret {α β : Type} {m : Prog α} {f : α → Prog β} {s s1 : PS} {a : α} (h : m.exec s = (.ret a, s1)) : (m >>= f).exec s = (f a).exec s1 := by rw [Prog.exec_bind, h]
theorem bind_paused {α β : Type} {m : Prog α} {f : α → Prog β} {s s1 : PS} (h : m.exec s = (.paused, s1)) : (m >>= f).exec s = (.paused, s1) := by rw [Prog.exec_bind, h]
/-- What a program comes to is what is left of it. -/
structure Ex {γ : Type} (r r' : Out γ × PS) : Prop where mk :: (out : r = r')
theorem ok_of {α γ : Type} {r : Out γ × PS} {m : Prog α} {f : α → Prog γ} {s1 : PS} (hn : r.1.ok) (hx : r = (m >>= f).exec s1) : (m.exec s1).1.ok := bind_ok (hx ▸ hn)
theorem ok_last {γ : Type} {r : Out γ × PS} {m : Prog γ} {s1 : PS} (hn : r.1.ok) (hx : r = m.exec s1) : (m.exec s1).1.ok := hx ▸ hn
theorem x_ret {α γ : Type} {r : Out γ × PS} {m : Prog α} {f : α → Prog γ} {s s1 : PS} {a : α} (hx : r = (m >>= f).exec s) (h : m.exec s = (.ret a, s1)) : r = (f a).exec s1 := hx.trans (bind_ret h)
theorem x_paused {α γ : Type} {r : Out γ × PS} {m : Prog α} {f : α → Prog γ} {s s1 : PS} (hx : r = (m >>= f).exec s) (h : m.exec s = (.paused, s1)) : r = (.paused, s1) := hx.trans (bind_paused h)
theorem x_if {γ : Type} {r : Out γ × PS} {c : Prop} [Decidable c] {m n : Prog γ} {s : PS} (hx : r = (if c then m else n).exec s) (h : c) : r = m.exec s := by rw [hx, if_pos h]
theorem x_else {γ : Type} {r : Out γ × PS} {c : Prop} [Decidable c] {m n : Prog γ} {s : PS} (hx : r = (if c then m else n).exec s) (h : ¬ c) : r = n.exec s := by rw [hx, if_neg h]
theorem x_done {γ : Type} {r : Out γ × PS} {s : PS} {a : γ} (hx : r = (pure a : Prog γ).exec s) : r = (.ret a, s) := hx
theorem ne_true {e : Int} (h : ¬ e = 0) : (e != 0) = true := by simpa using h
/-- A block of the call's own, and what it holds. -/
structure OB (w : World) (J : IHeap) (W : World) (b : Nat) (cs : Array Value) (t : TypeId) : Prop where
  at_ : W.heap[b]? = some (.cells cs t (0, 0))
  ty : mutT t = false
  ge : w.heap.size ≤ b
  no : J b = none
theorem OB.ok {w W : World} {J : IHeap} {b : Nat} {cs : Array Value} {t : TypeId} (h : OB w J W b cs t) : OwnOk w J W b := ⟨⟨cs, t, (0, 0), h.at_, h.ty⟩, h.ge, h.no⟩
theorem OB.fresh {w W : World} {L : Loc} {I J : IHeap} {s : PS} (h : Mg w L I J s W) (cs : Array Value) (t : TypeId) (ht : mutT t = false) : OB w J (W.alloc (.cells cs t)) W.heap.size cs t := ⟨alloc_new W _, ht, h.size, h.none⟩
theorem OB.call {w W W1 : World} {L : Loc} {I J K : IHeap} {s : PS} {b : Nat} {cs : Array Value} {t : TypeId} (h : Mg w L I J s W) (hk : Keeps L W W1) (hg : Grow J W K) (ho : OB w J W b cs t) : OB w K W1 b cs t :=
  ⟨h.obj hk ho.at_ ho.ty, ho.ty, ho.ge, hg.none ho.no (lt_of_block ho.at_)⟩
theorem OB.thru {w W0 W W1 : World} {L : Loc} {I J K : IHeap} {s : PS} {b : Nat} {cs : Array Value} {t : TypeId} (ho : OB w J W0 b cs t) (h : Mg w L I J s W) (hk : Keeps L W W1) (hg : Grow J W K) (hw : OB w J W0 b cs t → OB w J W b cs t) : OB w K W1 b cs t := OB.call h hk hg (hw ho)
theorem OB.new {w W W1 : World} {J : IHeap} {b : Nat} {cs : Array Value} {t : TypeId} (ho : OB w J W b cs t) (hk : New W W1) : OB w J W1 b cs t := ⟨hk.obj ho.at_, ho.ty, ho.ge, ho.no⟩
theorem OB.alloc {w W : World} {J : IHeap} {b : Nat} {cs : Array Value} {t : TypeId} (ho : OB w J W b cs t) (o : Obj) : OB w J (W.alloc o) b cs t := ⟨alloc_old ho.at_, ho.ty, ho.ge, ho.no⟩
theorem OB.drew {w W : World} {J : IHeap} {b : Nat} {cs : Array Value} {t : TypeId} (ho : OB w J W b cs t) : OB w J W.drew b cs t := ⟨ho.at_, ho.ty, ho.ge, ho.no⟩
theorem OB.drewN {w W : World} {J : IHeap} {b : Nat} {cs : Array Value} {t : TypeId} (ho : OB w J W b cs t) (n : Nat) : OB w J (W.drewN n) b cs t := ⟨ho.at_, ho.ty, ho.ge, ho.no⟩
theorem OB.far {w W : World} {J : IHeap} {b : Nat} {cs : Array Value} {t : TypeId} (ho : OB w J W b cs t) {a : Addr} (hn : b ≠ a.block) (u : Value) : OB w J (W.setCell a u) b cs t := ⟨set_far ho.at_ hn u, ho.ty, ho.ge, ho.no⟩
theorem OB.set {w W : World} {J : IHeap} {b : Nat} {cs : Array Value} {t : TypeId} (ho : OB w J W b cs t) (j : Nat) (u : Value) : OB w J (W.setCell ⟨b, j, none⟩ u) b (cs.setIfInBounds j u) t := ⟨set_blk ho.at_ j u, ho.ty, ho.ge, ho.no⟩
theorem OB.mono {w W : World} {J K : IHeap} {b : Nat} {cs : Array Value} {t : TypeId} (ho : OB w J W b cs t) (hK : K b = none) : OB w K W b cs t := ⟨ho.at_, ho.ty, ho.ge, hK⟩
end Go.Proofs.YtadaiihoclknmaaGreat
/- slices.Clone, at swaps and at entries. -/
namespace Go.Proofs.YtadaiihoclknmaaGreat
open Go.RowKit
set_option maxHeartbeats 4000000
set_option maxRecDepth 100000
set_option linter.unusedVariables false
set_option linter.unusedSimpArgs false

theorem news_row {I : IHeap} {w : World} {E : TypeId} {sz : Nat} {a : Addr} {n m cap : Nat} {xs : List Value} (hI : Held I w) (h : Row I E sz (.slice (some a) m cap) n xs) : ∀ j u, xs[j]? = some u → w.cell? (a.add j) = some u := by
  intro j u hu
  rcases Nat.eq_zero_or_pos n with h0 | h0
  · subst h0
    have : xs = [] := by have := h.1; simpa using this
    subst this; simp at hu
  · obtain ⟨b, off, ha, _, hc⟩ := h.cell hI h0
    injection ha with ha
    subst ha
    have : (⟨b, off, none⟩ : Addr).add j = ⟨b, off + j, none⟩ := by unfold Addr.add; split <;> simp_all
    rw [this]
    exact hc j u hu
theorem next_int {i n : Nat} (h : i < n) (hm : n ≤ maxLen) : Value.int .i64 (wrap64 ((i : Int) + 1)) = .int .i64 ((i + 1 : Nat) : Int) := by
  have : wrap64 ((i : Int) + 1) = ((i + 1 : Nat) : Int) := by unfold maxLen at hm; unfold wrap64; omega
  rw [this]
theorem new_of_lit {w W' : World} {o : Obj} {n c : Nat} (hg : (w.alloc o).grownBy W' (Value.slice (some ⟨w.heap.size, 0, none⟩) n c).ownBlock) : New w W' :=
  Kept.grown (S := fun _ => False) ((Kept.refl _ _).alloc o) hg (fun k e hk => by
    simp [Value.ownBlock] at e
    omega)
theorem info_swaps : (Tryz.prog.info? 44).map (fun i => (i.zero, i.size, i.bytes)) = some (some (.agg #[.int .i64 0, .int .i64 0, .int .i64 0]), 3, 24) := by kernel_rfl
theorem one_swaps (xs : List _) : ∀ u ∈ (xs.flatMap encSwap), u.oneCell' = true := by
  intro u hu
  obtain ⟨x, _, hx⟩ := List.mem_flatMap.1 hu
  simp [encSwap] at hx
  rcases hx with rfl | rfl | rfl <;> rfl
theorem clone_swaps (w : World) (I : IHeap) (hI : Held I w) (v : Value) (xs : List _) (h : Swaps I v xs) (hb : xs.length * 24 ≤ 140737488355328) :
    Calls Tryz.prog 143 #[v] w fun e w' => ∃ v', e = .returned v' ∧ w'.ownsRow w.heap.size 44 3 v' xs.length (xs.flatMap encSwap) ∧ New w w' := by
  obtain ⟨A, cap, rfl, h1, h2, h3⟩ := h.form
  have hl : (xs.flatMap encSwap).length = xs.length * 3 := h.1
  cases A with
  | none =>
    have hc := h3 rfl
    have h0 : xs.length = 0 := by omega
    have hx : xs = [] := List.eq_nil_of_length_eq_zero h0
    subst hx
    subst hc
    clear h h1 h2 h3 hl hb hI
    have hsn : ∀ W, (binOp .eql 40 (.slice none 0 0) (.slice none 0 0)).run Tryz.prog W = .ok (.bool true) W := fun W => Lib.run_eql_slice_nil W 40 44 none 0 0 0 0 Tryz.underlying40
    go_enter Tryz.func143, Tryz.ntmps143
    go_wp2
    go_ret
    exact ⟨_, rfl, World.ownsRow_nil _ _ _ _, Kept.refl _ _⟩
  | some a =>
    have hn := Lib.hid (news_row (hI.alloc (.cells #[] 44)) h)
    obtain ⟨i0, hi, hz0, hz1, hz2⟩ := info_parts info_swaps
    have HL := Lib.hid hl
    have h63 : 0 + xs.length ≤ maxLen := by unfold maxLen; omega
    have hbb : (0 + xs.length) * 24 ≤ 140737488355328 := by omega
    have hown := Lib.hid (World.ownsRow_lit (base := w.heap.size) (size := 3) (e := 44) w #[] 0 (Nat.le_refl _) (Nat.zero_le _) rfl)
    have Hi := Lib.hid hi
    have Hz0 := Lib.hid hz0
    have Hz1 := Lib.hid hz1
    have Hz2 := Lib.hid hz2
    have HA := Lib.hid h63
    have HB := Lib.hid hbb
    have hsn : ∀ W, (binOp .eql 40 (.slice (some a) xs.length cap) (.slice none 0 0)).run Tryz.prog W = .ok (.bool false) W := fun W => Lib.run_eql_slice_nil W 40 44 (some a) xs.length cap 0 0 Tryz.underlying40
    clear h h1 h2 h3 hl hb hI hi hz0 hz1 hz2 h63 hbb
    go_enter Tryz.func143, Tryz.ntmps143
    go_wp2_with (at_builtin; refine wpList_append_own _ rfl (.tmp 5) (.tmp 6) 40 rfl w.heap.size 44 i0 (.agg #[.int .i64 0, .int .i64 0, .int .i64 0]) 3 24 Tryz.underlying40 Hi.out Hz0.out Hz1.out Hz2.out rfl (by decide) _ _ _ rfl hown.out a xs.length cap (xs.flatMap encSwap) rfl HL.out hn.out (one_swaps xs) HA.out HB.out ?_ ?_)
    intro v' W' ho hg _
    have HO := Lib.hid ho
    have HG := Lib.hid (new_of_lit hg)
    clear ho hg
    go_wp2
    go_ret
    exact ⟨_, rfl, HO.out, HG.out⟩
theorem info_entries : (Tryz.prog.info? 62).map (fun i => (i.zero, i.size, i.bytes)) = some (some (.agg #[.string ⟨#[]⟩, .string ⟨#[]⟩, .bool false]), 3, 40) := by kernel_rfl
theorem one_entries (xs : List _) : ∀ u ∈ (xs.flatMap encEntry), u.oneCell' = true := by
  intro u hu
  obtain ⟨x, _, hx⟩ := List.mem_flatMap.1 hu
  simp [encEntry] at hx
  rcases hx with rfl | rfl | rfl <;> rfl
theorem clone_entries (w : World) (I : IHeap) (hI : Held I w) (v : Value) (xs : List _) (h : Entries I v xs) (hb : xs.length * 40 ≤ 140737488355328) :
    Calls Tryz.prog 188 #[v] w fun e w' => ∃ v', e = .returned v' ∧ w'.ownsRow w.heap.size 62 3 v' xs.length (xs.flatMap encEntry) ∧ New w w' := by
  obtain ⟨A, cap, rfl, h1, h2, h3⟩ := h.form
  have hl : (xs.flatMap encEntry).length = xs.length * 3 := h.1
  cases A with
  | none =>
    have hc := h3 rfl
    have h0 : xs.length = 0 := by omega
    have hx : xs = [] := List.eq_nil_of_length_eq_zero h0
    subst hx
    subst hc
    clear h h1 h2 h3 hl hb hI
    have hsn : ∀ W, (binOp .eql 55 (.slice none 0 0) (.slice none 0 0)).run Tryz.prog W = .ok (.bool true) W := fun W => Lib.run_eql_slice_nil W 55 62 none 0 0 0 0 Tryz.underlying55
    go_enter Tryz.func188, Tryz.ntmps188
    go_wp2
    go_ret
    exact ⟨_, rfl, World.ownsRow_nil _ _ _ _, Kept.refl _ _⟩
  | some a =>
    have hn := Lib.hid (news_row (hI.alloc (.cells #[] 62)) h)
    obtain ⟨i0, hi, hz0, hz1, hz2⟩ := info_parts info_entries
    have HL := Lib.hid hl
    have h63 : 0 + xs.length ≤ maxLen := by unfold maxLen; omega
    have hbb : (0 + xs.length) * 40 ≤ 140737488355328 := by omega
    have hown := Lib.hid (World.ownsRow_lit (base := w.heap.size) (size := 3) (e := 62) w #[] 0 (Nat.le_refl _) (Nat.zero_le _) rfl)
    have Hi := Lib.hid hi
    have Hz0 := Lib.hid hz0
    have Hz1 := Lib.hid hz1
    have Hz2 := Lib.hid hz2
    have HA := Lib.hid h63
    have HB := Lib.hid hbb
    have hsn : ∀ W, (binOp .eql 55 (.slice (some a) xs.length cap) (.slice none 0 0)).run Tryz.prog W = .ok (.bool false) W := fun W => Lib.run_eql_slice_nil W 55 62 (some a) xs.length cap 0 0 Tryz.underlying55
    clear h h1 h2 h3 hl hb hI hi hz0 hz1 hz2 h63 hbb
    go_enter Tryz.func188, Tryz.ntmps188
    go_wp2_with (at_builtin; refine wpList_append_own _ rfl (.tmp 5) (.tmp 6) 55 rfl w.heap.size 62 i0 (.agg #[.string ⟨#[]⟩, .string ⟨#[]⟩, .bool false]) 3 40 Tryz.underlying55 Hi.out Hz0.out Hz1.out Hz2.out rfl (by decide) _ _ _ rfl hown.out a xs.length cap (xs.flatMap encEntry) rfl HL.out hn.out (one_entries xs) HA.out HB.out ?_ ?_)
    intro v' W' ho hg _
    have HO := Lib.hid ho
    have HG := Lib.hid (new_of_lit hg)
    clear ho hg
    go_wp2
    go_ret
    exact ⟨_, rfl, HO.out, HG.out⟩
end Go.Proofs.YtadaiihoclknmaaGreat
