/- Part 9 of the proof: Probe3, Port5, Desc1, Desc2. -/
import Derived.Test.YtadaiihoclknmaaGreatC08
import Derived.Deep.OwnRows
import Derived.Test.YtadaiihoclknmaaGreatC06
/- Tables by which keys are found: Build. -/
namespace Go.Proofs.YtadaiihoclknmaaGreat
open Go.RowKit
set_option maxHeartbeats 4000000
set_option maxRecDepth 100000
set_option linter.unusedVariables false
set_option linter.unusedSimpArgs false

def pSlotF (t : List Int) : Nat → Nat → Nat
  | 0, a => a
  | f + 1, a => if t.getD a 0 = 0 then a else pSlotF t f ((a + 1) % t.length)
def pBuildL : List ByteArray → Nat → List Int → List Int
  | [], _, t => t
  | k :: ks, i, t => pBuildL ks (i + 1) (t.set (pSlotF t t.length (pFirst t.length k)) ((i : Int) + 1))
def pBuild (keys : List ByteArray) : List Int := pBuildL keys 0 (List.replicate (pSize keys.length) 0)
def ZeroIn (t : List Int) (a g : Nat) : Prop := ∃ d, d < g ∧ t.getD ((a + d) % t.length) 0 = 0
theorem ZeroIn.step {t : List Int} {a g : Nat} (h : ZeroIn t a (g + 1)) (ha : a < t.length) (hz : t.getD a 0 ≠ 0) : ZeroIn t ((a + 1) % t.length) g := by
  obtain ⟨d, hd, h⟩ := h
  cases d with
  | zero => rw [Nat.add_zero, Nat.mod_eq_of_lt ha] at h; exact absurd h hz
  | succ d => exact ⟨d, by omega, by rw [Nat.mod_add_mod, Nat.add_assoc, Nat.add_comm 1 d]; exact h⟩
theorem countP_set_le (p : Int → Bool) (x : Int) : ∀ (t : List Int) (j : Nat), (t.set j x).countP p ≤ t.countP p + 1
  | [], j => by simp
  | y :: t, 0 => by
    simp only [List.set_cons_zero, List.countP_cons]
    split <;> split <;> omega
  | y :: t, j + 1 => by
    simp only [List.set_cons_succ, List.countP_cons]
    have := countP_set_le p x t j
    omega
theorem zero_of_count {t : List Int} (h : t.countP (fun x => x != 0) < t.length) : ∃ z, z < t.length ∧ t.getD z 0 = 0 := by
  apply Classical.byContradiction
  intro hn
  have hall : ∀ x ∈ t, (x != 0) = true := by
    intro x hx
    obtain ⟨j, hj, rfl⟩ := List.mem_iff_getElem.1 hx
    simp only [bne_iff_ne, ne_eq]
    intro h0
    exact hn ⟨j, hj, by simp [List.getD, hj, h0]⟩
  rw [List.countP_eq_length.2 hall] at h
  omega
theorem ZeroIn.start {t : List Int} (h : t.countP (fun x => x != 0) < t.length) {a : Nat} (ha : a < t.length) : ZeroIn t a t.length := by
  obtain ⟨z, hz, h0⟩ := zero_of_count h
  refine ⟨(z + t.length - a) % t.length, Nat.mod_lt _ (by omega), ?_⟩
  have : (a + (z + t.length - a) % t.length) % t.length = z := by
    rw [Nat.add_mod_mod, show a + (z + t.length - a) = z + t.length by omega, Nat.add_mod_right, Nat.mod_eq_of_lt hz]
  rw [this]; exact h0
theorem pSlotF_lt {t : List Int} (h : 0 < t.length) : ∀ (f a : Nat), a < t.length → pSlotF t f a < t.length
  | 0, a, ha => ha
  | f + 1, a, ha => by
    unfold pSlotF
    split
    · exact ha
    · exact pSlotF_lt h f _ (Nat.mod_lt _ h)
def intsC (t : List Int) : Array Value := (t.map fun x => Value.int .i64 x).toArray
theorem intsC_set (t : List Int) (j : Nat) (x : Int) : (intsC t).setIfInBounds j (.int .i64 x) = intsC (t.set j x) := by
  simp [intsC, List.map_set]
theorem intsC_get {t : List Int} {j : Nat} (h : j < t.length) : (intsC t)[j]? = some (.int .i64 (t.getD j 0)) := by
  simp [intsC, h, List.getD]
theorem madeCells_int (n : Nat) : madeCells #[.int .i64 0] n = intsC (List.replicate n 0) := by
  apply Array.ext
  · simp [size_madeCells, intsC]
  · intro i h1 h2
    simp [madeCells, intsC, Nat.mod_one]
theorem OB.donep {w W : World} {I J : IHeap} {b : Nat} {cs : Array Value} {E : TypeId} (ho : OB w J W b cs E) (h : Pg w I J W) (sz n : Nat) (hn : cs.size = n * sz) (hm : n ≤ maxLen) :
    ∃ K, Pg w I K W ∧ ILe J K ∧ Row K E sz (.slice (some ⟨b, 0, none⟩) n n) n cs.toList ∧ (∀ k, K k ≠ none → J k ≠ none ∨ k = b) := by
  obtain ⟨h1, h2⟩ := h.put ho.at_ (show immO (.cells cs E (0, 0)) from ho.ty) ho.ge
  refine ⟨_, h1, h2, ⟨by simpa using hn, some ⟨b, 0, none⟩, n, rfl, Nat.le_refl _, hm, (fun h => by cases h), .inr ⟨b, 0, cs, (0, 0), rfl, by simp [IHeap.put], ?_⟩⟩, fun k hk => ?_⟩
  · rw [List.drop_zero, ← hn, ← Array.length_toList, List.take_length]
  · unfold IHeap.put at hk
    by_cases e : k = b
    · exact .inr e
    · rw [if_neg e] at hk; exact .inl hk
theorem probe_Build (w : World) (I : IHeap) (hI : Held I w) (keys : List ByteArray) (kv : Value) (hk : Strs I kv keys) (hn : keys.length ≤ 1099511627776) (hs : ∀ k ∈ keys, k.size ≤ maxLen) :
    Calls Tryz.prog 216 #[kv] w (PPost w I fun J v => Ints J v (pBuild keys)) := by
  obtain ⟨ka, kc, rfl, k1, k2, _⟩ := hk.form
  obtain ⟨i, hi, hi1, hi2, hi3, hi4⟩ := pSize_pow keys.length hn
  have HK := Lib.hid hk
  have HS := Lib.hid hs
  have M0 := Lib.hid (Pg.start hI)
  clear hk hI hs
  have hmk := run_make_row' (P := Tryz.prog) 23 3 (.int .i64 0) 8 Tryz.underlying23 info_int rfl .i64 .i64 (pSize keys.length) (by omega) (by omega)
  rw [madeCells_int] at hmk
  have HB := Lib.hid (show pBuild keys = pBuildL (keys.drop 0) 0 (List.replicate (pSize keys.length) 0) from rfl)
  have HP := fun k hk w => Lib.hid (probe_first i hi2 k hk w)
  have HA := fun (x : Nat) (hx : x < 2 ^ 62) => and_pow x i hx (by omega)
  have HC := Lib.hid (show (List.replicate (pSize keys.length) (0 : Int)).countP (fun x => x != 0) ≤ 0 by simp)
  have HZ := fun w => Lib.hid (probe_Size keys.length hn w)
  have HL := Lib.hid (show (List.replicate (pSize keys.length) (0 : Int)).length = pSize keys.length by simp)
  rw [← hi] at HP HA
  have hpos : 0 < pSize keys.length := by rw [hi]; exact Nat.two_pow_pos i
  clear hi
  generalize List.replicate (pSize keys.length) (0 : Int) = t0 at *
  generalize pSize keys.length = N at *
  go_enter Tryz.func216, Tryz.ntmps216
  go_wp2_with (first
      | (go_at_call 157; refine (HZ _).out.mono ?_; rintro e w' ⟨rfl, rfl⟩))
  generalize hbb : w.heap.size = bb at *
  have O0 := Lib.hid (OB.freshp M0.out (intsC t0) 3 rfl)
  rw [hbb] at O0
  go_loopg [13] keys.length (fun g iv W => ∃ (i : Nat) (t : List Int), iv = .int .i64 i ∧ i + g = keys.length ∧ t.length = N ∧ t.countP (fun x => x != 0) ≤ i ∧ Hid (Pg w I I W) ∧ Hid (OB w I W bb (intsC t) 3) ∧ Hid (pBuild keys = pBuildL (keys.drop i) i t))
  case atStart => exact ⟨0, t0, rfl, by simp, HL.out, HC.out, Lib.hid (M0.out.alloc _), O0, HB⟩
  case round =>
  obtain ⟨i, t, rfl, hi, htl, hc, M1, O1, B1⟩ := hrel
  clear HB O0 HC HL hmk
  by_cases hlt : i < keys.length
  · obtain ⟨b, off, rfl, _, hc0⟩ := Sl.cell M1.out.held HK.out (fun _ => rfl) (by omega)
    have hx := List.getElem?_eq_getElem hlt
    have c0 : wr.cell? ⟨b, off + i * 1, none⟩ = _ := hc0 i 0 _ _ hx rfl
    rw [Nat.mul_one] at c0
    have hks := HS.out keys[i] (List.getElem_mem hlt)
    have E := List.drop_eq_getElem_cons hlt
    have B2 := Lib.hid (B1.out.trans (by rw [E]; rfl : _ = pBuildL (keys.drop (i + 1)) (i + 1) (t.set (pSlotF t t.length (pFirst t.length keys[i])) ((i : Int) + 1))))
    generalize keys[i] = k at c0 hks B2
    clear hc0 hx E B1
    rw [htl] at B2
    have hp := pFirst_lt hpos k
    have HQ := fun w => (HP k hks w).out
    generalize pFirst N k = a0 at *
    go_wp2_with (first
      | (go_at_call 158; refine (HQ _).mono ?_; rintro e w' ⟨rfl, rfl⟩))
    have hz0 := ZeroIn.start (t := t) (by omega) (a := a0) (by omega)
    rw [htl] at hz0
    go_loopg [6] N (fun g av W => ∃ a : Nat, av = .int .i64 a ∧ a < N ∧ ZeroIn t a g ∧ Hid (W = wr) ∧ Hid (pSlotF t N a0 = pSlotF t g a))
    case atStart => exact ⟨a0, rfl, hp, hz0, Lib.hid rfl, Lib.hid rfl⟩
    case round =>
    obtain ⟨a, rfl, ha, hz, hw, hs⟩ := hrel
    obtain rfl := hw.out
    cases gk with
    | zero => obtain ⟨d, hd, _⟩ := hz; omega
    | succ f =>
    have ha' : a < t.length := by omega
    have c1 := cell_blk O1.out.at_ a
    rw [intsC_get ha'] at c1
    have hnx := HA (a + 1) (by omega)
    have hnx2 : bits .and .i64 ((a : Int) + 1) ((N : Int) - 1) = ((a + 1) % N : Nat) := by rw [← hnx]; simp
    have hm : (a + 1) % N < N := Nat.mod_lt _ hpos
    by_cases hzz : t.getD a 0 = 0
    · have hs2 := hs.out.trans (by rw [pSlotF, if_pos hzz] : _ = a)
      rw [hs2] at B2
      rw [hzz] at c1
      have f1 := free_blk O1.out.at_ a
      clear hnx hnx2 hm HA
      go_wp2
      go_roundg (gk - 1)
      case measure => omega
      case rel =>
        refine ⟨i + 1, t.set a ((i : Int) + 1), by simp, by omega, by simpa using htl, by have := countP_set_le (fun x => x != 0) ((i : Int) + 1) t a; omega, ?_, ?_, B2⟩
        · exact Lib.hid (M1.out.seto (a := ⟨bb, a, none⟩) O1.out.ok _)
        · have := O1.out.set a (.int .i64 ((i : Int) + 1))
          rw [intsC_set] at this
          exact Lib.hid this
    · have hs2 := Lib.hid (hs.out.trans (by rw [pSlotF, if_neg hzz, htl] : _ = pSlotF t f ((a + 1) % N)))
      have hz2 := hz.step ha' hzz
      rw [htl] at hz2
      have hzz' : (t.getD a 0 != 0) = true := by simpa using hzz
      generalize t.getD a 0 = x at c1 hzz'
      generalize (a + 1) % N = a2 at *
      clear hz hs hzz HA hnx
      go_wp2
      go_roundg f
      case measure => omega
      case rel => exact ⟨a2, rfl, hm, hz2, Lib.hid rfl, hs2⟩
  · have h0 : List.drop i keys = [] := List.drop_eq_nil_of_le (by omega)
    have B2 := Lib.hid (B1.out.trans (by rw [h0]; rfl : _ = t))
    clear B1 h0 HP HA
    obtain ⟨K, hM, hle, hR, hno⟩ := O1.out.donep M1.out 1 N (by simp [intsC, htl]) (by simp only [maxLen]; omega)
    have hR2 := Lib.hid (show Ints K (.slice (some ⟨bb, 0, none⟩) N N) (pBuild keys) by
      rw [B2.out]
      have e : t.flatMap encInt = (intsC t).toList := by
        simp only [intsC, List.toList_toArray]
        clear B2 O1 hR htl hc hno hle hM
        induction t with
        | nil => rfl
        | cons x t ih => simp [encInt, ih]
      unfold Ints Sl
      rw [e, htl]
      exact hR)
    have hM2 := Lib.hid hM
    clear hR hM hno hle
    go_wp2
    go_ret
    exact ⟨K, _, rfl, hM2.out, hR2.out⟩
end Go.Proofs.YtadaiihoclknmaaGreat
/- The port's calls: the methods. -/
namespace Go.Proofs.YtadaiihoclknmaaGreat
open Go.RowKit
set_option maxHeartbeats 4000000
set_option maxRecDepth 100000
set_option linter.unusedVariables false
set_option linter.unusedSimpArgs false
@[go_sem] theorem field_ans_e (b : Value) (n : Int) (ok : Bool) (e : Int) (w : World) : (Instr.field 154 (.agg #[b, .int .i64 n, .bool ok, .int .i64 e]) 3).run Tryz.prog w = .ok (.int .i64 e) w := by kernel_rfl
theorem port_Load (w : World) (L : Loc) (I : IHeap) (s : PS) (hst : St w L I s) (h : Int) (hn : ((pLoad h).exec s).1.ok) :
    Calls Tryz.prog 145 #[.pointer (some ⟨L.p, 0, none⟩), .int .i64 h] w (Post L w I ((pLoad h).exec s) (fun J v a => ∃ b, v = .tuple #[b, .int .i64 a.2] ∧ BlkV J b a.1)) := by
  have HE := Lib.hid (show (pLoad h).exec s = _ from exec_q (.load h) (fun a => (a.b, a.e)) s)
  have HN := Lib.hid (ask_ok (f := fun a => (a.b, a.e)) hn)
  have H1 := Lib.hid hst
  clear hst hn
  go_enter Tryz.func145, Tryz.ntmps145
  go_wp2_with fail
  refine (ask_any _ L I s ((H1.out.alloc _).alloc _) (.load h) 192 _ (fun W => enters Tryz.func192 (by kernel_rfl) rfl _ W) ?_ HN.out).mono ?_
  · intro w1 hN
    have h0 := hN.obj (alloc_old (alloc_new w _))
    have h1 := hN.obj (alloc_new (w.alloc _) _)
    exact Load_do w1 L I s.mem (((H1.out.mem.new ((Kept.refl _ _).alloc _)).new ((Kept.refl _ _).alloc _)).new hN) _ h0 _ h (by simpa using h1) (hN.cell (port_pm ((H1.out.alloc _).alloc _))) H1.out.pne
  · intro e w1 hP
    rcases (((Mg.start H1.out).alloc _).alloc _).call hP with ⟨a, s1, K, v, hr, rfl, hR, hg, hk, hM⟩ | ⟨s1, K, hr, rfl, hM⟩
    · obtain ⟨b, rfl, hb⟩ := hR
      have HM := Lib.hid hM
      have HB := Lib.hid hb
      have HX := Lib.hid (show (pLoad h).exec s = (.ret ((a.b, a.e)), s1) by rw [HE.out, hr])
      clear hP hr hg hk hM hb HE HN
      rcases blk_one HB.out with ⟨u, x, rfl⟩ | rfl
      all_goals
        go_wp2
        go_quiet (fail)
        go_wp2
        go_ret2
        rw [HX.out]
        exact Mg.post ((HM.out.alloc _).drewN _) ⟨_, rfl, HB.out⟩
    · exact post_panic rfl (by rw [HE.out, hr]; exact hM.paused)
theorem port_Word (w : World) (L : Loc) (I : IHeap) (s : PS) (hst : St w L I s) (h : Int) (hn : ((pWord h).exec s).1.ok) :
    Calls Tryz.prog 23 #[.pointer (some ⟨L.p, 0, none⟩), .int .i64 h] w (Post L w I ((pWord h).exec s) (Is fun a => .tuple #[.int .i64 a.1, .int .i64 a.2])) := by
  have HE := Lib.hid (show (pWord h).exec s = _ from exec_q (.word h) (fun a => (a.n, a.e)) s)
  have HN := Lib.hid (ask_ok (f := fun a => (a.n, a.e)) hn)
  have H1 := Lib.hid hst
  clear hst hn
  go_enter Tryz.func23, Tryz.ntmps23
  go_wp2_with fail
  refine (ask_any _ L I s ((H1.out.alloc _).alloc _) (.word h) 95 _ (fun W => enters Tryz.func95 (by kernel_rfl) rfl _ W) ?_ HN.out).mono ?_
  · intro w1 hN
    have h0 := hN.obj (alloc_old (alloc_new w _))
    have h1 := hN.obj (alloc_new (w.alloc _) _)
    exact Word_do w1 L I s.mem (((H1.out.mem.new ((Kept.refl _ _).alloc _)).new ((Kept.refl _ _).alloc _)).new hN) _ h0 _ h (by simpa using h1) (hN.cell (port_pm ((H1.out.alloc _).alloc _))) H1.out.pne
  · intro e w1 hP
    rcases (((Mg.start H1.out).alloc _).alloc _).call hP with ⟨a, s1, K, v, hr, rfl, hR, hg, hk, hM⟩ | ⟨s1, K, hr, rfl, hM⟩
    · obtain ⟨b, rfl, hb⟩ := hR
      have HM := Lib.hid hM
      have HB := Lib.hid hb
      have HX := Lib.hid (show (pWord h).exec s = (.ret ((a.n, a.e)), s1) by rw [HE.out, hr])
      clear hP hr hg hk hM hb HE HN
      rcases blk_one HB.out with ⟨u, x, rfl⟩ | rfl
      all_goals
        go_wp2
        go_quiet (fail)
        go_wp2
        go_ret2
        rw [HX.out]
        exact Mg.post ((HM.out.alloc _).drewN _) rfl
    · exact post_panic rfl (by rw [HE.out, hr]; exact hM.paused)
theorem port_AllocWord (w : World) (L : Loc) (I : IHeap) (s : PS) (hst : St w L I s) (n : Int) (hn : ((pAllocWord n).exec s).1.ok) :
    Calls Tryz.prog 19 #[.pointer (some ⟨L.p, 0, none⟩), .int .i64 n] w (Post L w I ((pAllocWord n).exec s) (Is fun a => .tuple #[.int .i64 a.1, .int .i64 a.2])) := by
  have HE := Lib.hid (show (pAllocWord n).exec s = _ from exec_q (.alloc (.word n)) (fun a => (a.n, a.e)) s)
  have HN := Lib.hid (ask_ok (f := fun a => (a.n, a.e)) hn)
  have H1 := Lib.hid hst
  clear hst hn
  go_enter Tryz.func19, Tryz.ntmps19
  go_wp2_with fail
  refine (ask_any _ L I s ((H1.out.alloc _).alloc _) (.alloc (.word n)) 85 _ (fun W => enters Tryz.func85 (by kernel_rfl) rfl _ W) ?_ HN.out).mono ?_
  · intro w1 hN
    have h0 := hN.obj (alloc_old (alloc_new w _))
    have h1 := hN.obj (alloc_new (w.alloc _) _)
    exact AllocWord_do w1 L I s.mem (((H1.out.mem.new ((Kept.refl _ _).alloc _)).new ((Kept.refl _ _).alloc _)).new hN) _ h0 _ n (by simpa using h1) (hN.cell (port_pm ((H1.out.alloc _).alloc _))) H1.out.pne
  · intro e w1 hP
    rcases (((Mg.start H1.out).alloc _).alloc _).call hP with ⟨a, s1, K, v, hr, rfl, hR, hg, hk, hM⟩ | ⟨s1, K, hr, rfl, hM⟩
    · obtain ⟨b, rfl, hb⟩ := hR
      have HM := Lib.hid hM
      have HB := Lib.hid hb
      have HX := Lib.hid (show (pAllocWord n).exec s = (.ret ((a.n, a.e)), s1) by rw [HE.out, hr])
      clear hP hr hg hk hM hb HE HN
      rcases blk_one HB.out with ⟨u, x, rfl⟩ | rfl
      all_goals
        go_wp2
        go_quiet (fail)
        go_wp2
        go_ret2
        rw [HX.out]
        exact Mg.post ((HM.out.alloc _).drewN _) rfl
    · exact post_panic rfl (by rw [HE.out, hr]; exact hM.paused)
theorem port_Alloc (w : World) (L : Loc) (I : IHeap) (s : PS) (hst : St w L I s) (bv : Value) (blk : Blk) (hbk : BlkV I bv (some blk)) (hn : ((pAlloc blk).exec s).1.ok) :
    Calls Tryz.prog 166 #[.pointer (some ⟨L.p, 0, none⟩), bv] w (Post L w I ((pAlloc blk).exec s) (Is fun a => .tuple #[.int .i64 a.1, .int .i64 a.2])) := by
  obtain ⟨bu, bx, rfl⟩ := blk_held hbk rfl
  have HBK := Lib.hid hbk
  clear hbk
  have HE := Lib.hid (show (pAlloc blk).exec s = _ from exec_q (.alloc blk) (fun a => (a.n, a.e)) s)
  have HN := Lib.hid (ask_ok (f := fun a => (a.n, a.e)) hn)
  have H1 := Lib.hid hst
  clear hst hn
  go_enter Tryz.func166, Tryz.ntmps166
  go_wp2_with fail
  refine (ask_any _ L I s ((H1.out.alloc _).alloc _) (.alloc blk) 217 _ (fun W => enters Tryz.func217 (by kernel_rfl) rfl _ W) ?_ HN.out).mono ?_
  · intro w1 hN
    have h0 := hN.obj (alloc_old (alloc_new w _))
    have h1 := hN.obj (alloc_new (w.alloc _) _)
    exact Alloc_do w1 L I s.mem (((H1.out.mem.new ((Kept.refl _ _).alloc _)).new ((Kept.refl _ _).alloc _)).new hN) _ h0 _ bu bx blk HBK.out (by simpa using h1) (hN.cell (port_pm ((H1.out.alloc _).alloc _))) H1.out.pne
  · intro e w1 hP
    rcases (((Mg.start H1.out).alloc _).alloc _).call hP with ⟨a, s1, K, v, hr, rfl, hR, hg, hk, hM⟩ | ⟨s1, K, hr, rfl, hM⟩
    · obtain ⟨b, rfl, hb⟩ := hR
      have HM := Lib.hid hM
      have HB := Lib.hid hb
      have HX := Lib.hid (show (pAlloc blk).exec s = (.ret ((a.n, a.e)), s1) by rw [HE.out, hr])
      clear hP hr hg hk hM hb HE HN
      rcases blk_one HB.out with ⟨u, x, rfl⟩ | rfl
      all_goals
        go_wp2
        go_quiet (fail)
        go_wp2
        go_ret2
        rw [HX.out]
        exact Mg.post ((HM.out.alloc _).drewN _) rfl
    · exact post_panic rfl (by rw [HE.out, hr]; exact hM.paused)
theorem port_Store (w : World) (L : Loc) (I : IHeap) (s : PS) (hst : St w L I s) (h : Int) (n : Int) (hn : ((pStore h n).exec s).1.ok) :
    Calls Tryz.prog 135 #[.pointer (some ⟨L.p, 0, none⟩), .int .i64 h, .int .i64 n] w (Post L w I ((pStore h n).exec s) (Is fun a => .int .i64 a)) := by
  have HE := Lib.hid (show (pStore h n).exec s = _ from exec_q (.store h n) (fun a => a.e) s)
  have HN := Lib.hid (ask_ok (f := fun a => a.e) hn)
  have H1 := Lib.hid hst
  clear hst hn
  go_enter Tryz.func135, Tryz.ntmps135
  go_wp2_with fail
  refine (ask_any _ L I s (((H1.out.alloc _).alloc _).alloc _) (.store h n) 175 _ (fun W => enters Tryz.func175 (by kernel_rfl) rfl _ W) ?_ HN.out).mono ?_
  · intro w1 hN
    have h0 := hN.obj (alloc_old (alloc_old (alloc_new w _)))
    have h1 := hN.obj (alloc_old (alloc_new (w.alloc _) _))
    have h2 := hN.obj (alloc_new ((w.alloc _).alloc _) _)
    exact Store_do w1 L I s.mem ((((H1.out.mem.new ((Kept.refl _ _).alloc _)).new ((Kept.refl _ _).alloc _)).new ((Kept.refl _ _).alloc _)).new hN) _ h0 _ h (by simpa using h1) _ n (by simpa using h2) (hN.cell (port_pm (((H1.out.alloc _).alloc _).alloc _))) H1.out.pne
  · intro e w1 hP
    rcases ((((Mg.start H1.out).alloc _).alloc _).alloc _).call hP with ⟨a, s1, K, v, hr, rfl, hR, hg, hk, hM⟩ | ⟨s1, K, hr, rfl, hM⟩
    · obtain ⟨b, rfl, hb⟩ := hR
      have HM := Lib.hid hM
      have HB := Lib.hid hb
      have HX := Lib.hid (show (pStore h n).exec s = (.ret (a.e), s1) by rw [HE.out, hr])
      clear hP hr hg hk hM hb HE HN
      rcases blk_one HB.out with ⟨u, x, rfl⟩ | rfl
      all_goals
        go_wp2
        go_ret
        rw [HX.out]
        exact Mg.post HM.out rfl
    · exact post_panic rfl (by rw [HE.out, hr]; exact hM.paused)
theorem port_Free (w : World) (L : Loc) (I : IHeap) (s : PS) (hst : St w L I s) (h : Int) (hn : ((pFree h).exec s).1.ok) :
    Calls Tryz.prog 116 #[.pointer (some ⟨L.p, 0, none⟩), .int .i64 h] w (Post L w I ((pFree h).exec s) (Is fun a => .int .i64 a)) := by
  have HE := Lib.hid (show (pFree h).exec s = _ from exec_q (.free h) (fun a => a.e) s)
  have HN := Lib.hid (ask_ok (f := fun a => a.e) hn)
  have H1 := Lib.hid hst
  clear hst hn
  go_enter Tryz.func116, Tryz.ntmps116
  go_wp2_with fail
  refine (ask_any _ L I s ((H1.out.alloc _).alloc _) (.free h) 160 _ (fun W => enters Tryz.func160 (by kernel_rfl) rfl _ W) ?_ HN.out).mono ?_
  · intro w1 hN
    have h0 := hN.obj (alloc_old (alloc_new w _))
    have h1 := hN.obj (alloc_new (w.alloc _) _)
    exact Free_do w1 L I s.mem (((H1.out.mem.new ((Kept.refl _ _).alloc _)).new ((Kept.refl _ _).alloc _)).new hN) _ h0 _ h (by simpa using h1) (hN.cell (port_pm ((H1.out.alloc _).alloc _))) H1.out.pne
  · intro e w1 hP
    rcases (((Mg.start H1.out).alloc _).alloc _).call hP with ⟨a, s1, K, v, hr, rfl, hR, hg, hk, hM⟩ | ⟨s1, K, hr, rfl, hM⟩
    · obtain ⟨b, rfl, hb⟩ := hR
      have HM := Lib.hid hM
      have HB := Lib.hid hb
      have HX := Lib.hid (show (pFree h).exec s = (.ret (a.e), s1) by rw [HE.out, hr])
      clear hP hr hg hk hM hb HE HN
      rcases blk_one HB.out with ⟨u, x, rfl⟩ | rfl
      all_goals
        go_wp2
        go_ret
        rw [HX.out]
        exact Mg.post HM.out rfl
    · exact post_panic rfl (by rw [HE.out, hr]; exact hM.paused)
theorem port_Retire (w : World) (L : Loc) (I : IHeap) (s : PS) (hst : St w L I s) (h : Int) (n : Int) (hn : ((pRetire h n).exec s).1.ok) :
    Calls Tryz.prog 146 #[.pointer (some ⟨L.p, 0, none⟩), .int .i64 h, .int .i64 n] w (Post L w I ((pRetire h n).exec s) (Is fun a => .int .i64 a)) := by
  have HE := Lib.hid (show (pRetire h n).exec s = _ from exec_q (.retire h n) (fun a => a.e) s)
  have HN := Lib.hid (ask_ok (f := fun a => a.e) hn)
  have H1 := Lib.hid hst
  clear hst hn
  go_enter Tryz.func146, Tryz.ntmps146
  go_wp2_with fail
  refine (ask_any _ L I s (((H1.out.alloc _).alloc _).alloc _) (.retire h n) 194 _ (fun W => enters Tryz.func194 (by kernel_rfl) rfl _ W) ?_ HN.out).mono ?_
  · intro w1 hN
    have h0 := hN.obj (alloc_old (alloc_old (alloc_new w _)))
    have h1 := hN.obj (alloc_old (alloc_new (w.alloc _) _))
    have h2 := hN.obj (alloc_new ((w.alloc _).alloc _) _)
    exact Retire_do w1 L I s.mem ((((H1.out.mem.new ((Kept.refl _ _).alloc _)).new ((Kept.refl _ _).alloc _)).new ((Kept.refl _ _).alloc _)).new hN) _ h0 _ h (by simpa using h1) _ n (by simpa using h2) (hN.cell (port_pm (((H1.out.alloc _).alloc _).alloc _))) H1.out.pne
  · intro e w1 hP
    rcases ((((Mg.start H1.out).alloc _).alloc _).alloc _).call hP with ⟨a, s1, K, v, hr, rfl, hR, hg, hk, hM⟩ | ⟨s1, K, hr, rfl, hM⟩
    · obtain ⟨b, rfl, hb⟩ := hR
      have HM := Lib.hid hM
      have HB := Lib.hid hb
      have HX := Lib.hid (show (pRetire h n).exec s = (.ret (a.e), s1) by rw [HE.out, hr])
      clear hP hr hg hk hM hb HE HN
      rcases blk_one HB.out with ⟨u, x, rfl⟩ | rfl
      all_goals
        go_wp2
        go_ret
        rw [HX.out]
        exact Mg.post HM.out rfl
    · exact post_panic rfl (by rw [HE.out, hr]; exact hM.paused)
theorem port_Swap (w : World) (L : Loc) (I : IHeap) (s : PS) (hst : St w L I s) (h : Int) (o : Int) (n : Int) (hn : ((pSwap h o n).exec s).1.ok) :
    Calls Tryz.prog 141 #[.pointer (some ⟨L.p, 0, none⟩), .int .i64 h, .int .i64 o, .int .i64 n] w (Post L w I ((pSwap h o n).exec s) (Is fun a => .tuple #[.bool a.1, .int .i64 a.2])) := by
  have HE := Lib.hid (show (pSwap h o n).exec s = _ from exec_q (.swap h o n) (fun a => (a.ok, a.e)) s)
  have HN := Lib.hid (ask_ok (f := fun a => (a.ok, a.e)) hn)
  have H1 := Lib.hid hst
  clear hst hn
  go_enter Tryz.func141, Tryz.ntmps141
  go_wp2_with fail
  refine (ask_any _ L I s ((((H1.out.alloc _).alloc _).alloc _).alloc _) (.swap h o n) 190 _ (fun W => enters Tryz.func190 (by kernel_rfl) rfl _ W) ?_ HN.out).mono ?_
  · intro w1 hN
    have h0 := hN.obj (alloc_old (alloc_old (alloc_old (alloc_new w _))))
    have h1 := hN.obj (alloc_old (alloc_old (alloc_new (w.alloc _) _)))
    have h2 := hN.obj (alloc_old (alloc_new ((w.alloc _).alloc _) _))
    have h3 := hN.obj (alloc_new (((w.alloc _).alloc _).alloc _) _)
    exact Swap_do w1 L I s.mem (((((H1.out.mem.new ((Kept.refl _ _).alloc _)).new ((Kept.refl _ _).alloc _)).new ((Kept.refl _ _).alloc _)).new ((Kept.refl _ _).alloc _)).new hN) _ h0 _ h (by simpa using h1) _ o (by simpa using h2) _ n (by simpa using h3) (hN.cell (port_pm ((((H1.out.alloc _).alloc _).alloc _).alloc _))) H1.out.pne
  · intro e w1 hP
    rcases (((((Mg.start H1.out).alloc _).alloc _).alloc _).alloc _).call hP with ⟨a, s1, K, v, hr, rfl, hR, hg, hk, hM⟩ | ⟨s1, K, hr, rfl, hM⟩
    · obtain ⟨b, rfl, hb⟩ := hR
      have HM := Lib.hid hM
      have HB := Lib.hid hb
      have HX := Lib.hid (show (pSwap h o n).exec s = (.ret ((a.ok, a.e)), s1) by rw [HE.out, hr])
      clear hP hr hg hk hM hb HE HN
      rcases blk_one HB.out with ⟨u, x, rfl⟩ | rfl
      all_goals
        go_wp2
        go_quiet (fail)
        go_wp2
        go_ret2
        rw [HX.out]
        exact Mg.post ((HM.out.alloc _).drewN _) rfl
    · exact post_panic rfl (by rw [HE.out, hr]; exact hM.paused)
theorem port_Reap (w : World) (L : Loc) (I : IHeap) (s : PS) (hst : St w L I s) (h : Int) (n : Int) (hn : ((pReap h n).exec s).1.ok) :
    Calls Tryz.prog 25 #[.pointer (some ⟨L.p, 0, none⟩), .int .i64 h, .int .i64 n] w (Post L w I ((pReap h n).exec s) (Is fun a => .tuple #[.bool a.1, .int .i64 a.2])) := by
  have HE := Lib.hid (show (pReap h n).exec s = _ from exec_q (.reap h n) (fun a => (a.ok, a.e)) s)
  have HN := Lib.hid (ask_ok (f := fun a => (a.ok, a.e)) hn)
  have H1 := Lib.hid hst
  clear hst hn
  go_enter Tryz.func25, Tryz.ntmps25
  go_wp2_with fail
  refine (ask_any _ L I s (((H1.out.alloc _).alloc _).alloc _) (.reap h n) 97 _ (fun W => enters Tryz.func97 (by kernel_rfl) rfl _ W) ?_ HN.out).mono ?_
  · intro w1 hN
    have h0 := hN.obj (alloc_old (alloc_old (alloc_new w _)))
    have h1 := hN.obj (alloc_old (alloc_new (w.alloc _) _))
    have h2 := hN.obj (alloc_new ((w.alloc _).alloc _) _)
    exact Reap_do w1 L I s.mem ((((H1.out.mem.new ((Kept.refl _ _).alloc _)).new ((Kept.refl _ _).alloc _)).new ((Kept.refl _ _).alloc _)).new hN) _ h0 _ h (by simpa using h1) _ n (by simpa using h2) (hN.cell (port_pm (((H1.out.alloc _).alloc _).alloc _))) H1.out.pne
  · intro e w1 hP
    rcases ((((Mg.start H1.out).alloc _).alloc _).alloc _).call hP with ⟨a, s1, K, v, hr, rfl, hR, hg, hk, hM⟩ | ⟨s1, K, hr, rfl, hM⟩
    · obtain ⟨b, rfl, hb⟩ := hR
      have HM := Lib.hid hM
      have HB := Lib.hid hb
      have HX := Lib.hid (show (pReap h n).exec s = (.ret ((a.ok, a.e)), s1) by rw [HE.out, hr])
      clear hP hr hg hk hM hb HE HN
      rcases blk_one HB.out with ⟨u, x, rfl⟩ | rfl
      all_goals
        go_wp2
        go_quiet (fail)
        go_wp2
        go_ret2
        rw [HX.out]
        exact Mg.post ((HM.out.alloc _).drewN _) rfl
    · exact post_panic rfl (by rw [HE.out, hr]; exact hM.paused)
end Go.Proofs.YtadaiihoclknmaaGreat
/- Descriptors. -/
namespace Go.Proofs.YtadaiihoclknmaaGreat
open Go.RowKit
set_option maxHeartbeats 4000000
set_option maxRecDepth 100000
set_option linter.unusedVariables false
set_option linter.unusedSimpArgs false

def dLaid (status : Int) (d : Desc) : Prog (Int × Int) := do
  let x ← pAllocWord status
  if x.2 = 0 then do
    let y ← pAlloc (.desc { d with status := x.1 })
    if y.2 = 0 then return (y.1, 0)
    else do
      let _ ← pFree x.1
      return (0, y.2)
  else return (0, x.2)

abbrev pairV (a : Int × Int) : Value := .tuple #[.int .i64 a.1, .int .i64 a.2]
theorem desc_laid (w : World) (L : Loc) (I : IHeap) (s : PS) (hst : St w L I s) (status : Int) (d : Desc) (sv : Value) (hd : Swaps I sv d.swaps) (hn : ((dLaid status d).exec s).1.ok) :
    Calls Tryz.prog 142 #[.pointer (some ⟨L.p, 0, none⟩), .int .i64 status, .agg #[.int .i64 d.version, .int .i64 d.before, .int .i64 d.status, sv]] w (Post L w I ((dLaid status d).exec s) (Is pairV)) := by
  obtain ⟨A, cap, rfl, _, _⟩ := hd.form
  have M0 := Lib.hid (Mg.start hst)
  have HD := Lib.hid hd
  have HN := Lib.hid hn
  have X0 : Ex ((dLaid status d).exec s) ((dLaid status d).exec s) := ⟨rfl⟩
  clear hst hd hn
  go_enter Tryz.func142, Tryz.ntmps142
  go_wp2_with fail
  refine (port_AllocWord _ L _ _ (M0.out.alloc _).st status (ok_of HN.out X0.out)).mono ?_
  intro e W1 hP
  rcases (M0.out.alloc _).call hP with ⟨⟨a1, e1⟩, s1, J1, v1, hr, rfl, rfl, hg, hk, hM⟩ | ⟨s', J', hr, rfl, hM⟩
  rotate_left
  · exact post_panic rfl (by rw [x_paused X0.out hr]; exact hM.paused)
  have M1 := Lib.hid hM
  have K1 := Lib.hid hk
  have G1 := Lib.hid hg
  have X1 := Ex.mk (x_ret X0.out hr)
  clear hP hr hg hk hM
  have B1 := (M0.out.alloc _).obj K1.out (alloc_new w _) rfl
  have b0 := cell_blk B1 0
  have b1 := cell_blk B1 1
  have b2 := cell_blk B1 2
  have b3 := cell_blk B1 3
  have f2 := free_blk B1 2
  have z1 := (M0.out.none : I w.heap.size = none)
  have BB := Lib.hid B1
  have Z1 := Lib.hid (Grow.none G1.out z1 (by simp))
  clear B1 z1
  by_cases he : e1 = 0
  · subst he
    have X2 := Ex.mk (x_if X1.out rfl)
    go_wp2_with fail
    have M2 := Lib.hid (M1.out.set (a := ⟨w.heap.size, 2, none⟩) BB.out rfl (Nat.le_refl _) Z1.out (.int .i64 a1))
    refine (port_Alloc _ L _ _ (M2.out).st _ (.desc { d with status := a1 }) ⟨_, rfl, _, rfl, HD.out.mono G1.out.le⟩ (ok_of HN.out X2.out)).mono ?_
    intro e W3 hP
    rcases (M2.out).call hP with ⟨⟨a2, e2⟩, s3, J3, v3, hr, rfl, rfl, hg, hk, hM⟩ | ⟨s', J', hr, rfl, hM⟩
    rotate_left
    · exact post_panic rfl (by rw [x_paused X2.out hr]; exact hM.paused)
    have M3 := Lib.hid hM
    have K3 := Lib.hid hk
    have G3 := Lib.hid hg
    have X3 := Ex.mk (x_ret X2.out hr)
    clear hP hr hg hk hM
    by_cases he : e2 = 0
    · subst he
      have X4 := Ex.mk (x_if X3.out rfl)
      go_wp2
      go_ret2
      rw [x_done X4.out]
      exact M3.out.post rfl
    · have t1 := ne_true he
      have X4 := Ex.mk (x_else X3.out he)
      clear he
      go_wp2_with fail
      refine (port_Free _ L _ _ (M3.out).st a1 (ok_of HN.out X4.out)).mono ?_
      intro e W5 hP
      rcases (M3.out).call hP with ⟨e3, s5, J5, v5, hr, rfl, rfl, hg, hk, hM⟩ | ⟨s', J', hr, rfl, hM⟩
      rotate_left
      · exact post_panic rfl (by rw [x_paused X4.out hr]; exact hM.paused)
      have M5 := Lib.hid hM
      have K5 := Lib.hid hk
      have G5 := Lib.hid hg
      have X5 := Ex.mk (x_ret X4.out hr)
      clear hP hr hg hk hM
      go_wp2
      go_ret2
      rw [x_done X5.out]
      exact M5.out.post rfl
  · have t1 := ne_true he
    have X2 := Ex.mk (x_else X1.out he)
    clear he
    go_wp2
    go_ret2
    rw [x_done X2.out]
    exact M1.out.post rfl
end Go.Proofs.YtadaiihoclknmaaGreat
/- Descriptors: loaded, and made. -/
namespace Go.Proofs.YtadaiihoclknmaaGreat
open Go.RowKit
set_option maxHeartbeats 4000000
set_option maxRecDepth 100000
set_option linter.unusedVariables false
set_option linter.unusedSimpArgs false

def dLoad (h : Int) : Prog (Desc × Int) := do
  let x ← pLoad h
  if x.2 = 0 then
    match x.1 with
    | some (.desc d) => return (d, 0)
    | _ => return (Desc.none, 6)
  else return (Desc.none, x.2)
def DescE (J : IHeap) (v : Value) (a : Desc × Int) : Prop := ∃ x, v = .tuple #[x, .int .i64 a.2] ∧ DescV J x a.1
theorem DescV.none (J : IHeap) : DescV J (.agg #[.int .i64 0, .int .i64 0, .int .i64 0, .slice none 0 0]) Desc.none := ⟨_, rfl, Row.nil _ _ _⟩
theorem DescV.form {J : IHeap} {x : Value} {d : Desc} (h : DescV J x d) : ∃ A cap, x = .agg #[.int .i64 d.version, .int .i64 d.before, .int .i64 d.status, .slice A d.swaps.length cap] ∧ Swaps J (.slice A d.swaps.length cap) d.swaps := by
  obtain ⟨sv, rfl, hs⟩ := h
  obtain ⟨A, cap, rfl, _, _⟩ := hs.form
  exact ⟨A, cap, rfl, hs⟩
theorem desc_Load (w : World) (L : Loc) (I : IHeap) (s : PS) (hst : St w L I s) (h : Int) (hn : ((dLoad h).exec s).1.ok) :
    Calls Tryz.prog 93 #[.pointer (some ⟨L.p, 0, none⟩), .int .i64 h] w (Post L w I ((dLoad h).exec s) DescE) := by
  have M0 := Lib.hid (Mg.start hst)
  have HN := Lib.hid hn
  have X0 : Ex ((dLoad h).exec s) ((dLoad h).exec s) := ⟨rfl⟩
  clear hst hn
  go_enter Tryz.func93, Tryz.ntmps93
  go_wp2_with fail
  refine (port_Load _ L _ _ (M0.out.alloc _).st h (ok_of HN.out X0.out)).mono ?_
  intro e W1 hP
  rcases (M0.out.alloc _).call hP with ⟨⟨a1, e1⟩, s1, J1, v1, hr, rfl, ⟨b, rfl, hb⟩, hg, hk, hM⟩ | ⟨s', J', hr, rfl, hM⟩
  rotate_left
  · exact post_panic rfl (by rw [x_paused X0.out hr]; exact hM.paused)
  have M1 := Lib.hid hM
  have K1 := Lib.hid hk
  have G1 := Lib.hid hg
  have X1 := Ex.mk (x_ret X0.out hr)
  clear hP hr hg hk hM
  have O0 := Lib.hid (OB.fresh (M0.out) #[.int .i64 0, .int .i64 0, .int .i64 0, .slice none 0 0] 46 rfl)
  have O1 := Lib.hid (OB.thru O0.out (M0.out.alloc _) K1.out G1.out (fun hh => by repeat (first | with_reducible exact hh | with_reducible refine OB.alloc ?_ _ | with_reducible refine OB.drew ?_ | with_reducible refine OB.drewN ?_ _ | refine OB.far ?_ (by dsimp only; omega) _)))
  clear O0
  have g0 := cell_blk O1.out.at_ 0
  have g1 := cell_blk O1.out.at_ 1
  have g2 := cell_blk O1.out.at_ 2
  have g3 := cell_blk O1.out.at_ 3
  have gf0 := free_blk O1.out.at_ 0
  have gf1 := free_blk O1.out.at_ 1
  have gf2 := free_blk O1.out.at_ 2
  have gf3 := free_blk O1.out.at_ 3
  have gs := lt_of_block O1.out.at_
  by_cases he : e1 = 0
  · subst he
    have X2 := Ex.mk (x_if X1.out rfl)
    have HB := Lib.hid hb
    clear hb
    rcases a1 with _ | (n | d | a | n)
    · obtain rfl : b = .nilIface := HB.out
      go_wp2
      refine bodyPost_ret (v := .tuple #[.agg #[.int .i64 0, .int .i64 0, .int .i64 0, .slice none 0 0], .int .i64 6]) (by simp [results, Tryz.results93, go_sem, g0, g1, g2, g3, gs]) rfl ?_
      rw [x_done X2.out]
      exact Mg.post (J := J1) (by repeat (first | with_reducible exact M1.out | with_reducible refine Mg.drewN ?_ _ | with_reducible refine Mg.drew ?_ | with_reducible refine Mg.alloc ?_ _ | refine Mg.seto ?_ (by repeat (first | with_reducible exact O1.out.ok | with_reducible refine OwnOk.set ?_ _ _ | with_reducible refine OwnOk.alloc ?_ _ | with_reducible refine OwnOk.drew ?_ | with_reducible refine OwnOk.drewN ?_ _)) _)) ⟨_, rfl, DescV.none _⟩
    · obtain rfl : b = .iface 227 (.int .i64 n) := HB.out
      go_wp2
      refine bodyPost_ret (v := .tuple #[.agg #[.int .i64 0, .int .i64 0, .int .i64 0, .slice none 0 0], .int .i64 6]) (by simp [results, Tryz.results93, go_sem, g0, g1, g2, g3, gs]) rfl ?_
      rw [x_done X2.out]
      exact Mg.post (J := J1) (by repeat (first | with_reducible exact M1.out | with_reducible refine Mg.drewN ?_ _ | with_reducible refine Mg.drew ?_ | with_reducible refine Mg.alloc ?_ _ | refine Mg.seto ?_ (by repeat (first | with_reducible exact O1.out.ok | with_reducible refine OwnOk.set ?_ _ _ | with_reducible refine OwnOk.alloc ?_ _ | with_reducible refine OwnOk.drew ?_ | with_reducible refine OwnOk.drewN ?_ _)) _)) ⟨_, rfl, DescV.none _⟩
    · obtain ⟨x, rfl, hd⟩ := HB.out
      obtain ⟨A, cap, rfl, hsw⟩ := hd.form
      have HD := Lib.hid hd
      clear hd hsw
      go_wp2
      refine bodyPost_ret (v := .tuple #[.agg #[.int .i64 d.version, .int .i64 d.before, .int .i64 d.status, .slice A d.swaps.length cap], .int .i64 0]) (by simp [results, Tryz.results93, go_sem, g0, g1, g2, g3, gs]) rfl ?_
      rw [x_done X2.out]
      exact Mg.post (J := J1) (by repeat (first | with_reducible exact M1.out | with_reducible refine Mg.drewN ?_ _ | with_reducible refine Mg.drew ?_ | with_reducible refine Mg.alloc ?_ _ | refine Mg.seto ?_ (by repeat (first | with_reducible exact O1.out.ok | with_reducible refine OwnOk.set ?_ _ _ | with_reducible refine OwnOk.alloc ?_ _ | with_reducible refine OwnOk.drew ?_ | with_reducible refine OwnOk.drewN ?_ _)) _)) ⟨_, rfl, HD.out⟩
    · obtain ⟨x, rfl, _⟩ := HB.out
      go_wp2
      refine bodyPost_ret (v := .tuple #[.agg #[.int .i64 0, .int .i64 0, .int .i64 0, .slice none 0 0], .int .i64 6]) (by simp [results, Tryz.results93, go_sem, g0, g1, g2, g3, gs]) rfl ?_
      rw [x_done X2.out]
      exact Mg.post (J := J1) (by repeat (first | with_reducible exact M1.out | with_reducible refine Mg.drewN ?_ _ | with_reducible refine Mg.drew ?_ | with_reducible refine Mg.alloc ?_ _ | refine Mg.seto ?_ (by repeat (first | with_reducible exact O1.out.ok | with_reducible refine OwnOk.set ?_ _ _ | with_reducible refine OwnOk.alloc ?_ _ | with_reducible refine OwnOk.drew ?_ | with_reducible refine OwnOk.drewN ?_ _)) _)) ⟨_, rfl, DescV.none _⟩
    · obtain ⟨x, rfl, _⟩ := HB.out
      go_wp2
      refine bodyPost_ret (v := .tuple #[.agg #[.int .i64 0, .int .i64 0, .int .i64 0, .slice none 0 0], .int .i64 6]) (by simp [results, Tryz.results93, go_sem, g0, g1, g2, g3, gs]) rfl ?_
      rw [x_done X2.out]
      exact Mg.post (J := J1) (by repeat (first | with_reducible exact M1.out | with_reducible refine Mg.drewN ?_ _ | with_reducible refine Mg.drew ?_ | with_reducible refine Mg.alloc ?_ _ | refine Mg.seto ?_ (by repeat (first | with_reducible exact O1.out.ok | with_reducible refine OwnOk.set ?_ _ _ | with_reducible refine OwnOk.alloc ?_ _ | with_reducible refine OwnOk.drew ?_ | with_reducible refine OwnOk.drewN ?_ _)) _)) ⟨_, rfl, DescV.none _⟩
  · have t1 := ne_true he
    have X2 := Ex.mk (x_else X1.out he)
    clear he hb
    go_wp2
    refine bodyPost_ret (v := .tuple #[.agg #[.int .i64 0, .int .i64 0, .int .i64 0, .slice none 0 0], .int .i64 e1]) (by simp [results, Tryz.results93, go_sem, g0, g1, g2, g3, gs]) rfl ?_
    rw [x_done X2.out]
    exact Mg.post (J := J1) (by repeat (first | with_reducible exact M1.out | with_reducible refine Mg.drewN ?_ _ | with_reducible refine Mg.drew ?_ | with_reducible refine Mg.alloc ?_ _ | refine Mg.seto ?_ (by repeat (first | with_reducible exact O1.out.ok | with_reducible refine OwnOk.set ?_ _ _ | with_reducible refine OwnOk.alloc ?_ _ | with_reducible refine OwnOk.drew ?_ | with_reducible refine OwnOk.drewN ?_ _)) _)) ⟨_, rfl, DescV.none _⟩
end Go.Proofs.YtadaiihoclknmaaGreat
