/- Part 14 of the proof: Node4, Node5. -/
import Derived.Test.YtadaiihoclknmaaGreatC13
import Derived.Test.YtadaiihoclknmaaGreatC07
/- Nodes: made; the newest age. -/
namespace Go.Proofs.YtadaiihoclknmaaGreat
open Go.RowKit
set_option maxHeartbeats 4000000
set_option maxRecDepth 100000
set_option linter.unusedVariables false
set_option linter.unusedSimpArgs false

theorem OB.fresh2 {w W : World} {L : Loc} {I J : IHeap} {s : PS} (h : Mg w L I J s W) (cs : Array Value) (t : TypeId) (ht : mutT t = false) (o : Obj) : OB w J ((W.alloc o).alloc (.cells cs t)) (W.heap.size + 1) cs t := by
  have := OB.fresh (h.alloc o) cs t ht
  rwa [show (W.alloc o).heap.size = W.heap.size + 1 by simp] at this
def nNewest (n : Node) : Prog (Int × Age × Int) := do
  let x ← pWord n.head
  if x.2 = 0 then do
    let y ← nTake x.1
    if y.2 = 0 then return (x.1, y.1, 0)
    else return (0, Age.none, y.2)
  else return (0, Age.none, x.2)
def NewE (J : IHeap) (v : Value) (a : Int × Age × Int) : Prop := ∃ x, v = .tuple #[.int .i64 a.1, x, .int .i64 a.2.2] ∧ AgeV J x a.2.1
theorem node_Newest (w : World) (L : Loc) (I : IHeap) (s : PS) (hst : St w L I s) (n : Node) (nv : Value) (hv : NodeV I nv n) (hn : ((nNewest n).exec s).1.ok) :
    Calls Tryz.prog 133 #[.pointer (some ⟨L.p, 0, none⟩), nv] w (Post L w I ((nNewest n).exec s) NewE) := by
  have M0 := Lib.hid (Mg.start hst)
  have HN := Lib.hid hn
  have X0 : Ex ((nNewest n).exec s) ((nNewest n).exec s) := ⟨rfl⟩
  obtain ⟨A, cap, rfl, hs, hl⟩ := hv.form
  clear hst hn hv hs hl
  go_enter Tryz.func133, Tryz.ntmps133
  go_wp2_with fail
  have O0 := Lib.hid (OB.fresh (M0.out) #[.string n.low, .int .i64 n.head, .slice A n.next.length cap] 117 rfl)
  have M9 := Lib.hid (M0.out.alloc (.cells #[.string n.low, .int .i64 n.head, .slice A n.next.length cap] 117))
  have P0 := Lib.hid (OB.fresh2 M0.out #[.int .i64 0, .int .i64 0, .string ⟨#[]⟩, .string ⟨#[]⟩, .bool false, .bool false, .slice none 0 0, .slice none 0 0, .slice none 0 0, .slice none 0 0, .int .i64 0] 211 rfl (.cells #[.string n.low, .int .i64 n.head, .slice A n.next.length cap] 117))
  refine (port_Word _ L _ _ (M9.out.alloc _).st n.head (ok_of HN.out X0.out)).mono ?_
  intro e W1 hP
  rcases (M9.out.alloc _).call hP with ⟨⟨a1, e1⟩, s1, J1, v1, hr, rfl, rfl, hg, hk, hM⟩ | ⟨s', J', hr, rfl, hM⟩
  rotate_left
  · exact post_panic rfl (by rw [x_paused X0.out hr]; exact hM.paused)
  have M1 := Lib.hid hM
  have K1 := Lib.hid hk
  have G1 := Lib.hid hg
  have X1 := Ex.mk (x_ret X0.out hr)
  clear hP hr hg hk hM
  have P1 := Lib.hid (OB.thru P0.out (M9.out.alloc _) K1.out G1.out (fun hh => by repeat (first | with_reducible exact hh | with_reducible refine OB.alloc ?_ _ | with_reducible refine OB.drew ?_ | with_reducible refine OB.drewN ?_ _ | refine OB.far ?_ (by dsimp only; omega) _)))
  by_cases he : e1 = 0
  · subst he
    have X2 := Ex.mk (x_if X1.out rfl)
    go_wp2_with fail
    refine (node_Take _ L _ _ (M1.out).st a1 (ok_of HN.out X2.out)).mono ?_
    intro e W3 hP
    rcases (M1.out).call hP with ⟨⟨a, e3⟩, s3, J3, v3, hr, rfl, ⟨x, rfl, hx⟩, hg, hk, hM⟩ | ⟨s', J', hr, rfl, hM⟩
    rotate_left
    · exact post_panic rfl (by rw [x_paused X2.out hr]; exact hM.paused)
    have M3 := Lib.hid hM
    have K3 := Lib.hid hk
    have G3 := Lib.hid hg
    have X3 := Ex.mk (x_ret X2.out hr)
    clear hP hr hg hk hM
    have P3 := Lib.hid (OB.thru P1.out (M1.out) K3.out G3.out (fun hh => by repeat (first | with_reducible exact hh | with_reducible refine OB.alloc ?_ _ | with_reducible refine OB.drew ?_ | with_reducible refine OB.drewN ?_ _ | refine OB.far ?_ (by dsimp only; omega) _)))
    obtain ⟨ka, kc, va, vc, ga, gc, ta, tc, rfl, _⟩ := hx.form
    have HX := Lib.hid hx
    clear hx
    dsimp only at *
    have g0 := cell_blk P3.out.at_ 0
    have g1 := cell_blk P3.out.at_ 1
    have g2 := cell_blk P3.out.at_ 2
    have g3 := cell_blk P3.out.at_ 3
    have g4 := cell_blk P3.out.at_ 4
    have g5 := cell_blk P3.out.at_ 5
    have g6 := cell_blk P3.out.at_ 6
    have g7 := cell_blk P3.out.at_ 7
    have g8 := cell_blk P3.out.at_ 8
    have g9 := cell_blk P3.out.at_ 9
    have g10 := cell_blk P3.out.at_ 10
    have gf0 := free_blk P3.out.at_ 0
    have gf1 := free_blk P3.out.at_ 1
    have gf2 := free_blk P3.out.at_ 2
    have gf3 := free_blk P3.out.at_ 3
    have gf4 := free_blk P3.out.at_ 4
    have gf5 := free_blk P3.out.at_ 5
    have gf6 := free_blk P3.out.at_ 6
    have gf7 := free_blk P3.out.at_ 7
    have gf8 := free_blk P3.out.at_ 8
    have gf9 := free_blk P3.out.at_ 9
    have gf10 := free_blk P3.out.at_ 10
    have gs := lt_of_block P3.out.at_
    by_cases he : e3 = 0
    · subst he
      have X4 := Ex.mk (x_if X3.out rfl)
      go_wp2
      go_region
      all_goals
        go_wp2
        refine bodyPost_ret (v := .tuple #[.int .i64 a1, .agg #[.int .i64 a.rev.version, .int .i64 a.rev.rate, .string a.rev.span.lo, .string a.rev.span.hi, .bool a.rev.span.all, .bool a.rev.dead, .slice ka a.rev.keys.length kc, .slice va a.rev.vals.length vc, .slice ga a.rev.gone.length gc, .slice ta a.rev.table.length tc, .int .i64 a.prev], .int .i64 0]) (by simp [results, Tryz.results133, go_sem, g0, g1, g2, g3, g4, g5, g6, g7, g8, g9, g10, gs]) rfl ?_
        rw [x_done X4.out]
        exact Mg.post (J := J3) (by repeat (first | with_reducible exact M3.out | with_reducible refine Mg.drewN ?_ _ | with_reducible refine Mg.drew ?_ | with_reducible refine Mg.alloc ?_ _ | refine Mg.seto ?_ (by repeat (first | with_reducible exact P3.out.ok | with_reducible refine OwnOk.set ?_ _ _ | with_reducible refine OwnOk.alloc ?_ _ | with_reducible refine OwnOk.drew ?_ | with_reducible refine OwnOk.drewN ?_ _)) _)) ⟨_, rfl, HX.out⟩
    · have t1 := ne_true he
      have X4 := Ex.mk (x_else X3.out he)
      clear he
      go_wp2
      refine bodyPost_ret (v := .tuple #[.int .i64 0, .agg #[.int .i64 0, .int .i64 0, .string ⟨#[]⟩, .string ⟨#[]⟩, .bool false, .bool false, .slice none 0 0, .slice none 0 0, .slice none 0 0, .slice none 0 0, .int .i64 0], .int .i64 e3]) (by simp [results, Tryz.results133, go_sem, g0, g1, g2, g3, g4, g5, g6, g7, g8, g9, g10, gs]) rfl ?_
      rw [x_done X4.out]
      exact Mg.post (J := J3) (by repeat (first | with_reducible exact M3.out | with_reducible refine Mg.drewN ?_ _ | with_reducible refine Mg.drew ?_ | with_reducible refine Mg.alloc ?_ _ | refine Mg.seto ?_ (by repeat (first | with_reducible exact P3.out.ok | with_reducible refine OwnOk.set ?_ _ _ | with_reducible refine OwnOk.alloc ?_ _ | with_reducible refine OwnOk.drew ?_ | with_reducible refine OwnOk.drewN ?_ _)) _)) ⟨_, rfl, AgeV.none _⟩
  · have t1 := ne_true he
    have X2 := Ex.mk (x_else X1.out he)
    clear he
    have g0 := cell_blk P1.out.at_ 0
    have g1 := cell_blk P1.out.at_ 1
    have g2 := cell_blk P1.out.at_ 2
    have g3 := cell_blk P1.out.at_ 3
    have g4 := cell_blk P1.out.at_ 4
    have g5 := cell_blk P1.out.at_ 5
    have g6 := cell_blk P1.out.at_ 6
    have g7 := cell_blk P1.out.at_ 7
    have g8 := cell_blk P1.out.at_ 8
    have g9 := cell_blk P1.out.at_ 9
    have g10 := cell_blk P1.out.at_ 10
    have gf0 := free_blk P1.out.at_ 0
    have gf1 := free_blk P1.out.at_ 1
    have gf2 := free_blk P1.out.at_ 2
    have gf3 := free_blk P1.out.at_ 3
    have gf4 := free_blk P1.out.at_ 4
    have gf5 := free_blk P1.out.at_ 5
    have gf6 := free_blk P1.out.at_ 6
    have gf7 := free_blk P1.out.at_ 7
    have gf8 := free_blk P1.out.at_ 8
    have gf9 := free_blk P1.out.at_ 9
    have gf10 := free_blk P1.out.at_ 10
    have gs := lt_of_block P1.out.at_
    go_wp2
    refine bodyPost_ret (v := .tuple #[.int .i64 0, .agg #[.int .i64 0, .int .i64 0, .string ⟨#[]⟩, .string ⟨#[]⟩, .bool false, .bool false, .slice none 0 0, .slice none 0 0, .slice none 0 0, .slice none 0 0, .int .i64 0], .int .i64 e1]) (by simp [results, Tryz.results133, go_sem, g0, g1, g2, g3, g4, g5, g6, g7, g8, g9, g10, gs]) rfl ?_
    rw [x_done X2.out]
    exact Mg.post (J := J1) (by repeat (first | with_reducible exact M1.out | with_reducible refine Mg.drewN ?_ _ | with_reducible refine Mg.drew ?_ | with_reducible refine Mg.alloc ?_ _ | refine Mg.seto ?_ (by repeat (first | with_reducible exact P1.out.ok | with_reducible refine OwnOk.set ?_ _ _ | with_reducible refine OwnOk.alloc ?_ _ | with_reducible refine OwnOk.drew ?_ | with_reducible refine OwnOk.drewN ?_ _)) _)) ⟨_, rfl, AgeV.none _⟩
def nMakeL (low : ByteArray) : List Int → List Int → Prog (Int × Int)
  | [], out => do
    let y ← pAlloc (.node ⟨low, out.headD 0, out.tail⟩)
    if y.2 = 0 then return (y.1, 0)
    else do
      let _ ← nFree out 0
      return (0, y.2)
  | n :: t, out => do
    let x ← pAllocWord n
    if x.2 = 0 then nMakeL low t (out ++ [x.1])
    else do
      let _ ← nFree out 0
      return (0, x.2)
theorem nMakeL_cons (low : ByteArray) (n : Int) (t out : List Int) : nMakeL low (n :: t) out = (do
    let x ← pAllocWord n
    if x.2 = 0 then nMakeL low t (out ++ [x.1])
    else do
      let _ ← nFree out 0
      return (0, x.2)) := rfl
theorem nMakeL_nil (low : ByteArray) (out : List Int) : nMakeL low [] out = (do
    let y ← pAlloc (.node ⟨low, out.headD 0, out.tail⟩)
    if y.2 = 0 then return (y.1, 0)
    else do
      let _ ← nFree out 0
      return (0, y.2)) := rfl
def nMake (low : ByteArray) (head : Int) (links : List Int) : Prog (Int × Int) := nMakeL low (head :: links) []
theorem slice_tail (W : World) (b off i cap : Nat) (h1 : 1 ≤ i) (h2 : i ≤ cap) :
    (Instr.slice 23 (.slice (some ⟨b, off, none⟩) i cap) (some (.int .i64 1)) none none).run Tryz.prog W = .ok (.slice (some ⟨b, if cap = 1 then off else off + 1, none⟩) (i - 1) (cap - 1)) W := by
  have hu := fun W => run_underlying (P := Tryz.prog) (w := W) Tryz.underlying23
  obtain ⟨i0, hi, hz0, hz1, hz2⟩ := info_parts info_int
  have h3 : ¬ ((i : Int) < 1) := by omega
  by_cases hc : cap = 1
  · subst hc
    simp [Instr.slice, Instr.sliceBounds, Instr.sliceBound, hu, sizeOf, typeInfo, hi, hz1, h1, h3, go_sem]
  · have : ¬ (cap = 1) := hc
    simp [Instr.slice, Instr.sliceBounds, Instr.sliceBound, hu, sizeOf, typeInfo, hi, hz1, h1, h3, hc, go_sem]
theorem Row.tail {I : IHeap} {b off n cap : Nat} {x : Int} {t : List Int} (h : Ints I (.slice (some ⟨b, off, none⟩) n cap) (x :: t)) : Ints I (.slice (some ⟨b, if cap = 1 then off else off + 1, none⟩) (n - 1) (cap - 1)) t := by
  obtain ⟨h1, a, c, hv, h2, h3, h4, h5⟩ := h
  simp only [Value.slice.injEq] at hv
  obtain ⟨rfl, rfl, rfl⟩ := hv
  refine ⟨by simp [encInt] at h1 ⊢; exact h1, _, _, rfl, ?_, by omega, fun h => (by cases h), ?_⟩
  · simp at h2 ⊢; omega
  · rcases h5 with h5 | ⟨b', off', cur, fr, ha, hI, hx⟩
    · simp at h5
    · simp only [Option.some.injEq, Addr.mk.injEq, and_true] at ha
      obtain ⟨rfl, rfl⟩ := ha
      by_cases ht : t = []
      · subst ht; exact .inl rfl
      · refine .inr ⟨b, _, cur, fr, rfl, hI, ?_⟩
        have hp : 0 < t.length := List.length_pos_iff.2 ht
        rw [if_neg (by simp at h2; omega)]
        have e := congrArg (List.drop 1) hx
        rw [List.drop_take, List.drop_drop] at e
        simpa [encInt] using e
theorem node_Make (w : World) (L : Loc) (I : IHeap) (s : PS) (hst : St w L I s) (low : ByteArray) (head : Int) (links : List Int) (lv : Value) (hv : Ints I lv links) (hb : links.length ≤ 1000) (hn : ((nMake low head links).exec s).1.ok) :
    Calls Tryz.prog 123 #[.pointer (some ⟨L.p, 0, none⟩), .string low, .int .i64 head, lv] w (Post L w I ((nMake low head links).exec s) (Is pairV)) := by
  have M0 := Lib.hid (Mg.start hst)
  have HN := Lib.hid hn
  have HV := Lib.hid hv
  obtain ⟨A, cap, rfl, _⟩ := hv.form
  clear hst hn hv
  go_enter Tryz.func123, Tryz.ntmps123
  go_wp2_with fail
  have A0 := Lib.hid (OB.fresh (M0.out) #[.int .i64 head] 3 rfl)
  have M8 := Lib.hid (M0.out.alloc (.cells #[.int .i64 head] 3))
  obtain ⟨K8, hM, hle, hR, hno⟩ := A0.out.done M8.out 1 1 rfl (by decide)
  have M9 := Lib.hid hM
  have HR := Lib.hid (show Ints K8 _ [head] from hR)
  clear hM hR hno
  have H2 := Lib.hid (HV.out.mono hle)
  clear hle
  have HC := Lib.hid (show Rows K8 ((w.alloc (.cells #[.int .i64 head] 3)).alloc (.cells #[.slice (some ⟨w.heap.size, 0, none⟩) 1 1, .slice A links.length cap] 23)) (w.heap.size + 1) [.slice (some ⟨w.heap.size, 0, none⟩) 1 1, .slice A links.length cap] [[head], links] from by
    refine ⟨rfl, fun j l hj => ?_⟩
    have hs : w.heap.size + 1 = (w.alloc (.cells #[.int .i64 head] 3)).heap.size := by simp
    rw [hs]
    match j, hj with
    | 0, hj => simp at hj; subst hj; exact ⟨_, rfl, by rw [cell_blk (alloc_new _ _)]; rfl, HR.out⟩
    | 1, hj => simp at hj; subst hj; exact ⟨_, rfl, by rw [cell_blk (alloc_new _ _)]; rfl, H2.out⟩
    | j + 2, hj => simp at hj)
  refine (concat_any _ K8 (M9.out.alloc _).st.held (w.heap.size + 1) _ [[head], links] (by simp) HC.out (by simp; omega)).mono ?_
  rintro e W1 ⟨v, rfl, ho, hk⟩
  obtain ⟨K1, hM, hle, hR, _⟩ := ((M9.out.alloc _).new hk).row ho rfl (by simp; omega)
  have M1 := Lib.hid hM
  obtain ⟨ll, hll⟩ : ∃ ll, ll = head :: links := ⟨_, rfl⟩
  have HL := Lib.hid (show Ints K1 v ll from by rw [hll]; simpa [Ints, Sl] using hR)
  have X0 := Ex.mk (show (nMake low head links).exec s = (nMakeL low ll []).exec s by rw [hll]; rfl)
  have hpos : 1 ≤ ll.length ∧ ll.length ≤ 1001 := by rw [hll]; simp; omega
  clear hll
  clear hM hR ho hk HC H2 HR M9 M8 hle
  obtain ⟨A1, cap1, rfl, hc1, hc2, _⟩ := HL.out.form
  have LN := Lib.hid (Nat.le_trans hc1 hc2)
  clear hc1 hc2
  have O0 := Lib.hid (OL.nil w K1 W1 3 1 encInt rfl)
  go_wp2_with fail
  go_loopg [10, 23] ll.length (fun m o v W => ∃ (i : Nat) (J : IHeap) (s' : PS) (l : List Int), v = .int .i64 i ∧ i + m = ll.length ∧ Hid (Mg w L I J s' W) ∧ Hid (ILe K1 J) ∧ Hid (OL w J W 3 1 encInt o l) ∧ l.length = i ∧ Ex ((nMake low head links).exec s) ((nMakeL low (ll.drop i) l).exec s'))
  case atStart => exact ⟨0, K1, s, [], rfl, by simp, M1, Lib.hid (ILe.refl _), O0, rfl, X0⟩
  case round =>
  obtain ⟨i, J0, s0, l, rfl, hi, M0, HJ, O0, hl, X0⟩ := hrel
  by_cases hlt : i < ll.length
  · obtain ⟨b, off, rfl, _, hc⟩ := Sl.cell M0.out.st.held (HL.out.mono HJ.out) (fun _ => rfl) (by omega)
    have hx := List.getElem?_eq_getElem hlt
    have c0 : wr.cell? ⟨b, off + i * 1, none⟩ = _ := hc i 0 _ _ hx rfl
    rw [Nat.mul_one] at c0
    have E := Lib.hid (List.drop_eq_getElem_cons hlt)
    generalize ll[i] = x at c0 E
    clear hc hx
    rw [E.out, nMakeL_cons] at X0
    go_wp2_with fail
    refine (port_AllocWord _ L _ _ (M0.out).st x (ok_of HN.out X0.out)).mono ?_
    intro e W1 hP
    rcases (M0.out).call hP with ⟨⟨a1, e1⟩, s1, J1, v1, hr, rfl, rfl, hg, hk, hM⟩ | ⟨s', J', hr, rfl, hM⟩
    rotate_left
    · exact post_panic rfl (by rw [x_paused X0.out hr]; exact hM.paused)
    have M1 := Lib.hid hM
    have K1 := Lib.hid hk
    have G1 := Lib.hid hg
    have X1 := Ex.mk (x_ret X0.out hr)
    clear hP hr hg hk hM
    have O1 := Lib.hid (OR.call M0.out K1.out G1.out O0.out)
    by_cases he : e1 = 0
    · subst he
      have X2 := Ex.mk (x_if X1.out rfl)
      go_wp2_with (at_builtin; refine wp_app_int rfl _ _ rfl _ l a1 _ _ _ _ _ rfl rfl (alloc_new _ _) rfl (OR.alloc O1.out _) (M1.out.alloc _) (by omega) ?_)
      intro v1 W2 hO hM hg
      have M2 := Lib.hid hM
      have O2 := Lib.hid hO
      clear hO hM hg
      go_wp2
      go_roundg (gk - 1)
      case measure => omega
      case rel => exact ⟨i + 1, J1, s1, _, rfl, by omega, M2, Lib.hid (HJ.out.trans G1.out.le), O2, by simp [hl], X2⟩
    · have t1 := ne_true he
      have X2 := Ex.mk (x_else X1.out he)
      clear he
      obtain ⟨J2, hM, hle, hR, hno⟩ := O1.out.row M1.out
      have M2 := Lib.hid hM
      have HR := Lib.hid hR
      clear hM hle hR hno
      go_wp2_with fail
      refine (node_free _ L _ _ (M2.out).st l _ HR.out (ok_of HN.out X2.out)).mono ?_
      intro e W3 hP
      rcases (M2.out).call hP with ⟨e3, s3, J3, v3, hr, rfl, rfl, hg, hk, hM⟩ | ⟨s', J', hr, rfl, hM⟩
      rotate_left
      · exact post_panic rfl (by rw [x_paused X2.out hr]; exact hM.paused)
      have M3 := Lib.hid hM
      have K3 := Lib.hid hk
      have G3 := Lib.hid hg
      have X3 := Ex.mk (x_ret X2.out hr)
      clear hP hr hg hk hM
      go_wp2
      go_ret2
      rw [x_done X3.out]
      exact Mg.post (J := J3) (by repeat (first | with_reducible exact M3.out | with_reducible refine Mg.drewN ?_ _ | with_reducible refine Mg.drew ?_ | with_reducible refine Mg.alloc ?_ _ | refine Mg.seto ?_ (by repeat (first | with_reducible refine OwnOk.set ?_ _ _ | with_reducible refine OwnOk.alloc ?_ _ | with_reducible refine OwnOk.drew ?_ | with_reducible refine OwnOk.drewN ?_ _)) _)) rfl
  · have h0 : List.drop i ll = [] := List.drop_eq_nil_of_le (by omega)
    rw [h0, nMakeL_nil] at X0
    obtain ⟨J2, hM, hle, hR, hno⟩ := O0.out.row M0.out
    have M2 := Lib.hid hM
    have HR := Lib.hid (show Ints J2 _ l from hR)
    clear hM hle hR hno
    obtain ⟨A3, cap3, rfl, _, _⟩ := HR.out.form
    obtain ⟨b, off, rfl, _, hc⟩ := Sl.cell M2.out.st.held HR.out (fun _ => rfl) (by omega)
    obtain ⟨x, t, hxt⟩ : ∃ x t, l = x :: t := by cases l with | nil => simp at hl; omega | cons x t => exact ⟨x, t, rfl⟩
    have c0 : wr.cell? ⟨b, off, none⟩ = some (.int .i64 x) := hc 0 0 x _ (by rw [hxt]; rfl) rfl
    clear hc
    have hi0 : 1 ≤ i := by omega
    have hi1 : i ≤ cap3 := by
      obtain ⟨_, _, hv, q, _⟩ := HR.out.form
      injection hv with _ q1 q2
      omega
    have hi2 : cap3 ≤ maxLen := by
      obtain ⟨_, _, hv, _, q, _⟩ := HR.out.form
      injection hv with _ q1 q2
      omega
    have hsl := fun W => slice_tail W b off i cap3 hi0 hi1
    have HT := Lib.hid (Row.tail (show Ints J2 (.slice (some ⟨b, off, none⟩) i cap3) (x :: t) by rw [← hxt, ← hl]; exact HR.out))
    have HXT := Lib.hid hxt
    have HRi := Lib.hid (show Ints J2 (.slice (some ⟨b, off, none⟩) i cap3) l by rw [← hl]; exact HR.out)
    clear hxt
    generalize (if cap3 = 1 then off else off + 1) = off' at hsl HT
    have HB := Lib.hid (show BlkV J2 (.iface 117 (.agg #[.string low, .int .i64 x, .slice (some ⟨b, off', none⟩) (i - 1) (cap3 - 1)])) (some (.node ⟨low, l.headD 0, l.tail⟩)) by rw [HXT.out]; exact ⟨_, rfl, _, rfl, HT.out⟩)
    go_wp2
    go_region_with (first
      | (go_at_call 166
         refine (port_Alloc _ L _ _ (M2.out.drew).st _ (.node ⟨low, l.headD 0, l.tail⟩) HB.out (ok_of HN.out X0.out)).mono ?_
         intro e W1 hP
         rcases (M2.out.drew).call hP with ⟨⟨a1, e1⟩, s1, J1, v1, hr, rfl, rfl, hg, hk, hM⟩ | ⟨s', J', hr, rfl, hM⟩
         rotate_left
         · exact post_panic rfl (by rw [x_paused X0.out hr]; exact hM.paused)
         have M1 := Lib.hid hM
         have K1 := Lib.hid hk
         have G1 := Lib.hid hg
         have X1 := Ex.mk (x_ret X0.out hr)
         clear hP hr hg hk hM
         skip))
    all_goals
      by_cases he : e1 = 0
      · subst he
        have X2 := Ex.mk (x_if X1.out rfl)
        go_wp2
        go_ret2
        rw [x_done X2.out]
        exact Mg.post (J := J1) (by repeat (first | with_reducible exact M1.out | with_reducible refine Mg.drewN ?_ _ | with_reducible refine Mg.drew ?_ | with_reducible refine Mg.alloc ?_ _ | refine Mg.seto ?_ (by repeat (first | with_reducible refine OwnOk.set ?_ _ _ | with_reducible refine OwnOk.alloc ?_ _ | with_reducible refine OwnOk.drew ?_ | with_reducible refine OwnOk.drewN ?_ _)) _)) rfl
      · have t1 := ne_true he
        have X2 := Ex.mk (x_else X1.out he)
        clear he
        go_wp2_with fail
        refine (node_free _ L _ _ (M1.out).st l _ (HRi.out.mono G1.out.le) (ok_of HN.out X2.out)).mono ?_
        intro e W3 hP
        rcases (M1.out).call hP with ⟨e3, s3, J3, v3, hr, rfl, rfl, hg, hk, hM⟩ | ⟨s', J', hr, rfl, hM⟩
        rotate_left
        · exact post_panic rfl (by rw [x_paused X2.out hr]; exact hM.paused)
        have M3 := Lib.hid hM
        have K3 := Lib.hid hk
        have G3 := Lib.hid hg
        have X3 := Ex.mk (x_ret X2.out hr)
        clear hP hr hg hk hM
        go_wp2
        go_ret2
        rw [x_done X3.out]
        exact Mg.post (J := J3) (by repeat (first | with_reducible exact M3.out | with_reducible refine Mg.drewN ?_ _ | with_reducible refine Mg.drew ?_ | with_reducible refine Mg.alloc ?_ _ | refine Mg.seto ?_ (by repeat (first | with_reducible refine OwnOk.set ?_ _ _ | with_reducible refine OwnOk.alloc ?_ _ | with_reducible refine OwnOk.drew ?_ | with_reducible refine OwnOk.drewN ?_ _)) _)) rfl
end Go.Proofs.YtadaiihoclknmaaGreat
/- Ages: the round of the loop in node.At. -/
namespace Go.Proofs.YtadaiihoclknmaaGreat
open Go.RowKit
set_option maxHeartbeats 4000000
set_option maxRecDepth 100000
set_option linter.unusedVariables false
set_option linter.unusedSimpArgs false
attribute [local go_sem] Oper.semAt_some
/-- The loop of node.At, out of its function. -/
def cR : Code → Code
  | .seq _ b => b
  | c => c
def cL : Code → Code
  | .seq a _ => a
  | c => c
def cLoop : Code → Code × Code
  | .seq _ (.block _ (.rangeFunc _ _ a b)) => (a, b)
  | _ => (.ret, .ret)
def atLoop (f : Func) : Code × Code := cLoop (cL (cR (cR (cR (f.body.getD .ret)))))
structure AtT where
  (x0 x1 x2 x3 x4 x9 x10 x11 x12 x13 x14 x15 x16 x17 x18 x19 x20 x21 x22 x23 x24 x25 x26 : Value)
  (b5 b6 b7 b8 : Nat)
def AtT.tmps (t : AtT) (h a : Value) : Array Value := #[t.x0, t.x1, t.x2, t.x3, t.x4, .pointer (some ⟨t.b5, 0, none⟩), .pointer (some ⟨t.b6, 0, none⟩), .pointer (some ⟨t.b7, 0, none⟩), .pointer (some ⟨t.b8, 0, none⟩), t.x9, t.x10, t.x11, t.x12, t.x13, t.x14, t.x15, t.x16, t.x17, t.x18, t.x19, t.x20, t.x21, t.x22, t.x23, t.x24, t.x25, t.x26, h, a, undef, undef, undef, undef, undef, undef, undef, undef]
def AtT.lp (t : AtT) (c : Code × Code) (D : Nat) (st : LoopState) (pd : Option Code) : Loop :=
  { state := st, pending := pd, fn := 132, tmps := t.tmps undef undef, params := #[27, 28], assign := c.1, body := c.2, defers := D }
structure B1 (W : World) (b : Nat) (cs : Array Value) (t : TypeId) : Prop where
  at_ : W.heap[b]? = some (.cells cs t (0, 0))
theorem B1.set {W : World} {b : Nat} {cs : Array Value} {t : TypeId} (h : B1 W b cs t) (j : Nat) (u : Value) : B1 (W.setCell ⟨b, j, none⟩ u) b (cs.setIfInBounds j u) t := ⟨set_blk h.at_ j u⟩
theorem at_round (t : AtT) (c : Code × Code) (hc : c = atLoop Tryz.f132) (m l fn : Nat) (r : Loop) (W : World) (v : Int) (a : Age) (ka va ga ta : Option Addr) (kc vc gc tc : Nat) (h : Int)
    (H5 : W.heap[t.b5]? = some (.cells #[.int .i64 v] 3 (0, 0))) (H6 : W.heap[t.b6]? = some (.cells #[.int .i64 0, .int .i64 0, .string ⟨#[]⟩, .string ⟨#[]⟩, .bool false, .bool false, .slice none 0 0, .slice none 0 0, .slice none 0 0, .slice none 0 0, .int .i64 0] 211 (0, 0)))
    (H7 : W.heap[t.b7]? = some (.cells #[.bool false] 4 (0, 0))) (H8 : W.heap[t.b8]? = some (.cells #[.int .i64 0] 32 (0, 0)))
    (hL : W.heap[l]? = some (.loop r)) (hr : r.state = .ready) (n67 : t.b6 ≠ t.b7) (n68 : t.b6 ≠ t.b8) (n78 : t.b7 ≠ t.b8) (R : Ending → World → Prop)
    (hR : ∀ e W',
      (e = .returned (.bool true) ∧ ¬ a.rev.version ≤ v ∧ Kept (fun k => k = l) W W' ∧ W'.heap[l]? = some (.loop { r with state := .ready, pending := none })) ∨
      (e = .returned (.bool false) ∧ a.rev.version ≤ v ∧ Kept (fun k => k = l ∨ k = t.b6 ∨ k = t.b7 ∨ k = t.b8) W W' ∧ W'.heap[l]? = some (.loop { r with state := .done, pending := some .ret }) ∧
        W'.heap[t.b6]? = some (.cells #[.int .i64 a.rev.version, .int .i64 a.rev.rate, .string a.rev.span.lo, .string a.rev.span.hi, .bool a.rev.span.all, .bool a.rev.dead, .slice ka a.rev.keys.length kc, .slice va a.rev.vals.length vc, .slice ga a.rev.gone.length gc, .slice ta a.rev.table.length tc, .int .i64 a.prev] 211 (0, 0)) ∧ W'.heap[t.b7]? = some (.cells #[.bool true] 4 (0, 0)) ∧ W'.heap[t.b8]? = some (.cells #[.int .i64 0] 32 (0, 0))) → R e W') :
    RoundIn Fence.wide m Tryz.prog l fn (t.tmps (.int .i64 h) (.agg #[.int .i64 a.rev.version, .int .i64 a.rev.rate, .string a.rev.span.lo, .string a.rev.span.hi, .bool a.rev.span.all, .bool a.rev.dead, .slice ka a.rev.keys.length kc, .slice va a.rev.vals.length vc, .slice ga a.rev.gone.length gc, .slice ta a.rev.table.length tc, .int .i64 a.prev])) c.1 c.2 W R := by
  refine roundIn_of_wpIn trivial ?_
  have hl : l < W.heap.size := (Array.getElem?_eq_some_iff.1 hL).1
  have n5 : t.b5 ≠ l := fun e => by rw [← e, H5] at hL; cases hL
  have n6 : t.b6 ≠ l := fun e => by rw [← e, H6] at hL; cases hL
  have n7 : t.b7 ≠ l := fun e => by rw [← e, H7] at hL; cases hL
  have n8 : t.b8 ≠ l := fun e => by rw [← e, H8] at hL; cases hL
  have HL := Lib.hid hL
  have HR := Lib.hid hR
  clear hL hR
  obtain ⟨c1, c2⟩ := c
  simp only [atLoop, cLoop, cL, cR, Option.getD, Prod.mk.injEq, Tryz.f132] at hc
  obtain ⟨hc1, hc2⟩ := hc
  rw [hc1, hc2]
  clear hc1 hc2
  unfold AtT.tmps
  gi_wp2
  have kb := Kept.alloc (Kept.refl (fun _ => False) W) (.cells #[.int .i64 a.rev.version, .int .i64 a.rev.rate, .string a.rev.span.lo, .string a.rev.span.hi, .bool a.rev.span.all, .bool a.rev.dead, .slice ka a.rev.keys.length kc, .slice va a.rev.vals.length vc, .slice ga a.rev.gone.length gc, .slice ta a.rev.table.length tc, .int .i64 a.prev] 211)
  have hx := alloc_new W (.cells #[.int .i64 a.rev.version, .int .i64 a.rev.rate, .string a.rev.span.lo, .string a.rev.span.hi, .bool a.rev.span.all, .bool a.rev.dead, .slice ka a.rev.keys.length kc, .slice va a.rev.vals.length vc, .slice ga a.rev.gone.length gc, .slice ta a.rev.table.length tc, .int .i64 a.prev] 211)
  have hb := run_beginRound (P := Tryz.prog) (kb.obj HL.out id) hr
  have hL2 := World.putObj_heap_same (w := W.alloc (.cells #[.int .i64 a.rev.version, .int .i64 a.rev.rate, .string a.rev.span.lo, .string a.rev.span.hi, .bool a.rev.span.all, .bool a.rev.dead, .slice ka a.rev.keys.length kc, .slice va a.rev.vals.length vc, .slice ga a.rev.gone.length gc, .slice ta a.rev.table.length tc, .int .i64 a.prev] 211)) (r := l) (o := .loop { r with state := .busy }) (by simp; omega)
  have k2 := Kept.putObj (S := fun k => k = l) (New.kept kb (fun k => k = l)) (b := l) (fun _ => rfl) (.loop { r with state := .busy })
  have hx2 := (World.putObj_heap_other (w := W.alloc (.cells #[.int .i64 a.rev.version, .int .i64 a.rev.rate, .string a.rev.span.lo, .string a.rev.span.hi, .bool a.rev.span.all, .bool a.rev.dead, .slice ka a.rev.keys.length kc, .slice va a.rev.vals.length vc, .slice ga a.rev.gone.length gc, .slice ta a.rev.table.length tc, .int .i64 a.prev] 211)) (r := l) (o := .loop { r with state := .busy }) (show W.heap.size ≠ l by omega)).trans hx
  obtain ⟨W2, hW2⟩ : ∃ W2, W2 = (W.alloc (.cells #[.int .i64 a.rev.version, .int .i64 a.rev.rate, .string a.rev.span.lo, .string a.rev.span.hi, .bool a.rev.span.all, .bool a.rev.dead, .slice ka a.rev.keys.length kc, .slice va a.rev.vals.length vc, .slice ga a.rev.gone.length gc, .slice ta a.rev.table.length tc, .int .i64 a.prev] 211)).putObj l (.loop { r with state := .busy }) := ⟨_, rfl⟩
  rw [← hW2] at hb hL2 k2 hx2
  refine ⟨W2, hb, ?_⟩
  have KB := Lib.hid k2
  have HX := Lib.hid hx2
  have HL2 := Lib.hid hL2
  have H52 := k2.obj H5 n5
  have H62 := k2.obj H6 n6
  have H72 := k2.obj H7 n7
  have H82 := k2.obj H8 n8
  clear hW2 hb hL2 k2 hx2 kb hx HL H5 H6 H7 H8
  have BX := Lib.hid (B1.mk HX.out)
  have BY := Lib.hid (B1.mk H62)
  have BZ := Lib.hid (B1.mk H72)
  have BU := Lib.hid (B1.mk H82)
  have BV := Lib.hid (B1.mk H52)
  clear H52 H62 H72 H82
  have x0 := cell_blk BX.out.at_ 0
  have x1 := cell_blk BX.out.at_ 1
  have x2 := cell_blk BX.out.at_ 2
  have x3 := cell_blk BX.out.at_ 3
  have x4 := cell_blk BX.out.at_ 4
  have x5 := cell_blk BX.out.at_ 5
  have x6 := cell_blk BX.out.at_ 6
  have x7 := cell_blk BX.out.at_ 7
  have x8 := cell_blk BX.out.at_ 8
  have x9 := cell_blk BX.out.at_ 9
  have x10 := cell_blk BX.out.at_ 10
  have xf0 := free_blk BX.out.at_ 0
  have xf1 := free_blk BX.out.at_ 1
  have xf2 := free_blk BX.out.at_ 2
  have xf3 := free_blk BX.out.at_ 3
  have xf4 := free_blk BX.out.at_ 4
  have xf5 := free_blk BX.out.at_ 5
  have xf6 := free_blk BX.out.at_ 6
  have xf7 := free_blk BX.out.at_ 7
  have xf8 := free_blk BX.out.at_ 8
  have xf9 := free_blk BX.out.at_ 9
  have xf10 := free_blk BX.out.at_ 10
  have xs := lt_of_block BX.out.at_
  have y0 := cell_blk BY.out.at_ 0
  have y1 := cell_blk BY.out.at_ 1
  have y2 := cell_blk BY.out.at_ 2
  have y3 := cell_blk BY.out.at_ 3
  have y4 := cell_blk BY.out.at_ 4
  have y5 := cell_blk BY.out.at_ 5
  have y6 := cell_blk BY.out.at_ 6
  have y7 := cell_blk BY.out.at_ 7
  have y8 := cell_blk BY.out.at_ 8
  have y9 := cell_blk BY.out.at_ 9
  have y10 := cell_blk BY.out.at_ 10
  have yf0 := free_blk BY.out.at_ 0
  have yf1 := free_blk BY.out.at_ 1
  have yf2 := free_blk BY.out.at_ 2
  have yf3 := free_blk BY.out.at_ 3
  have yf4 := free_blk BY.out.at_ 4
  have yf5 := free_blk BY.out.at_ 5
  have yf6 := free_blk BY.out.at_ 6
  have yf7 := free_blk BY.out.at_ 7
  have yf8 := free_blk BY.out.at_ 8
  have yf9 := free_blk BY.out.at_ 9
  have yf10 := free_blk BY.out.at_ 10
  have ys := lt_of_block BY.out.at_
  have z0 := cell_blk BZ.out.at_ 0
  have zf0 := free_blk BZ.out.at_ 0
  have zs := lt_of_block BZ.out.at_
  have u0 := cell_blk BU.out.at_ 0
  have uf0 := free_blk BU.out.at_ 0
  have us := lt_of_block BU.out.at_
  have v0 := cell_blk BV.out.at_ 0
  have vf0 := free_blk BV.out.at_ 0
  have vs := lt_of_block BV.out.at_
  have hll : l < W2.heap.size := (Array.getElem?_eq_some_iff.1 HL2.out).1
  by_cases hle : a.rev.version ≤ v
  · gi_wp2
    refine ⟨_, _, run_endRound (some .ret) (r := { r with state := .busy }) (by repeat (first | with_reducible exact HL2.out | refine set_far ?_ (by first | exact n6.symm | exact n7.symm | exact n8.symm) _)), ?_⟩
    refine HR.out _ _ (.inr ⟨rfl, hle, ?_, World.putObj_heap_same (by simpa [World.setCell] using hll), ?_, ?_, ?_⟩)
    · refine Kept.putObj (Kept.mono (S := fun k => k = l ∨ k = t.b6 ∨ k = t.b7 ∨ k = t.b8) ?_ (fun k _ h => h)) (fun _ => .inl rfl) _
      repeat (first | with_reducible exact KB.out.mono (fun k _ h => .inl h) | refine Kept.setCell ?_ (fun _ => by first | exact .inr (.inl rfl) | exact .inr (.inr (.inl rfl)) | exact .inr (.inr (.inr rfl))) _)
    · rw [World.putObj_heap_other n6]
      refine set_far (set_far ?_ n67 _) n68 _
      have Y := (((((((((((BY.out.set 0 (.int .i64 a.rev.version)).set 1 (.int .i64 a.rev.rate)).set 2 (.string a.rev.span.lo)).set 3 (.string a.rev.span.hi)).set 4 (.bool a.rev.span.all)).set 5 (.bool a.rev.dead)).set 6 (.slice ka a.rev.keys.length kc)).set 7 (.slice va a.rev.vals.length vc)).set 8 (.slice ga a.rev.gone.length gc)).set 9 (.slice ta a.rev.table.length tc)).set 10 (.int .i64 a.prev)).at_
      simp only [List.setIfInBounds_toArray, List.set] at Y
      exact Y
    · rw [World.putObj_heap_other n7]
      refine set_far ?_ n78 _
      refine (B1.set (cs := #[.bool false]) ⟨?_⟩ 0 (.bool true)).at_
      repeat (first | with_reducible exact BZ.out.at_ | refine set_far ?_ n67.symm _)
    · rw [World.putObj_heap_other n8]
      refine (B1.set (cs := #[.int .i64 0]) ⟨?_⟩ 0 (.int .i64 0)).at_
      repeat (first | with_reducible exact BU.out.at_ | refine set_far ?_ (by first | exact n68.symm | exact n78.symm) _)
  · gi_wp2
    refine ⟨_, _, run_endRound none (r := { r with state := .busy }) HL2.out, ?_⟩
    refine HR.out _ _ (.inl ⟨rfl, hle, ?_, World.putObj_heap_same hll⟩)
    exact Kept.putObj KB.out (fun _ => rfl) _
end Go.Proofs.YtadaiihoclknmaaGreat
