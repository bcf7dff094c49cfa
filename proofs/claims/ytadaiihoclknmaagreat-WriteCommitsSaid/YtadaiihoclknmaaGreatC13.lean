/- Part 13 of the proof: Node3, Concat. -/
import Derived.Test.YtadaiihoclknmaaGreatC12
import Derived.Lib.AppendZeros
import Derived.Laws.AppendOwnNone
/- Nodes: an age, a node taken; cells freed; the newest age. -/
namespace Go.Proofs.YtadaiihoclknmaaGreat
open Go.RowKit
set_option maxHeartbeats 4000000
set_option maxRecDepth 100000
set_option linter.unusedVariables false
set_option linter.unusedSimpArgs false

/-- A block of the call's own is written no more: a row. -/
theorem OB.done {w W : World} {L : Loc} {I J : IHeap} {s : PS} {b : Nat} {cs : Array Value} {E : TypeId} (ho : OB w J W b cs E) (h : Mg w L I J s W) (sz n : Nat) (hn : cs.size = n * sz) (hm : n ≤ maxLen) :
    ∃ K, Mg w L I K s W ∧ ILe J K ∧ Row K E sz (.slice (some ⟨b, 0, none⟩) n n) n cs.toList ∧ (∀ k, K k ≠ none → J k ≠ none ∨ k = b) := by
  obtain ⟨h1, h2⟩ := h.put ho.at_ (show immO (.cells cs E (0, 0)) from ho.ty) ho.ge
  refine ⟨_, h1, h2, ⟨by simpa using hn, some ⟨b, 0, none⟩, n, rfl, Nat.le_refl _, hm, (fun h => by cases h), .inr ⟨b, 0, cs, (0, 0), rfl, by simp [IHeap.put], ?_⟩⟩, fun k hk => ?_⟩
  · rw [List.drop_zero, ← hn, ← Array.length_toList, List.take_length]
  · unfold IHeap.put at hk
    by_cases e : k = b
    · exact .inr e
    · rw [if_neg e] at hk; exact .inl hk
theorem node_Take (w : World) (L : Loc) (I : IHeap) (s : PS) (hst : St w L I s) (h : Int) (hn : ((nTake h).exec s).1.ok) :
    Calls Tryz.prog 167 #[.pointer (some ⟨L.p, 0, none⟩), .int .i64 h] w (Post L w I ((nTake h).exec s) AgeE) := by
  have M0 := Lib.hid (Mg.start hst)
  have HN := Lib.hid hn
  have X0 : Ex ((nTake h).exec s) ((nTake h).exec s) := ⟨rfl⟩
  clear hst hn
  go_enter Tryz.func167, Tryz.ntmps167
  go_wp2_with fail
  have O0 := Lib.hid (OB.fresh (M0.out) #[.int .i64 0, .int .i64 0, .string ⟨#[]⟩, .string ⟨#[]⟩, .bool false, .bool false, .slice none 0 0, .slice none 0 0, .slice none 0 0, .slice none 0 0, .int .i64 0] 211 rfl)
  refine (node_block_age _ L _ _ (M0.out.alloc _).st h (ok_last HN.out X0.out)).mono ?_
  intro e W1 hP
  rcases (M0.out.alloc _).call hP with ⟨⟨a, e⟩, s1, J1, v1, hr, rfl, ⟨x, rfl, hx⟩, hg, hk, hM⟩ | ⟨s', J', hr, rfl, hM⟩
  rotate_left
  · exact post_panic rfl (by rw [X0.out.trans hr]; exact hM.paused)
  have M1 := Lib.hid hM
  have K1 := Lib.hid hk
  have G1 := Lib.hid hg
  have X1 := Ex.mk (X0.out.trans hr)
  clear hP hr hg hk hM
  have O1 := Lib.hid (OB.thru O0.out (M0.out.alloc _) K1.out G1.out (fun hh => by repeat (first | with_reducible exact hh | with_reducible refine OB.alloc ?_ _ | with_reducible refine OB.drew ?_ | with_reducible refine OB.drewN ?_ _ | refine OB.far ?_ (by dsimp only; omega) _)))
  have g0 := cell_blk O1.out.at_ 0
  have g1 := cell_blk O1.out.at_ 1
  have g2 := cell_blk O1.out.at_ 2
  have g3 := cell_blk O1.out.at_ 3
  have g4 := cell_blk O1.out.at_ 4
  have g5 := cell_blk O1.out.at_ 5
  have g6 := cell_blk O1.out.at_ 6
  have g7 := cell_blk O1.out.at_ 7
  have g8 := cell_blk O1.out.at_ 8
  have g9 := cell_blk O1.out.at_ 9
  have g10 := cell_blk O1.out.at_ 10
  have gf0 := free_blk O1.out.at_ 0
  have gf1 := free_blk O1.out.at_ 1
  have gf2 := free_blk O1.out.at_ 2
  have gf3 := free_blk O1.out.at_ 3
  have gf4 := free_blk O1.out.at_ 4
  have gf5 := free_blk O1.out.at_ 5
  have gf6 := free_blk O1.out.at_ 6
  have gf7 := free_blk O1.out.at_ 7
  have gf8 := free_blk O1.out.at_ 8
  have gf9 := free_blk O1.out.at_ 9
  have gf10 := free_blk O1.out.at_ 10
  have gs := lt_of_block O1.out.at_
  obtain ⟨ka, kc, va, vc, ga, gc, ta, tc, rfl, _⟩ := hx.form
  have HX := Lib.hid hx
  clear hx
  go_wp2
  refine bodyPost_ret (v := .tuple #[.agg #[.int .i64 a.rev.version, .int .i64 a.rev.rate, .string a.rev.span.lo, .string a.rev.span.hi, .bool a.rev.span.all, .bool a.rev.dead, .slice ka a.rev.keys.length kc, .slice va a.rev.vals.length vc, .slice ga a.rev.gone.length gc, .slice ta a.rev.table.length tc, .int .i64 a.prev], .int .i64 e]) (by simp [results, Tryz.results167, go_sem, g0, g1, g2, g3, g4, g5, g6, g7, g8, g9, g10, gs]) rfl ?_
  rw [X1.out]
  exact Mg.post (J := J1) (by repeat (first | with_reducible exact M1.out | with_reducible refine Mg.drewN ?_ _ | with_reducible refine Mg.drew ?_ | with_reducible refine Mg.alloc ?_ _ | refine Mg.seto ?_ (by repeat (first | with_reducible exact O1.out.ok | with_reducible refine OwnOk.set ?_ _ _ | with_reducible refine OwnOk.alloc ?_ _ | with_reducible refine OwnOk.drew ?_ | with_reducible refine OwnOk.drewN ?_ _)) _)) ⟨_, rfl, HX.out⟩
theorem node_Load (w : World) (L : Loc) (I : IHeap) (s : PS) (hst : St w L I s) (h : Int) (hn : ((nLoad h).exec s).1.ok) :
    Calls Tryz.prog 170 #[.pointer (some ⟨L.p, 0, none⟩), .int .i64 h] w (Post L w I ((nLoad h).exec s) NodeE) := by
  have M0 := Lib.hid (Mg.start hst)
  have HN := Lib.hid hn
  have X0 : Ex ((nLoad h).exec s) ((nLoad h).exec s) := ⟨rfl⟩
  clear hst hn
  go_enter Tryz.func170, Tryz.ntmps170
  go_wp2_with fail
  have O0 := Lib.hid (OB.fresh (M0.out) #[.string ⟨#[]⟩, .int .i64 0, .slice none 0 0] 117 rfl)
  refine (node_block _ L _ _ (M0.out.alloc _).st h (ok_last HN.out X0.out)).mono ?_
  intro e W1 hP
  rcases (M0.out.alloc _).call hP with ⟨⟨a, e⟩, s1, J1, v1, hr, rfl, ⟨x, rfl, hx⟩, hg, hk, hM⟩ | ⟨s', J', hr, rfl, hM⟩
  rotate_left
  · exact post_panic rfl (by rw [X0.out.trans hr]; exact hM.paused)
  have M1 := Lib.hid hM
  have K1 := Lib.hid hk
  have G1 := Lib.hid hg
  have X1 := Ex.mk (X0.out.trans hr)
  clear hP hr hg hk hM
  have O1 := Lib.hid (OB.thru O0.out (M0.out.alloc _) K1.out G1.out (fun hh => by repeat (first | with_reducible exact hh | with_reducible refine OB.alloc ?_ _ | with_reducible refine OB.drew ?_ | with_reducible refine OB.drewN ?_ _ | refine OB.far ?_ (by dsimp only; omega) _)))
  have g0 := cell_blk O1.out.at_ 0
  have g1 := cell_blk O1.out.at_ 1
  have g2 := cell_blk O1.out.at_ 2
  have gf0 := free_blk O1.out.at_ 0
  have gf1 := free_blk O1.out.at_ 1
  have gf2 := free_blk O1.out.at_ 2
  have gs := lt_of_block O1.out.at_
  obtain ⟨A, cap, rfl, _⟩ := hx.form
  have HX := Lib.hid hx
  clear hx
  go_wp2
  refine bodyPost_ret (v := .tuple #[.agg #[.string a.low, .int .i64 a.head, .slice A a.next.length cap], .int .i64 e]) (by simp [results, Tryz.results170, go_sem, g0, g1, g2, gs]) rfl ?_
  rw [X1.out]
  exact Mg.post (J := J1) (by repeat (first | with_reducible exact M1.out | with_reducible refine Mg.drewN ?_ _ | with_reducible refine Mg.drew ?_ | with_reducible refine Mg.alloc ?_ _ | refine Mg.seto ?_ (by repeat (first | with_reducible exact O1.out.ok | with_reducible refine OwnOk.set ?_ _ _ | with_reducible refine OwnOk.alloc ?_ _ | with_reducible refine OwnOk.drew ?_ | with_reducible refine OwnOk.drewN ?_ _)) _)) ⟨_, rfl, HX.out⟩
def nFree : List Int → Int → Prog Int
  | [], out => return out
  | h :: t, out => do
    let e ← pFree h
    nFree t (if out = 0 then e else out)
theorem nFree_cons (h : Int) (t : List Int) (out : Int) : nFree (h :: t) out = (do let e ← pFree h; nFree t (if out = 0 then e else out)) := rfl
theorem node_free (w : World) (L : Loc) (I : IHeap) (s : PS) (hst : St w L I s) (l : List Int) (lv : Value) (hl : Ints I lv l) (hn : ((nFree l 0).exec s).1.ok) :
    Calls Tryz.prog 168 #[.pointer (some ⟨L.p, 0, none⟩), lv] w (Post L w I ((nFree l 0).exec s) (Is fun a => .int .i64 a)) := by
  have M0 := Lib.hid (Mg.start hst)
  have HN := Lib.hid hn
  have X0 : Ex ((nFree l 0).exec s) ((nFree l 0).exec s) := ⟨rfl⟩
  obtain ⟨A, cap, rfl, hc1, hc2, _⟩ := hl.form
  have HD := Lib.hid hl
  have LN := Lib.hid (Nat.le_trans hc1 hc2)
  clear hst hn hl hc1 hc2
  go_enter Tryz.func168, Tryz.ntmps168
  go_wp2_with fail
  go_loopg [5, 11] l.length (fun g ov v W => ∃ (i : Nat) (J : IHeap) (s' : PS) (o : Int), ov = .int .i64 o ∧ v = .int .i64 i ∧ i + g = l.length ∧ Hid (Mg w L I J s' W) ∧ Ex ((nFree l 0).exec s) ((nFree (l.drop i) o).exec s'))
  case atStart => exact ⟨0, I, s, 0, rfl, rfl, by simp, M0, X0⟩
  case round =>
  obtain ⟨i, J0, s0, o, rfl, rfl, hi, M0, X0⟩ := hrel
  by_cases hlt : i < l.length
  · obtain ⟨b, off, rfl, _, hc⟩ := Sl.cell M0.out.st.held (HD.out.mono M0.out.grow.le) (fun _ => rfl) (by omega)
    have hx := List.getElem?_eq_getElem hlt
    have c0 : wr.cell? ⟨b, off + i * 1, none⟩ = _ := hc i 0 _ _ hx rfl
    rw [Nat.mul_one] at c0
    have E := Lib.hid (List.drop_eq_getElem_cons hlt)
    generalize l[i] = x at c0 E
    clear hc hx
    rw [E.out, nFree_cons] at X0
    go_wp2_with fail
    refine (port_Free _ L _ _ (M0.out).st x (ok_of HN.out X0.out)).mono ?_
    intro e W1 hP
    rcases (M0.out).call hP with ⟨e1, s1, J1, v1, hr, rfl, rfl, hg, hk, hM⟩ | ⟨s', J', hr, rfl, hM⟩
    rotate_left
    · exact post_panic rfl (by rw [x_paused X0.out hr]; exact hM.paused)
    have M1 := Lib.hid hM
    have K1 := Lib.hid hk
    have G1 := Lib.hid hg
    have X1 := Ex.mk (x_ret X0.out hr)
    clear hP hr hg hk hM
    by_cases ho : o = 0
    · subst ho
      have X2 := Ex.mk (X1.out.trans (by rw [if_pos rfl]))
      go_wp2
      go_roundg (gk - 1)
      case measure => omega
      case rel => exact ⟨i + 1, J1, s1, _, rfl, next_int hlt LN.out, by omega, M1, X2⟩
    · have X2 := Ex.mk (X1.out.trans (by rw [if_neg ho]))
      have t1 : (o == 0) = false := by simpa using ho
      clear ho
      go_wp2
      go_roundg (gk - 1)
      case measure => omega
      case rel => exact ⟨i + 1, J1, s1, _, rfl, next_int hlt LN.out, by omega, M1, X2⟩
  · have h0 : List.drop i l = [] := List.drop_eq_nil_of_le (by omega)
    rw [h0] at X0
    go_wp2
    go_ret
    rw [x_done X0.out]
    exact Mg.post (J := J0) (by repeat (first | with_reducible exact M0.out | with_reducible refine Mg.drewN ?_ _ | with_reducible refine Mg.drew ?_ | with_reducible refine Mg.alloc ?_ _ | refine Mg.seto ?_ (by repeat (first | with_reducible refine OwnOk.set ?_ _ _ | with_reducible refine OwnOk.alloc ?_ _ | with_reducible refine OwnOk.drew ?_ | with_reducible refine OwnOk.drewN ?_ _)) _)) rfl
def nLift (h : Int) : Prog Int := do
  let x ← nTake h
  if x.2 = 0 then nFree [h, x.1.prev] 0 else return x.2
theorem node_Lift (w : World) (L : Loc) (I : IHeap) (s : PS) (hst : St w L I s) (h : Int) (hn : ((nLift h).exec s).1.ok) :
    Calls Tryz.prog 122 #[.pointer (some ⟨L.p, 0, none⟩), .int .i64 h] w (Post L w I ((nLift h).exec s) (Is fun a => .int .i64 a)) := by
  have M0 := Lib.hid (Mg.start hst)
  have HN := Lib.hid hn
  have X0 : Ex ((nLift h).exec s) ((nLift h).exec s) := ⟨rfl⟩
  clear hst hn
  go_enter Tryz.func122, Tryz.ntmps122
  go_wp2_with fail
  refine (node_Take _ L _ _ (M0.out).st h (ok_of HN.out X0.out)).mono ?_
  intro e W1 hP
  rcases (M0.out).call hP with ⟨⟨a, e1⟩, s1, J1, v1, hr, rfl, ⟨x, rfl, hx⟩, hg, hk, hM⟩ | ⟨s', J', hr, rfl, hM⟩
  rotate_left
  · exact post_panic rfl (by rw [x_paused X0.out hr]; exact hM.paused)
  have M1 := Lib.hid hM
  have K1 := Lib.hid hk
  have G1 := Lib.hid hg
  have X1 := Ex.mk (x_ret X0.out hr)
  clear hP hr hg hk hM
  obtain ⟨ka, kc, va, vc, ga, gc, ta, tc, rfl, _⟩ := hx.form
  clear hx
  dsimp only at *
  by_cases he : e1 = 0
  · subst he
    have X2 := Ex.mk (x_if X1.out rfl)
    have M3 := Lib.hid (M1.out.alloc (.cells #[.int .i64 a.rev.version, .int .i64 a.rev.rate, .string a.rev.span.lo, .string a.rev.span.hi, .bool a.rev.span.all, .bool a.rev.dead, .slice ka a.rev.keys.length kc, .slice va a.rev.vals.length vc, .slice ga a.rev.gone.length gc, .slice ta a.rev.table.length tc, .int .i64 a.prev] 211))
    have B1 := Lib.hid (OB.fresh (M3.out) #[.int .i64 h, .int .i64 a.prev] 3 rfl)
    obtain ⟨J4, hM, hle, hR, _⟩ := B1.out.done (M3.out.alloc (.cells #[.int .i64 h, .int .i64 a.prev] 3)) 1 2 rfl (by decide)
    have M4 := Lib.hid hM
    have HR := Lib.hid (show Ints J4 _ [h, a.prev] from hR)
    rw [show (W1.alloc (.cells #[.int .i64 a.rev.version, .int .i64 a.rev.rate, .string a.rev.span.lo, .string a.rev.span.hi, .bool a.rev.span.all, .bool a.rev.dead, .slice ka a.rev.keys.length kc, .slice va a.rev.vals.length vc, .slice ga a.rev.gone.length gc, .slice ta a.rev.table.length tc, .int .i64 a.prev] 211)).heap.size = W1.heap.size + 1 by simp] at HR
    clear hM hle hR
    go_wp2_with fail
    refine (node_free _ L _ _ (M4.out).st [h, a.prev] _ HR.out (ok_last HN.out X2.out)).mono ?_
    intro e W5 hP
    rcases (M4.out).call hP with ⟨e5, s5, J5, v5, hr, rfl, rfl, hg, hk, hM⟩ | ⟨s', J', hr, rfl, hM⟩
    rotate_left
    · exact post_panic rfl (by rw [X2.out.trans hr]; exact hM.paused)
    have M5 := Lib.hid hM
    have K5 := Lib.hid hk
    have G5 := Lib.hid hg
    have X5 := Ex.mk (X2.out.trans hr)
    clear hP hr hg hk hM
    go_wp2
    go_ret
    rw [X5.out]
    exact Mg.post (J := J5) (by repeat (first | with_reducible exact M5.out | with_reducible refine Mg.drewN ?_ _ | with_reducible refine Mg.drew ?_ | with_reducible refine Mg.alloc ?_ _ | refine Mg.seto ?_ (by repeat (first | with_reducible refine OwnOk.set ?_ _ _ | with_reducible refine OwnOk.alloc ?_ _ | with_reducible refine OwnOk.drew ?_ | with_reducible refine OwnOk.drewN ?_ _)) _)) rfl
  · have t1 := ne_true he
    have X2 := Ex.mk (x_else X1.out he)
    clear he
    go_wp2
    go_ret
    rw [x_done X2.out]
    exact Mg.post (J := J1) (by repeat (first | with_reducible exact M1.out | with_reducible refine Mg.drewN ?_ _ | with_reducible refine Mg.drew ?_ | with_reducible refine Mg.alloc ?_ _ | refine Mg.seto ?_ (by repeat (first | with_reducible refine OwnOk.set ?_ _ _ | with_reducible refine OwnOk.alloc ?_ _ | with_reducible refine OwnOk.drew ?_ | with_reducible refine OwnOk.drewN ?_ _)) _)) rfl
end Go.Proofs.YtadaiihoclknmaaGreat
/- slices.Concat at rows of ints. -/
namespace Go.Proofs.YtadaiihoclknmaaGreat
open Go.RowKit
set_option maxHeartbeats 4000000
set_option maxRecDepth 100000
set_option linter.unusedVariables false
set_option linter.unusedSimpArgs false

theorem grown_refl (w : World) (r : Option Nat) : w.grownBy w r := ⟨rfl, rfl, rfl, Nat.le_refl _, fun _ _ _ => rfl⟩
/-- All of a row that nobody writes any more is put behind a row of the call's own. -/
theorem wp_cat_own {ops : Array Oper} {rest : List Oper} {o : Oper} {a : Act} {Q : Exit → Act → World → Prop} {W : World} {I : IHeap} (hg : o.guard = none) (s x : Operand) (t e : TypeId) (z : Value) (size bytes : Nat)
    (ho : o.op = .call { callee := .builtin .append, args := #[s, x], argTypes := #[t, t] })
    (ht : Tryz.prog.underlying t = some (.slice e)) (hinfo : (Tryz.prog.info? e).map (fun i => (i.zero, i.size, i.bytes)) = some (some z, size, bytes)) (hz : z.cells.size = size) (hs0 : 0 < size) (hb0 : 0 < bytes)
    (base : Nat) (v : Value) (n m : Nat) (xv : Value) (xs ys : List Value) (hs : a.eval s = v) (hx : a.eval x = xv) (hI : Held I W) (hr : Row I e size xv m ys) (h1 : ∀ u ∈ ys, u.oneCell' = true)
    (HO : W.ownsRow base e size v n xs) (hbase : base ≤ W.heap.size) (hl : (n + m) * bytes ≤ 140737488355328)
    (h : ∀ v1 W1, W1.ownsRow base e size v1 (n + m) (xs ++ ys) → W.grownBy W1 v.ownBlock → (v1.ownBlock = v.ownBlock ∨ v1.ownBlock = some W.heap.size) → wpList Tryz.prog ops Q rest (a.put o.dst v1) W1) :
    wpList Tryz.prog ops Q (o :: rest) a W := by
  obtain ⟨i0, hi, hzz⟩ := Option.map_eq_some_iff.1 hinfo
  simp only [Prod.mk.injEq] at hzz
  obtain ⟨hz0, hz1, hz2⟩ := hzz
  have hlen : n + m ≤ 140737488355328 := Nat.le_trans (Nat.le_mul_of_pos_right _ hb0) hl
  obtain ⟨A, cap, rfl, p1, p2, p3⟩ := hr.form
  cases A with
  | none =>
    have := p3 rfl
    subst this
    obtain rfl : m = 0 := by omega
    have hy : ys = [] := by have := hr.1; simpa using this
    subst hy
    exact wpList_append_own_none (P := Tryz.prog) hg s x t ho base e i0 size ht hi v n xs hs HO hx (h v W (by simpa using HO) (grown_refl _ _) (.inl rfl))
  | some ad =>
    refine wpList_append_own_at (P := Tryz.prog) W hg s x t ho base e i0 z size bytes ht hi hz0 hz1 hz2 hz hs0 v n xs hs HO ad m cap ys hx hr.1 (news_row hI hr) h1 (by simp only [maxLen]; omega) hl hbase ?_
    intro v1 W1 hown hgr _ hat
    exact h v1 W1 hown hgr hat
theorem grow_any (w : World) (n : Nat) (hb : n ≤ 1000000) :
    Calls Tryz.prog 220 #[.slice none 0 0, .int .i64 n] w fun e w' => ∃ v, e = .returned v ∧ w'.ownsRow w.heap.size 3 1 v 0 [] ∧ New w w' := by
  by_cases h0 : n = 0
  · subst h0
    go_enter Tryz.func220, Tryz.ntmps220
    go_wp2
    go_ret
    exact ⟨_, rfl, World.ownsRow_nil _ _ _ _, Kept.refl _ _⟩
  · have b0 : Tryz.t3.bytes = 8 := rfl
    have b1 : Builtin.nextslicecap n 0 = n := by unfold Builtin.nextslicecap; rw [if_pos (by omega)]
    have t0 : decide ((n : Int) < 0) = false := by simp
    have t1 : decide (0 < n) = true := by simp; omega
    go_enter Tryz.func220, Tryz.ntmps220
    go_wp2
    go_ret
    have c1 := grownCap_ge w n 0 3
    have c2 := grownCap_le_maxLen w n 0 3 (by unfold maxLen; omega)
    unfold grownCap at c1 c2
    generalize (Question.appendCap n 0 3).cut (w.tape w.drawn (Question.appendCap n 0 3)) = c at c1 c2
    refine ⟨_, rfl, ⟨by simp, .inr ⟨w.heap.size, c, _, rfl, Nat.le_refl _, alloc_new _ _, Nat.zero_le _, c2, ?_, by simp⟩⟩, ((Kept.refl _ _).alloc _).drew⟩
    simp [Builtin.zeroCells]
    omega
/-- Rows, one behind the other. -/
def Rows (I : IHeap) (w : World) (g : Nat) (vs : List Value) (ll : List (List Int)) : Prop := vs.length = ll.length ∧ ∀ (j : Nat) (l : List Int), ll[j]? = some l → ∃ v, vs[j]? = some v ∧ w.cell? ⟨g, j, none⟩ = some v ∧ Ints I v l
theorem flat_step {ll : List (List Int)} {i : Nat} {l : List Int} (h : ll[i]? = some l) : (ll.take (i + 1)).flatten = (ll.take i).flatten ++ l ∧ (ll.take i).flatten.length + l.length ≤ ll.flatten.length := by
  have e : (ll.take (i + 1)).flatten = (ll.take i).flatten ++ l := by
    rw [List.take_add_one, h]; simp
  refine ⟨e, ?_⟩
  have h1 : ll.flatten = (ll.take (i + 1)).flatten ++ (ll.drop (i + 1)).flatten := by rw [← List.flatten_append, List.take_append_drop]
  rw [h1, e]
  simp
theorem concat_any (w : World) (I : IHeap) (hI : Held I w) (g : Nat) (vs : List Value) (ll : List (List Int)) (hl : ll.length ≤ 3) (hr : Rows I w g vs ll) (hb : ll.flatten.length ≤ 1000000) :
    Calls Tryz.prog 169 #[.slice (some ⟨g, 0, none⟩) ll.length ll.length] w fun e w' => ∃ v, e = .returned v ∧ w'.ownsRow w.heap.size 3 1 v ll.flatten.length (ll.flatten.flatMap encInt) ∧ New w w' := by
  have HR := Lib.hid hr
  have HI := Lib.hid hI
  clear hr hI
  go_enter Tryz.func169, Tryz.ntmps169
  go_wp2_with fail
  go_loopg [3, 11] ll.length (fun m sv v W => ∃ (i S : Nat), sv = .int .i64 S ∧ v = .int .i64 i ∧ i + m = ll.length ∧ w = W ∧ Hid (S = (ll.take i).flatten.length))
  case atStart => exact ⟨0, 0, rfl, rfl, by simp, rfl, Lib.hid (by simp)⟩
  case round =>
  obtain ⟨i, S, rfl, rfl, hi, rfl, HS⟩ := hrel
  by_cases hlt : i < ll.length
  · obtain ⟨v, h1, h2, h3⟩ := HR.out.2 i _ (List.getElem?_eq_getElem hlt)
    have hst := flat_step (List.getElem?_eq_getElem hlt)
    generalize ll[i] = l at h3 hst
    obtain ⟨A, cap, rfl, _⟩ := h3.form
    have HQ := Lib.hid (show S + l.length = (ll.take (i + 1)).flatten.length by rw [hst.1, HS.out]; simp)
    have hb1 : S + l.length ≤ 1000000 := by have := hst.2; rw [← HS.out] at this; omega
    have t1 : decide ((S : Int) + (l.length : Int) < 0) = false := by simp; omega
    clear hst h1 h3
    go_wp2
    go_roundg (gk - 1)
    case measure => omega
    case rel => exact ⟨i + 1, S + l.length, rfl, rfl, by omega, rfl, HQ⟩
  · have hS : S = ll.flatten.length := by rw [HS.out, List.take_of_length_le (by omega)]
    have hS6 : S ≤ 1000000 := by omega
    have HS6 := Lib.hid hS
    clear hS
    go_wp2_with fail
    refine (grow_any _ S hS6).mono ?_
    rintro e W1 ⟨v, rfl, ho, hk⟩
    have HO := Lib.hid ho
    have HK := Lib.hid hk
    clear ho hk
    go_wp2_with fail
    clear hi
    go_loopg [6, 27] ll.length (fun m nv v W => ∃ (i : Nat), v = .int .i64 i ∧ i + m = ll.length ∧ Hid (W.ownsRow w.heap.size 3 1 nv (ll.take i).flatten.length ((ll.take i).flatten.flatMap encInt)) ∧ Hid (New w W))
    case atStart => exact ⟨0, rfl, by simp, Lib.hid (by simpa using HO.out), HK⟩
    case round =>
    obtain ⟨i, rfl, hi, HO, HK⟩ := hrel
    by_cases hlt : i < ll.length
    · obtain ⟨v, h1, h2, h3⟩ := HR.out.2 i _ (List.getElem?_eq_getElem hlt)
      have hst := flat_step (List.getElem?_eq_getElem hlt)
      generalize ll[i] = l at h3 hst
      obtain ⟨A, cap, rfl, _⟩ := h3.form
      have h4 := New.cell HK.out h2
      have HB := Lib.hid (show (ll.take i).flatten.length + l.length ≤ 1000000 by have := hst.2; omega)
      have HQ := Lib.hid hst.1
      have H3 := Lib.hid h3
      clear hst h1 h2 h3
      go_wp2_with (at_builtin; refine wp_cat_own (I := I) rfl _ _ 23 3 (.int .i64 0) 1 8 rfl Tryz.underlying23 info_int rfl (by decide) (by decide) w.heap.size _ _ _ _ _ _ rfl rfl (HI.out.kept HK.out (fun _ _ _ => id)) H3.out (by intro u hu; simp [encInt] at hu; obtain ⟨_, _, rfl⟩ := hu; rfl) HO.out HK.out.size (by have := HB.out; omega) ?_)
      intro v1 W2 h5 h6 _
      have HK := Lib.hid (show New w W2 from HK.out.grown h6 (fun k e hk => by have := (HO.out.lt k e).1; omega))
      have HO := Lib.hid h5
      clear h5 h6
      go_wp2
      go_roundg (gk - 1)
      case measure => omega
      case rel => exact ⟨i + 1, rfl, by omega, Lib.hid (by rw [HQ.out]; simpa using HO.out), HK⟩
    · have hq : (ll.take i).flatten = ll.flatten := by rw [List.take_of_length_le (by omega)]
      have HQ := Lib.hid hq
      clear hq
      go_wp2
      go_ret
      exact ⟨_, rfl, by rw [← HQ.out]; exact HO.out, HK.out⟩
end Go.Proofs.YtadaiihoclknmaaGreat
