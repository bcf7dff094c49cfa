/- Part 16 of the proof: Node7, Key, Key2, Tower1. -/
import Derived.Test.YtadaiihoclknmaaGreatC15
import Derived.Test.YtadaiihoclknmaaGreatC01
import Derived.Deep.RegionWith
/- Ages: node.At. -/
namespace Go.Proofs.YtadaiihoclknmaaGreat
open Go.RowKit
set_option maxHeartbeats 4000000
set_option maxRecDepth 100000
set_option linter.unusedVariables false
set_option linter.unusedSimpArgs false
attribute [local go_sem] Oper.semAt_some
def nAt (F : Nat) (n : Node) (v : Int) : Prog (Option Age × Int) := do
  let x ← pWord n.head
  if x.2 = 0 then nChain v F x.1 else return (none, x.2)
theorem node_ages (w : World) (p b : Nat) (h : Int) : Calls Tryz.prog 173 #[.pointer (some ⟨p, 0, none⟩), .int .i64 h, .pointer (some ⟨b, 0, none⟩)] w
    fun e w' => e = .returned (.func (.func 222) #[] #[.pointer (some ⟨w.heap.size + 1, 0, none⟩), .pointer (some ⟨w.heap.size, 0, none⟩), .pointer (some ⟨w.heap.size + 2, 0, none⟩)]) ∧ ((w.alloc (.cells #[.pointer (some ⟨p, 0, none⟩)] 39)).alloc (.cells #[.int .i64 h] 3)).alloc (.cells #[.pointer (some ⟨b, 0, none⟩)] 266) = w' := by
  go_enter Tryz.func173, Tryz.ntmps173
  go_wp2
  refine bodyPost_ret (results_tmp rfl _ _ _) rfl ⟨rfl, rfl⟩
def AtE (J : IHeap) (v : Value) (a : Option Age × Int) : Prop := ∃ x, v = .tuple #[x, .bool a.1.isSome, .int .i64 a.2] ∧ AgeV J x (a.1.getD Age.none)
theorem node_At (w : World) (L : Loc) (I : IHeap) (s : PS) (hst : St w L I s) (F : Nat) (n : Node) (nv : Value) (hv : NodeV I nv n) (v : Int) (hn : ((nAt F n v).exec s).1.ok) :
    Calls Tryz.prog 132 #[.pointer (some ⟨L.p, 0, none⟩), nv, .int .i64 v] w (Post L w I ((nAt F n v).exec s) AtE) := by
  have M0 := Lib.hid (Mg.start hst)
  have HN := Lib.hid hn
  have X0 : Ex ((nAt F n v).exec s) ((nAt F n v).exec s) := ⟨rfl⟩
  obtain ⟨A, cap, rfl, hs, hl⟩ := hv.form
  clear hst hn hv hs hl
  refine callsIn_wide (n := 0).1 ?_
  refine callsIn_of_wp_marks Tryz.func132 rfl trivial ?_ rfl
  simp only [Tryz.ntmps132, List.size_toArray, List.length_cons, List.length_nil, Nat.reduceAdd, Nat.reduceSub, Array.replicate_succ, Array.replicate_zero, List.push_toArray, List.append_toArray, List.nil_append, List.cons_append]
  gi_wp2_with fail
  have M9 := Lib.hid (((((M0.out.alloc (.cells #[.string n.low, .int .i64 n.head, .slice A n.next.length cap] 117)).alloc (.cells #[.int .i64 v] 3)).alloc (.cells #[.int .i64 0, .int .i64 0, .string ⟨#[]⟩, .string ⟨#[]⟩, .bool false, .bool false, .slice none 0 0, .slice none 0 0, .slice none 0 0, .slice none 0 0, .int .i64 0] 211)).alloc (.cells #[.bool false] 4)).alloc (.cells #[.int .i64 0] 32))
  have B5 := Lib.hid (((OB.fresh2 M0.out #[.int .i64 v] 3 rfl (.cells #[.string n.low, .int .i64 n.head, .slice A n.next.length cap] 117)).alloc (.cells #[.int .i64 0, .int .i64 0, .string ⟨#[]⟩, .string ⟨#[]⟩, .bool false, .bool false, .slice none 0 0, .slice none 0 0, .slice none 0 0, .slice none 0 0, .int .i64 0] 211)).alloc (.cells #[.bool false] 4) |>.alloc (.cells #[.int .i64 0] 32))
  have B6 := Lib.hid ((OB.fresh2 (M0.out.alloc (.cells #[.string n.low, .int .i64 n.head, .slice A n.next.length cap] 117)) #[.int .i64 0, .int .i64 0, .string ⟨#[]⟩, .string ⟨#[]⟩, .bool false, .bool false, .slice none 0 0, .slice none 0 0, .slice none 0 0, .slice none 0 0, .int .i64 0] 211 rfl (.cells #[.int .i64 v] 3)).alloc (.cells #[.bool false] 4) |>.alloc (.cells #[.int .i64 0] 32))
  have B7 := Lib.hid ((OB.fresh2 ((M0.out.alloc (.cells #[.string n.low, .int .i64 n.head, .slice A n.next.length cap] 117)).alloc (.cells #[.int .i64 v] 3)) #[.bool false] 4 rfl (.cells #[.int .i64 0, .int .i64 0, .string ⟨#[]⟩, .string ⟨#[]⟩, .bool false, .bool false, .slice none 0 0, .slice none 0 0, .slice none 0 0, .slice none 0 0, .int .i64 0] 211)).alloc (.cells #[.int .i64 0] 32))
  have B8 := Lib.hid (OB.fresh2 (((M0.out.alloc (.cells #[.string n.low, .int .i64 n.head, .slice A n.next.length cap] 117)).alloc (.cells #[.int .i64 v] 3)).alloc (.cells #[.int .i64 0, .int .i64 0, .string ⟨#[]⟩, .string ⟨#[]⟩, .bool false, .bool false, .slice none 0 0, .slice none 0 0, .slice none 0 0, .slice none 0 0, .int .i64 0] 211)) #[.int .i64 0] 32 rfl (.cells #[.bool false] 4))
  rw [show (w.alloc (.cells #[.string n.low, .int .i64 n.head, .slice A n.next.length cap] 117)).heap.size = w.heap.size + 1 by simp] at B6
  rw [show ((w.alloc (.cells #[.string n.low, .int .i64 n.head, .slice A n.next.length cap] 117)).alloc (.cells #[.int .i64 v] 3)).heap.size = w.heap.size + 1 + 1 by simp] at B7
  rw [show (((w.alloc (.cells #[.string n.low, .int .i64 n.head, .slice A n.next.length cap] 117)).alloc (.cells #[.int .i64 v] 3)).alloc (.cells #[.int .i64 0, .int .i64 0, .string ⟨#[]⟩, .string ⟨#[]⟩, .bool false, .bool false, .slice none 0 0, .slice none 0 0, .slice none 0 0, .slice none 0 0, .int .i64 0] 211)).heap.size = w.heap.size + 1 + 1 + 1 by simp] at B8
  refine ⟨trivial, rfl, callsIn_wide.2 ?_⟩
  refine (port_Word _ L _ _ M9.out.st n.head (ok_of HN.out X0.out)).mono ?_
  intro e W1 hP
  rcases M9.out.call hP with ⟨⟨a1, e1⟩, s1, J1, v1, hr, rfl, rfl, hg, hk, hM⟩ | ⟨s', J', hr, rfl, hM⟩
  rotate_left
  · show Post L w I _ _ _ _
    rw [x_paused X0.out hr]; exact hM.paused
  have M1 := Lib.hid hM
  have K1 := Lib.hid hk
  have G1 := Lib.hid hg
  have X1 := Ex.mk (x_ret X0.out hr)
  have C5 := Lib.hid (OB.call M9.out K1.out G1.out B5.out)
  have C6 := Lib.hid (OB.call M9.out K1.out G1.out B6.out)
  have C7 := Lib.hid (OB.call M9.out K1.out G1.out B7.out)
  have C8 := Lib.hid (OB.call M9.out K1.out G1.out B8.out)
  clear hP hr hg hk hM B5 B6 B7 B8
  have g0 := cell_blk C6.out.at_ 0
  have g1 := cell_blk C6.out.at_ 1
  have g2 := cell_blk C6.out.at_ 2
  have g3 := cell_blk C6.out.at_ 3
  have g4 := cell_blk C6.out.at_ 4
  have g5 := cell_blk C6.out.at_ 5
  have g6 := cell_blk C6.out.at_ 6
  have g7 := cell_blk C6.out.at_ 7
  have g8 := cell_blk C6.out.at_ 8
  have g9 := cell_blk C6.out.at_ 9
  have g10 := cell_blk C6.out.at_ 10
  have gf0 := free_blk C6.out.at_ 0
  have gf1 := free_blk C6.out.at_ 1
  have gf2 := free_blk C6.out.at_ 2
  have gf3 := free_blk C6.out.at_ 3
  have gf4 := free_blk C6.out.at_ 4
  have gf5 := free_blk C6.out.at_ 5
  have gf6 := free_blk C6.out.at_ 6
  have gf7 := free_blk C6.out.at_ 7
  have gf8 := free_blk C6.out.at_ 8
  have gf9 := free_blk C6.out.at_ 9
  have gf10 := free_blk C6.out.at_ 10
  have gs := lt_of_block C6.out.at_
  have h0 := cell_blk C7.out.at_ 0
  have hf0 := free_blk C7.out.at_ 0
  have hs := lt_of_block C7.out.at_
  have k0 := cell_blk C8.out.at_ 0
  have kf0 := free_blk C8.out.at_ 0
  have ks := lt_of_block C8.out.at_
  by_cases he : e1 = 0
  · subst he
    have X2 := Ex.mk (x_if X1.out rfl)
    gi_wp2_with fail
    refine ⟨trivial, rfl, callsIn_wide.2 ?_⟩
    refine (node_ages _ L.p _ _).mono ?_
    rintro e W2 ⟨rfl, rfl⟩
    gi_wp2_with fail
    have D10 := Lib.hid ((((OB.fresh M1.out #[.int .i64 0] 32 rfl).alloc (.cells #[.pointer (some ⟨L.p, 0, none⟩)] 39)).alloc (.cells #[.int .i64 a1] 3)).alloc (.cells #[.pointer (some ⟨W1.heap.size, 0, none⟩)] 266))
    have DP := Lib.hid (((OB.fresh2 M1.out #[.pointer (some ⟨L.p, 0, none⟩)] 39 rfl (.cells #[.int .i64 0] 32)).alloc (.cells #[.int .i64 a1] 3)).alloc (.cells #[.pointer (some ⟨W1.heap.size, 0, none⟩)] 266))
    have DH := Lib.hid ((OB.fresh2 (M1.out.alloc (.cells #[.int .i64 0] 32)) #[.int .i64 a1] 3 rfl (.cells #[.pointer (some ⟨L.p, 0, none⟩)] 39)).alloc (.cells #[.pointer (some ⟨W1.heap.size, 0, none⟩)] 266))
    have DE := Lib.hid (OB.fresh2 ((M1.out.alloc (.cells #[.int .i64 0] 32)).alloc (.cells #[.pointer (some ⟨L.p, 0, none⟩)] 39)) #[.pointer (some ⟨W1.heap.size, 0, none⟩)] 266 rfl (.cells #[.int .i64 a1] 3))
    have D5 := Lib.hid ((((C5.out.alloc (.cells #[.int .i64 0] 32)).alloc (.cells #[.pointer (some ⟨L.p, 0, none⟩)] 39)).alloc (.cells #[.int .i64 a1] 3)).alloc (.cells #[.pointer (some ⟨W1.heap.size, 0, none⟩)] 266))
    have D6 := Lib.hid ((((C6.out.alloc (.cells #[.int .i64 0] 32)).alloc (.cells #[.pointer (some ⟨L.p, 0, none⟩)] 39)).alloc (.cells #[.int .i64 a1] 3)).alloc (.cells #[.pointer (some ⟨W1.heap.size, 0, none⟩)] 266))
    have D7 := Lib.hid ((((C7.out.alloc (.cells #[.int .i64 0] 32)).alloc (.cells #[.pointer (some ⟨L.p, 0, none⟩)] 39)).alloc (.cells #[.int .i64 a1] 3)).alloc (.cells #[.pointer (some ⟨W1.heap.size, 0, none⟩)] 266))
    have D8 := Lib.hid ((((C8.out.alloc (.cells #[.int .i64 0] 32)).alloc (.cells #[.pointer (some ⟨L.p, 0, none⟩)] 39)).alloc (.cells #[.int .i64 a1] 3)).alloc (.cells #[.pointer (some ⟨W1.heap.size, 0, none⟩)] 266))
    have M2 := Lib.hid ((((M1.out.alloc (.cells #[.int .i64 0] 32)).alloc (.cells #[.pointer (some ⟨L.p, 0, none⟩)] 39)).alloc (.cells #[.int .i64 a1] 3)).alloc (.cells #[.pointer (some ⟨W1.heap.size, 0, none⟩)] 266))
    rw [show (W1.alloc (.cells #[.int .i64 0] 32)).heap.size = W1.heap.size + 1 by simp] at DH
    rw [show ((W1.alloc (.cells #[.int .i64 0] 32)).alloc (.cells #[.pointer (some ⟨L.p, 0, none⟩)] 39)).heap.size = W1.heap.size + 1 + 1 by simp] at DE
    clear C5 C6 C7 C8 M1
    have n10 : w.heap.size + 1 + 1 ≠ W1.heap.size ∧ w.heap.size + 1 + 1 + 1 ≠ W1.heap.size ∧ w.heap.size + 1 + 1 + 1 + 1 ≠ W1.heap.size := by omega
    generalize ((((W1.alloc (.cells #[.int .i64 0] 32)).alloc (.cells #[.pointer (some ⟨L.p, 0, none⟩)] 39)).alloc (.cells #[.int .i64 a1] 3)).alloc (.cells #[.pointer (some ⟨W1.heap.size, 0, none⟩)] 266)) = W2 at *
    generalize W1.heap.size = b10 at *
    refine wp_range (enters_of Tryz.func222 (by kernel_rfl) rfl) (fun l W => by simp [resolve, go_sem]; rfl) ?_
    intro fn
    refine (show ∀ rr : Loop, rr.state = .ready → rr.pending = none → rr.tmps = AtT.tmps ⟨.pointer (some ⟨L.p, 0, none⟩), .agg #[.string n.low, .int .i64 n.head, .slice A n.next.length cap], .int .i64 v, undef, .pointer (some ⟨w.heap.size, 0, none⟩), .int .i64 a1, .pointer (some ⟨b10, 0, none⟩), undef, undef, .tuple #[.int .i64 a1, .int .i64 0], .pointer (some ⟨L.p, 0, none⟩), .pointer (some ⟨w.heap.size, 1, none⟩), .int .i64 n.head, .tuple #[.int .i64 a1, .int .i64 0], .int .i64 a1, .int .i64 0, .int .i64 0, .bool false, undef, undef, .pointer (some ⟨L.p, 0, none⟩), .int .i64 a1, .func (.func 222) #[] #[.pointer (some ⟨b10 + 1 + 1, 0, none⟩), .pointer (some ⟨b10 + 1, 0, none⟩), .pointer (some ⟨b10 + 1 + 2, 0, none⟩)], w.heap.size + 1, w.heap.size + 1 + 1, w.heap.size + 1 + 1 + 1, w.heap.size + 1 + 1 + 1 + 1⟩ undef undef → rr.params = #[27, 28] → rr.assign = (atLoop Tryz.f132).1 → rr.body = (atLoop Tryz.f132).2 →
      CallsIn Fence.wide 0 Tryz.prog 222 _ ((W2.alloc (.deferred (some []))).alloc (.loop rr)) _ from ?_) _ rfl rfl rfl rfl rfl rfl
    intro rr hr1 hr2 hr3 hr4 hr5 hr6
    have NL := Lib.hid (NB.fresh (M2.out.alloc (.deferred (some []))) (.loop rr) rfl)
    rw [show (W2.alloc (.deferred (some []))).heap.size = W2.heap.size + 1 by simp] at NL
    have ND := Lib.hid ((NB.fresh M2.out (.deferred (some [])) rfl).alloc (.loop rr))
    refine (node_ages1 w L I ⟨.pointer (some ⟨L.p, 0, none⟩), .agg #[.string n.low, .int .i64 n.head, .slice A n.next.length cap], .int .i64 v, undef, .pointer (some ⟨w.heap.size, 0, none⟩), .int .i64 a1, .pointer (some ⟨b10, 0, none⟩), undef, undef, .tuple #[.int .i64 a1, .int .i64 0], .pointer (some ⟨L.p, 0, none⟩), .pointer (some ⟨w.heap.size, 1, none⟩), .int .i64 n.head, .tuple #[.int .i64 a1, .int .i64 0], .int .i64 a1, .int .i64 0, .int .i64 0, .bool false, undef, undef, .pointer (some ⟨L.p, 0, none⟩), .int .i64 a1, .func (.func 222) #[] #[.pointer (some ⟨b10 + 1 + 1, 0, none⟩), .pointer (some ⟨b10 + 1, 0, none⟩), .pointer (some ⟨b10 + 1 + 2, 0, none⟩)], w.heap.size + 1, w.heap.size + 1 + 1, w.heap.size + 1 + 1 + 1, w.heap.size + 1 + 1 + 1 + 1⟩ (atLoop Tryz.f132) rfl (W2.heap.size + 1) W2.heap.size (b10 + 1 + 1) (b10 + 1) (b10 + 1 + 2) b10 v a1 rr hr1 hr2 hr3 hr4 hr5 hr6 F s1 J1 _ ((M2.out.alloc _).alloc _) (ok_last HN.out X2.out)
      ((D5.out.alloc _).alloc _) ((D6.out.alloc _).alloc _) ((D7.out.alloc _).alloc _) ((D8.out.alloc _).alloc _) ((D10.out.alloc _).alloc _) ((DH.out.alloc _).alloc _) ((DP.out.alloc _).alloc _) ((DE.out.alloc _).alloc _) NL.out ND.out (by omega)
      (by dsimp only; omega) (by dsimp only; omega) (by dsimp only; omega) n10.1 n10.2.1 n10.2.2).mono ?_
    clear NL ND hr3 hr4 hr5 hr6 D5 D6 D7 D8 D10 DH DP DE M2
    have hDl : W2.heap.size ≠ W2.heap.size + 1 := by omega
    generalize W2.heap.size + 1 = l at *
    generalize W2.heap.size = D at *
    rintro e W4 ⟨J4, s4, M4, ND, h⟩
    have M4 := Lib.hid M4
    have ND := Lib.hid ND
    rcases h with ⟨x, a, ka, kc, va, vc, ga, gc, ta, tc, rfl, hr, hx, NL, B6, B7, B8⟩ | ⟨x, er, rfl, hr, NL, B10, B6, B7, B8⟩ | ⟨rfl, hr⟩
    · refine ⟨_, _, run_endLoop NL.at_ (by simp), ?_⟩
      have M5 := Lib.hid (M4.out.putObj NL (.loop { rr with state := .exhausted, pending := some .ret }))
      have N5 := Lib.hid (ND.out.putFar hDl (.loop { rr with state := .exhausted, pending := some .ret }))
      have A6 := Lib.hid (B6.putFar (fun e => NL.ne B6 e.symm) (.loop { rr with state := .exhausted, pending := some .ret }))
      have A7 := Lib.hid (B7.putFar (fun e => NL.ne B7 e.symm) (.loop { rr with state := .exhausted, pending := some .ret }))
      have A8 := Lib.hid (B8.putFar (fun e => NL.ne B8 e.symm) (.loop { rr with state := .exhausted, pending := some .ret }))
      dsimp only at M5 N5 A6 A7 A8 ⊢
      generalize W4.putObj l (.loop { rr with state := .exhausted, pending := some .ret }) = W5 at *
      clear M4 ND NL B6 B7 B8
      have HX := Lib.hid hx
      clear hx
      gi_wp2
      have M6 := M5.out.putObj N5.out (.deferred none)
      have E6 := Lib.hid (A6.out.putFar (fun e => N5.out.ne A6.out e.symm) (.deferred none))
      have E7 := Lib.hid (A7.out.putFar (fun e => N5.out.ne A7.out e.symm) (.deferred none))
      have E8 := Lib.hid (A8.out.putFar (fun e => N5.out.ne A8.out e.symm) (.deferred none))
      refine ⟨by simp, .inl ⟨_, _, rfl, run_takeDeferred N5.out.at_, ?_⟩⟩
      have g0 := cell_blk E6.out.at_ 0
      have g1 := cell_blk E6.out.at_ 1
      have g2 := cell_blk E6.out.at_ 2
      have g3 := cell_blk E6.out.at_ 3
      have g4 := cell_blk E6.out.at_ 4
      have g5 := cell_blk E6.out.at_ 5
      have g6 := cell_blk E6.out.at_ 6
      have g7 := cell_blk E6.out.at_ 7
      have g8 := cell_blk E6.out.at_ 8
      have g9 := cell_blk E6.out.at_ 9
      have g10 := cell_blk E6.out.at_ 10
      have gf0 := free_blk E6.out.at_ 0
      have gf1 := free_blk E6.out.at_ 1
      have gf2 := free_blk E6.out.at_ 2
      have gf3 := free_blk E6.out.at_ 3
      have gf4 := free_blk E6.out.at_ 4
      have gf5 := free_blk E6.out.at_ 5
      have gf6 := free_blk E6.out.at_ 6
      have gf7 := free_blk E6.out.at_ 7
      have gf8 := free_blk E6.out.at_ 8
      have gf9 := free_blk E6.out.at_ 9
      have gf10 := free_blk E6.out.at_ 10
      have gs := lt_of_block E6.out.at_
      have h0 := cell_blk E7.out.at_ 0
      have hf0 := free_blk E7.out.at_ 0
      have hs := lt_of_block E7.out.at_
      have k0 := cell_blk E8.out.at_ 0
      have kf0 := free_blk E8.out.at_ 0
      have ks := lt_of_block E8.out.at_
      refine ⟨.tuple #[.agg #[.int .i64 a.rev.version, .int .i64 a.rev.rate, .string a.rev.span.lo, .string a.rev.span.hi, .bool a.rev.span.all, .bool a.rev.dead, .slice ka a.rev.keys.length kc, .slice va a.rev.vals.length vc, .slice ga a.rev.gone.length gc, .slice ta a.rev.table.length tc, .int .i64 a.prev], .bool true, .int .i64 0], by simp [results, Tryz.results132, go_sem, g0, g1, g2, g3, g4, g5, g6, g7, g8, g9, g10, gs, h0, hs, k0, ks], ?_⟩
      rw [X2.out, hr]
      exact Mg.post M6 ⟨_, rfl, HX.out⟩
    · have hp : rr.pending = none := hr2
      refine ⟨_, _, run_endLoop NL.at_ (by rw [hr1]; decide), ?_⟩
      rw [hp]
      have M5 := Lib.hid (M4.out.putObj NL (.loop { rr with state := .exhausted, pending := none }))
      have N5 := Lib.hid (ND.out.putFar hDl (.loop { rr with state := .exhausted, pending := none }))
      have A6 := Lib.hid (B6.putFar (fun e => NL.ne B6 e.symm) (.loop { rr with state := .exhausted, pending := none }))
      have A7 := Lib.hid (B7.putFar (fun e => NL.ne B7 e.symm) (.loop { rr with state := .exhausted, pending := none }))
      have A8 := Lib.hid (B8.putFar (fun e => NL.ne B8 e.symm) (.loop { rr with state := .exhausted, pending := none }))
      have A10 := Lib.hid (B10.putFar (fun e => NL.ne B10 e.symm) (.loop { rr with state := .exhausted, pending := none }))
      dsimp only at M5 N5 A6 A7 A8 ⊢
      generalize W4.putObj l (.loop { rr with state := .exhausted, pending := none }) = W5 at *
      clear M4 ND NL B6 B7 B8 B10
      have g0 := cell_blk A6.out.at_ 0
      have g1 := cell_blk A6.out.at_ 1
      have g2 := cell_blk A6.out.at_ 2
      have g3 := cell_blk A6.out.at_ 3
      have g4 := cell_blk A6.out.at_ 4
      have g5 := cell_blk A6.out.at_ 5
      have g6 := cell_blk A6.out.at_ 6
      have g7 := cell_blk A6.out.at_ 7
      have g8 := cell_blk A6.out.at_ 8
      have g9 := cell_blk A6.out.at_ 9
      have g10 := cell_blk A6.out.at_ 10
      have gf0 := free_blk A6.out.at_ 0
      have gf1 := free_blk A6.out.at_ 1
      have gf2 := free_blk A6.out.at_ 2
      have gf3 := free_blk A6.out.at_ 3
      have gf4 := free_blk A6.out.at_ 4
      have gf5 := free_blk A6.out.at_ 5
      have gf6 := free_blk A6.out.at_ 6
      have gf7 := free_blk A6.out.at_ 7
      have gf8 := free_blk A6.out.at_ 8
      have gf9 := free_blk A6.out.at_ 9
      have gf10 := free_blk A6.out.at_ 10
      have gs := lt_of_block A6.out.at_
      have h0 := cell_blk A7.out.at_ 0
      have hf0 := free_blk A7.out.at_ 0
      have hs := lt_of_block A7.out.at_
      have k0 := cell_blk A8.out.at_ 0
      have kf0 := free_blk A8.out.at_ 0
      have ks := lt_of_block A8.out.at_
      have q0 := cell_blk A10.out.at_ 0
      have qf0 := free_blk A10.out.at_ 0
      have qs := lt_of_block A10.out.at_
      gi_wp2
      gi_region
      all_goals gi_wp2
      have hc6 : ∀ (W : World) (j : Nat), (W.putObj D (.deferred none)).cell? ⟨w.heap.size + 1 + 1, j, none⟩ = W.cell? ⟨w.heap.size + 1 + 1, j, none⟩ := fun W j => World.cell?_of_block (World.putObj_heap_other (fun e => N5.out.ne A6.out e.symm))
      have hc7 : ∀ (W : World) (j : Nat), (W.putObj D (.deferred none)).cell? ⟨w.heap.size + 1 + 1 + 1, j, none⟩ = W.cell? ⟨w.heap.size + 1 + 1 + 1, j, none⟩ := fun W j => World.cell?_of_block (World.putObj_heap_other (fun e => N5.out.ne A7.out e.symm))
      have hc8 : ∀ (W : World) (j : Nat), (W.putObj D (.deferred none)).cell? ⟨w.heap.size + 1 + 1 + 1 + 1, j, none⟩ = W.cell? ⟨w.heap.size + 1 + 1 + 1 + 1, j, none⟩ := fun W j => World.cell?_of_block (World.putObj_heap_other (fun e => N5.out.ne A8.out e.symm))
      all_goals
        refine ⟨by simp, .inl ⟨_, _, rfl, run_takeDeferred (NB.at_ (w := w) (J := J4) ?nb), ?_⟩⟩
        case nb => repeat (first | with_reducible exact N5.out | with_reducible refine NB.drew ?_ | refine NB.far ?_ (by first | exact N5.out.ne A6.out | exact N5.out.ne A7.out | exact N5.out.ne A8.out) _)
        refine ⟨.tuple #[.agg #[.int .i64 0, .int .i64 0, .string ⟨#[]⟩, .string ⟨#[]⟩, .bool false, .bool false, .slice none 0 0, .slice none 0 0, .slice none 0 0, .slice none 0 0, .int .i64 0], .bool false, .int .i64 er], by simp [results, Tryz.results132, go_sem, hc6, hc7, hc8, g0, g1, g2, g3, g4, g5, g6, g7, g8, g9, g10, gs, h0, hs, k0, ks], ?_⟩
        show Post L w I _ _ _ _
        rw [X2.out, hr]
        refine Mg.post (J := J4) (Mg.putObj (o := .deferred (some [])) ?_ ?nb2 _) ⟨_, rfl, AgeV.none _⟩
        case nb2 => repeat (first | with_reducible exact N5.out | with_reducible refine NB.drew ?_ | refine NB.far ?_ (by first | exact N5.out.ne A6.out | exact N5.out.ne A7.out | exact N5.out.ne A8.out) _)
        repeat (first | with_reducible exact M5.out | with_reducible refine Mg.drew ?_ | refine Mg.seto ?_ (by repeat (first | with_reducible exact A6.out.ok | with_reducible exact A7.out.ok | with_reducible exact A8.out.ok | with_reducible refine OwnOk.set ?_ _ _)) _)
    · have M6 := M4.out.putObj ND.out (.deferred none)
      refine ⟨by simp, .inl ⟨_, _, rfl, run_takeDeferred ND.out.at_, ?_⟩⟩
      show Post L w I _ _ _ _
      rw [X2.out, hr]
      exact M6.paused
  · have t1 := ne_true he
    have X2 := Ex.mk (x_else X1.out he)
    clear he
    gi_wp2
    gi_region
    all_goals gi_wp2
    all_goals
      refine ⟨.tuple #[.agg #[.int .i64 0, .int .i64 0, .string ⟨#[]⟩, .string ⟨#[]⟩, .bool false, .bool false, .slice none 0 0, .slice none 0 0, .slice none 0 0, .slice none 0 0, .int .i64 0], .bool false, .int .i64 e1], by simp [results, Tryz.results132, go_sem, g0, g1, g2, g3, g4, g5, g6, g7, g8, g9, g10, gs, h0, hs, k0, ks], ?_⟩
      show Post L w I _ _ _ _
      rw [x_done X2.out]
      exact Mg.post (J := J1) (by repeat (first | with_reducible exact M1.out | with_reducible refine Mg.drewN ?_ _ | with_reducible refine Mg.drew ?_ | with_reducible refine Mg.alloc ?_ _ | refine Mg.seto ?_ (by repeat (first | with_reducible exact C6.out.ok | with_reducible exact C7.out.ok | with_reducible exact C8.out.ok | with_reducible refine OwnOk.set ?_ _ _ | with_reducible refine OwnOk.alloc ?_ _ | with_reducible refine OwnOk.drew ?_ | with_reducible refine OwnOk.drewN ?_ _)) _)) ⟨_, rfl, AgeV.none _⟩
end Go.Proofs.YtadaiihoclknmaaGreat
/- Keys and spans. -/
namespace Go.Proofs.YtadaiihoclknmaaGreat
open Go.RowKit
set_option maxHeartbeats 4000000
set_option maxRecDepth 100000
set_option linter.unusedVariables false
set_option linter.unusedSimpArgs false

/-- Texts by their bytes. -/
def sLt (a b : ByteArray) : Bool := Op.bytesLess a.toList b.toList
def sLe (a b : ByteArray) : Bool := sLt a b || a.toList == b.toList
def kHas (s : Span) (k : ByteArray) : Bool := sLe s.lo k && (s.all || sLt k s.hi)
def kGood (s : Span) : Bool := s.all || sLe s.lo s.hi
def kEmpty (s : Span) : Bool := !s.all && !sLt s.lo s.hi
def kWhole : Span := ⟨⟨#[]⟩, ⟨#[]⟩, true⟩
def kJoins (a b : Span) : Bool := !a.all && a.hi.toList == b.lo.toList
def kUpper (a b : Span) : Span := if (a.all || !b.all && sLt b.hi a.hi) = true then b else a
/-- What a callee says that asks nothing, and makes new blocks at most. -/
theorem new_of {w : World} {a b c : World} (h : a = b) (k : New b c) : New a c := h ▸ k
theorem key_Has (w : World) (s : Span) (k : ByteArray) :
    Calls Tryz.prog 59 #[spanV s, .string k] w fun e w' => e = .returned (.bool (kHas s k)) ∧ New w w' := by
  unfold spanV
  go_enter Tryz.func59, Tryz.ntmps59
  go_wp2
  all_goals
    go_ret
    refine ⟨?_, by repeat (first | exact Kept.refl _ _ | refine Kept.alloc ?_ _)⟩
    simp_all [kHas, sLe, sLt]
theorem key_Good (w : World) (s : Span) :
    Calls Tryz.prog 129 #[spanV s] w fun e w' => e = .returned (.bool (kGood s)) ∧ New w w' := by
  unfold spanV
  go_enter Tryz.func129, Tryz.ntmps129
  go_wp2
  all_goals
    go_ret
    refine ⟨?_, by repeat (first | exact Kept.refl _ _ | refine Kept.alloc ?_ _)⟩
    simp_all [kGood, sLe, sLt]
theorem key_Empty (w : World) (s : Span) :
    Calls Tryz.prog 104 #[spanV s] w fun e w' => e = .returned (.bool (kEmpty s)) ∧ New w w' := by
  unfold spanV
  go_enter Tryz.func104, Tryz.ntmps104
  go_wp2
  all_goals
    go_ret
    refine ⟨?_, by repeat (first | exact Kept.refl _ _ | refine Kept.alloc ?_ _)⟩
    simp_all [kEmpty, sLe, sLt]
theorem key_Joins (w : World) (a b : Span) :
    Calls Tryz.prog 61 #[spanV a, spanV b] w fun e w' => e = .returned (.bool (kJoins a b)) ∧ New w w' := by
  unfold spanV
  go_enter Tryz.func61, Tryz.ntmps61
  go_wp2
  all_goals
    go_ret
    refine ⟨?_, by repeat (first | exact Kept.refl _ _ | refine Kept.alloc ?_ _)⟩
    simp_all [kJoins, sLe, sLt]
theorem key_upper (w : World) (a b : Span) :
    Calls Tryz.prog 174 #[spanV a, spanV b] w fun e w' => e = .returned (spanV (kUpper a b)) ∧ New w w' := by
  unfold spanV
  go_enter Tryz.func174, Tryz.ntmps174
  go_wp2
  all_goals
    refine bodyPost_ret (v := spanV (kUpper a b)) (by simp_all [results, Tryz.results174, go_sem, kUpper, sLt, spanV]) rfl ?_
    exact ⟨rfl, by repeat (first | exact Kept.refl _ _ | refine Kept.alloc ?_ _)⟩
theorem key_Whole (w : World) :
    Calls Tryz.prog 31 #[] w fun e w' => e = .returned (spanV kWhole) ∧ New w w' := by
  go_enter Tryz.func31, Tryz.ntmps31
  go_wp2
  refine bodyPost_ret (v := spanV kWhole) (by simp [results, Tryz.results31, go_sem, spanV, kWhole]) rfl ?_
  exact ⟨rfl, by repeat (first | exact Kept.refl _ _ | refine Kept.alloc ?_ _)⟩
def kRight (k : ByteArray) : Bool := decide (1 ≤ k.size) && decide (k.size ≤ 1024)
theorem key_Right (w : World) (k : ByteArray) :
    Calls Tryz.prog 199 #[.string k] w fun e w' => e = .returned (.bool (kRight k)) ∧ New w w' := by
  go_enter Tryz.func199, Tryz.ntmps199
  go_wp2
  all_goals
    go_ret
    refine ⟨?_, by repeat (first | exact Kept.refl _ _ | refine Kept.alloc ?_ _)⟩
    try simp_all [kRight]
    try (rw [Bool.eq_iff_iff]; simp)
    try omega
theorem key_Fits (w : World) (k : ByteArray) :
    Calls Tryz.prog 200 #[.string k] w fun e w' => e = .returned (.bool (decide (k.size ≤ 65536))) ∧ New w w' := by
  go_enter Tryz.func200, Tryz.ntmps200
  go_wp2
  all_goals
    go_ret
    refine ⟨?_, by repeat (first | exact Kept.refl _ _ | refine Kept.alloc ?_ _)⟩
    simp
    try omega
def sMax (a b : ByteArray) : ByteArray := if sLt a b = true then b else a
def kMeet (a b : Span) : Span := ⟨sMax a.lo b.lo, if (kUpper a b).all = true then ⟨#[]⟩ else (kUpper a b).hi, (kUpper a b).all⟩
theorem run_max_s (W : World) (ts : Array TypeId) (t : TypeId) (x y : ByteArray) : (Builtin.max_ ts t #[.string x, .string y]).run Tryz.prog W = .ok (.string (sMax x y)) W := by
  simp only [Builtin.max_, sMax, sLt]
  by_cases h : Op.bytesLess x.toList y.toList = true <;> simp [Builtin.max2, h, go_sem, Op.stringOp]
theorem Kept.under3 {w w1 : World} {a b c : Obj} (h : New (((w.alloc a).alloc b).alloc c) w1) : New w w1 := ((((Kept.refl _ _).alloc a).alloc b).alloc c).trans h
theorem key_Meet (w : World) (a b : Span) :
    Calls Tryz.prog 134 #[spanV a, spanV b] w fun e w' => e = .returned (spanV (kMeet a b)) ∧ New w w' := by
  have HU := fun w => Lib.hid (key_upper w a b)
  obtain ⟨u, hu⟩ : ∃ u, u = kUpper a b := ⟨_, rfl⟩
  unfold kMeet
  rw [← hu] at HU ⊢
  clear hu
  unfold spanV at HU ⊢
  go_enter Tryz.func134, Tryz.ntmps134
  have hmx := fun W => run_max_s W #[9, 9] 9 a.lo b.lo
  generalize sMax a.lo b.lo = mx at hmx ⊢
  go_wp2_with fail
  refine (HU _).out.mono ?_
  rintro e w1 ⟨rfl, hk⟩
  have q0 := New.obj hk (alloc_old (alloc_old (alloc_new w _)))
  have q1 := New.obj hk (alloc_old (alloc_new (w.alloc _) _))
  have q2 := New.obj hk (alloc_new ((w.alloc _).alloc _) _)
  rw [show (w.alloc (.cells #[.string a.lo, .string a.hi, .bool a.all] 71)).heap.size = w.heap.size + 1 by simp] at q1
  rw [show ((w.alloc (.cells #[.string a.lo, .string a.hi, .bool a.all] 71)).alloc (.cells #[.string b.lo, .string b.hi, .bool b.all] 71)).heap.size = w.heap.size + 1 + 1 by simp] at q2
  have c00 := cell_blk q0 0
  have c10 := cell_blk q1 0
  have c20 := cell_blk q2 0
  have c21 := cell_blk q2 1
  have c22 := cell_blk q2 2
  have f20 := free_blk q2 0
  have f21 := free_blk q2 1
  have f22 := free_blk q2 2
  have s0 := lt_of_block q0
  have s1 := lt_of_block q1
  have s2 := lt_of_block q2
  have HK := Lib.hid hk
  clear hk q0 q1 q2
  by_cases hu : u.all = true
  · go_wp2
    refine bodyPost_ret (v := .agg #[.string mx, .string ⟨#[]⟩, .bool true]) (by simp [results, Tryz.results134, go_sem, c20, c21, c22, s2]) rfl ?_
    exact ⟨rfl, by repeat (first | exact Kept.under3 HK.out | refine Kept.alloc ?_ _ | refine Kept.setCell ?_ (fun h => by simp only at h; omega) _)⟩
  · go_wp2
    refine bodyPost_ret (v := .agg #[.string mx, .string u.hi, .bool false]) (by simp [results, Tryz.results134, go_sem, c20, c21, c22, s2]) rfl ?_
    exact ⟨rfl, by repeat (first | exact Kept.under3 HK.out | refine Kept.alloc ?_ _ | refine Kept.setCell ?_ (fun h => by simp only at h; omega) _)⟩
end Go.Proofs.YtadaiihoclknmaaGreat
/- Spans that are cut. -/
namespace Go.Proofs.YtadaiihoclknmaaGreat
open Go.RowKit
set_option maxHeartbeats 4000000
set_option maxRecDepth 100000
set_option linter.unusedVariables false
set_option linter.unusedSimpArgs false

theorem three_blk {w w1 : World} {a b c : Array Value} {ta tb tc : TypeId} (h : Hid (New (((w.alloc (.cells a ta)).alloc (.cells b tb)).alloc (.cells c tc)).drew w1)) :
    w1.heap[w.heap.size]? = some (.cells a ta (0, 0)) ∧ w1.heap[w.heap.size + 1]? = some (.cells b tb (0, 0)) ∧ w1.heap[w.heap.size + 1 + 1]? = some (.cells c tc (0, 0)) ∧ New w w1 := by
  have h := h.out
  refine ⟨New.obj h (alloc_old (alloc_old (alloc_new w _))), ?_, ?_, ((((Kept.refl _ _).alloc _).alloc _).alloc _).drew.trans h⟩
  · have q := New.obj h (alloc_old (alloc_new (w.alloc (.cells a ta)) (.cells b tb)))
    rwa [show (w.alloc (.cells a ta)).heap.size = w.heap.size + 1 by simp] at q
  · have q := New.obj h (alloc_new ((w.alloc (.cells a ta)).alloc (.cells b tb)) (.cells c tc))
    rwa [show ((w.alloc (.cells a ta)).alloc (.cells b tb)).heap.size = w.heap.size + 1 + 1 by simp] at q
def kCut (s : Span) (k : ByteArray) : Span × Span := (kMeet s ⟨⟨#[]⟩, k, false⟩, kMeet s ⟨k, ⟨#[]⟩, true⟩)
theorem key_Cut (w : World) (s : Span) (k : ByteArray) :
    Calls Tryz.prog 63 #[spanV s, .string k] w fun e w' => e = .returned (.tuple #[spanV (kCut s k).1, spanV (kCut s k).2]) ∧ New w w' := by
  have H1 := fun w => Lib.hid (key_Meet w s ⟨⟨#[]⟩, k, false⟩)
  have H2 := fun w => Lib.hid (key_Meet w s ⟨k, ⟨#[]⟩, true⟩)
  unfold kCut
  generalize kMeet s ⟨⟨#[]⟩, k, false⟩ = u at H1 ⊢
  generalize kMeet s ⟨k, ⟨#[]⟩, true⟩ = v at H2 ⊢
  unfold spanV at H1 H2 ⊢
  go_enter Tryz.func63, Tryz.ntmps63
  go_wp2
  go_region_with (first
    | (go_at_call 134; have _t := HK1; refine (H2 _).out.mono ?_; rintro e w2 ⟨rfl, hk⟩; have r1 := New.obj hk Q1.out; have r2 := New.obj hk Q2.out; have c10 := cell_blk r1 0; have c11 := cell_blk r1 1; have c12 := cell_blk r1 2; have c20 := cell_blk r2 0; have c21 := cell_blk r2 1; have c22 := cell_blk r2 2; have f10 := free_blk r1 0; have f11 := free_blk r1 1; have f12 := free_blk r1 2; have f20 := free_blk r2 0; have f21 := free_blk r2 1; have f22 := free_blk r2 2; have s1 := lt_of_block r1; have s2 := lt_of_block r2; have HK2 := Lib.hid hk; clear hk r1 r2; skip)
    | (go_at_call 134; refine (H1 _).out.mono ?_; rintro e w1 ⟨rfl, hk⟩; obtain ⟨q0, q1, q2, HK⟩ := three_blk (Lib.hid hk); have c00 := cell_blk q0 0; have c01 := cell_blk q0 1; have c02 := cell_blk q0 2; have HK1 := Lib.hid hk; have Q1 := Lib.hid q1; have Q2 := Lib.hid q2; have N1 := Lib.hid HK; clear hk q0 q1 q2 HK; skip))
  all_goals
    go_wp2
    refine bodyPost_ret (v := .tuple #[.agg #[.string u.lo, .string u.hi, .bool u.all], .agg #[.string v.lo, .string v.hi, .bool v.all]]) (by simp [results, Tryz.results63, go_sem, c10, c11, c12, c20, c21, c22, s1, s2]) rfl ?_
    exact ⟨rfl, by repeat (first | with_reducible exact N1.out.trans HK2.out | with_reducible refine Kept.drew ?_ | with_reducible refine Kept.alloc ?_ _ | refine Kept.setCell ?_ (fun h => by simp only at h; omega) _)⟩
end Go.Proofs.YtadaiihoclknmaaGreat
/- The tower: Next. -/
namespace Go.Proofs.YtadaiihoclknmaaGreat
open Go.RowKit
set_option maxHeartbeats 4000000
set_option maxRecDepth 100000
set_option linter.unusedVariables false
set_option linter.unusedSimpArgs false

def twNext (n : Node) (level : Int) : Prog (Int × Int) :=
  if 0 ≤ level ∧ level < n.next.length then do
    let x ← pWord (n.next.getD level.toNat 0)
    if x.2 = 0 then (if x.1 < 4611686018427387904 then return (tTo x.1, 0) else .stuck) else return (0, x.2)
  else return (0, 10)
theorem tower_Next (w : World) (L : Loc) (I : IHeap) (s : PS) (hst : St w L I s) (n : Node) (nv : Value) (hv : NodeV I nv n) (level : Int) (hn : ((twNext n level).exec s).1.ok) :
    Calls Tryz.prog 172 #[.pointer (some ⟨L.p, 0, none⟩), nv, .int .i64 level] w (Post L w I ((twNext n level).exec s) (Is pairV)) := by
  have M0 := Lib.hid (Mg.start hst)
  have HN := Lib.hid hn
  have X0 : Ex ((twNext n level).exec s) ((twNext n level).exec s) := ⟨rfl⟩
  obtain ⟨A, cap, rfl, hs, hl⟩ := hv.form
  have HS := Lib.hid hs
  clear hst hn hv hs
  go_enter Tryz.func172, Tryz.ntmps172
  by_cases h0 : 0 ≤ level
  · by_cases h1 : level < n.next.length
    · have X1 := Ex.mk (x_if X0.out ⟨h0, h1⟩)
      obtain ⟨i, rfl⟩ : ∃ i : Nat, level = i := ⟨level.toNat, by omega⟩
      have hlt : i < n.next.length := by omega
      obtain ⟨b, off, rfl, _, hc⟩ := Sl.cell M0.out.st.held HS.out (fun _ => rfl) (by omega)
      have hx := List.getElem?_eq_getElem hlt
      have c0 : w.cell? ⟨b, off + i * 1, none⟩ = _ := hc i 0 _ _ hx rfl
      rw [Nat.mul_one] at c0
      have E : n.next.getD (i : Int).toNat 0 = n.next[i] := by simp [List.getD, hx]
      rw [E] at X1
      generalize n.next[i] = x at c0 X1
      clear hc hx E
      have s0 : b < w.heap.size := World.block_lt_of_cell? _ _ c0
      go_wp2_with fail
      refine (port_Word _ L _ _ (M0.out.alloc _).st x (ok_of HN.out X1.out)).mono ?_
      intro e W2 hP
      rcases (M0.out.alloc _).call hP with ⟨⟨a2, e2⟩, s2, J2, v2, hr, rfl, rfl, hg, hk, hM⟩ | ⟨s', J', hr, rfl, hM⟩
      rotate_left
      · exact post_panic rfl (by rw [x_paused X1.out hr]; exact hM.paused)
      have M2 := Lib.hid hM
      have K2 := Lib.hid hk
      have G2 := Lib.hid hg
      have X2 := Ex.mk (x_ret X1.out hr)
      clear hP hr hg hk hM
      by_cases he : e2 = 0
      · subst he
        have X3 := Ex.mk (x_if X2.out rfl)
        by_cases hx : a2 < 4611686018427387904
        · have X4 := Ex.mk (x_if X3.out hx)
          go_wp2_with (go_at_call 125; refine (to_any _ _ hx).mono ?_; rintro e w' ⟨rfl, rfl⟩)
          go_ret2
          rw [x_done X4.out]
          exact Mg.post (J := J2) (by repeat (first | with_reducible exact M2.out | with_reducible refine Mg.drewN ?_ _ | with_reducible refine Mg.drew ?_ | with_reducible refine Mg.alloc ?_ _ | refine Mg.seto ?_ (by repeat (first | with_reducible refine OwnOk.set ?_ _ _ | with_reducible refine OwnOk.alloc ?_ _ | with_reducible refine OwnOk.drew ?_ | with_reducible refine OwnOk.drewN ?_ _)) _)) rfl
        · have X4 := Ex.mk (x_else X3.out hx)
          exact (show (((twNext n i).exec s).1.ok → False) by rw [X4.out]; exact id) HN.out |>.elim
      · have t1 := ne_true he
        have X3 := Ex.mk (x_else X2.out he)
        clear he
        go_wp2
        go_ret2
        rw [x_done X3.out]
        exact Mg.post (J := J2) (by repeat (first | with_reducible exact M2.out | with_reducible refine Mg.drewN ?_ _ | with_reducible refine Mg.drew ?_ | with_reducible refine Mg.alloc ?_ _ | refine Mg.seto ?_ (by repeat (first | with_reducible refine OwnOk.set ?_ _ _ | with_reducible refine OwnOk.alloc ?_ _ | with_reducible refine OwnOk.drew ?_ | with_reducible refine OwnOk.drewN ?_ _)) _)) rfl
    · have X1 := Ex.mk (x_else X0.out (fun h => h1 h.2))
      have t1 : decide ((n.next.length : Int) ≤ level) = true := by simp; omega
      have t0 : decide (level < 0) = false := by simpa using h0
      go_wp2
      go_ret2
      rw [x_done X1.out]
      exact Mg.post (J := I) (by repeat (first | with_reducible exact M0.out | with_reducible refine Mg.drewN ?_ _ | with_reducible refine Mg.drew ?_ | with_reducible refine Mg.alloc ?_ _ | refine Mg.seto ?_ (by repeat (first | with_reducible refine OwnOk.set ?_ _ _ | with_reducible refine OwnOk.alloc ?_ _ | with_reducible refine OwnOk.drew ?_ | with_reducible refine OwnOk.drewN ?_ _)) _)) rfl
  · have X1 := Ex.mk (x_else X0.out (fun h => h0 h.1))
    have t0 : decide (level < 0) = true := by simp; omega
    go_wp2
    go_ret2
    rw [x_done X1.out]
    exact Mg.post (J := I) (by repeat (first | with_reducible exact M0.out | with_reducible refine Mg.drewN ?_ _ | with_reducible refine Mg.drew ?_ | with_reducible refine Mg.alloc ?_ _ | refine Mg.seto ?_ (by repeat (first | with_reducible refine OwnOk.set ?_ _ _ | with_reducible refine OwnOk.alloc ?_ _ | with_reducible refine OwnOk.drew ?_ | with_reducible refine OwnOk.drewN ?_ _)) _)) rfl
end Go.Proofs.YtadaiihoclknmaaGreat
