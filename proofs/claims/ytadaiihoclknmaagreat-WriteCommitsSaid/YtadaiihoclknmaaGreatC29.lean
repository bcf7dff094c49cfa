/- Part 29 of the proof: Read2, Yard, LawA, LawB, Wc1, Wc2. -/
import Derived.Test.YtadaiihoclknmaaGreatC17
import Derived.Test.YtadaiihoclknmaaGreatC07
import Derived.Test.YtadaiihoclknmaaGreatC28
/- Read: Get. -/
namespace Go.Proofs.YtadaiihoclknmaaGreat
open Go.RowKit
set_option maxHeartbeats 4000000
set_option maxRecDepth 100000
set_option linter.unusedVariables false
set_option linter.unusedSimpArgs false

def rdGet (F F' : Nat) (first v : Int) (k : ByteArray) : Prog (ByteArray × Bool × Int) := do
  let x ← rdFind F first v k F'
  if x.2 = 0 then
    if rvOk x.1 then return ((rGet x.1 k).1, (rGet x.1 k).2, 0) else .stuck
  else return (⟨#[]⟩, false, x.2)
theorem read_Get (w : World) (L : Loc) (I : IHeap) (s : PS) (hst : St w L I s) (F F' : Nat) (first v : Int) (k : ByteArray) (hk : k.size ≤ maxLen) (hn : ((rdGet F F' first v k).exec s).1.ok) :
    Calls Tryz.prog 36 #[.pointer (some ⟨L.p, 0, none⟩), .int .i64 first, .int .i64 v, .string k] w (Post L w I ((rdGet F F' first v k).exec s) (Is fun a : ByteArray × Bool × Int => .tuple #[.string a.1, .bool a.2.1, .int .i64 a.2.2])) := by
  have M0 := Lib.hid (Mg.start hst)
  have HN := Lib.hid hn
  have X0 : Ex ((rdGet F F' first v k).exec s) ((rdGet F F' first v k).exec s) := ⟨rfl⟩
  clear hst hn
  go_enter Tryz.func36, Tryz.ntmps36
  go_wp2_with fail
  refine (read_Find _ L _ _ (M0.out).st F F' first v k (ok_of HN.out X0.out)).mono ?_
  intro e W1 hP
  rcases (M0.out).call hP with ⟨⟨r, e1⟩, s1, J1, v1, hr, rfl, ⟨x1, rfl, hx⟩, hg, hk, hM⟩ | ⟨s', J', hr, rfl, hM⟩
  rotate_left
  · exact post_panic rfl (by rw [x_paused X0.out hr]; exact hM.paused)
  have M1 := Lib.hid hM
  have K1 := Lib.hid hk
  have G1 := Lib.hid hg
  have X1 := Ex.mk (x_ret X0.out hr)
  clear hP hr hg hk hM
  by_cases he : e1 = 0
  · subst he
    have X2 := Ex.mk (x_if X1.out rfl)
    by_cases hok : rvOk r
    · have X3 := Ex.mk (x_if X2.out hok)
      have HV := Lib.hid hx
      have HGT := fun w hI => Lib.hid (rev_Get w J1 hI r _ HV.out hok k hk)
      obtain ⟨ka, kc, va, vc, ga, gc, ta, tc, rfl, _⟩ := hx.form
      clear hx hok
      generalize rGet r k = g at *
      go_wp2_with (go_at_call 39; refine (HGT _ (M1.out.alloc _).st.held).out.mono ?_; rintro e W2 ⟨rfl, hk2⟩; have M2 := Lib.hid ((M1.out.alloc _).new hk2); clear hk2)
      try go_region
      all_goals
        try go_wp2
        refine bodyPost_ret (v := .tuple #[.string g.1, .bool g.2, .int .i64 0]) (by simp [results, Tryz.results36, go_sem]) rfl ?_
        rw [x_done X3.out]
        exact Mg.post (J := J1) (by repeat (first | with_reducible exact M2.out | with_reducible refine Mg.drewN ?_ _ | with_reducible refine Mg.drew ?_ | with_reducible refine Mg.alloc ?_ _ | refine Mg.seto ?_ (by repeat (first | with_reducible refine OwnOk.set ?_ _ _ | with_reducible refine OwnOk.alloc ?_ _ | with_reducible refine OwnOk.drew ?_ | with_reducible refine OwnOk.drewN ?_ _)) _)) rfl
    · have X3 := Ex.mk (x_else X2.out hok)
      exact (show (((rdGet F F' first v k).exec s).1.ok → False) by rw [X3.out]; exact id) HN.out |>.elim
  · have t1 := ne_true he
    have X2 := Ex.mk (x_else X1.out he)
    obtain ⟨ka, kc, va, vc, ga, gc, ta, tc, rfl, _⟩ := hx.form
    clear he hx
    go_wp2
    try go_region
    all_goals
      try go_wp2
      refine bodyPost_ret (v := .tuple #[.string ⟨#[]⟩, .bool false, .int .i64 e1]) (by simp [results, Tryz.results36, go_sem]) rfl ?_
      rw [x_done X2.out]
      exact Mg.post (J := J1) (by repeat (first | with_reducible exact M1.out | with_reducible refine Mg.drewN ?_ _ | with_reducible refine Mg.drew ?_ | with_reducible refine Mg.alloc ?_ _ | refine Mg.seto ?_ (by repeat (first | with_reducible refine OwnOk.set ?_ _ _ | with_reducible refine OwnOk.alloc ?_ _ | with_reducible refine OwnOk.drew ?_ | with_reducible refine OwnOk.drewN ?_ _)) _)) rfl
end Go.Proofs.YtadaiihoclknmaaGreat
/- Memory between calls of step.Do; step.Do. -/
namespace Go.Proofs.YtadaiihoclknmaaGreat
open Go.RowKit
set_option maxHeartbeats 4000000
set_option maxRecDepth 100000
set_option linter.unusedVariables false
set_option linter.unusedSimpArgs false
/-- A port of step.Do. -/
def ps0 (M : Mem) : PS := ⟨M, [], 0, -1, 0⟩
abbrev I0 : IHeap := fun _ => none
/-- A memory that a function made which began in w0, and what else it owns. -/
structure Yd (w0 : World) (J : IHeap) (W : World) (m cb : Nat) (M : Mem) (its : List It) : Prop where
  new : New w0 W
  held : Held J W
  grow : Grow I0 w0 J
  mem : MemAt W m cb J M
  lom : w0.heap.size ≤ m
  loc : w0.heap.size ≤ cb
  a : ∀ i ∈ its, i.at_ w0 J W
variable {w0 W W1 : World} {J : IHeap} {m cb : Nat} {M : Mem} {its : List It}
theorem Yd.port (h : Yd w0 J W m cb M its) : Bag w0 ⟨W.heap.size, m, cb⟩ I0 J (ps0 M) (W.alloc (.cells #[.pointer (some ⟨m, 0, none⟩), .slice none 0 0, .int .i64 0, .int .i64 (-1), .int .i64 0] 152 (0, 0))) its := by
  have hk : New W (W.alloc (.cells #[.pointer (some ⟨m, 0, none⟩), .slice none 0 0, .int .i64 0, .int .i64 (-1), .int .i64 0] 152 (0, 0))) := (Kept.refl _ _).alloc _
  have hp := alloc_new W (.cells #[.pointer (some ⟨m, 0, none⟩), .slice none 0 0, .int .i64 0, .int .i64 (-1), .int .i64 0] 152 (0, 0))
  refine ⟨⟨h.grow, ⟨(h.new.trans hk).kept _, fun k x => .inr ?_⟩, h.held.alloc _, h.mem.new hk, .slice none 0 0, hp, ⟨[], World.ownsRow_nil _ _ _ _, fun i a ha => by simp [ps0] at ha⟩, Nat.zero_le _⟩, fun i hi => (h.a i hi).new hk⟩
  rcases x with rfl | rfl | rfl | x
  · exact h.new.size
  · exact h.lom
  · exact h.loc
  · unfold logBlk at x
    rw [cell_blk hp] at x
    simp [Value.ownBlock] at x
theorem Bag.yd {L : Loc} {s : PS} (h : Bag w0 L I0 J s W its) (hp : w0.heap.size ≤ L.p) (hm : w0.heap.size ≤ L.m) (hc : w0.heap.size ≤ L.cb) : Yd w0 J W L.m L.cb s.mem its := by
  refine ⟨?_, h.m.st.held, h.m.grow, h.m.st.mem, hm, hc, h.a⟩
  refine h.m.keeps.kept.mono fun k hk x => ?_
  rcases x with rfl | rfl | rfl | x
  · omega
  · omega
  · omega
  · unfold logBlk at x
    cases e : w0.cell? ⟨L.p, 1, none⟩ with
    | none => rw [e] at x; simp at x
    | some v => have := World.block_lt_of_cell? _ _ e; simp at this; omega
theorem Yd.step (h : Yd w0 J W m cb M its) (hk : New W W1) : Yd w0 J W1 m cb M its := ⟨h.new.trans hk, h.held.new hk, h.grow, h.mem.new hk, h.lom, h.loc, fun i hi => (h.a i hi).new hk⟩
theorem Yd.alloc (h : Yd w0 J W m cb M its) (o : Obj) : Yd w0 J (W.alloc o) m cb M its := h.step ((Kept.refl _ _).alloc o)
theorem Yd.drew (h : Yd w0 J W m cb M its) : Yd w0 J W.drew m cb M its := h.step ((Kept.refl _ _).drew)
theorem Yd.none (h : Yd w0 J W m cb M its) : J W.heap.size = none := by
  cases e : J W.heap.size with
  | none => rfl
  | some o => exact absurd (h.held.lt e) (Nat.lt_irrefl _)
theorem Yd.freshAt (h : Yd w0 J W m cb M its) (b : Nat) (hb : b = W.heap.size) (cs : Array Value) (t : TypeId) (ht : mutT t = false) : Yd w0 J (W.alloc (.cells cs t)) m cb M (.blk b cs t :: its) := by
  subst hb
  have h1 := h.alloc (.cells cs t)
  refine ⟨h1.new, h1.held, h1.grow, h1.mem, h1.lom, h1.loc, fun i hi => ?_⟩
  rcases List.mem_cons.1 hi with rfl | hi
  · exact ⟨alloc_new W _, ht, h.new.size, h.none⟩
  · exact h1.a i hi
theorem Yd.sub (h : Yd w0 J W m cb M its) {jts : List It} (hs : jts ⊆ its) : Yd w0 J W m cb M jts := ⟨h.new, h.held, h.grow, h.mem, h.lom, h.loc, fun i hi => h.a i (hs hi)⟩
theorem Yd.o0 {b : Nat} {cs : Array Value} {t : TypeId} (h : Yd w0 J W m cb M (.blk b cs t :: its)) : OB w0 J W b cs t := h.a (.blk b cs t) (by simp)
theorem Yd.o1 {x0 : It} {b : Nat} {cs : Array Value} {t : TypeId} (h : Yd w0 J W m cb M (x0 :: .blk b cs t :: its)) : OB w0 J W b cs t := h.a (.blk b cs t) (by simp)
theorem Yd.o2 {x0 x1 : It} {b : Nat} {cs : Array Value} {t : TypeId} (h : Yd w0 J W m cb M (x0 :: x1 :: .blk b cs t :: its)) : OB w0 J W b cs t := h.a (.blk b cs t) (by simp)
theorem Yd.o3 {x0 x1 x2 : It} {b : Nat} {cs : Array Value} {t : TypeId} (h : Yd w0 J W m cb M (x0 :: x1 :: x2 :: .blk b cs t :: its)) : OB w0 J W b cs t := h.a (.blk b cs t) (by simp)
theorem Yd.o4 {x0 x1 x2 x3 : It} {b : Nat} {cs : Array Value} {t : TypeId} (h : Yd w0 J W m cb M (x0 :: x1 :: x2 :: x3 :: .blk b cs t :: its)) : OB w0 J W b cs t := h.a (.blk b cs t) (by simp)
/-- Behind a call that has written what began in w0 alone. -/
theorem Yd.own {S : Nat → Prop} (h : Yd w0 J W m cb M []) (hk : Kept S W W1) (hs : ∀ k, S k → w0.heap.size ≤ k) (h1 : ¬ S m) (h2 : ¬ S cb) (h3 : ∀ k, S k → J k = Option.none) : Yd w0 J W1 m cb M [] := by
  refine ⟨⟨hk.os.trans h.new.os, hk.tape.trans h.new.tape, hk.output.trans h.new.output, Nat.le_trans h.new.size hk.size, fun k hl hn => ?_⟩, h.held.kept hk (fun k o hI y => by rw [h3 k y] at hI; cases hI), h.grow, h.mem.kept hk h1 h2, h.lom, h.loc, fun i hi => by cases hi⟩
  exact (hk.block k (Nat.lt_of_lt_of_le hl h.new.size) (fun y => by have := hs k y; omega)).trans (h.new.block k hl hn)
/-- A cell of the first block is written. -/
theorem Yd.setT {b : Nat} {cs : Array Value} {t : TypeId} (h : Yd w0 J W m cb M (.blk b cs t :: its)) (hf : ∀ i ∈ its, i.other t) (j : Nat) (u : Value) : Yd w0 J (W.setCell ⟨b, j, Option.none⟩ u) m cb M (.blk b (cs.setIfInBounds j u) t :: its) := by
  have ho := h.o0
  have nm : m ≠ b := fun e => by
    subst e
    have h1 := h.mem.hd
    rw [ho.at_] at h1
    injection h1 with h1
    injection h1 with _ h1
    have := ho.ty
    rw [h1] at this
    cases this
  have nc : cb ≠ b := fun e => by
    subst e
    obtain ⟨cur, h1, _⟩ := h.mem.arr
    rw [ho.at_] at h1
    injection h1 with h1
    injection h1 with _ h1
    have := ho.ty
    rw [h1] at this
    cases this
  have h1 := (h.sub (jts := []) (by simp)).own (S := fun k => k = b) (Kept.setCell (S := fun k => k = b) (Kept.refl _ _) (p := ⟨b, j, Option.none⟩) (fun _ => rfl) u) (fun k e => e ▸ ho.ge) nm nc (fun k e => e ▸ ho.no)
  refine ⟨h1.new, h1.held, h1.grow, h1.mem, h1.lom, h1.loc, fun i hi => ?_⟩
  rcases List.mem_cons.1 hi with rfl | hi
  · exact ho.set j u
  · refine (h.a i (List.mem_cons_of_mem _ hi)).far ho ?_ j u
    have hh := hf i hi
    have hi' := h.a i (List.mem_cons_of_mem _ hi)
    cases i with
    | blk b' cs' t' =>
      intro e
      subst e
      have h1 := hi'.at_
      rw [ho.at_] at h1
      injection h1 with h1
      injection h1 with _ h1
      exact hh h1
    | row E sz v n xs => exact fun e => hh e.symm
theorem Bag.lit {w : World} {L : Loc} {I : IHeap} {s : PS} (h : Bag w L I J s W its) (cs : Array Value) (t : TypeId) (sz n : Nat) (hs : cs.size = n * sz) (hn : n ≤ maxLen) (ht : mutT t = false) :
    ∃ K, Bag w L I K s (W.alloc (.cells cs t)) its ∧ ILe J K ∧ Row K t sz (.slice (some ⟨W.heap.size, 0, Option.none⟩) n n) n cs.toList ∧ Grow J W K :=
  h.ownDone ((Kept.refl _ _).alloc _) (World.ownsRow_lit W cs n (Nat.le_refl _) hn hs) ht
theorem step_Do (h : Yd w0 J W m cb M its) (k : Nat) (caps : Array Value) (hf : ∀ args W, (callFunc k args).run Tryz.prog W = .ok (.enter k args) W) (R : Value → World → Prop)
    (H : ∀ W1, Bag w0 ⟨W.heap.size, m, cb⟩ I0 J (ps0 M) W1 its → Calls Tryz.prog k (#[.pointer (some ⟨W.heap.size, 0, none⟩)] ++ caps) W1 fun e W2 => ∃ v, e = .returned v ∧ R v W2) :
    Calls Tryz.prog 17 #[.pointer (some ⟨m, 0, none⟩), .func (.func k) #[] caps] W fun e W2 => ∃ v, e = .returned v ∧ R v W2 := by
  have HH := Lib.hid (H _ h.port)
  clear H h
  go_enter Tryz.func17, Tryz.ntmps17
  go_wp2_with fail
  refine HH.out.mono ?_
  rintro e W2 ⟨v, rfl, hR⟩
  go_wp2
  go_ret
  exact ⟨v, rfl, hR⟩
end Go.Proofs.YtadaiihoclknmaaGreat
/- Law 20: plain, lay. -/
namespace Go.Proofs.YtadaiihoclknmaaGreat
open Go.RowKit
set_option maxHeartbeats 4000000
set_option maxRecDepth 100000
set_option linter.unusedVariables false
set_option linter.unusedSimpArgs false
def plainC (cells top : Int) : Conf := ⟨cells, 6, 2, 3, 4, 8, top⟩
theorem law_plain (w : World) (cells top : Int) : Calls Tryz.prog 15 #[.int .i64 cells, .int .i64 top] w fun e w' => e = .returned (confV (plainC cells top)) ∧ New w w' := by
  go_enter Tryz.func15, Tryz.ntmps15
  go_wp2
  refine bodyPost_ret (v := confV (plainC cells top)) (by simp [results, Tryz.results15, go_sem, confV, plainC]) rfl ?_
  refine ⟨rfl, ?_⟩
  repeat (first | with_reducible exact Kept.refl _ _ | with_reducible refine Kept.alloc ?_ _)
/-- The eleven cells of a ground. -/
structure GC where
  (a b : Option Addr)
  (c d : Nat)
def GC.cells (x : GC) (g : Ground) : List Value := [.int .i64 g.first, .int .i64 g.reg.top, .slice x.a g.reg.slots.length x.c, .slice x.b g.reg.snaps.length x.d, .int .i64 g.conf.cells, .int .i64 g.conf.clients, .int .i64 g.conf.snaps, .int .i64 g.conf.levels, .int .i64 g.conf.low, .int .i64 g.conf.high, .int .i64 g.conf.top]
theorem Yd.ended {w0 W W1 : World} {J : IHeap} {m cb : Nat} {M : Mem} {its : List It} {b : Nat} {cs : Array Value} {t : TypeId} (h : Yd w0 J W m cb M its) (ho : OB w0 J W b cs t) (hk : Kept (fun k => k = b) W W1) : Yd w0 J W1 m cb M [] := by
  refine (h.sub (jts := []) (by simp)).own hk (fun k e => e ▸ ho.ge) (fun e => ?_) (fun e => ?_) (fun k e => e ▸ ho.no)
  · subst e
    have h1 := h.mem.hd
    rw [ho.at_] at h1
    injection h1 with h1
    injection h1 with _ h1
    have := ho.ty
    rw [h1] at this
    cases this
  · subst e
    obtain ⟨cur, h1, _⟩ := h.mem.arr
    rw [ho.at_] at h1
    injection h1 with h1
    injection h1 with _ h1
    have := ho.ty
    rw [h1] at this
    cases this
theorem law_lay1 {w0 W : World} {L : Loc} {J : IHeap} {s s1 : PS} {its : List It} (c : Conf) (g : Ground) (e : Int) (bc bf bY m : Nat)
    (B : Bag w0 L I0 J s W (.blk bY #[.pointer (some ⟨m, 0, none⟩), .int .i64 0, .int .i64 0, .slice none 0 0, .slice none 0 0, .int .i64 0, .int .i64 0, .int .i64 0, .int .i64 0, .int .i64 0, .int .i64 0, .int .i64 0] 31 :: .blk bf #[.int .i64 0] 32 :: its))
    (C : OB w0 J W bc #[.int .i64 c.cells, .int .i64 c.clients, .int .i64 c.snaps, .int .i64 c.levels, .int .i64 c.low, .int .i64 c.high, .int .i64 c.top] 27) (hf1 : ∀ i ∈ its, i.far bY 31) (hf2 : ∀ i ∈ its, i.far bf 32)
    (hx : (wInit c).exec s = (.ret (g, e), s1)) :
    Calls Tryz.prog 82 #[.pointer (some ⟨L.p, 0, none⟩), .pointer (some ⟨bc, 0, none⟩), .pointer (some ⟨bY, 0, none⟩), .pointer (some ⟨bf, 0, none⟩)] W fun r W2 => ∃ v, r = .returned v ∧ v = .nilIface ∧ ∃ (J2 : IHeap) (x : GC), Bag w0 L I0 J2 s1 W2 (.blk bY (#[.pointer (some ⟨m, 0, none⟩)] ++ (x.cells g).toArray) 31 :: .blk bf #[.int .i64 e] 32 :: its) ∧ GroundV J2 (.agg (x.cells g).toArray) g := by
  have B0 := Lib.hid B
  have HX := Lib.hid hx
  have n1 := B.o1.ne_ty B.o0 (by decide)
  clear B hx
  have cat := C.at_
  have c0 := cell_blk cat 0
  have c1 := cell_blk cat 1
  have c2 := cell_blk cat 2
  have c3 := cell_blk cat 3
  have c4 := cell_blk cat 4
  have c5 := cell_blk cat 5
  have c6 := cell_blk cat 6
  have cf0 := free_blk cat 0
  have cf1 := free_blk cat 1
  have cf2 := free_blk cat 2
  have cf3 := free_blk cat 3
  have cf4 := free_blk cat 4
  have cf5 := free_blk cat 5
  have cf6 := free_blk cat 6
  have cs := lt_of_block cat
  clear cat
  clear C
  go_enter Tryz.func82, Tryz.ntmps82
  go_wp2_with fail
  refine (write_Init _ L _ _ B0.out.m.st c (by rw [HX.out]; trivial)).mono ?_
  intro e2 W2 hP
  rw [HX.out] at hP
  rcases B0.out.call hP with ⟨a2, s2, J2, v2, hr, rfl, ⟨gx, rfl, hG⟩, _, hB⟩ | ⟨s', J', hr, _, _⟩
  rotate_left
  · injection hr with hr; cases hr
  injection hr with hr1 hr2
  injection hr1 with hr1
  subst hr1 hr2
  have HG := Lib.hid hG
  have B1 := Lib.hid hB
  clear hB hP B0 c0 c1 c2 c3 c4 c5 c6 cf0 cf1 cf2 cf3 cf4 cf5 cf6 cs
  obtain ⟨ga, gc, gb, gd, rfl, _, _⟩ := hG
  have n1 := B1.out.o1.ne_ty B1.out.o0 (by decide)
  have yat := B1.out.o0.at_
  have y1 := cell_blk yat 1
  have y2 := cell_blk yat 2
  have y3 := cell_blk yat 3
  have y4 := cell_blk yat 4
  have y5 := cell_blk yat 5
  have y6 := cell_blk yat 6
  have y7 := cell_blk yat 7
  have y8 := cell_blk yat 8
  have y9 := cell_blk yat 9
  have y10 := cell_blk yat 10
  have y11 := cell_blk yat 11
  have yf1 := free_blk yat 1
  have yf2 := free_blk yat 2
  have yf3 := free_blk yat 3
  have yf4 := free_blk yat 4
  have yf5 := free_blk yat 5
  have yf6 := free_blk yat 6
  have yf7 := free_blk yat 7
  have yf8 := free_blk yat 8
  have yf9 := free_blk yat 9
  have yf10 := free_blk yat 10
  have yf11 := free_blk yat 11
  have ys := lt_of_block yat
  clear yat
  have fat := B1.out.o1.at_
  have f0 := cell_blk fat 0
  have ff0 := free_blk fat 0
  have fs := lt_of_block fat
  clear fat
  go_wp2
  go_ret
  refine ⟨_, rfl, rfl, J2, ⟨ga, gb, gc, gd⟩, ?_, HG.out⟩
  have hf3 : ∀ i ∈ (It.blk bf #[.int .i64 0] 32 :: its), i.far bY 31 := fun i hi => by
    rcases List.mem_cons.1 hi with rfl | hi
    · exact n1
    · exact hf1 i hi
  have B3 := B1.out
  have B3 := B3.set hf3 1 (.int .i64 g.first)
  have B3 := B3.set hf3 2 (.int .i64 g.reg.top)
  have B3 := B3.set hf3 3 (.slice ga g.reg.slots.length gc)
  have B3 := B3.set hf3 4 (.slice gb g.reg.snaps.length gd)
  have B3 := B3.set hf3 5 (.int .i64 g.conf.cells)
  have B3 := B3.set hf3 6 (.int .i64 g.conf.clients)
  have B3 := B3.set hf3 7 (.int .i64 g.conf.snaps)
  have B3 := B3.set hf3 8 (.int .i64 g.conf.levels)
  have B3 := B3.set hf3 9 (.int .i64 g.conf.low)
  have B3 := B3.set hf3 10 (.int .i64 g.conf.high)
  have B3 := B3.set hf3 11 (.int .i64 g.conf.top)
  have B4 := B3.up1.set (fun i hi => by
    rcases List.mem_cons.1 hi with rfl | hi
    · exact fun e => n1 e.symm
    · exact hf2 i hi) 0 (.int .i64 e)
  simp only [List.setIfInBounds_toArray, List.set_cons_zero, List.set_cons_succ] at B4
  exact B4.up1
def LayR (w : World) (g : Ground) (e : Int) (M : Mem) (r : Ending) (W2 : World) : Prop := ∃ (J : IHeap) (m cb : Nat) (x : GC), r = .returned (.tuple #[.agg (#[.pointer (some ⟨m, 0, none⟩)] ++ (x.cells g).toArray), .int .i64 e, .bool true]) ∧ Yd w J W2 m cb M [] ∧ GroundV J (.agg (x.cells g).toArray) g
theorem law_lay (w : World) (c : Conf) (n : Nat) (hc : c.cells = n) (h1 : 1 ≤ n) (h2 : n ≤ 65535) (g : Ground) (e : Int) (s1 : PS) (hx : (wInit c).exec (ps0 (Mem.fresh n)) = (.ret (g, e), s1)) :
    Calls Tryz.prog 14 #[confV c] w (LayR w g e s1.mem) := by
  have HX := Lib.hid hx
  have HN := fun w => Lib.hid (mem_New w n I0 h1 h2)
  rw [← hc] at HN
  have HC := Lib.hid hc
  clear hx hc h1 h2
  unfold confV
  have k2 : New w ((w.alloc (.cells #[.int .i64 c.cells, .int .i64 c.clients, .int .i64 c.snaps, .int .i64 c.levels, .int .i64 c.low, .int .i64 c.high, .int .i64 c.top] 27)).alloc (.cells #[.pointer none, .int .i64 0, .int .i64 0, .slice none 0 0, .slice none 0 0, .int .i64 0, .int .i64 0, .int .i64 0, .int .i64 0, .int .i64 0, .int .i64 0, .int .i64 0] 31)) := ((Kept.refl _ _).alloc _).alloc _
  have o1 := alloc_old (q := .cells #[.pointer none, .int .i64 0, .int .i64 0, .slice none 0 0, .slice none 0 0, .int .i64 0, .int .i64 0, .int .i64 0, .int .i64 0, .int .i64 0, .int .i64 0, .int .i64 0] 31) (alloc_new w (.cells #[.int .i64 c.cells, .int .i64 c.clients, .int .i64 c.snaps, .int .i64 c.levels, .int .i64 c.low, .int .i64 c.high, .int .i64 c.top] 27))
  have o2 := alloc_at (W := w.alloc (.cells #[.int .i64 c.cells, .int .i64 c.clients, .int .i64 c.snaps, .int .i64 c.levels, .int .i64 c.low, .int .i64 c.high, .int .i64 c.top] 27)) (o := .cells #[.pointer none, .int .i64 0, .int .i64 0, .slice none 0 0, .slice none 0 0, .int .i64 0, .int .i64 0, .int .i64 0, .int .i64 0, .int .i64 0, .int .i64 0, .int .i64 0] 31) (s := w.heap.size + 1) (by simp)
  have K2 := Lib.hid k2
  have O1 := Lib.hid o1
  have O2 := Lib.hid o2
  clear k2 o1 o2
  go_enter Tryz.func14, Tryz.ntmps14
  go_wp2_with fail
  refine (HN _).out.mono ?_
  rintro e1 W1 ⟨m, cb, rfl, hM, hk, hm, hcb⟩
  have Y1 := Lib.hid (show Yd w I0 W1 m cb (Mem.fresh n) [.blk (w.heap.size + 1) #[.pointer none, .int .i64 0, .int .i64 0, .slice none 0 0, .slice none 0 0, .int .i64 0, .int .i64 0, .int .i64 0, .int .i64 0, .int .i64 0, .int .i64 0, .int .i64 0] 31, .blk w.heap.size #[.int .i64 c.cells, .int .i64 c.clients, .int .i64 c.snaps, .int .i64 c.levels, .int .i64 c.low, .int .i64 c.high, .int .i64 c.top] 27] from
    ⟨K2.out.trans hk, ⟨fun k o h => (by cases h), fun k o h => (by cases h)⟩, Grow.refl _ _, hM, Nat.le_trans K2.out.size hm, Nat.le_trans K2.out.size hcb, fun i hi => by
      simp only [List.mem_cons, List.not_mem_nil, or_false] at hi
      rcases hi with rfl | rfl
      · exact ⟨New.obj hk O2.out, rfl, Nat.le_succ _, rfl⟩
      · exact ⟨New.obj hk O1.out, rfl, Nat.le_refl _, rfl⟩⟩)
  clear HN hM hk hm hcb K2 O1 O2
  go_wp2_with fail
  have Y2 := Lib.hid ((Y1.out.freshAt W1.heap.size rfl #[.pointer (some ⟨m, 0, none⟩), .int .i64 0, .int .i64 0, .slice none 0 0, .slice none 0 0, .int .i64 0, .int .i64 0, .int .i64 0, .int .i64 0, .int .i64 0, .int .i64 0, .int .i64 0] 31 rfl).freshAt (W1.heap.size + 1) (by simp) #[.int .i64 0] 32 rfl)
  have hyr : w.heap.size + 1 ≠ W1.heap.size := by have := lt_of_block Y1.out.o0.at_; omega
  have hhp := Y2.out.new.size
  clear Y1
  generalize W1.heap.size + 1 = bf at *
  generalize W1.heap.size = bY at *
  refine (step_Do (Y2.out.sub (jts := [.blk bY #[.pointer (some ⟨m, 0, none⟩), .int .i64 0, .int .i64 0, .slice none 0 0, .slice none 0 0, .int .i64 0, .int .i64 0, .int .i64 0, .int .i64 0, .int .i64 0, .int .i64 0, .int .i64 0] 31, .blk bf #[.int .i64 0] 32, .blk (w.heap.size + 1) #[.pointer none, .int .i64 0, .int .i64 0, .slice none 0 0, .slice none 0 0, .int .i64 0, .int .i64 0, .int .i64 0, .int .i64 0, .int .i64 0, .int .i64 0, .int .i64 0] 31, .blk w.heap.size #[.int .i64 c.cells, .int .i64 c.clients, .int .i64 c.snaps, .int .i64 c.levels, .int .i64 c.low, .int .i64 c.high, .int .i64 c.top] 27]) (by simp)) 82 _ (fun args W => enters Tryz.func82 (by kernel_rfl) rfl _ W) (fun v W2 => v = .nilIface ∧ ∃ (J2 : IHeap) (x : GC), Yd w J2 W2 m cb s1.mem [.blk bY (#[.pointer (some ⟨m, 0, none⟩)] ++ (x.cells g).toArray) 31, .blk bf #[.int .i64 e] 32, .blk (w.heap.size + 1) #[.pointer none, .int .i64 0, .int .i64 0, .slice none 0 0, .slice none 0 0, .int .i64 0, .int .i64 0, .int .i64 0, .int .i64 0, .int .i64 0, .int .i64 0, .int .i64 0] 31] ∧ GroundV J2 (.agg (x.cells g).toArray) g) (fun W3 B => ?_)).mono ?_
  · refine (law_lay1 c g e w.heap.size bf bY m B B.o3 ?_ ?_ HX.out).mono ?_
    · intro i hi
      simp only [List.mem_cons, List.not_mem_nil, or_false] at hi
      rcases hi with rfl | rfl
      · exact hyr
      · exact B.o3.ne_ty B.o0 (by decide)
    · intro i hi
      simp only [List.mem_cons, List.not_mem_nil, or_false] at hi
      rcases hi with rfl | rfl
      · exact B.o2.ne_ty B.o1 (by decide)
      · exact B.o3.ne_ty B.o1 (by decide)
    · rintro r W4 ⟨v, rfl, rfl, J2, x, hB, hG⟩
      exact ⟨_, rfl, rfl, J2, x, (hB.yd hhp Y2.out.lom Y2.out.loc).sub (by simp), hG⟩
  rintro e2 W2 ⟨v, rfl, rfl, J2, x, hY, hG⟩
  have Y3 := Lib.hid hY
  have HG := Lib.hid hG
  clear Y2 hY hG HX
  clear hhp
  obtain ⟨ga, gb, gc, gd⟩ := x
  have HXC := Lib.hid (show (⟨ga, gb, gc, gd⟩ : GC).cells g = [.int .i64 g.first, .int .i64 g.reg.top, .slice ga g.reg.slots.length gc, .slice gb g.reg.snaps.length gd, .int .i64 g.conf.cells, .int .i64 g.conf.clients, .int .i64 g.conf.snaps, .int .i64 g.conf.levels, .int .i64 g.conf.low, .int .i64 g.conf.high, .int .i64 g.conf.top] from rfl)
  rw [HXC.out] at Y3
  simp only [List.append_toArray, List.cons_append, List.nil_append] at Y3
  have yat := Y3.out.o0.at_
  have y0 := cell_blk yat 0
  have y1 := cell_blk yat 1
  have y2 := cell_blk yat 2
  have y3 := cell_blk yat 3
  have y4 := cell_blk yat 4
  have y5 := cell_blk yat 5
  have y6 := cell_blk yat 6
  have y7 := cell_blk yat 7
  have y8 := cell_blk yat 8
  have y9 := cell_blk yat 9
  have y10 := cell_blk yat 10
  have y11 := cell_blk yat 11
  have yf0 := free_blk yat 0
  have yf1 := free_blk yat 1
  have yf2 := free_blk yat 2
  have yf3 := free_blk yat 3
  have yf4 := free_blk yat 4
  have yf5 := free_blk yat 5
  have yf6 := free_blk yat 6
  have yf7 := free_blk yat 7
  have yf8 := free_blk yat 8
  have yf9 := free_blk yat 9
  have yf10 := free_blk yat 10
  have yf11 := free_blk yat 11
  have ys := lt_of_block yat
  clear yat
  have fat := Y3.out.o1.at_
  have f0 := cell_blk fat 0
  have ff0 := free_blk fat 0
  have fs := lt_of_block fat
  clear fat
  have gat := Y3.out.o2.at_
  have g0 := cell_blk gat 0
  have g1 := cell_blk gat 1
  have g2 := cell_blk gat 2
  have g3 := cell_blk gat 3
  have g4 := cell_blk gat 4
  have g5 := cell_blk gat 5
  have g6 := cell_blk gat 6
  have g7 := cell_blk gat 7
  have g8 := cell_blk gat 8
  have g9 := cell_blk gat 9
  have g10 := cell_blk gat 10
  have g11 := cell_blk gat 11
  have gf0 := free_blk gat 0
  have gf1 := free_blk gat 1
  have gf2 := free_blk gat 2
  have gf3 := free_blk gat 3
  have gf4 := free_blk gat 4
  have gf5 := free_blk gat 5
  have gf6 := free_blk gat 6
  have gf7 := free_blk gat 7
  have gf8 := free_blk gat 8
  have gf9 := free_blk gat 9
  have gf10 := free_blk gat 10
  have gf11 := free_blk gat 11
  have gs := lt_of_block gat
  clear gat
  have nr := Y3.out.o1.ne_ty Y3.out.o2 (by decide)
  go_wp2
  go_region
  all_goals
    go_wp2
    refine bodyPost_ret (v := .tuple #[.agg #[.pointer (some ⟨m, 0, none⟩), .int .i64 g.first, .int .i64 g.reg.top, .slice ga g.reg.slots.length gc, .slice gb g.reg.snaps.length gd, .int .i64 g.conf.cells, .int .i64 g.conf.clients, .int .i64 g.conf.snaps, .int .i64 g.conf.levels, .int .i64 g.conf.low, .int .i64 g.conf.high, .int .i64 g.conf.top], .int .i64 e, .bool true]) (by simp [results, Tryz.results14, go_sem, g0, g1, g2, g3, g4, g5, g6, g7, g8, g9, g10, g11, gs]) rfl ?_
    refine ⟨J2, m, cb, ⟨ga, gb, gc, gd⟩, rfl, Y3.out.ended Y3.out.o2 ?_, HG.out⟩
    repeat (first | with_reducible exact Kept.refl _ _ | with_reducible refine Kept.drew ?_ | refine Kept.setCell ?_ (fun _ => by rfl) _)
end Go.Proofs.YtadaiihoclknmaaGreat
/- Law 20: awake. -/
namespace Go.Proofs.YtadaiihoclknmaaGreat
open Go.RowKit
set_option maxHeartbeats 4000000
set_option maxRecDepth 100000
set_option linter.unusedVariables false
set_option linter.unusedSimpArgs false
theorem GroundV.mono {I J : IHeap} {v : Value} {g : Ground} (h : GroundV I v g) (hl : ILe I J) : GroundV J v g := by
  obtain ⟨a, c, b, d, hv, h1, h2⟩ := h; exact ⟨a, c, b, d, hv, h1.mono hl, h2.mono hl⟩
theorem law_awake1 {w0 W : World} {L : Loc} {J : IHeap} {s s1 s2 : PS} {its : List It} (g : Ground) (x : GC) (m bY F : Nat) (l : List Entry) (hl : l = [⟨⟨#[97]⟩, ⟨#[120]⟩, false⟩]) (ps : List Part) (hps : ps.length = 1)
    (B : Bag w0 L I0 J s W (.blk bY (#[.pointer (some ⟨m, 0, none⟩)] ++ (x.cells g).toArray) 31 :: its)) (hG : GroundV J (.agg (x.cells g).toArray) g)
    (h1 : (wUpdate F g l true 0 F).exec s = (.ret (1, ps, 0), s1)) (h2 : (rdGet F F g.first 1 ⟨#[97]⟩).exec s1 = (.ret (⟨#[120]⟩, true, 0), s2)) :
    Calls Tryz.prog 83 #[.pointer (some ⟨L.p, 0, none⟩), .pointer (some ⟨bY, 0, none⟩)] W fun r W2 => ∃ v, r = .returned v ∧ v = .iface 4 (.bool true) ∧ ∃ (J2 : IHeap), Bag w0 L I0 J2 s2 W2 its := by
  obtain ⟨ga, gb, gc, gd⟩ := x
  have HXC := Lib.hid (show (⟨ga, gb, gc, gd⟩ : GC).cells g = [.int .i64 g.first, .int .i64 g.reg.top, .slice ga g.reg.slots.length gc, .slice gb g.reg.snaps.length gd, .int .i64 g.conf.cells, .int .i64 g.conf.clients, .int .i64 g.conf.snaps, .int .i64 g.conf.levels, .int .i64 g.conf.low, .int .i64 g.conf.high, .int .i64 g.conf.top] from rfl)
  rw [HXC.out] at B hG
  simp only [List.append_toArray, List.cons_append, List.nil_append] at B
  have H1 := Lib.hid h1
  have H2 := Lib.hid h2
  have HL := Lib.hid hl
  have HPS := Lib.hid hps
  have HG := Lib.hid hG
  obtain ⟨K, B1, hle, hR, hgr⟩ := B.lit #[.string ⟨#[97]⟩, .string ⟨#[120]⟩, .bool false] 62 3 1 rfl (by unfold maxLen; omega) rfl
  have HE := Lib.hid (show Entries K (.slice (some ⟨W.heap.size, 0, none⟩) 1 1) l from by rw [hl]; exact hR)
  have HG1 := Lib.hid (hG.mono hle)
  have B1 := Lib.hid B1
  have B0 := Lib.hid B
  clear B hG hle hR hgr h1 h2 hl hps HG
  have yat := B0.out.o0.at_
  have y0 := cell_blk yat 0
  have y1 := cell_blk yat 1
  have y2 := cell_blk yat 2
  have y3 := cell_blk yat 3
  have y4 := cell_blk yat 4
  have y5 := cell_blk yat 5
  have y6 := cell_blk yat 6
  have y7 := cell_blk yat 7
  have y8 := cell_blk yat 8
  have y9 := cell_blk yat 9
  have y10 := cell_blk yat 10
  have y11 := cell_blk yat 11
  have yf0 := free_blk yat 0
  have yf1 := free_blk yat 1
  have yf2 := free_blk yat 2
  have yf3 := free_blk yat 3
  have yf4 := free_blk yat 4
  have yf5 := free_blk yat 5
  have yf6 := free_blk yat 6
  have yf7 := free_blk yat 7
  have yf8 := free_blk yat 8
  have yf9 := free_blk yat 9
  have yf10 := free_blk yat 10
  have yf11 := free_blk yat 11
  have ys := lt_of_block yat
  clear yat
  go_enter Tryz.func83, Tryz.ntmps83
  go_wp2_with fail
  clear B0 y0 y1 y2 y3 y4 y5 y6 y7 y8 y9 y10 y11 yf0 yf1 yf2 yf3 yf4 yf5 yf6 yf7 yf8 yf9 yf10 yf11 ys
  refine (write_Update _ L _ _ B1.out.m.st F F g _ HG1.out l _ HE.out (by rw [HL.out]; simp) true (fun s hs => ?_) 0 (by rw [H1.out]; trivial)).mono ?_
  · have e := hs.2 (by rw [HL.out]; simp)
    rw [e, HL.out]
    rfl
  intro e2 W2 hP
  rw [H1.out] at hP
  rcases B1.out.call hP with ⟨a2, s3, J2, v2, hr, rfl, ⟨px, rfl, hPx⟩, _, hB⟩ | ⟨s', J', hr, _, _⟩
  rotate_left
  · injection hr with hr; cases hr
  injection hr with hr1 hr2
  injection hr1 with hr1
  subst hr1 hr2
  have B2 := Lib.hid hB
  clear hB hP B1
  obtain ⟨pcs, hpm, hpr, _⟩ := hPx
  obtain ⟨pa, pc, rfl, _, _, _⟩ := hpr.form
  have hpl : pcs.length = 1 := by rw [← HPS.out, ← show (1, ps, (0 : Int)).2.1 = ps from rfl, ← hpm, List.length_map]
  rw [hpl]
  clear hpm hpr hpl HE HG1
  dsimp only
  have yat := B2.out.o0.at_
  have y1 := cell_blk yat 1
  have yf1 := free_blk yat 1
  have ys := lt_of_block yat
  clear yat
  go_wp2_with fail
  refine (read_Get _ L _ _ B2.out.m.st F F g.first 1 ⟨#[97]⟩ (by unfold maxLen; decide) (by rw [H2.out]; trivial)).mono ?_
  intro e3 W3 hP
  rw [H2.out] at hP
  rcases B2.out.call hP with ⟨a3, s4, J3, v3, hr, rfl, rfl, _, hB⟩ | ⟨s', J', hr, _, _⟩
  rotate_left
  · injection hr with hr; cases hr
  injection hr with hr1 hr2
  injection hr1 with hr1
  subst hr1 hr2
  have B3 := Lib.hid hB
  clear hB hP B2
  dsimp only
  go_wp2
  go_ret
  exact ⟨_, rfl, rfl, J3, B3.out.cut1⟩
end Go.Proofs.YtadaiihoclknmaaGreat
/- Law 20, WriteCommits: the program, and what it comes to. -/
namespace Go.Proofs.YtadaiihoclknmaaGreat
open Go.RowKit
set_option maxHeartbeats 4000000
set_option maxRecDepth 1000000
set_option linter.unusedVariables false
set_option linter.unusedSimpArgs false
/-- A ground, made in a memory of so many cells. -/
def layG (c : Conf) : Option (Ground × Mem) :=
  match (wInit c).exec (ps0 (Mem.fresh c.cells.toNat)) with
  | (.ret (g, e), s) => if e = 0 then some (g, s.mem) else none
  | _ => none
def keyA : ByteArray := ⟨#[97]⟩
def valX : ByteArray := ⟨#[120]⟩
def entA : Entry := ⟨keyA, valX, false⟩
def F0 : Nat := 50
def awakeQ (r : Out (Ground × Int) × PS) (u : Ground → PS → Out (Int × List Part × Int) × PS) (rd : Ground → PS → Out (ByteArray × Bool × Int) × PS) : Bool :=
  match r with
  | (.ret (g, e), s) =>
    match u g (ps0 s.mem) with
    | (.ret (v, l, f), s1) =>
      match rd g s1 with
      | (.ret (x, has, h), _) => decide (e = 0) && decide (v = 1) && decide (l.length = 1) && decide (f = 0) && decide (x = valX) && has && decide (h = 0)
      | _ => false
    | _ => false
  | _ => false
theorem awakeQ_of {r : Out (Ground × Int) × PS} {u : Ground → PS → Out (Int × List Part × Int) × PS} {rd : Ground → PS → Out (ByteArray × Bool × Int) × PS} (h : awakeQ r u rd = true) :
    ∃ g s ps s1 s2, r = (.ret (g, 0), s) ∧ ps.length = 1 ∧ u g (ps0 s.mem) = (.ret (1, ps, 0), s1) ∧ rd g s1 = (.ret (valX, true, 0), s2) := by
  unfold awakeQ at h
  split at h
  · rename_i g e s
    split at h
    · rename_i v l f s1 hu
      split at h
      · rename_i x has hh s2 hr
        simp only [Bool.and_eq_true, decide_eq_true_eq] at h
        obtain ⟨⟨⟨⟨⟨⟨rfl, rfl⟩, h1⟩, rfl⟩, rfl⟩, rfl⟩, rfl⟩ := h
        exact ⟨g, s, l, s1, s2, rfl, h1, hu, hr⟩
      · cases h
    · cases h
  · cases h
theorem awake_ok : awakeQ ((wInit (plainC 100 1000)).exec (ps0 (Mem.fresh 100))) (fun g s => (wUpdate F0 g [entA] true 0 F0).exec s) (fun g s => (rdGet F0 F0 g.first 1 keyA).exec s) = true := by kernel_rfl
abbrev WcR := Int × Int × Int × Int
def wcSwaps (rest : List Swap → Prog WcR) (k : Int) : Nat → Int → List Swap → Prog WcR
  | 0, _, _ => .stuck
  | f + 1, i, out =>
    if i < k then do
      let a ← pAllocWord i
      if a.2 = 0 then wcSwaps rest k f (i + 1) (out ++ [⟨a.1, i, 100 + i⟩]) else .stuck
    else rest out
def wcWords (rest : Prog WcR) (late : Bool) : List Swap → Int → Prog WcR
  | [], _ => rest
  | x :: t, i => do
    let y ← pWord x.cell
    if y.2 = 0 ∧ y.1 = (if late = true then i else 100 + i) then wcWords rest late t (i + 1) else .stuck
def wcReaps (rest : Int → Prog WcR) : Nat → Int → Int → Prog WcR
  | 0, _, _ => .stuck
  | f + 1, i, freed => do
    let n ← pCells
    if i < n then do
      let a ← pReap i 0
      if a.1 = false ∧ a.2 = 0 then do
        let b ← pReap i 1
        wcReaps rest f (i + 1) (if b.1 = true then freed + 1 else freed)
      else .stuck
    else rest freed
def wcEnd (g : Ground) (late : Bool) (more : Int) (h : Int) (swaps : List Swap) : Prog WcR := do
  let live ← pLive
  let c ← wCommit g.reg.top h (2 + more) 0 swaps
  let z ← wSettled g.reg.top F0
  if c.2 = 0 ∧ z.2.2 = 0 ∧ c.1 = !late then
    wcWords (if late = true then do
        let l2 ← pLive
        return (z.2.1.version, 0, l2, live)
      else wcReaps (fun freed => do
        let l2 ← pLive
        return (z.2.1.version, freed, l2, live)) 200 0 0) late swaps 0
  else .stuck
def wcBody (g : Ground) (k : Int) (late : Bool) (more : Int) : Prog WcR :=
  wcSwaps (fun swaps => do
    let x ← wSettled g.reg.top F0
    if x.2.2 = 0 ∧ x.2.1.version = 0 then
      if late = true then do
        let c ← wCommit g.reg.top x.1 1 0 []
        if c.1 = true ∧ c.2 = 0 then wcEnd g late more x.1 swaps else .stuck
      else wcEnd g late more x.1 swaps
    else .stuck) k 10 0 []
def wcQ (r : Out (Ground × Int) × PS) (b : Ground → PS → Out WcR × PS) : Option WcR :=
  match r with
  | (.ret (g, e), s) =>
    if e = 0 then
      match b g (ps0 s.mem) with
      | (.ret a, _) => some a
      | _ => none
    else none
  | _ => none
theorem wcQ_of {r : Out (Ground × Int) × PS} {b : Ground → PS → Out WcR × PS} {a : WcR} (h : wcQ r b = some a) : ∃ g s s1, r = (.ret (g, 0), s) ∧ b g (ps0 s.mem) = (.ret a, s1) := by
  unfold wcQ at h
  split at h
  · rename_i g e s
    split at h
    · rename_i he
      split at h
      · rename_i a' s1 hb
        injection h with h
        subst h he
        exact ⟨g, s, s1, rfl, hb⟩
      · cases h
    · cases h
  · cases h
theorem wc_all (k : Nat) (hk : k ≤ 5) (late : Bool) (m : Int) : wcQ ((wInit (plainC 100 100000)).exec (ps0 (Mem.fresh 100))) (fun g s => (wcBody g k late m).exec s) = some (if late = true then ((1, 0, 20 + (k : Int), 20 + (k : Int)) : WcR) else (2 + m, 2, 18 + (k : Int), 18 + (k : Int))) := by
  rcases (show k = 0 ∨ k = 1 ∨ k = 2 ∨ k = 3 ∨ k = 4 ∨ k = 5 by omega) with rfl | rfl | rfl | rfl | rfl | rfl <;> cases late <;> kernel_rfl
end Go.Proofs.YtadaiihoclknmaaGreat
/- Law 20: awake. -/
namespace Go.Proofs.YtadaiihoclknmaaGreat
open Go.RowKit
set_option maxHeartbeats 4000000
set_option maxRecDepth 100000
set_option linter.unusedVariables false
set_option linter.unusedSimpArgs false
@[go_sem] theorem ta_bool_bool (x : Value) (w : World) : (Instr.typeAssert (.iface 4 x) 20 4 true).run Tryz.prog w = .ok (.tuple #[x, .bool true]) w := by kernel_rfl
theorem law_awake (w : World) : Calls Tryz.prog 16 #[] w fun r W2 => r = .returned (.bool true) ∧ New w W2 := by
  obtain ⟨g, s, ps, s1, s2, h0, hps, h1, h2⟩ := awakeQ_of awake_ok
  have HP := fun w => Lib.hid (law_plain w 100 1000)
  have HLAY := fun w => Lib.hid (law_lay w (plainC 100 1000) 100 rfl (by omega) (by omega) g 0 s h0)
  have H1 := Lib.hid h1
  have H2 := Lib.hid h2
  have HPS := Lib.hid hps
  clear h0 h1 h2 hps
  generalize plainC 100 1000 = c at *
  generalize hl : [entA] = l at *
  have HL := Lib.hid hl
  clear hl
  go_enter Tryz.func16, Tryz.ntmps16
  go_wp2_with fail
  refine (HP _).out.mono ?_
  rintro e1 W1 ⟨rfl, hk1⟩
  have K1 := Lib.hid hk1
  go_wp2_with fail
  refine (HLAY _).out.mono ?_
  rintro e2 W2 ⟨J, m, cb, ⟨ga, gb, gc, gd⟩, rfl, hY, hG⟩
  have Y2 := Lib.hid hY
  have HG := Lib.hid hG
  have HXC := Lib.hid (show (⟨ga, gb, gc, gd⟩ : GC).cells g = [.int .i64 g.first, .int .i64 g.reg.top, .slice ga g.reg.slots.length gc, .slice gb g.reg.snaps.length gd, .int .i64 g.conf.cells, .int .i64 g.conf.clients, .int .i64 g.conf.snaps, .int .i64 g.conf.levels, .int .i64 g.conf.low, .int .i64 g.conf.high, .int .i64 g.conf.top] from rfl)
  rw [HXC.out]
  simp only [List.append_toArray, List.cons_append, List.nil_append]
  clear hk1 hY hG HP HLAY
  go_wp2_with fail
  have Y3 := Lib.hid (Y2.out.freshAt W2.heap.size rfl #[.pointer (some ⟨m, 0, none⟩), .int .i64 g.first, .int .i64 g.reg.top, .slice ga g.reg.slots.length gc, .slice gb g.reg.snaps.length gd, .int .i64 g.conf.cells, .int .i64 g.conf.clients, .int .i64 g.conf.snaps, .int .i64 g.conf.levels, .int .i64 g.conf.low, .int .i64 g.conf.high, .int .i64 g.conf.top] 31 rfl)
  have hb := Y3.out.new.size
  generalize W2.heap.size = bY at *
  have HE := Lib.hid (show (#[.pointer (some ⟨m, 0, none⟩)] ++ ((⟨ga, gb, gc, gd⟩ : GC).cells g).toArray : Array Value) = #[.pointer (some ⟨m, 0, none⟩), .int .i64 g.first, .int .i64 g.reg.top, .slice ga g.reg.slots.length gc, .slice gb g.reg.snaps.length gd, .int .i64 g.conf.cells, .int .i64 g.conf.clients, .int .i64 g.conf.snaps, .int .i64 g.conf.levels, .int .i64 g.conf.low, .int .i64 g.conf.high, .int .i64 g.conf.top] from by rw [HXC.out]; simp only [List.append_toArray, List.cons_append, List.nil_append])
  refine (step_Do Y3.out 83 _ (fun args W => enters Tryz.func83 (by kernel_rfl) rfl _ W) (fun v W4 => v = .iface 4 (.bool true) ∧ New W1 W4) (fun W3 B => ?_)).mono ?_
  · have q1 : l = [⟨⟨#[97]⟩, ⟨#[120]⟩, false⟩] := HL.out.symm
    have q2 : (rdGet F0 F0 g.first 1 ⟨#[97]⟩).exec s1 = (.ret (⟨#[120]⟩, true, 0), s2) := H2.out
    rw [← HE.out] at B
    refine (law_awake1 g ⟨ga, gb, gc, gd⟩ m bY F0 l HL.out.symm ps HPS.out B HG.out H1.out H2.out).mono ?_
    rintro r W4 ⟨v, rfl, rfl, J2, hB⟩
    exact ⟨_, rfl, rfl, (hB.yd hb Y3.out.lom Y3.out.loc).new⟩
  rintro e3 W3 ⟨v, rfl, rfl, hk⟩
  have K3 := Lib.hid hk
  clear hk hb Y3
  go_wp2
  go_ret
  exact ⟨rfl, K1.out.trans K3.out⟩
end Go.Proofs.YtadaiihoclknmaaGreat
