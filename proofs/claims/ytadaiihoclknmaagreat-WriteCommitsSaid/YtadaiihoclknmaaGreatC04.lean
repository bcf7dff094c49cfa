/- Part 4 of the proof: Ask, Port1. -/
import Derived.Test.YtadaiihoclknmaaGreatC03
import Derived.Deep.RegionLaw
import Derived.Deep.AppendLies
import Derived.Maps.AppendAt
import Derived.StillTailTactics
/- What a function asks of memory, as a plain program; what becomes of it at a port. -/
namespace Go.Proofs.YtadaiihoclknmaaGreat
open Go.RowKit
set_option linter.unusedVariables false
set_option linter.unusedSimpArgs false

/-- What memory is asked. -/
inductive Q where
  | alloc (b : Blk)
  | load (h : Int)
  | word (h : Int)
  | store (h n : Int)
  | swap (h old n : Int)
  | free (h : Int)
  | retire (h s : Int)
  | reap (place below : Int)
def Mem.ask (M : Mem) : Q → Ans × Mem
  | .alloc b => M.opAlloc b
  | .load h => M.opLoad h
  | .word h => M.opWord h
  | .store h n => M.opStore h n
  | .swap h o n => M.opSwap h o n
  | .free h => M.opFree h
  | .retire h s => M.opRetire h s
  | .reap p b => M.opReap p b

inductive Out (α : Type) where
  | ret (a : α)
  | paused
  | stuck
def logLim : Nat := 1099511627776
/-- One ask at a port. -/
def ask1 (q : Q) (s : PS) : Out Ans × PS :=
  match s.log[s.at_]? with
  | some a => (.ret a, { s with at_ := s.at_ + 1 })
  | none =>
    if s.left = 0 then (.paused, s)
    else if 0 < s.left then
      if s.log.length < logLim then (.ret (s.mem.ask q).1, { s with mem := (s.mem.ask q).2, left := wrap64 (s.left - 1), log := s.log ++ [(s.mem.ask q).1], at_ := s.at_ + 1 })
      else (.stuck, s)
    else (.ret (s.mem.ask q).1, { s with mem := (s.mem.ask q).2 })

inductive Prog (α : Type) : Type where
  | ret (a : α)
  | stuck
  | ask (q : Q) (k : Ans → Prog α)
  | note (n : Int) (k : Prog α)
  | peek (k : Mem → Prog α)
def Prog.bind {α β : Type} : Prog α → (α → Prog β) → Prog β
  | .ret a, f => f a
  | .stuck, _ => .stuck
  | .ask q k, f => .ask q fun a => (k a).bind f
  | .note n k, f => .note n (k.bind f)
  | .peek k, f => .peek fun n => (k n).bind f
instance : Monad Prog where
  pure := Prog.ret
  bind := Prog.bind
def Prog.exec {α : Type} : Prog α → PS → Out α × PS
  | .ret a, s => (.ret a, s)
  | .stuck, s => (.stuck, s)
  | .ask q k, s =>
    match ask1 q s with
    | (.ret a, s') => (k a).exec s'
    | (.paused, s') => (.paused, s')
    | (.stuck, s') => (.stuck, s')
  | .note n k, s => k.exec { s with note := n }
  | .peek k, s => (k s.mem).exec s
theorem Prog.exec_bind {α β : Type} (m : Prog α) (f : α → Prog β) (s : PS) : (m >>= f).exec s = match m.exec s with
    | (.ret a, s') => (f a).exec s'
    | (.paused, s') => (.paused, s')
    | (.stuck, s') => (.stuck, s') := by
  show (m.bind f).exec s = _
  induction m generalizing s with
  | ret a => rfl
  | stuck => rfl
  | ask q k ih =>
    simp only [Prog.bind, Prog.exec]
    rcases h : ask1 q s with ⟨o, s'⟩
    cases o with
    | ret a => simp only [ih]
    | paused => rfl
    | stuck => rfl
  | note n k ih => simp only [Prog.bind, Prog.exec, ih]
  | peek k ih => simp only [Prog.bind, Prog.exec, ih]
@[simp] theorem Prog.exec_pure {α : Type} (a : α) (s : PS) : (pure a : Prog α).exec s = (.ret a, s) := rfl
@[simp] theorem Prog.exec_ret {α : Type} (a : α) (s : PS) : (Prog.ret a).exec s = (.ret a, s) := rfl
theorem Prog.pure_bind' {α β : Type} (a : α) (f : α → Prog β) : (pure a >>= f) = f a := rfl
/-- The port's own calls. -/
def qAsk (q : Q) : Prog Ans := .ask q .ret
theorem exec_qAsk (q : Q) (s : PS) : (qAsk q).exec s = ask1 q s := by
  unfold qAsk Prog.exec
  rcases ask1 q s with ⟨o, s'⟩
  cases o <;> rfl
def pAlloc (b : Blk) : Prog (Int × Int) := do let a ← qAsk (.alloc b); return (a.n, a.e)
def pAllocWord (n : Int) : Prog (Int × Int) := do let a ← qAsk (.alloc (.word n)); return (a.n, a.e)
def pLoad (h : Int) : Prog (Option Blk × Int) := do let a ← qAsk (.load h); return (a.b, a.e)
def pWord (h : Int) : Prog (Int × Int) := do let a ← qAsk (.word h); return (a.n, a.e)
def pStore (h n : Int) : Prog Int := do let a ← qAsk (.store h n); return a.e
def pSwap (h o n : Int) : Prog (Bool × Int) := do let a ← qAsk (.swap h o n); return (a.ok, a.e)
def pFree (h : Int) : Prog Int := do let a ← qAsk (.free h); return a.e
def pRetire (h s : Int) : Prog Int := do let a ← qAsk (.retire h s); return a.e
def pReap (p b : Int) : Prog (Bool × Int) := do let a ← qAsk (.reap p b); return (a.ok, a.e)

/-! ### What a call at a port does to memory -/
/-- The block of the log. -/
def logBlk (w : World) (p : Nat) : Option Nat := (w.cell? ⟨p, 1, none⟩).bind Value.ownBlock
def SS (L : Loc) (w : World) (k : Nat) : Prop := k = L.p ∨ k = L.m ∨ k = L.cb ∨ logBlk w L.p = some k
structure Keeps (L : Loc) (w w' : World) : Prop where
  kept : Kept (SS L w) w w'
  ss : ∀ k, SS L w' k → SS L w k ∨ w.heap.size ≤ k
theorem Keeps.refl (L : Loc) (w : World) : Keeps L w w := ⟨Kept.refl _ _, fun _ h => .inl h⟩
theorem Keeps.trans {L : Loc} {a b c : World} (h : Keeps L a b) (k : Keeps L b c) : Keeps L a c := by
  refine ⟨⟨k.kept.os.trans h.kept.os, k.kept.tape.trans h.kept.tape, k.kept.output.trans h.kept.output, Nat.le_trans h.kept.size k.kept.size, fun i hi hs => ?_⟩, fun i hi => ?_⟩
  · refine (k.kept.block i (Nat.lt_of_lt_of_le hi h.kept.size) (fun x => ?_)).trans (h.kept.block i hi hs)
    rcases h.ss i x with h1 | h1
    · exact hs h1
    · omega
  · rcases k.ss i hi with h1 | h1
    · exact h.ss i h1
    · exact .inr (Nat.le_trans h.kept.size h1)
/-- The blocks that are written are of their own types. -/
theorem St.ss_type {w : World} {L : Loc} {I : IHeap} {s : PS} (h : St w L I s) {k : Nat} (hk : SS L w k) : ∃ cs t fr, w.heap[k]? = some (.cells cs t fr) ∧ mutT t = true := by
  obtain ⟨lv, hp, ⟨xs, hown, _⟩, _⟩ := h.port
  rcases hk with rfl | rfl | rfl | hk
  · exact ⟨_, _, _, hp, rfl⟩
  · exact ⟨_, _, _, h.mem.hd, rfl⟩
  · obtain ⟨cur, hc, _⟩ := h.mem.arr; exact ⟨_, _, _, hc, rfl⟩
  · unfold logBlk at hk
    rw [cell_blk hp] at hk
    simp at hk
    rcases hown.2 with ⟨rfl, _⟩ | ⟨g, cap, cur, rfl, _, hh, _⟩
    · simp [Value.ownBlock] at hk
    · simp [Value.ownBlock] at hk; subst hk; exact ⟨_, _, _, hh, rfl⟩
theorem Keeps.obj {w w' : World} {L : Loc} {I : IHeap} {s : PS} (hk : Keeps L w w') (h : St w L I s) {k : Nat} {cs : Array Value} {t : TypeId} {fr : Nat × Nat} (ho : w.heap[k]? = some (.cells cs t fr)) (ht : mutT t = false) :
    w'.heap[k]? = some (.cells cs t fr) :=
  hk.kept.obj ho fun x => by
    obtain ⟨cs', t', fr', h1, h2⟩ := h.ss_type x
    rw [h1] at ho
    injection ho with ho
    injection ho with _ ho
    rw [ho, ht] at h2
    cases h2
theorem St.imm_not {w : World} {L : Loc} {I : IHeap} {s : PS} (h : St w L I s) {k : Nat} {o : Obj} (hI : I k = some o) : ¬ SS L w k := by
  intro x
  obtain ⟨cs, t, fr, h1, h2⟩ := h.ss_type x
  have h3 := h.held.at_ _ _ hI
  have h4 := h.held.imm _ _ hI
  rw [h1] at h3
  injection h3 with h3
  subst h3
  rw [show mutT t = false from h4] at h2
  cases h2
/-- A state lies there still when only other blocks were written. -/
theorem St.kept {w w' : World} {L : Loc} {I : IHeap} {s : PS} {S : Nat → Prop} (h : St w L I s) (hk : Kept S w w') (hs : ∀ k, SS L w k → ¬ S k) (hI : ∀ k o, I k = some o → ¬ S k) : St w' L I s := by
  obtain ⟨lv, hp, ⟨xs, hown, hR⟩, hle⟩ := h.port
  have hpk := hk.obj hp (hs _ (.inl rfl))
  refine ⟨h.held.kept hk hI, h.mem.kept hk (hs _ (.inr (.inl rfl))) (hs _ (.inr (.inr (.inl rfl)))), lv, hpk, ⟨xs, ?_, hR⟩, hle⟩
  refine ⟨hown.1, ?_⟩
  rcases hown.2 with h1 | ⟨g, cap, cur, hv, hb, hh, r⟩
  · exact .inl h1
  · refine .inr ⟨g, cap, cur, hv, hb, hk.obj hh (hs _ (.inr (.inr (.inr ?_)))), r⟩
    unfold logBlk
    rw [cell_blk hp, hv]
    rfl
theorem St.new {w w' : World} {L : Loc} {I : IHeap} {s : PS} (h : St w L I s) (hk : New w w') : St w' L I s := h.kept hk (fun _ _ => id) (fun _ _ _ => id)
theorem St.alloc {w : World} {L : Loc} {I : IHeap} {s : PS} (h : St w L I s) (o : Obj) : St (w.alloc o) L I s := h.new ((Kept.refl _ _).alloc o)
theorem St.drewN {w : World} {L : Loc} {I : IHeap} {s : PS} (h : St w L I s) (n : Nat) : St (w.drewN n) L I s := h.new ((Kept.refl _ _).drewN n)
theorem St.drew {w : World} {L : Loc} {I : IHeap} {s : PS} (h : St w L I s) : St w.drew L I s := h.new ((Kept.refl _ _).drew)
/-- A block of another type is written. -/
theorem St.far {w : World} {L : Loc} {I : IHeap} {s : PS} (h : St w L I s) {a : Addr} {cs : Array Value} {t : TypeId} {fr : Nat × Nat} (ho : w.heap[a.block]? = some (.cells cs t fr)) (ht : mutT t = false) (hI : I a.block = none) (u : Value) : St (w.setCell a u) L I s := by
  refine h.kept (S := fun k => k = a.block) (Kept.setCell (S := fun k => k = a.block) (Kept.refl _ _) (fun _ => rfl) u) (fun k hk e => ?_) (fun k o hk e => ?_)
  · subst e
    obtain ⟨cs', t', fr', h1, h2⟩ := h.ss_type hk
    rw [h1] at ho
    injection ho with ho
    injection ho with _ ho
    rw [ho, ht] at h2
    cases h2
  · subst e; rw [hI] at hk; cases hk
theorem New.ss {L : Loc} {I : IHeap} {s : PS} {w w' : World} (h : St w L I s) (hk : New w w') (k : Nat) : SS L w' k ↔ SS L w k := by
  obtain ⟨lv, hp, _⟩ := h.port
  have : logBlk w' L.p = logBlk w L.p := by unfold logBlk; rw [cell_blk hp, cell_blk (New.obj hk hp)]
  unfold SS
  rw [this]
theorem Keeps.new {L : Loc} {I : IHeap} {s : PS} {w w' : World} (h : St w L I s) (hk : New w w') : Keeps L w w' := ⟨hk.kept _, fun k x => .inl ((New.ss h hk k).1 x)⟩
theorem St.mono {w : World} {L : Loc} {I J : IHeap} {s : PS} (h : St w L I s) (hl : ILe I J) (hJ : Held J w) : St w L J s := by
  obtain ⟨lv, hp, ⟨xs, hown, hR⟩, hle⟩ := h.port
  exact ⟨hJ, h.mem.mono hl, lv, hp, ⟨xs, hown, fun i a ha => (hR i a ha).mono hl⟩, hle⟩

/-- In the midst of a call that has not asked memory yet, or asks it no more. -/
structure Mid (w : World) (L : Loc) (I : IHeap) (s : PS) (W : World) : Prop where
  st : St W L I s
  kept : Kept (SS L w) w W
  ss : ∀ k, SS L W k → SS L w k
  lo : ∀ k, SS L w k → k < w.heap.size
  lI : ∀ k, I k ≠ none → k < w.heap.size
theorem St.lo {w : World} {L : Loc} {I : IHeap} {s : PS} (h : St w L I s) (k : Nat) (hk : SS L w k) : k < w.heap.size := by
  obtain ⟨cs, t, fr, h1, _⟩ := h.ss_type hk; exact (Array.getElem?_eq_some_iff.1 h1).1
theorem St.lI {w : World} {L : Loc} {I : IHeap} {s : PS} (h : St w L I s) (k : Nat) (hk : I k ≠ none) : k < w.heap.size := by
  cases e : I k with
  | none => exact absurd e hk
  | some o => exact h.held.lt e
theorem Mid.start {w : World} {L : Loc} {I : IHeap} {s : PS} (h : St w L I s) : Mid w L I s w := ⟨h, Kept.refl _ _, fun _ x => x, h.lo, h.lI⟩
theorem Mid.new {w W W' : World} {L : Loc} {I : IHeap} {s : PS} (h : Mid w L I s W) (hk : New W W') : Mid w L I s W' :=
  ⟨h.st.new hk, h.kept.trans (hk.kept _), fun k x => h.ss k ((New.ss h.st hk k).1 x), h.lo, h.lI⟩
theorem Mid.alloc {w W : World} {L : Loc} {I : IHeap} {s : PS} (h : Mid w L I s W) (o : Obj) : Mid w L I s (W.alloc o) := h.new ((Kept.refl _ _).alloc o)
theorem Mid.drew {w W : World} {L : Loc} {I : IHeap} {s : PS} (h : Mid w L I s W) : Mid w L I s W.drew := h.new ((Kept.refl _ _).drew)
theorem Mid.drewN {w W : World} {L : Loc} {I : IHeap} {s : PS} (h : Mid w L I s W) (n : Nat) : Mid w L I s (W.drewN n) := h.new ((Kept.refl _ _).drewN n)
/-- Blocks of the call's own are written. -/
theorem Mid.own {w W W' : World} {L : Loc} {I : IHeap} {s : PS} {S : Nat → Prop} (h : Mid w L I s W) (hk : Kept S W W') (hs : ∀ k, S k → w.heap.size ≤ k) : Mid w L I s W' := by
  have h1 : ∀ k, SS L W k → ¬ S k := fun k x y => by have := h.lo k (h.ss k x); have := hs k y; omega
  refine ⟨h.st.kept hk h1 (fun k o hI y => ?_), ?_, fun k x => ?_, h.lo, h.lI⟩
  · have := h.lI k (by rw [hI]; simp); have := hs k y; omega
  · refine ⟨hk.os.trans h.kept.os, hk.tape.trans h.kept.tape, hk.output.trans h.kept.output, Nat.le_trans h.kept.size hk.size, fun k hl hn => ?_⟩
    exact (hk.block k (Nat.lt_of_lt_of_le hl h.kept.size) (fun y => by have := hs k y; omega)).trans (h.kept.block k hl hn)
  · refine h.ss k ?_
    obtain ⟨lv, hp, _⟩ := h.st.port
    have e : logBlk W' L.p = logBlk W L.p := by
      unfold logBlk; rw [cell_blk hp, cell_blk (hk.obj hp (h1 _ (.inl rfl)))]
    unfold SS at x ⊢
    rw [e] at x
    exact x
theorem Mid.set {w W : World} {L : Loc} {I : IHeap} {s : PS} (h : Mid w L I s W) {a : Addr} (ha : w.heap.size ≤ a.block) (u : Value) : Mid w L I s (W.setCell a u) :=
  h.own (S := fun k => k = a.block) (Kept.setCell (S := fun k => k = a.block) (Kept.refl _ _) (fun _ => rfl) u) (fun k e => e ▸ ha)
theorem Mid.grown {w W W' : World} {L : Loc} {I : IHeap} {s : PS} (h : Mid w L I s W) {row : Option Nat} (hg : W.grownBy W' row) (hr : ∀ k, row = some k → w.heap.size ≤ k) : Mid w L I s W' :=
  h.own (S := fun k => row = some k) (Kept.grown (S := fun k => row = some k) (Kept.refl _ _) hg (fun k e _ => e)) hr
/-- Memory has been asked: only its own blocks were written. -/
theorem Mid.mem {w W W1 : World} {L : Loc} {I : IHeap} {s : PS} {M : Mem} (h : Mid w L I s W) (hM : MemAt W1 L.m L.cb I M) (hk : Kept (fun k => k = L.m ∨ k = L.cb) W W1) : Mid w L I { s with mem := M } W1 := by
  obtain ⟨lv, hp, ⟨xs, hown, hR⟩, hle⟩ := h.st.port
  obtain ⟨cur, hc, _⟩ := h.st.mem.arr
  have n1 : L.p ≠ L.m := by intro e; rw [e, h.st.mem.hd] at hp; simp at hp
  have n2 : L.p ≠ L.cb := by intro e; rw [e, hc] at hp; simp at hp
  have hp1 := hk.obj hp (by rintro (e | e); exact n1 e; exact n2 e)
  have hI : ∀ k o, I k = some o → ¬ (k = L.m ∨ k = L.cb) := fun k o hI e => h.st.imm_not hI (by rcases e with e | e; exact .inr (.inl e); exact .inr (.inr (.inl e)))
  refine ⟨⟨h.st.held.kept hk hI, hM, lv, hp1, ⟨xs, ?_, hR⟩, hle⟩, h.kept.trans (hk.mono fun k hl e => ?_), fun k x => ?_, h.lo, h.lI⟩
  · refine ⟨hown.1, ?_⟩
    rcases hown.2 with h1 | ⟨g, cap, cur', hv, hb, hh, r⟩
    · exact .inl h1
    · refine .inr ⟨g, cap, cur', hv, hb, hk.obj hh ?_, r⟩
      rintro (e | e)
      · rw [e, h.st.mem.hd] at hh; simp at hh
      · rw [e, hc] at hh; simp at hh
  · rcases e with e | e
    · exact .inr (.inl e)
    · exact .inr (.inr (.inl e))
  · refine h.ss k ?_
    have e : logBlk W1 L.p = logBlk W L.p := by unfold logBlk; rw [cell_blk hp, cell_blk hp1]
    unfold SS at x ⊢
    rw [e] at x
    exact x
theorem Mid.keeps {w W : World} {L : Loc} {I : IHeap} {s : PS} (h : Mid w L I s W) : Keeps L w W := ⟨h.kept, fun k x => .inl (h.ss k x)⟩

/-- How a heap that is written no more grows. -/
structure Grow (I : IHeap) (w : World) (J : IHeap) : Prop where
  le : ILe I J
  new : ∀ k, J k ≠ none → I k ≠ none ∨ w.heap.size ≤ k
theorem Grow.refl (I : IHeap) (w : World) : Grow I w I := ⟨ILe.refl _, fun _ h => .inl h⟩
theorem Grow.trans {I J K : IHeap} {w w' : World} (h : Grow I w J) (k : Grow J w' K) (hs : w.heap.size ≤ w'.heap.size) : Grow I w K :=
  ⟨h.le.trans k.le, fun i hi => by
    rcases k.new i hi with h1 | h1
    · exact h.new i h1
    · exact .inr (Nat.le_trans hs h1)⟩
def pzEntry : PanicEntry := { v := .iface 225 (.agg #[]), recovered := false }
/-- Behind a call at a port. -/
def Post {α : Type} (L : Loc) (w : World) (I : IHeap) (r : Out α × PS) (R : IHeap → Value → α → Prop) (e : Ending) (w' : World) : Prop :=
  ∃ J, Grow I w J ∧ Keeps L w w' ∧ St w' L J r.2 ∧ ((∃ a v, r.1 = .ret a ∧ e = .returned v ∧ R J v a) ∨ (r.1 = .paused ∧ e = .panicked [pzEntry]))
theorem Mid.post {α : Type} {w W : World} {L : Loc} {I : IHeap} {s : PS} (h : Mid w L I s W) {R : IHeap → Value → α → Prop} {v : Value} {a : α} (hR : R I v a) : Post L w I (.ret a, s) R (.returned v) W :=
  ⟨I, Grow.refl _ _, h.keeps, h.st, .inl ⟨a, v, rfl, rfl, hR⟩⟩
theorem Mid.paused {α : Type} {w W : World} {L : Loc} {I : IHeap} {s : PS} (h : Mid w L I s W) {R : IHeap → Value → α → Prop} : Post L w I (.paused, s) R (.panicked [pzEntry]) W :=
  ⟨I, Grow.refl _ _, h.keeps, h.st, .inr ⟨rfl, rfl⟩⟩
/-- The result is a plain value. -/
def Is {α : Type} (f : α → Value) : IHeap → Value → α → Prop := fun _ v a => v = f a
end Go.Proofs.YtadaiihoclknmaaGreat
/- The port: ask. -/
namespace Go.Proofs.YtadaiihoclknmaaGreat
open Go.RowKit
set_option maxHeartbeats 1000000
set_option maxRecDepth 100000
set_option linter.unusedVariables false
set_option linter.unusedSimpArgs false

theorem port_hd {w : World} {p m : Nat} {I : IHeap} {s : PS} {lv : Value} (h : PortAt w p m I s lv) :
    w.cell? ⟨p, 0, none⟩ = some (.pointer (some ⟨m, 0, none⟩)) ∧ w.cell? ⟨p, 1, none⟩ = some lv ∧ w.cell? ⟨p, 2, none⟩ = some (.int .i64 s.at_) ∧ w.cell? ⟨p, 3, none⟩ = some (.int .i64 s.left) ∧ w.cell? ⟨p, 4, none⟩ = some (.int .i64 s.note) := by
  refine ⟨?_, ?_, ?_, ?_, ?_⟩ <;> rw [cell_blk h.hd] <;> rfl
theorem port_free {w : World} {p m : Nat} {I : IHeap} {s : PS} {lv : Value} (h : PortAt w p m I s lv) (j : Nat) : w.frozen? ⟨p, j, none⟩ = false := free_blk h.hd j
/-- A field of the port is written. -/
theorem St.setPort {w : World} {L : Loc} {I : IHeap} {s s' : PS} (h : St w L I s) (j : Nat) (u : Value) (hm : s'.mem = s.mem) (hl : s'.log = s.log) (hle : s'.at_ ≤ s'.log.length)
    (hu : ∀ lv, (#[.pointer (some ⟨L.m, 0, none⟩), lv, .int .i64 s.at_, .int .i64 s.left, .int .i64 s.note] : Array Value).setIfInBounds j u = #[.pointer (some ⟨L.m, 0, none⟩), lv, .int .i64 s'.at_, .int .i64 s'.left, .int .i64 s'.note]) :
    St (w.setCell ⟨L.p, j, none⟩ u) L I s' := by
  obtain ⟨lv, hp, ⟨xs, hown, hR⟩, _⟩ := h.port
  have hne1 : L.m ≠ L.p := by
    intro e; have := h.mem.hd; rw [e] at this; rw [this] at hp; simp at hp
  have hne2 : L.cb ≠ L.p := by
    intro e; obtain ⟨cur, hc, _⟩ := h.mem.arr; rw [e] at hc; rw [hc] at hp; simp at hp
  refine ⟨⟨fun k o hI => set_far (h.held.at_ _ _ hI) (fun e => h.imm_not hI (.inl e)) u, h.held.imm⟩, by rw [hm]; exact h.mem.far hne1 hne2 u, lv, ?_, ?_, hle⟩
  · rw [set_blk hp, hu]
  · rw [hl]
    refine ⟨xs, ownsRow_setCell_other hown (fun e => ?_) u, hR⟩
    rcases hown.2 with ⟨rfl, _⟩ | ⟨g, cap, cur, rfl, _, hh, _⟩
    · simp [Value.ownBlock] at e
    · simp [Value.ownBlock] at e; subst e; rw [hh] at hp; simp at hp
theorem logBlk_set {w : World} {p m : Nat} {I : IHeap} {s : PS} {lv : Value} (h : PortAt w p m I s lv) (j : Nat) (hj : j ≠ 1) (u : Value) : logBlk (w.setCell ⟨p, j, none⟩ u) p = logBlk w p := by
  unfold logBlk
  rw [cell_blk h.hd, cell_blk (set_blk h.hd j u)]
  congr 1
  rw [Array.getElem?_setIfInBounds_ne hj]
/-- .. and what is kept. -/
theorem Keeps.setPort {w : World} {L : Loc} {I : IHeap} {s : PS} (h : St w L I s) (j : Nat) (hj : j ≠ 1) (u : Value) : Keeps L w (w.setCell ⟨L.p, j, none⟩ u) := by
  obtain ⟨lv, hp⟩ := h.port
  refine ⟨(Kept.refl _ _).setCell (fun _ => .inl rfl) u, fun k x => .inl ?_⟩
  unfold SS at x ⊢
  rw [logBlk_set hp j hj] at x
  exact x

theorem Mid.port {w W : World} {L : Loc} {I : IHeap} {s s' : PS} (h : Mid w L I s W) (j : Nat) (hj : j ≠ 1) (u : Value) (hm : s'.mem = s.mem) (hl : s'.log = s.log) (hle : s'.at_ ≤ s'.log.length)
    (hu : ∀ lv, (#[.pointer (some ⟨L.m, 0, none⟩), lv, .int .i64 s.at_, .int .i64 s.left, .int .i64 s.note] : Array Value).setIfInBounds j u = #[.pointer (some ⟨L.m, 0, none⟩), lv, .int .i64 s'.at_, .int .i64 s'.left, .int .i64 s'.note]) :
    Mid w L I s' (W.setCell ⟨L.p, j, none⟩ u) := by
  have k := Keeps.setPort h.st j hj u
  refine ⟨h.st.setPort j u hm hl hle hu, h.kept.setCell (p := ⟨L.p, j, none⟩) (fun _ => .inl rfl) u, fun q x => ?_, h.lo, h.lI⟩
  obtain ⟨lv, hp⟩ := h.st.port
  refine h.ss q ?_
  unfold SS at x ⊢
  rw [logBlk_set hp j hj] at x
  exact x
/-- A cell of the log. -/
theorem log_cell {w : World} {I : IHeap} {lv : Value} {l : List Ans} (h : LogR w I lv l) {i : Nat} {a : Ans} (ha : l[i]? = some a) :
    ∃ g cap b, lv = .slice (some ⟨g, 0, none⟩) l.length cap ∧ BlkV I b a.b ∧ w.cell? ⟨g, i * 4, none⟩ = some b ∧ w.cell? ⟨g, i * 4 + 1, none⟩ = some (.int .i64 a.n) ∧ w.cell? ⟨g, i * 4 + 2, none⟩ = some (.bool a.ok) ∧ w.cell? ⟨g, i * 4 + 3, none⟩ = some (.int .i64 a.e) := by
  obtain ⟨xs, hown, hR⟩ := h
  have hlt := (List.getElem?_eq_some_iff.1 ha).1
  obtain ⟨g, cap, rfl⟩ : ∃ g cap, lv = .slice (some ⟨g, 0, none⟩) l.length cap := by
    rcases hown.2 with ⟨_, h0⟩ | ⟨g, cap, cur, rfl, _⟩
    · omega
    · exact ⟨g, cap, rfl⟩
  obtain ⟨b, hb, hv⟩ := hR i a ha
  have key : ∀ j u, ([b, .int .i64 a.n, .bool a.ok, .int .i64 a.e] : List Value)[j]? = some u → w.cell? ⟨g, i * 4 + j, none⟩ = some u := by
    intro j u hu
    have hj : j < 4 := (List.getElem?_eq_some_iff.1 hu).1
    rw [← hb, List.getElem?_take, if_pos hj, List.getElem?_drop] at hu
    rw [hown.cellAt _ (by omega)]
    exact hu
  exact ⟨g, cap, b, rfl, hv, key 0 _ rfl, key 1 _ rfl, key 2 _ rfl, key 3 _ rfl⟩

theorem blk_one {I : IHeap} {b : Value} {o : Option Blk} (h : BlkV I b o) : (∃ u x, b = .iface u x) ∨ b = .nilIface := by
  match o with
  | none => exact .inr h
  | some x => exact .inl (blk_held h rfl)

theorem log_form {w : World} {I : IHeap} {lv : Value} {l : List Ans} (h : LogR w I lv l) : ∃ A cap, lv = .slice A l.length cap := by
  obtain ⟨xs, hown, _⟩ := h
  rcases hown.2 with ⟨rfl, h0⟩ | ⟨g, cap, cur, rfl, _⟩
  · exact ⟨none, 0, by rw [h0]⟩
  · exact ⟨_, cap, rfl⟩
/-- What a closure that asks memory does. -/
def Asks (L : Loc) (q : Q) (fd : FuncId) (caps : Array Value) (w : World) (I : IHeap) (s : PS) : Prop :=
  ∀ w1, New w w1 → Calls Tryz.prog fd caps w1 fun e w' => ∃ b, BlkV I b (s.mem.ask q).1.b ∧ e = .returned (.agg #[b, .int .i64 (s.mem.ask q).1.n, .bool (s.mem.ask q).1.ok, .int .i64 (s.mem.ask q).1.e]) ∧
    MemAt w' L.m L.cb I (s.mem.ask q).2 ∧ Kept (fun k => k = L.m ∨ k = L.cb) w1 w'

theorem ask_log (w : World) (L : Loc) (I : IHeap) (s : PS) (hst : St w L I s) (f : Value) (a : Ans) (ha : s.log[s.at_]? = some a) :
    Calls Tryz.prog 84 #[.pointer (some ⟨L.p, 0, none⟩), f] w (Post L w I (.ret a, { s with at_ := s.at_ + 1 }) AnsV) := by
  have hlt := (List.getElem?_eq_some_iff.1 ha).1
  obtain ⟨lv, hp⟩ := hst.port
  obtain ⟨g, cap, b, rfl, hb, d0, d1, d2, d3⟩ := log_cell hp.log ha
  obtain ⟨c0, c1, c2, c3, c4⟩ := port_hd hp
  have f2 := port_free hp 2
  have hgp : g ≠ L.p := by
    rintro rfl
    obtain ⟨xs, hown, _⟩ := hp.log
    rcases hown.2 with ⟨h, _⟩ | ⟨g', cap', cur, h, _, hh, _⟩
    · simp at h
    · simp at h; obtain ⟨rfl, _⟩ := h; have := hp.hd; rw [hh] at this; simp at this
  have t1 : decide ((s.at_ : Int) < (s.log.length : Int)) = true := by simpa using hlt
  have hmax : s.log.length ≤ 9223372036854775807 := by
    obtain ⟨xs, hown, _⟩ := hp.log
    rcases hown.2 with ⟨h, _⟩ | ⟨g', cap', cur, h, _, hh, h1, h2, _⟩
    · simp at h
    · unfold maxLen at h2; omega
  have hlp : L.p < w.heap.size := lt_of_block hp.hd
  have hlg : g < w.heap.size := World.block_lt_of_cell? w _ d0
  have H1 := Lib.hid hst
  have Hb := Lib.hid hb
  have HE := Lib.hid (blk_one hb)
  clear hst hp hb ha
  rcases HE.out with ⟨u, x, rfl⟩ | rfl
  all_goals
    clear HE
    go_enter Tryz.func84, Tryz.ntmps84
    go_wp2
    go_quiet (fail)
    go_wp2
    go_region
    all_goals go_wp2
    all_goals refine bodyPost_ret (v := .agg #[_, .int .i64 a.n, .bool a.ok, .int .i64 a.e]) (by simp [results, Tryz.results84, go_sem]; rfl) rfl ?_
    all_goals refine Mid.post ?_ ⟨_, rfl, Hb.out⟩
    all_goals exact ((((((((Mid.start H1.out).alloc _).drewN _).port (s' := { s with at_ := s.at_ + 1 }) 2 (by decide) _ rfl rfl hlt (fun lv => rfl)).set (Nat.le_refl _) _).set (Nat.le_refl _) _).set (Nat.le_refl _) _).set (Nat.le_refl _) _).drew
theorem ask_paused (w : World) (L : Loc) (I : IHeap) (s : PS) (hst : St w L I s) (f : Value) (ha : s.log[s.at_]? = none) (h0 : s.left = 0) :
    Calls Tryz.prog 84 #[.pointer (some ⟨L.p, 0, none⟩), f] w (Post L w I (.paused, s) AnsV) := by
  have hle : s.log.length ≤ s.at_ := by simpa using ha
  obtain ⟨lv, hp⟩ := hst.port
  obtain ⟨c0, c1, c2, c3, c4⟩ := port_hd hp
  obtain ⟨A, cap, rfl⟩ := log_form hp.log
  have t1 : decide (s.at_ < s.log.length) = false := by simp; omega
  have hlp : L.p < w.heap.size := lt_of_block hp.hd
  have H1 := Lib.hid hst
  rw [h0] at c3
  clear hst hp ha h0 hle
  go_enter Tryz.func84, Tryz.ntmps84
  go_wp2
  go_quiet (fail)
  go_wp2
  exact post_panic rfl (((Mid.start H1.out).alloc _).drewN _).paused
theorem ask_anew (w : World) (L : Loc) (I : IHeap) (s : PS) (hst : St w L I s) (q : Q) (fd : FuncId) (caps : Array Value) (hf : ∀ W, (callFunc fd caps).run Tryz.prog W = .ok (.enter fd caps) W) (hdo : Asks L q fd caps w I s) (ha : s.log[s.at_]? = none) (h0 : s.left < 0) :
    Calls Tryz.prog 84 #[.pointer (some ⟨L.p, 0, none⟩), .func (.func fd) #[] caps] w (Post L w I (.ret (s.mem.ask q).1, { s with mem := (s.mem.ask q).2 }) AnsV) := by
  have hle : s.log.length ≤ s.at_ := by simpa using ha
  obtain ⟨lv, hp⟩ := hst.port
  obtain ⟨c0, c1, c2, c3, c4⟩ := port_hd hp
  obtain ⟨A, cap, rfl⟩ := log_form hp.log
  have t1 : decide (s.at_ < s.log.length) = false := by simp; omega
  have t2 : (s.left == 0) = false := by simp; omega
  have t3 : decide (0 < s.left) = false := by simp; omega
  have hlp : L.p < w.heap.size := lt_of_block hp.hd
  have H1 := Lib.hid hst
  have HD := Lib.hid hdo
  clear hst hp ha h0 hle hdo
  go_enter Tryz.func84, Tryz.ntmps84
  go_wp2
  go_quiet (fail)
  go_wp2_with fail
  refine (HD.out _ (((Kept.refl _ _).alloc _).drewN _)).mono ?_
  rintro e w2 ⟨b, hb, rfl, hM, hK⟩
  have H2 := Lib.hid ((((Mid.start H1.out).alloc _).drewN _).mem hM hK)
  have HB := Lib.hid hb
  have HE := Lib.hid (blk_one hb)
  obtain ⟨lv2, hp2⟩ := H2.out.st.port
  obtain ⟨e0, e1, e2, e3, e4⟩ := port_hd hp2
  have hres : w2.heap[w.heap.size]? = some (.cells #[.nilIface, .int .i64 0, .bool false, .int .i64 0] 154 (0, 0)) :=
    (hK.obj (alloc_new w _) (by
      have h1 := H1.out.lo _ (.inr (.inl rfl)); have h2 := H1.out.lo _ (.inr (.inr (.inl rfl)))
      rintro (e | e) <;> omega))
  have hs : w.heap.size < w2.heap.size := lt_of_block hres
  have hs2 : L.p < w2.heap.size := by omega
  have r0 := cell_blk hres 0
  have r1 := cell_blk hres 1
  have r2 := cell_blk hres 2
  have r3 := cell_blk hres 3
  have q0 := free_blk hres 0
  have q1 := free_blk hres 1
  have q2 := free_blk hres 2
  have q3 := free_blk hres 3
  clear hb hM hK hp2 hres
  rcases HE.out with ⟨u, x, rfl⟩ | rfl
  all_goals
    clear HE
    go_wp2
    refine bodyPost_ret (v := .agg #[_, .int .i64 (s.mem.ask q).1.n, .bool (s.mem.ask q).1.ok, .int .i64 (s.mem.ask q).1.e]) (by simp [results, Tryz.results84, go_sem, hs, hs2, r0, r1, r2, r3]; rfl) rfl ?_
    refine Mid.post ?_ ⟨_, rfl, HB.out⟩
    repeat (first | exact H2.out | refine Mid.set ?_ (Nat.le_refl _) _ | refine Mid.alloc ?_ _)
end Go.Proofs.YtadaiihoclknmaaGreat
