/- Part 2 of the proof: Mem1, Mem2. -/
import Derived.Test.YtadaiihoclknmaaGreatC01
/- Memory's methods. -/
namespace Go.Proofs.YtadaiihoclknmaaGreat
open Go.RowKit
set_option maxHeartbeats 1000000
set_option maxRecDepth 100000
set_option linter.unusedVariables false
set_option linter.unusedSimpArgs false

def Mem.tick (M : Mem) : Mem := { M with count := wrap64 (M.count + 1) }
def Mem.miss (M : Mem) : Mem := { M with count := wrap64 (M.count + 1), stale := wrap64 (M.stale + 1) }
/-- The place of a handle's cell, if it is there. -/
def Mem.find (M : Mem) (h : Int) : Option Nat :=
  if 0 ≤ tPlace h then
    match M.cells[(tPlace h).toNat]? with
    | some c => if c.v.isSome && c.gen == tGen h then some (tPlace h).toNat else none
    | none => none
  else none

theorem mem_hd {w : World} {m cb : Nat} {I : IHeap} {M : Mem} (h : MemAt w m cb I M) : 
    w.cell? ⟨m, 0, none⟩ = some (.slice (some ⟨cb, 0, none⟩) M.cells.length M.cells.length) ∧ w.cell? ⟨m, 1, none⟩ = some (.int .i64 M.count) ∧ w.cell? ⟨m, 2, none⟩ = some (.int .i64 M.live) ∧ w.cell? ⟨m, 3, none⟩ = some (.int .i64 M.stale) := by
  refine ⟨?_, ?_, ?_, ?_⟩ <;> rw [cell_blk h.hd] <;> rfl
theorem mem_free {w : World} {m cb : Nat} {I : IHeap} {M : Mem} (h : MemAt w m cb I M) (j : Nat) : w.frozen? ⟨m, j, none⟩ = false := free_blk h.hd j
theorem mem_ne {w : World} {m cb : Nat} {I : IHeap} {M : Mem} (h : MemAt w m cb I M) : m ≠ cb := by
  rintro rfl
  obtain ⟨cur, hc, _⟩ := h.arr
  have := h.hd.symm.trans hc
  simp at this
theorem mem_cel {w : World} {m cb : Nat} {I : IHeap} {M : Mem} (h : MemAt w m cb I M) {i : Nat} {c : Cel} (hc : M.cells[i]? = some c) :
    ∃ b, BlkV I b c.v ∧ w.cell? ⟨cb, i * 4, none⟩ = some b ∧ w.cell? ⟨cb, i * 4 + 1, none⟩ = some (.int .i64 c.gen) ∧ w.cell? ⟨cb, i * 4 + 2, none⟩ = some (.int .i64 c.stamp) ∧ w.cell? ⟨cb, i * 4 + 3, none⟩ = some (.bool c.retired) := by
  obtain ⟨cur, hcur, hs, hR⟩ := h.arr
  obtain ⟨b, hb, hv⟩ := hR i c hc
  have key : ∀ j u, ([b, .int .i64 c.gen, .int .i64 c.stamp, .bool c.retired] : List Value)[j]? = some u → w.cell? ⟨cb, i * 4 + j, none⟩ = some u := by
    intro j u hu
    rw [cell_blk hcur, ← Array.getElem?_toList]
    rw [← hb, List.getElem?_take] at hu
    split at hu
    · simpa [List.getElem?_drop] using hu
    · cases hu
  exact ⟨b, hv, key 0 _ rfl, key 1 _ rfl, key 2 _ rfl, key 3 _ rfl⟩

theorem und_any : Tryz.prog.underlying 20 = some (.interface (Tryz.prog.methodsAt 20)) := by kernel_rfl
theorem blk_held {I : IHeap} {b : Value} {o : Option Blk} (h : BlkV I b o) (ho : o.isSome = true) : ∃ u x, b = .iface u x := by
  match o with
  | none => cases ho
  | some (.word n) => exact ⟨_, _, h⟩
  | some (.desc d) => obtain ⟨x, hx, _⟩ := h; exact ⟨_, _, hx⟩
  | some (.age d) => obtain ⟨x, hx, _⟩ := h; exact ⟨_, _, hx⟩
  | some (.node d) => obtain ⟨x, hx, _⟩ := h; exact ⟨_, _, hx⟩

/-! ### What a store turns -/
theorem MemAt.kept {w w' : World} {m cb : Nat} {I : IHeap} {M : Mem} {S : Nat → Prop} (h : MemAt w m cb I M) (hk : Kept S w w') (h1 : ¬ S m) (h2 : ¬ S cb) : MemAt w' m cb I M := by
  obtain ⟨cur, hc, r⟩ := h.arr
  exact ⟨hk.obj h.hd h1, h.small, cur, hk.obj hc h2, r⟩
theorem MemAt.mono {w : World} {m cb : Nat} {I J : IHeap} {M : Mem} (h : MemAt w m cb I M) (hl : ILe I J) : MemAt w m cb J M := by
  obtain ⟨cur, hc, hs, r⟩ := h.arr
  exact ⟨h.hd, h.small, cur, hc, hs, fun i c hi => (r i c hi).mono hl⟩
theorem MemAt.new {w w' : World} {m cb : Nat} {I : IHeap} {M : Mem} (h : MemAt w m cb I M) (hk : New w w') : MemAt w' m cb I M := h.kept hk id id
theorem MemAt.drewN {w : World} {m cb : Nat} {I : IHeap} {M : Mem} (h : MemAt w m cb I M) (n : Nat) : MemAt (w.drewN n) m cb I M := h.new ((Kept.refl _ _).drewN n)
theorem MemAt.drew {w : World} {m cb : Nat} {I : IHeap} {M : Mem} (h : MemAt w m cb I M) : MemAt w.drew m cb I M := h.new ((Kept.refl _ _).drew)
theorem MemAt.far {w : World} {m cb : Nat} {I : IHeap} {M : Mem} (h : MemAt w m cb I M) {a : Addr} (h1 : m ≠ a.block) (h2 : cb ≠ a.block) (u : Value) : MemAt (w.setCell a u) m cb I M := by
  obtain ⟨cur, hc, r⟩ := h.arr
  exact ⟨set_far h.hd h1 u, h.small, cur, set_far hc h2 u, r⟩
theorem MemAt.count {w : World} {m cb : Nat} {I : IHeap} {M : Mem} (h : MemAt w m cb I M) (x : Int) : MemAt (w.setCell ⟨m, 1, none⟩ (.int .i64 x)) m cb I { M with count := x } := by
  obtain ⟨cur, hc, r⟩ := h.arr
  exact ⟨by rw [set_blk h.hd]; rfl, h.small, cur, set_far hc (Ne.symm (mem_ne h)) _, r⟩
theorem MemAt.live {w : World} {m cb : Nat} {I : IHeap} {M : Mem} (h : MemAt w m cb I M) (x : Int) : MemAt (w.setCell ⟨m, 2, none⟩ (.int .i64 x)) m cb I { M with live := x } := by
  obtain ⟨cur, hc, r⟩ := h.arr
  exact ⟨by rw [set_blk h.hd]; rfl, h.small, cur, set_far hc (Ne.symm (mem_ne h)) _, r⟩
theorem MemAt.stale {w : World} {m cb : Nat} {I : IHeap} {M : Mem} (h : MemAt w m cb I M) (x : Int) : MemAt (w.setCell ⟨m, 3, none⟩ (.int .i64 x)) m cb I { M with stale := x } := by
  obtain ⟨cur, hc, r⟩ := h.arr
  exact ⟨by rw [set_blk h.hd]; rfl, h.small, cur, set_far hc (Ne.symm (mem_ne h)) _, r⟩
theorem take4_set_same (l : List Value) (i j : Nat) (u : Value) (hj : j < 4) : ((l.set (i * 4 + j) u).drop (i * 4)).take 4 = ((l.drop (i * 4)).take 4).set j u := by
  rw [List.drop_set, if_neg (by omega), List.take_set, show i * 4 + j - i * 4 = j by omega]
theorem take4_set_other (l : List Value) (i k j : Nat) (u : Value) (hj : j < 4) (hne : k ≠ i) : ((l.set (i * 4 + j) u).drop (k * 4)).take 4 = (l.drop (k * 4)).take 4 := by
  apply List.ext_getElem?
  intro q
  simp only [List.getElem?_take, List.getElem?_drop]
  split
  · rw [List.getElem?_set_ne]; omega
  · rfl
/-- One field of a cell is written. -/
theorem MemAt.field {w : World} {m cb : Nat} {I : IHeap} {M : Mem} (h : MemAt w m cb I M) {i : Nat} {c c' : Cel} (hc : M.cells[i]? = some c) (j : Nat) (hj : j < 4) (u : Value)
    (hu : ∀ cs, CelR I cs c → CelR I (cs.set j u) c') : MemAt (w.setCell ⟨cb, i * 4 + j, none⟩ u) m cb I { M with cells := M.cells.set i c' } := by
  obtain ⟨cur, hcur, hs, r⟩ := h.arr
  refine ⟨by rw [set_far h.hd (mem_ne h)]; simp, by simpa using h.small, cur.setIfInBounds (i * 4 + j) u, by rw [set_blk hcur], by simpa using hs, fun k x hk => ?_⟩
  rw [Array.toList_setIfInBounds]
  by_cases e : k = i
  · subst e
    rw [take4_set_same _ _ _ _ hj]
    have hlt := (List.getElem?_eq_some_iff.1 hc).1
    rw [List.getElem?_set_self (by simpa using hlt)] at hk
    injection hk with hk
    subst hk
    exact hu _ (r _ _ hc)
  · rw [take4_set_other _ _ _ _ _ hj e]
    rw [List.getElem?_set_ne (Ne.symm e)] at hk
    exact r _ _ hk

/-- A call of one of memory's methods. -/
def MPost (w : World) (m cb : Nat) (I : IHeap) (M : Mem) (v : Value) (e : Ending) (w' : World) : Prop := e = .returned v ∧ MemAt w' m cb I M ∧ Kept (fun k => k = m ∨ k = cb) w w'
theorem MPost.kept1 {w : World} {m cb : Nat} (j : Nat) (u : Value) : Kept (fun k => k = m ∨ k = cb) w (w.setCell ⟨m, j, none⟩ u) := (Kept.refl _ _).setCell (fun _ => .inl rfl) u

theorem find_some {M : Mem} {h : Int} {i : Nat} (hf : M.find h = some i) : tPlace h = (i : Int) ∧ ∃ c, M.cells[i]? = some c ∧ c.v.isSome = true ∧ c.gen = tGen h := by
  unfold Mem.find at hf
  split at hf
  · rename_i h0
    cases hc : M.cells[(tPlace h).toNat]? with
    | none => rw [hc] at hf; cases hf
    | some c =>
      rw [hc] at hf
      simp only at hf
      split at hf
      · rename_i hh
        injection hf with hf
        subst hf
        simp at hh
        exact ⟨by omega, c, hc, hh.1, hh.2⟩
      · cases hf
  · cases hf
theorem mem_cell_some (w : World) (m cb : Nat) (I : IHeap) (M : Mem) (h : Int) (hM : MemAt w m cb I M) (i : Nat) (hf : M.find h = some i) :
    Calls Tryz.prog 196 #[.pointer (some ⟨m, 0, none⟩), .int .i64 h] w (MPost w m cb I M.tick (.tuple #[.pointer (some ⟨cb, i * 4, none⟩), .int .i64 0])) := by
  obtain ⟨c0, c1, c2, c3⟩ := mem_hd hM
  have f1 := mem_free hM 1
  obtain ⟨hn, c, hc, hv, hg⟩ := find_some hf
  have hlt : i < M.cells.length := (List.getElem?_eq_some_iff.1 hc).1
  obtain ⟨b, hb, d0, d1, d2, d3⟩ := mem_cel hM hc
  have hne := mem_ne hM
  obtain ⟨u, x, rfl⟩ := blk_held hb hv
  have t1 : decide ((i : Int) < 0) = false := by simp
  have t2 : decide (M.cells.length ≤ i) = false := by simp; omega
  have t3 : (c.gen != tGen h) = false := by simp [hg]
  have HM := Lib.hid hM
  clear hM hf hc hv hb hg
  go_enter Tryz.func196, Tryz.ntmps196
  go_wp2_with (go_at_call 228; refine (place_any _ _).mono ?_; rintro e w' ⟨rfl, rfl⟩)
  go_quiet ((go_at_call 229; exact quiet_eq (gen_any _ _)))
  go_wp2
  go_ret2
  exact ⟨rfl, (HM.out.count _).drewN _, (MPost.kept1 _ _).drewN _⟩
theorem find_none {M : Mem} {h : Int} (hf : M.find h = none) : tPlace h < 0 ∨ ∃ n : Nat, tPlace h = n ∧ (M.cells.length ≤ n ∨ ∃ c, M.cells[n]? = some c ∧ (c.v = none ∨ (c.v.isSome = true ∧ c.gen ≠ tGen h))) := by
  unfold Mem.find at hf
  split at hf
  · rename_i h0
    refine .inr ⟨(tPlace h).toNat, by omega, ?_⟩
    cases hc : M.cells[(tPlace h).toNat]? with
    | none => exact .inl (by simpa using hc)
    | some c =>
      rw [hc] at hf
      simp only at hf
      split at hf
      · cases hf
      · rename_i hh
        refine .inr ⟨c, rfl, ?_⟩
        cases hv : c.v with
        | none => exact .inl rfl
        | some b => exact .inr ⟨rfl, fun e => hh (by simp [hv, e])⟩
  · exact .inl (by omega)
theorem mem_cell_none (w : World) (m cb : Nat) (I : IHeap) (M : Mem) (h : Int) (hM : MemAt w m cb I M) (hf : M.find h = none) :
    Calls Tryz.prog 196 #[.pointer (some ⟨m, 0, none⟩), .int .i64 h] w (MPost w m cb I M.miss (.tuple #[.pointer none, .int .i64 5])) := by
  obtain ⟨c0, c1, c2, c3⟩ := mem_hd hM
  have f1 := mem_free hM 1
  have f3 := mem_free hM 3
  have hne := mem_ne hM
  have HM := Lib.hid hM
  rcases find_none hf with hn | ⟨n, hn, hn2 | ⟨c, hc, hn2 | ⟨hv, hg⟩⟩⟩
  · have t1 : decide (tPlace h < 0) = true := by simpa using hn
    clear hM hf
    go_enter Tryz.func196, Tryz.ntmps196
    go_wp2_with (go_at_call 228; refine (place_any _ _).mono ?_; rintro e w' ⟨rfl, rfl⟩)
    go_quiet ((go_at_call 229; exact quiet_eq (gen_any _ _)))
    go_wp2
    go_ret2
    exact ⟨rfl, ((HM.out.count _).stale _).drewN _, ((MPost.kept1 1 _).trans (MPost.kept1 3 _)).drewN _⟩
  · have t1 : decide ((n : Int) < 0) = false := by simp
    have t2 : decide (M.cells.length ≤ n) = true := by simp; omega
    clear hM hf
    go_enter Tryz.func196, Tryz.ntmps196
    go_wp2_with (go_at_call 228; refine (place_any _ _).mono ?_; rintro e w' ⟨rfl, rfl⟩)
    go_quiet ((go_at_call 229; exact quiet_eq (gen_any _ _)))
    go_wp2
    go_ret2
    exact ⟨rfl, ((HM.out.count _).stale _).drewN _, ((MPost.kept1 1 _).trans (MPost.kept1 3 _)).drewN _⟩
  · have hlt : n < M.cells.length := (List.getElem?_eq_some_iff.1 hc).1
    obtain ⟨b, hb, d0, d1, d2, d3⟩ := mem_cel hM hc
    have t1 : decide ((n : Int) < 0) = false := by simp
    have t2 : decide (M.cells.length ≤ n) = false := by simp; omega
    rw [hn2] at hb
    obtain rfl : b = .nilIface := hb
    clear hM hf hc hn2
    go_enter Tryz.func196, Tryz.ntmps196
    go_wp2_with (go_at_call 228; refine (place_any _ _).mono ?_; rintro e w' ⟨rfl, rfl⟩)
    go_quiet ((go_at_call 229; exact quiet_eq (gen_any _ _)))
    go_wp2
    go_ret2
    exact ⟨rfl, ((HM.out.count _).stale _).drewN _, ((MPost.kept1 1 _).trans (MPost.kept1 3 _)).drewN _⟩
  · have hlt : n < M.cells.length := (List.getElem?_eq_some_iff.1 hc).1
    obtain ⟨b, hb, d0, d1, d2, d3⟩ := mem_cel hM hc
    have t1 : decide ((n : Int) < 0) = false := by simp
    have t2 : decide (M.cells.length ≤ n) = false := by simp; omega
    have t3 : (c.gen != tGen h) = true := by simpa using hg
    obtain ⟨u, x, rfl⟩ := blk_held hb hv
    clear hM hf hc hv hb hg
    go_enter Tryz.func196, Tryz.ntmps196
    go_wp2_with (go_at_call 228; refine (place_any _ _).mono ?_; rintro e w' ⟨rfl, rfl⟩)
    go_quiet ((go_at_call 229; exact quiet_eq (gen_any _ _)))
    go_wp2
    go_ret2
    exact ⟨rfl, ((HM.out.count _).stale _).drewN _, ((MPost.kept1 1 _).trans (MPost.kept1 3 _)).drewN _⟩
end Go.Proofs.YtadaiihoclknmaaGreat
/- Memory's methods: words. -/
namespace Go.Proofs.YtadaiihoclknmaaGreat
open Go.RowKit
set_option maxHeartbeats 1000000
set_option maxRecDepth 100000
set_option linter.unusedVariables false
set_option linter.unusedSimpArgs false

/-! ### What a block is -/
@[go_sem] theorem ta_num_num (x : Value) (w : World) : (Instr.typeAssert (.iface 227 x) 20 227 true).run Tryz.prog w = .ok (.tuple #[x, .bool true]) w := by kernel_rfl
@[go_sem] theorem ta_num_desc (x : Value) (w : World) : (Instr.typeAssert (.iface 227 x) 20 46 true).run Tryz.prog w = .ok (.tuple #[.agg #[.int .i64 0, .int .i64 0, .int .i64 0, .slice none 0 0], .bool false]) w := by kernel_rfl
@[go_sem] theorem ta_num_age (x : Value) (w : World) : (Instr.typeAssert (.iface 227 x) 20 211 true).run Tryz.prog w = .ok (.tuple #[.agg #[.int .i64 0, .int .i64 0, .string ⟨#[]⟩, .string ⟨#[]⟩, .bool false, .bool false, .slice none 0 0, .slice none 0 0, .slice none 0 0, .slice none 0 0, .int .i64 0], .bool false]) w := by kernel_rfl
@[go_sem] theorem ta_num_node (x : Value) (w : World) : (Instr.typeAssert (.iface 227 x) 20 117 true).run Tryz.prog w = .ok (.tuple #[.agg #[.string ⟨#[]⟩, .int .i64 0, .slice none 0 0], .bool false]) w := by kernel_rfl
@[go_sem] theorem ta_desc_num (x : Value) (w : World) : (Instr.typeAssert (.iface 46 x) 20 227 true).run Tryz.prog w = .ok (.tuple #[.int .i64 0, .bool false]) w := by kernel_rfl
@[go_sem] theorem ta_desc_desc (x : Value) (w : World) : (Instr.typeAssert (.iface 46 x) 20 46 true).run Tryz.prog w = .ok (.tuple #[x, .bool true]) w := by kernel_rfl
@[go_sem] theorem ta_desc_age (x : Value) (w : World) : (Instr.typeAssert (.iface 46 x) 20 211 true).run Tryz.prog w = .ok (.tuple #[.agg #[.int .i64 0, .int .i64 0, .string ⟨#[]⟩, .string ⟨#[]⟩, .bool false, .bool false, .slice none 0 0, .slice none 0 0, .slice none 0 0, .slice none 0 0, .int .i64 0], .bool false]) w := by kernel_rfl
@[go_sem] theorem ta_desc_node (x : Value) (w : World) : (Instr.typeAssert (.iface 46 x) 20 117 true).run Tryz.prog w = .ok (.tuple #[.agg #[.string ⟨#[]⟩, .int .i64 0, .slice none 0 0], .bool false]) w := by kernel_rfl
@[go_sem] theorem ta_age_num (x : Value) (w : World) : (Instr.typeAssert (.iface 211 x) 20 227 true).run Tryz.prog w = .ok (.tuple #[.int .i64 0, .bool false]) w := by kernel_rfl
@[go_sem] theorem ta_age_desc (x : Value) (w : World) : (Instr.typeAssert (.iface 211 x) 20 46 true).run Tryz.prog w = .ok (.tuple #[.agg #[.int .i64 0, .int .i64 0, .int .i64 0, .slice none 0 0], .bool false]) w := by kernel_rfl
@[go_sem] theorem ta_age_age (x : Value) (w : World) : (Instr.typeAssert (.iface 211 x) 20 211 true).run Tryz.prog w = .ok (.tuple #[x, .bool true]) w := by kernel_rfl
@[go_sem] theorem ta_age_node (x : Value) (w : World) : (Instr.typeAssert (.iface 211 x) 20 117 true).run Tryz.prog w = .ok (.tuple #[.agg #[.string ⟨#[]⟩, .int .i64 0, .slice none 0 0], .bool false]) w := by kernel_rfl
@[go_sem] theorem ta_node_num (x : Value) (w : World) : (Instr.typeAssert (.iface 117 x) 20 227 true).run Tryz.prog w = .ok (.tuple #[.int .i64 0, .bool false]) w := by kernel_rfl
@[go_sem] theorem ta_node_desc (x : Value) (w : World) : (Instr.typeAssert (.iface 117 x) 20 46 true).run Tryz.prog w = .ok (.tuple #[.agg #[.int .i64 0, .int .i64 0, .int .i64 0, .slice none 0 0], .bool false]) w := by kernel_rfl
@[go_sem] theorem ta_node_age (x : Value) (w : World) : (Instr.typeAssert (.iface 117 x) 20 211 true).run Tryz.prog w = .ok (.tuple #[.agg #[.int .i64 0, .int .i64 0, .string ⟨#[]⟩, .string ⟨#[]⟩, .bool false, .bool false, .slice none 0 0, .slice none 0 0, .slice none 0 0, .slice none 0 0, .int .i64 0], .bool false]) w := by kernel_rfl
@[go_sem] theorem ta_node_node (x : Value) (w : World) : (Instr.typeAssert (.iface 117 x) 20 117 true).run Tryz.prog w = .ok (.tuple #[x, .bool true]) w := by kernel_rfl
@[go_sem] theorem ta_nil_num (w : World) : (Instr.typeAssert .nilIface 20 227 true).run Tryz.prog w = .ok (.tuple #[.int .i64 0, .bool false]) w := by kernel_rfl
@[go_sem] theorem ta_nil_desc (w : World) : (Instr.typeAssert .nilIface 20 46 true).run Tryz.prog w = .ok (.tuple #[.agg #[.int .i64 0, .int .i64 0, .int .i64 0, .slice none 0 0], .bool false]) w := by kernel_rfl
@[go_sem] theorem ta_nil_age (w : World) : (Instr.typeAssert .nilIface 20 211 true).run Tryz.prog w = .ok (.tuple #[.agg #[.int .i64 0, .int .i64 0, .string ⟨#[]⟩, .string ⟨#[]⟩, .bool false, .bool false, .slice none 0 0, .slice none 0 0, .slice none 0 0, .slice none 0 0, .int .i64 0], .bool false]) w := by kernel_rfl
@[go_sem] theorem ta_nil_node (w : World) : (Instr.typeAssert .nilIface 20 117 true).run Tryz.prog w = .ok (.tuple #[.agg #[.string ⟨#[]⟩, .int .i64 0, .slice none 0 0], .bool false]) w := by kernel_rfl
def Mem.blk (M : Mem) (i : Nat) : Option Blk := (M.cells[i]?).bind (·.v)
def Mem.upd (M : Mem) (i : Nat) (c : Cel) : Mem := { M with cells := M.cells.set i c }
def Mem.cel (M : Mem) (i : Nat) : Cel := M.cells.getD i default

theorem tick_cells (M : Mem) : M.tick.cells = M.cells := rfl
theorem cel_of {M : Mem} {i : Nat} {c : Cel} (h : M.cells[i]? = some c) : M.cel i = c := by simp [Mem.cel, List.getD_eq_getElem?_getD, h]
theorem blk_of {M : Mem} {i : Nat} {c : Cel} (h : M.cells[i]? = some c) : M.blk i = c.v := by simp [Mem.blk, h]

theorem kept_new {w w1 w2 : World} {m cb : Nat} (h : Kept (fun k => k = m ∨ k = cb) w w1) (k : New w1 w2) : Kept (fun k => k = m ∨ k = cb) w w2 := h.trans (k.kept _)

/-- The method word. -/
theorem mem_word_none (w : World) (m cb : Nat) (I : IHeap) (M : Mem) (h : Int) (hM : MemAt w m cb I M) (hf : M.find h = none) :
    Calls Tryz.prog 147 #[.pointer (some ⟨m, 0, none⟩), .int .i64 h] w (MPost w m cb I M.miss (.tuple #[.pointer none, .int .i64 0, .int .i64 5])) := by
  go_enter Tryz.func147, Tryz.ntmps147
  go_wp2_with fail
  refine (mem_cell_none w m cb I M h hM hf).mono ?_
  rintro e w1 ⟨rfl, hM1, hk⟩
  have H1 := Lib.hid hM1
  have H2 := Lib.hid hk
  clear hM1 hk hM hf
  go_wp2
  go_ret3
  exact ⟨rfl, H1.out, H2.out⟩
theorem mem_word_kind (w : World) (m cb : Nat) (I : IHeap) (M : Mem) (h : Int) (hM : MemAt w m cb I M) (i : Nat) (hf : M.find h = some i) (hb : ∀ n, M.blk i ≠ some (.word n)) :
    Calls Tryz.prog 147 #[.pointer (some ⟨m, 0, none⟩), .int .i64 h] w (MPost w m cb I M.tick (.tuple #[.pointer none, .int .i64 0, .int .i64 6])) := by
  obtain ⟨hn, c, hc, hv, hg⟩ := find_some hf
  go_enter Tryz.func147, Tryz.ntmps147
  go_wp2_with fail
  refine (mem_cell_some w m cb I M h hM i hf).mono ?_
  rintro e w1 ⟨rfl, hM1, hk⟩
  obtain ⟨b, hb1, d0, d1, d2, d3⟩ := mem_cel hM1 (show M.tick.cells[i]? = some c from hc)
  have hx : ∃ x, b = .iface 46 x ∨ b = .iface 211 x ∨ b = .iface 117 x := by
    rw [blk_of hc] at hb
    rcases hcv : c.v with _ | q
    · rw [hcv] at hv; cases hv
    · rw [hcv] at hb1 hb
      cases q with
      | word n => exact absurd rfl (hb n)
      | desc d => obtain ⟨x, hx, _⟩ := hb1; exact ⟨_, .inl hx⟩
      | age d => obtain ⟨x, hx, _⟩ := hb1; exact ⟨_, .inr (.inl hx)⟩
      | node d => obtain ⟨x, hx, _⟩ := hb1; exact ⟨_, .inr (.inr hx)⟩
  have H1 := Lib.hid hM1
  have H2 := Lib.hid hk
  clear hM1 hk hM hf hb hb1 hn hc hv hg d1 d2 d3
  obtain ⟨x, rfl | rfl | rfl⟩ := hx
  · go_wp2
    go_ret3
    exact ⟨rfl, H1.out, H2.out⟩
  · go_wp2
    go_ret3
    exact ⟨rfl, H1.out, H2.out⟩
  · go_wp2
    go_ret3
    exact ⟨rfl, H1.out, H2.out⟩
theorem mem_word_some (w : World) (m cb : Nat) (I : IHeap) (M : Mem) (h : Int) (hM : MemAt w m cb I M) (i : Nat) (hf : M.find h = some i) (n : Int) (hb : M.blk i = some (.word n)) :
    Calls Tryz.prog 147 #[.pointer (some ⟨m, 0, none⟩), .int .i64 h] w (MPost w m cb I M.tick (.tuple #[.pointer (some ⟨cb, i * 4, none⟩), .int .i64 n, .int .i64 0])) := by
  obtain ⟨hn, c, hc, hv, hg⟩ := find_some hf
  go_enter Tryz.func147, Tryz.ntmps147
  go_wp2_with fail
  refine (mem_cell_some w m cb I M h hM i hf).mono ?_
  rintro e w1 ⟨rfl, hM1, hk⟩
  obtain ⟨b, hb1, d0, d1, d2, d3⟩ := mem_cel hM1 (show M.tick.cells[i]? = some c from hc)
  rw [blk_of hc] at hb
  rw [hb] at hb1
  obtain rfl : b = .iface 227 (.int .i64 n) := hb1
  have H1 := Lib.hid hM1
  have H2 := Lib.hid hk
  clear hM1 hk hM hf hb hn hc hv hg d1 d2 d3
  go_wp2
  go_ret3
  exact ⟨rfl, H1.out, H2.out⟩

def Mem.opWord (M : Mem) (h : Int) : Ans × Mem :=
  match M.find h with
  | none => (⟨none, 0, false, 5⟩, M.miss)
  | some i => match M.blk i with
    | some (.word n) => (⟨none, n, false, 0⟩, M.tick)
    | _ => (⟨none, 0, false, 6⟩, M.tick)
theorem word_cases (M : Mem) (h : Int) : (M.find h = none) ∨ (∃ i, M.find h = some i ∧ ∀ n, M.blk i ≠ some (.word n)) ∨ (∃ i n, M.find h = some i ∧ M.blk i = some (.word n)) := by
  cases hf : M.find h with
  | none => exact .inl rfl
  | some i =>
    by_cases hn : ∃ n, M.blk i = some (.word n)
    · obtain ⟨n, hn⟩ := hn; exact .inr (.inr ⟨i, n, rfl, hn⟩)
    · exact .inr (.inl ⟨i, rfl, fun n h => hn ⟨n, h⟩⟩)
theorem opWord_none {M : Mem} {h : Int} (hf : M.find h = none) : M.opWord h = (⟨none, 0, false, 5⟩, M.miss) := by simp [Mem.opWord, hf]
theorem opWord_kind {M : Mem} {h : Int} {i : Nat} (hf : M.find h = some i) (hb : ∀ n, M.blk i ≠ some (.word n)) : M.opWord h = (⟨none, 0, false, 6⟩, M.tick) := by
  rcases hq : M.blk i with _ | (n | d | a | n) <;> first | exact absurd hq (hb n) | simp [Mem.opWord, hf, hq]
theorem opWord_some {M : Mem} {h : Int} {i : Nat} {n : Int} (hf : M.find h = some i) (hb : M.blk i = some (.word n)) : M.opWord h = (⟨none, n, false, 0⟩, M.tick) := by simp [Mem.opWord, hf, hb]

theorem mem_Word (w : World) (m cb : Nat) (I : IHeap) (M : Mem) (h : Int) (hM : MemAt w m cb I M) :
    Calls Tryz.prog 96 #[.pointer (some ⟨m, 0, none⟩), .int .i64 h] w (MPost w m cb I (M.opWord h).2 (.tuple #[.int .i64 (M.opWord h).1.n, .int .i64 (M.opWord h).1.e])) := by
  go_enter Tryz.func96, Tryz.ntmps96
  go_wp2_with fail
  rcases word_cases M h with hf | ⟨i, hf, hb⟩ | ⟨i, n, hf, hb⟩
  · have E := Lib.hid (opWord_none hf)
    refine (mem_word_none w m cb I M h hM hf).mono ?_
    rintro e w1 ⟨rfl, hM1, hk⟩
    have H1 := Lib.hid hM1
    have H2 := Lib.hid hk
    clear hM1 hk hM hf
    go_wp2
    go_ret2
    rw [E.out]
    exact ⟨rfl, H1.out, H2.out⟩
  · have E := Lib.hid (opWord_kind hf hb)
    refine (mem_word_kind w m cb I M h hM i hf hb).mono ?_
    rintro e w1 ⟨rfl, hM1, hk⟩
    have H1 := Lib.hid hM1
    have H2 := Lib.hid hk
    clear hM1 hk hM hf hb
    go_wp2
    go_ret2
    rw [E.out]
    exact ⟨rfl, H1.out, H2.out⟩
  · have E := Lib.hid (opWord_some hf hb)
    refine (mem_word_some w m cb I M h hM i hf n hb).mono ?_
    rintro e w1 ⟨rfl, hM1, hk⟩
    have H1 := Lib.hid hM1
    have H2 := Lib.hid hk
    clear hM1 hk hM hf hb
    go_wp2
    go_ret2
    rw [E.out]
    exact ⟨rfl, H1.out, H2.out⟩

/-- A word is written. -/
theorem MemAt.setWord {w : World} {m cb : Nat} {I : IHeap} {M : Mem} (h : MemAt w m cb I M) {i : Nat} {c : Cel} (hc : M.cells[i]? = some c) (n : Int) :
    MemAt (w.setCell ⟨cb, i * 4, none⟩ (.iface 227 (.int .i64 n))) m cb I (M.upd i { c with v := some (.word n) }) :=
  h.field hc 0 (by decide) _ (by rintro cs ⟨b, rfl, hb⟩; exact ⟨_, rfl, rfl⟩)
theorem mem_cfree {w : World} {m cb : Nat} {I : IHeap} {M : Mem} (h : MemAt w m cb I M) (j : Nat) : w.frozen? ⟨cb, j, none⟩ = false := by
  obtain ⟨cur, hc, _⟩ := h.arr; exact free_blk hc j
theorem MPost.kept2 {w : World} {m cb : Nat} (j : Nat) (u : Value) : Kept (fun k => k = m ∨ k = cb) w (w.setCell ⟨cb, j, none⟩ u) := (Kept.refl _ _).setCell (fun _ => .inr rfl) u

def Mem.opStore (M : Mem) (h n : Int) : Ans × Mem :=
  match M.find h with
  | none => (⟨none, 0, false, 5⟩, M.miss)
  | some i => match M.blk i with
    | some (.word _) => (⟨none, 0, false, 0⟩, M.tick.upd i { M.cel i with v := some (.word n) })
    | _ => (⟨none, 0, false, 6⟩, M.tick)
def Mem.opSwap (M : Mem) (h old n : Int) : Ans × Mem :=
  match M.find h with
  | none => (⟨none, 0, false, 5⟩, M.miss)
  | some i => match M.blk i with
    | some (.word x) => if x = old then (⟨none, 0, true, 0⟩, M.tick.upd i { M.cel i with v := some (.word n) }) else (⟨none, 0, false, 0⟩, M.tick)
    | _ => (⟨none, 0, false, 6⟩, M.tick)
theorem opStore_none {M : Mem} {h n : Int} (hf : M.find h = none) : M.opStore h n = (⟨none, 0, false, 5⟩, M.miss) := by simp [Mem.opStore, hf]
theorem opStore_kind {M : Mem} {h n : Int} {i : Nat} (hf : M.find h = some i) (hb : ∀ n, M.blk i ≠ some (.word n)) : M.opStore h n = (⟨none, 0, false, 6⟩, M.tick) := by
  rcases hq : M.blk i with _ | (n | d | a | n) <;> first | exact absurd hq (hb n) | simp [Mem.opStore, hf, hq]
theorem opStore_some {M : Mem} {h n x : Int} {i : Nat} (hf : M.find h = some i) (hb : M.blk i = some (.word x)) : M.opStore h n = (⟨none, 0, false, 0⟩, M.tick.upd i { M.cel i with v := some (.word n) }) := by simp [Mem.opStore, hf, hb]
theorem opSwap_none {M : Mem} {h o n : Int} (hf : M.find h = none) : M.opSwap h o n = (⟨none, 0, false, 5⟩, M.miss) := by simp [Mem.opSwap, hf]
theorem opSwap_kind {M : Mem} {h o n : Int} {i : Nat} (hf : M.find h = some i) (hb : ∀ n, M.blk i ≠ some (.word n)) : M.opSwap h o n = (⟨none, 0, false, 6⟩, M.tick) := by
  rcases hq : M.blk i with _ | (n | d | a | n) <;> first | exact absurd hq (hb n) | simp [Mem.opSwap, hf, hq]
theorem opSwap_other {M : Mem} {h o n x : Int} {i : Nat} (hf : M.find h = some i) (hb : M.blk i = some (.word x)) (hx : x ≠ o) : M.opSwap h o n = (⟨none, 0, false, 0⟩, M.tick) := by simp [Mem.opSwap, hf, hb, hx]
theorem opSwap_some {M : Mem} {h n x : Int} {i : Nat} (hf : M.find h = some i) (hb : M.blk i = some (.word x)) : M.opSwap h x n = (⟨none, 0, true, 0⟩, M.tick.upd i { M.cel i with v := some (.word n) }) := by simp [Mem.opSwap, hf, hb]

theorem mem_Store (w : World) (m cb : Nat) (I : IHeap) (M : Mem) (h n : Int) (hM : MemAt w m cb I M) :
    Calls Tryz.prog 176 #[.pointer (some ⟨m, 0, none⟩), .int .i64 h, .int .i64 n] w (MPost w m cb I (M.opStore h n).2 (.int .i64 (M.opStore h n).1.e)) := by
  go_enter Tryz.func176, Tryz.ntmps176
  go_wp2_with fail
  rcases word_cases M h with hf | ⟨i, hf, hb⟩ | ⟨i, x, hf, hb⟩
  · have E := Lib.hid (opStore_none (n := n) hf)
    refine (mem_word_none w m cb I M h hM hf).mono ?_
    rintro e w1 ⟨rfl, hM1, hk⟩
    have H1 := Lib.hid hM1
    have H2 := Lib.hid hk
    clear hM1 hk hM hf
    go_wp2
    go_ret
    rw [E.out]
    exact ⟨rfl, H1.out, H2.out⟩
  · have E := Lib.hid (opStore_kind (n := n) hf hb)
    refine (mem_word_kind w m cb I M h hM i hf hb).mono ?_
    rintro e w1 ⟨rfl, hM1, hk⟩
    have H1 := Lib.hid hM1
    have H2 := Lib.hid hk
    clear hM1 hk hM hf hb
    go_wp2
    go_ret
    rw [E.out]
    exact ⟨rfl, H1.out, H2.out⟩
  · have E := Lib.hid (opStore_some (n := n) hf hb)
    obtain ⟨_, c, hc, _, _⟩ := find_some hf
    have ec := Lib.hid (cel_of hc)
    refine (mem_word_some w m cb I M h hM i hf x hb).mono ?_
    rintro e w1 ⟨rfl, hM1, hk⟩
    obtain ⟨b, hb1, d0, d1, d2, d3⟩ := mem_cel hM1 (show M.tick.cells[i]? = some c from hc)
    have hfr := mem_cfree hM1 (i * 4)
    have H1 := Lib.hid (hM1.setWord (show M.tick.cells[i]? = some c from hc) n)
    have H2 := Lib.hid hk
    clear hM1 hk hM hf hb hc hb1 d1 d2 d3
    go_wp2
    go_ret
    rw [E.out, ec.out]
    exact ⟨rfl, H1.out, H2.out.trans (MPost.kept2 _ _)⟩
theorem mem_Swap (w : World) (m cb : Nat) (I : IHeap) (M : Mem) (h o n : Int) (hM : MemAt w m cb I M) :
    Calls Tryz.prog 191 #[.pointer (some ⟨m, 0, none⟩), .int .i64 h, .int .i64 o, .int .i64 n] w (MPost w m cb I (M.opSwap h o n).2 (.tuple #[.bool (M.opSwap h o n).1.ok, .int .i64 (M.opSwap h o n).1.e])) := by
  go_enter Tryz.func191, Tryz.ntmps191
  go_wp2_with fail
  rcases word_cases M h with hf | ⟨i, hf, hb⟩ | ⟨i, x, hf, hb⟩
  · have E := Lib.hid (opSwap_none (o := o) (n := n) hf)
    refine (mem_word_none w m cb I M h hM hf).mono ?_
    rintro e w1 ⟨rfl, hM1, hk⟩
    have H1 := Lib.hid hM1
    have H2 := Lib.hid hk
    clear hM1 hk hM hf
    go_wp2
    go_ret2
    rw [E.out]
    exact ⟨rfl, H1.out, H2.out⟩
  · have E := Lib.hid (opSwap_kind (o := o) (n := n) hf hb)
    refine (mem_word_kind w m cb I M h hM i hf hb).mono ?_
    rintro e w1 ⟨rfl, hM1, hk⟩
    have H1 := Lib.hid hM1
    have H2 := Lib.hid hk
    clear hM1 hk hM hf hb
    go_wp2
    go_ret2
    rw [E.out]
    exact ⟨rfl, H1.out, H2.out⟩
  · obtain ⟨_, c, hc, _, _⟩ := find_some hf
    have ec := Lib.hid (cel_of hc)
    refine (mem_word_some w m cb I M h hM i hf x hb).mono ?_
    rintro e w1 ⟨rfl, hM1, hk⟩
    have H2 := Lib.hid hk
    by_cases hx : x = o
    · subst hx
      have E := Lib.hid (opSwap_some (n := n) hf hb)
      obtain ⟨b, hb1, d0, d1, d2, d3⟩ := mem_cel hM1 (show M.tick.cells[i]? = some c from hc)
      have hfr := mem_cfree hM1 (i * 4)
      have H1 := Lib.hid (hM1.setWord (show M.tick.cells[i]? = some c from hc) n)
      clear hM1 hk hM hf hb hc hb1 d1 d2 d3
      go_wp2
      go_ret2
      rw [E.out, ec.out]
      exact ⟨rfl, H1.out, H2.out.trans (MPost.kept2 _ _)⟩
    · have E := Lib.hid (opSwap_other (n := n) hf hb hx)
      have hx' : (x != o) = true := by simpa using hx
      have H1 := Lib.hid hM1
      clear hM1 hk hM hf hb hc hx
      go_wp2
      go_ret2
      rw [E.out]
      exact ⟨rfl, H1.out, H2.out⟩
end Go.Proofs.YtadaiihoclknmaaGreat
