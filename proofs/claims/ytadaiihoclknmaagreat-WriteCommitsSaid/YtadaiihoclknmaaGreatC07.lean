/- Part 7 of the proof: Own, Pure, Iter. -/
import Derived.Test.YtadaiihoclknmaaGreatC06
import Derived.Deep.LoopGhost
import Derived.RangeFuncNested
import Derived.RangeFuncBound
import Derived.RangeFuncCalls
import Derived.RangeFuncLeaves
import Derived.Shelf.Abstract
import Derived.Shelf.RegionOpen
import Derived.OwnWalkIn
import Derived.TacticsInMore
import Derived.LoopNIn
import Derived.LoopIn
/- Rows of a call's own, behind calls at a port; what is put behind them. -/
namespace Go.Proofs.YtadaiihoclknmaaGreat
open Go.RowKit
set_option maxRecDepth 100000
set_option linter.unusedVariables false
set_option linter.unusedSimpArgs false

/-- A row of the call's own. -/
structure OR (w : World) (J : IHeap) (W : World) (E : TypeId) (sz : Nat) (v : Value) (n : Nat) (xs : List Value) : Prop where
  own : W.ownsRow w.heap.size E sz v n xs
  ty : mutT E = false
  no : ∀ k, v.ownBlock = some k → J k = none
abbrev OL {α : Type} (w : World) (J : IHeap) (W : World) (E : TypeId) (sz : Nat) (enc : α → List Value) (v : Value) (l : List α) : Prop := OR w J W E sz v l.length (l.flatMap enc)
theorem OR.nil (w : World) (J : IHeap) (W : World) (E : TypeId) (sz : Nat) (h : mutT E = false) : OR w J W E sz (.slice none 0 0) 0 [] := ⟨World.ownsRow_nil _ _ _ _, h, fun k e => by simp [Value.ownBlock] at e⟩
theorem OL.nil {α : Type} (w : World) (J : IHeap) (W : World) (E : TypeId) (sz : Nat) (enc : α → List Value) (h : mutT E = false) : OL w J W E sz enc (.slice none 0 0) [] := OR.nil w J W E sz h
theorem OR.blk {w : World} {J : IHeap} {W : World} {E : TypeId} {sz : Nat} {v : Value} {n : Nat} {xs : List Value} (h : OR w J W E sz v n xs) {k : Nat} (hk : v.ownBlock = some k) : ∃ cs, W.heap[k]? = some (.cells cs E (0, 0)) ∧ w.heap.size ≤ k := by
  rcases h.own.2 with ⟨rfl, _⟩ | ⟨g, cap, cur, rfl, hb, hh, _⟩
  · simp [Value.ownBlock] at hk
  · simp [Value.ownBlock] at hk; subst hk; exact ⟨cur, hh, hb⟩
/-- It lies there still when its block does. -/
theorem OR.kept {w W W1 : World} {J K : IHeap} {E : TypeId} {sz : Nat} {v : Value} {n : Nat} {xs : List Value} (h : OR w J W E sz v n xs)
    (hk : ∀ k cs, v.ownBlock = some k → w.heap.size ≤ k → W.heap[k]? = some (.cells cs E (0, 0)) → J k = none → W1.heap[k]? = some (.cells cs E (0, 0)) ∧ K k = none) : OR w K W1 E sz v n xs := by
  obtain ⟨⟨h1, h2⟩, h3, h4⟩ := h
  rcases h2 with h2 | ⟨g, cap, cur, rfl, hb, hh, hr⟩
  · refine ⟨⟨h1, .inl h2⟩, h3, fun k e => ?_⟩
    rw [h2.1] at e; simp [Value.ownBlock] at e
  · have e := hk g cur (by simp [Value.ownBlock]) hb hh (h4 g (by simp [Value.ownBlock]))
    refine ⟨⟨h1, .inr ⟨g, cap, cur, rfl, hb, e.1, hr⟩⟩, h3, fun k ek => ?_⟩
    simp [Value.ownBlock] at ek; subst ek; exact e.2
theorem OR.call {w W W1 : World} {L : Loc} {I J K : IHeap} {s : PS} {E : TypeId} {sz : Nat} {v : Value} {n : Nat} {xs : List Value} (h : Mg w L I J s W) (hk : Keeps L W W1) (hg : Grow J W K) (ho : OR w J W E sz v n xs) : OR w K W1 E sz v n xs :=
  ho.kept fun k cs _ _ hh hn => ⟨h.obj hk hh ho.ty, hg.none hn (lt_of_block hh)⟩
theorem OR.new {w W W1 : World} {J : IHeap} {E : TypeId} {sz : Nat} {v : Value} {n : Nat} {xs : List Value} (ho : OR w J W E sz v n xs) (hk : New W W1) : OR w J W1 E sz v n xs := ho.kept fun k cs _ _ hh hn => ⟨hk.obj hh, hn⟩
theorem OR.alloc {w W : World} {J : IHeap} {E : TypeId} {sz : Nat} {v : Value} {n : Nat} {xs : List Value} (ho : OR w J W E sz v n xs) (o : Obj) : OR w J (W.alloc o) E sz v n xs := ho.new ((Kept.refl _ _).alloc o)
theorem OR.drew {w W : World} {J : IHeap} {E : TypeId} {sz : Nat} {v : Value} {n : Nat} {xs : List Value} (ho : OR w J W E sz v n xs) : OR w J W.drew E sz v n xs := ho.new ((Kept.refl _ _).drew)
theorem OR.drewN {w W : World} {J : IHeap} {E : TypeId} {sz : Nat} {v : Value} {n : Nat} {xs : List Value} (ho : OR w J W E sz v n xs) (m : Nat) : OR w J (W.drewN m) E sz v n xs := ho.new ((Kept.refl _ _).drewN m)
theorem OR.thru {w W0 W W1 : World} {L : Loc} {I J K : IHeap} {s : PS} {E : TypeId} {sz : Nat} {v : Value} {n : Nat} {xs : List Value} (ho : OR w J W0 E sz v n xs) (h : Mg w L I J s W) (hk : Keeps L W W1) (hg : Grow J W K) (hw : OR w J W0 E sz v n xs → OR w J W E sz v n xs) : OR w K W1 E sz v n xs := OR.call h hk hg (hw ho)
/-- A cell of a block of another type is written. -/
theorem OR.far {w W : World} {J : IHeap} {E : TypeId} {sz : Nat} {v : Value} {n : Nat} {xs : List Value} (ho : OR w J W E sz v n xs) {b : Nat} {cs : Array Value} {t : TypeId} {fr : Nat × Nat} (hb : W.heap[b]? = some (.cells cs t fr)) (hne : E ≠ t) (j : Nat) (u : Value) : OR w J (W.setCell ⟨b, j, none⟩ u) E sz v n xs :=
  ho.kept fun k cs' _ _ hh hn => ⟨set_far hh (fun e => by
    simp only at e
    rw [e, hb] at hh
    injection hh with hh
    injection hh with _ hh
    exact hne hh.symm) u, hn⟩
theorem OB.app {w W W1 : World} {J : IHeap} {b : Nat} {cs : Array Value} {t : TypeId} (ho : OB w J W b cs t) {E : TypeId} {sz : Nat} {v : Value} {n : Nat} {xs : List Value} (hr : OR w J W E sz v n xs) (hne : E ≠ t) (hg : W.grownBy W1 v.ownBlock) : OB w J W1 b cs t := by
  refine ⟨(hg.block b (lt_of_block ho.at_) (fun e => ?_)).trans ho.at_, ho.ty, ho.ge, ho.no⟩
  obtain ⟨cs', hh, _⟩ := hr.blk e.symm
  rw [ho.at_] at hh
  injection hh with hh
  injection hh with _ hh
  exact hne hh.symm
theorem OR.app {w W W1 : World} {J : IHeap} {E' : TypeId} {sz' : Nat} {v' : Value} {n' : Nat} {xs' : List Value} (ho : OR w J W E' sz' v' n' xs') {E : TypeId} {sz : Nat} {v : Value} {n : Nat} {xs : List Value} (hr : OR w J W E sz v n xs) (hne : E ≠ E') (hg : W.grownBy W1 v.ownBlock) : OR w J W1 E' sz' v' n' xs' :=
  ho.kept fun k cs _ _ hh hn => ⟨(hg.block k (lt_of_block hh) (fun e => by
    obtain ⟨cs', hq, _⟩ := hr.blk e.symm
    rw [hh] at hq
    injection hq with hq
    injection hq with _ hq
    exact hne hq.symm)).trans hh, hn⟩
/-- A row that is complete is written no more. -/
theorem OR.row {w W : World} {L : Loc} {I J : IHeap} {s : PS} {E : TypeId} {sz : Nat} {v : Value} {n : Nat} {xs : List Value} (ho : OR w J W E sz v n xs) (h : Mg w L I J s W) :
    ∃ K, Mg w L I K s W ∧ ILe J K ∧ Row K E sz v n xs ∧ (∀ k, K k ≠ none → J k ≠ none ∨ some k = v.ownBlock) := h.row ho.own ho.ty (Nat.le_refl _)
theorem no_of {J K : IHeap} {v : Value} (h : ∀ k, K k ≠ none → J k ≠ none ∨ some k = v.ownBlock) {k : Nat} (hJ : J k = none) (hk : some k ≠ v.ownBlock) : K k = none := by
  cases e : K k with
  | none => rfl
  | some o =>
    rcases h k (by rw [e]; simp) with h1 | h1
    · exact absurd hJ h1
    · exact absurd h1 hk
/-- A block of another type than the row's is the call's own still. -/
theorem OB.row {w W : World} {J K : IHeap} {b : Nat} {cs : Array Value} {t : TypeId} (ho : OB w J W b cs t) {E : TypeId} {sz : Nat} {v : Value} {n : Nat} {xs : List Value} (hr : OR w J W E sz v n xs) (hne : E ≠ t) (h : ∀ k, K k ≠ none → J k ≠ none ∨ some k = v.ownBlock) : OB w K W b cs t :=
  ho.mono (no_of h ho.no fun e => by
    obtain ⟨cs', hh, _⟩ := hr.blk e.symm
    rw [ho.at_] at hh
    injection hh with hh
    injection hh with _ hh
    exact hne hh.symm)
theorem OR.rowOf {w W : World} {J K : IHeap} {E' : TypeId} {sz' : Nat} {v' : Value} {n' : Nat} {xs' : List Value} (ho : OR w J W E' sz' v' n' xs') {E : TypeId} {sz : Nat} {v : Value} {n : Nat} {xs : List Value} (hr : OR w J W E sz v n xs) (hne : E ≠ E') (h : ∀ k, K k ≠ none → J k ≠ none ∨ some k = v.ownBlock) : OR w K W E' sz' v' n' xs' :=
  ho.kept fun k cs _ _ hh hn => ⟨hh, no_of h hn fun e => by
    obtain ⟨cs', hq, _⟩ := hr.blk e.symm
    rw [hh] at hq
    injection hq with hq
    injection hq with _ hq
    exact hne hq.symm⟩
theorem Mg.app {w W W1 : World} {L : Loc} {I J : IHeap} {s : PS} (h : Mg w L I J s W) {E : TypeId} {sz : Nat} {v : Value} {n : Nat} {xs : List Value} (hr : OR w J W E sz v n xs) (hg : W.grownBy W1 v.ownBlock) : Mg w L I J s W1 :=
  h.grown hr.own hr.ty (Nat.le_refl _) hr.no hg

section
variable {ops : Array Oper} {rest : List Oper} {o : Oper} {a : Act} {Q : Exit → Act → World → Prop}
theorem wp_app {w W : World} {L : Loc} {I J : IHeap} {st : PS} (hg : o.guard = none) (s x : Operand) (t e : TypeId) (z : Value) (size bytes : Nat)
    (ho : o.op = .call { callee := .builtin .append, args := #[s, x], argTypes := #[t, t] })
    (ht : Tryz.prog.underlying t = some (.slice e)) (hinfo : (Tryz.prog.info? e).map (fun i => (i.zero, i.size, i.bytes)) = some (some z, size, bytes)) (hz : z.cells.size = size) (hs0 : 0 < size) (hb0 : 0 < bytes)
    (v : Value) (n m c : Nat) (ad : Addr) (xs ys : List Value) (hs : a.eval s = v) (hx : a.eval x = .slice (some ad) m c) (hys : ys.length = m * size) (hnews : ∀ j u, ys[j]? = some u → W.cell? (ad.add j) = some u) (h1 : ∀ u ∈ ys, u.oneCell' = true)
    (HO : OR w J W e size v n xs) (HM : Mg w L I J st W) (hl : (n + m) * bytes ≤ 140737488355328)
    (h : ∀ v1 W1, OR w J W1 e size v1 (n + m) (xs ++ ys) → Mg w L I J st W1 → W.grownBy W1 v.ownBlock → wpList Tryz.prog ops Q rest (a.put o.dst v1) W1) :
    wpList Tryz.prog ops Q (o :: rest) a W := by
  obtain ⟨i0, hi, hzz⟩ := Option.map_eq_some_iff.1 hinfo
  simp only [Prod.mk.injEq] at hzz
  obtain ⟨hz0, hz1, hz2⟩ := hzz
  have hlen : n + m ≤ 140737488355328 := Nat.le_trans (Nat.le_mul_of_pos_right _ hb0) hl
  refine wpList_append_own_at (P := Tryz.prog) W hg s x t ho w.heap.size e i0 z size bytes ht hi hz0 hz1 hz2 hz hs0 v n xs hs HO.own ad m c ys hx hys hnews h1 (by simp only [maxLen]; omega) hl HM.size ?_
  intro v1 W1 hown hgr _ hat
  refine h v1 W1 ⟨hown, HO.ty, fun k hk => ?_⟩ (HM.app HO hgr) hgr
  rcases hat with hat | hat
  · exact HO.no k (hat ▸ hk)
  · rw [hat] at hk; injection hk with hk; subst hk; exact HM.none
/-- One element more, from a block that has just been made. -/
theorem wp_app1 {α : Type} {w W : World} {L : Loc} {I J : IHeap} {st : PS} (hg : o.guard = none) (s x : Operand) (t e : TypeId) (z : Value) (size bytes : Nat)
    (ho : o.op = .call { callee := .builtin .append, args := #[s, x], argTypes := #[t, t] })
    (ht : Tryz.prog.underlying t = some (.slice e)) (hinfo : (Tryz.prog.info? e).map (fun i => (i.zero, i.size, i.bytes)) = some (some z, size, bytes)) (hz : z.cells.size = size) (hs0 : 0 < size) (hb0 : 0 < bytes)
    (enc : α → List Value) (v : Value) (l : List α) (y : α) (b c : Nat) (cs : Array Value) (tb : TypeId) (fr : Nat × Nat) (hs : a.eval s = v) (hx : a.eval x = .slice (some ⟨b, 0, none⟩) 1 c) (hb : W.heap[b]? = some (.cells cs tb fr)) (hcs : cs = (enc y).toArray) (hys : (enc y).length = size) (h1 : ∀ u ∈ enc y, u.oneCell' = true)
    (HO : OL w J W e size enc v l) (HM : Mg w L I J st W) (hl : (l.length + 1) * bytes ≤ 140737488355328)
    (h : ∀ v1 W1, OL w J W1 e size enc v1 (l ++ [y]) → Mg w L I J st W1 → W.grownBy W1 v.ownBlock → wpList Tryz.prog ops Q rest (a.put o.dst v1) W1) :
    wpList Tryz.prog ops Q (o :: rest) a W := by
  subst hcs
  refine wp_app hg s x t e z size bytes ho ht hinfo hz hs0 hb0 v l.length 1 c ⟨b, 0, none⟩ (l.flatMap enc) (enc y) hs hx (by simpa using hys) (news_blk hb) h1 HO HM hl ?_
  intro v1 W1 h1 h2 h3
  exact h v1 W1 (by unfold OL; simpa using h1) h2 h3
end
theorem info_int : (Tryz.prog.info? 3).map (fun i => (i.zero, i.size, i.bytes)) = some (some (.int .i64 0), 1, 8) := by kernel_rfl
theorem wp_app_int {ops : Array Oper} {rest : List Oper} {o : Oper} {a : Act} {Q : Exit → Act → World → Prop} {w W : World} {L : Loc} {I J : IHeap} {st : PS} (hg : o.guard = none) (s x : Operand)
    (ho : o.op = .call { callee := .builtin .append, args := #[s, x], argTypes := #[23, 23] })
    (v : Value) (l : List Int) (y : Int) (b c : Nat) (cs : Array Value) (tb : TypeId) (fr : Nat × Nat) (hs : a.eval s = v) (hx : a.eval x = .slice (some ⟨b, 0, none⟩) 1 c) (hb : W.heap[b]? = some (.cells cs tb fr)) (hcs : cs = (encInt y).toArray)
    (HO : OL w J W 3 1 encInt v l) (HM : Mg w L I J st W) (hl : (l.length + 1) * 8 ≤ 140737488355328)
    (h : ∀ v1 W1, OL w J W1 3 1 encInt v1 (l ++ [y]) → Mg w L I J st W1 → W.grownBy W1 v.ownBlock → wpList Tryz.prog ops Q rest (a.put o.dst v1) W1) :
    wpList Tryz.prog ops Q (o :: rest) a W :=
  wp_app1 hg s x 23 3 (.int .i64 0) 1 8 ho Tryz.underlying23 info_int rfl (by decide) (by decide) encInt v l y b c cs tb fr hs hx hb hcs rfl (by intro u hu; simp [encInt] at hu; first | (subst hu; rfl) | (rcases hu with rfl | rfl <;> rfl) | (rcases hu with rfl | rfl | rfl <;> rfl)) HO HM hl h
theorem info_str : (Tryz.prog.info? 9).map (fun i => (i.zero, i.size, i.bytes)) = some (some (.string ⟨#[]⟩), 1, 16) := by kernel_rfl
theorem wp_app_str {ops : Array Oper} {rest : List Oper} {o : Oper} {a : Act} {Q : Exit → Act → World → Prop} {w W : World} {L : Loc} {I J : IHeap} {st : PS} (hg : o.guard = none) (s x : Operand)
    (ho : o.op = .call { callee := .builtin .append, args := #[s, x], argTypes := #[76, 76] })
    (v : Value) (l : List ByteArray) (y : ByteArray) (b c : Nat) (cs : Array Value) (tb : TypeId) (fr : Nat × Nat) (hs : a.eval s = v) (hx : a.eval x = .slice (some ⟨b, 0, none⟩) 1 c) (hb : W.heap[b]? = some (.cells cs tb fr)) (hcs : cs = (encStr y).toArray)
    (HO : OL w J W 9 1 encStr v l) (HM : Mg w L I J st W) (hl : (l.length + 1) * 16 ≤ 140737488355328)
    (h : ∀ v1 W1, OL w J W1 9 1 encStr v1 (l ++ [y]) → Mg w L I J st W1 → W.grownBy W1 v.ownBlock → wpList Tryz.prog ops Q rest (a.put o.dst v1) W1) :
    wpList Tryz.prog ops Q (o :: rest) a W :=
  wp_app1 hg s x 76 9 (.string ⟨#[]⟩) 1 16 ho Tryz.underlying76 info_str rfl (by decide) (by decide) encStr v l y b c cs tb fr hs hx hb hcs rfl (by intro u hu; simp [encStr] at hu; first | (subst hu; rfl) | (rcases hu with rfl | rfl <;> rfl) | (rcases hu with rfl | rfl | rfl <;> rfl)) HO HM hl h
theorem info_swap : (Tryz.prog.info? 44).map (fun i => (i.zero, i.size, i.bytes)) = some (some (.agg #[.int .i64 0, .int .i64 0, .int .i64 0]), 3, 24) := by kernel_rfl
theorem wp_app_swap {ops : Array Oper} {rest : List Oper} {o : Oper} {a : Act} {Q : Exit → Act → World → Prop} {w W : World} {L : Loc} {I J : IHeap} {st : PS} (hg : o.guard = none) (s x : Operand)
    (ho : o.op = .call { callee := .builtin .append, args := #[s, x], argTypes := #[40, 40] })
    (v : Value) (l : List Swap) (y : Swap) (b c : Nat) (cs : Array Value) (tb : TypeId) (fr : Nat × Nat) (hs : a.eval s = v) (hx : a.eval x = .slice (some ⟨b, 0, none⟩) 1 c) (hb : W.heap[b]? = some (.cells cs tb fr)) (hcs : cs = (encSwap y).toArray)
    (HO : OL w J W 44 3 encSwap v l) (HM : Mg w L I J st W) (hl : (l.length + 1) * 24 ≤ 140737488355328)
    (h : ∀ v1 W1, OL w J W1 44 3 encSwap v1 (l ++ [y]) → Mg w L I J st W1 → W.grownBy W1 v.ownBlock → wpList Tryz.prog ops Q rest (a.put o.dst v1) W1) :
    wpList Tryz.prog ops Q (o :: rest) a W :=
  wp_app1 hg s x 40 44 (.agg #[.int .i64 0, .int .i64 0, .int .i64 0]) 3 24 ho Tryz.underlying40 info_swap rfl (by decide) (by decide) encSwap v l y b c cs tb fr hs hx hb hcs rfl (by intro u hu; simp [encSwap] at hu; first | (subst hu; rfl) | (rcases hu with rfl | rfl <;> rfl) | (rcases hu with rfl | rfl | rfl <;> rfl)) HO HM hl h
theorem info_pair : (Tryz.prog.info? 74).map (fun i => (i.zero, i.size, i.bytes)) = some (some (.agg #[.string ⟨#[]⟩, .string ⟨#[]⟩]), 2, 32) := by kernel_rfl
theorem wp_app_pair {ops : Array Oper} {rest : List Oper} {o : Oper} {a : Act} {Q : Exit → Act → World → Prop} {w W : World} {L : Loc} {I J : IHeap} {st : PS} (hg : o.guard = none) (s x : Operand)
    (ho : o.op = .call { callee := .builtin .append, args := #[s, x], argTypes := #[63, 63] })
    (v : Value) (l : List Pair) (y : Pair) (b c : Nat) (cs : Array Value) (tb : TypeId) (fr : Nat × Nat) (hs : a.eval s = v) (hx : a.eval x = .slice (some ⟨b, 0, none⟩) 1 c) (hb : W.heap[b]? = some (.cells cs tb fr)) (hcs : cs = (encPair y).toArray)
    (HO : OL w J W 74 2 encPair v l) (HM : Mg w L I J st W) (hl : (l.length + 1) * 32 ≤ 140737488355328)
    (h : ∀ v1 W1, OL w J W1 74 2 encPair v1 (l ++ [y]) → Mg w L I J st W1 → W.grownBy W1 v.ownBlock → wpList Tryz.prog ops Q rest (a.put o.dst v1) W1) :
    wpList Tryz.prog ops Q (o :: rest) a W :=
  wp_app1 hg s x 63 74 (.agg #[.string ⟨#[]⟩, .string ⟨#[]⟩]) 2 32 ho Tryz.underlying63 info_pair rfl (by decide) (by decide) encPair v l y b c cs tb fr hs hx hb hcs rfl (by intro u hu; simp [encPair] at hu; first | (subst hu; rfl) | (rcases hu with rfl | rfl <;> rfl) | (rcases hu with rfl | rfl | rfl <;> rfl)) HO HM hl h
theorem info_span : (Tryz.prog.info? 71).map (fun i => (i.zero, i.size, i.bytes)) = some (some (.agg #[.string ⟨#[]⟩, .string ⟨#[]⟩, .bool false]), 3, 40) := by kernel_rfl
theorem wp_app_span {ops : Array Oper} {rest : List Oper} {o : Oper} {a : Act} {Q : Exit → Act → World → Prop} {w W : World} {L : Loc} {I J : IHeap} {st : PS} (hg : o.guard = none) (s x : Operand)
    (ho : o.op = .call { callee := .builtin .append, args := #[s, x], argTypes := #[125, 125] })
    (v : Value) (l : List Span) (y : Span) (b c : Nat) (cs : Array Value) (tb : TypeId) (fr : Nat × Nat) (hs : a.eval s = v) (hx : a.eval x = .slice (some ⟨b, 0, none⟩) 1 c) (hb : W.heap[b]? = some (.cells cs tb fr)) (hcs : cs = (encSpan y).toArray)
    (HO : OL w J W 71 3 encSpan v l) (HM : Mg w L I J st W) (hl : (l.length + 1) * 40 ≤ 140737488355328)
    (h : ∀ v1 W1, OL w J W1 71 3 encSpan v1 (l ++ [y]) → Mg w L I J st W1 → W.grownBy W1 v.ownBlock → wpList Tryz.prog ops Q rest (a.put o.dst v1) W1) :
    wpList Tryz.prog ops Q (o :: rest) a W :=
  wp_app1 hg s x 125 71 (.agg #[.string ⟨#[]⟩, .string ⟨#[]⟩, .bool false]) 3 40 ho Tryz.underlying125 info_span rfl (by decide) (by decide) encSpan v l y b c cs tb fr hs hx hb hcs rfl (by intro u hu; simp [encSpan] at hu; first | (subst hu; rfl) | (rcases hu with rfl | rfl <;> rfl) | (rcases hu with rfl | rfl | rfl <;> rfl)) HO HM hl h
end Go.Proofs.YtadaiihoclknmaaGreat
/- Functions that ask nothing: what they leave; rows of their own. -/
namespace Go.Proofs.YtadaiihoclknmaaGreat
open Go.RowKit
set_option maxRecDepth 100000
set_option linter.unusedVariables false
set_option linter.unusedSimpArgs false

structure Pg (w : World) (I J : IHeap) (W : World) : Prop where
  grow : Grow I w J
  kept : New w W
  held : Held J W
theorem Held.new {I : IHeap} {w w' : World} (h : Held I w) (hk : New w w') : Held I w' := h.kept hk (fun _ _ _ => id)
theorem Pg.start {w : World} {I : IHeap} (h : Held I w) : Pg w I I w := ⟨Grow.refl _ _, Kept.refl _ _, h⟩
theorem Pg.size {w W : World} {I J : IHeap} (h : Pg w I J W) : w.heap.size ≤ W.heap.size := h.kept.size
theorem Pg.new {w W W1 : World} {I J : IHeap} (h : Pg w I J W) (hk : New W W1) : Pg w I J W1 := ⟨h.grow, h.kept.trans hk, h.held.new hk⟩
theorem Pg.alloc {w W : World} {I J : IHeap} (h : Pg w I J W) (o : Obj) : Pg w I J (W.alloc o) := h.new ((Kept.refl _ _).alloc o)
theorem Pg.drew {w W : World} {I J : IHeap} (h : Pg w I J W) : Pg w I J W.drew := h.new ((Kept.refl _ _).drew)
theorem Pg.drewN {w W : World} {I J : IHeap} (h : Pg w I J W) (n : Nat) : Pg w I J (W.drewN n) := h.new ((Kept.refl _ _).drewN n)
theorem Pg.fresh {w W : World} {I J : IHeap} (h : Pg w I J W) : J W.heap.size = none := by
  cases e : J W.heap.size with
  | none => rfl
  | some o => exact absurd (h.held.lt e) (Nat.lt_irrefl _)
theorem Pg.own {w W W1 : World} {I J : IHeap} {S : Nat → Prop} (h : Pg w I J W) (hk : Kept S W W1) (hs : ∀ k, S k → w.heap.size ≤ k) (h2 : ∀ k, S k → J k = none) : Pg w I J W1 := by
  refine ⟨h.grow, ⟨hk.os.trans h.kept.os, hk.tape.trans h.kept.tape, hk.output.trans h.kept.output, Nat.le_trans h.size hk.size, fun k hl hn => ?_⟩, h.held.kept hk (fun k o hI y => by rw [h2 k y] at hI; cases hI)⟩
  exact (hk.block k (Nat.lt_of_lt_of_le hl h.size) (fun y => by have := hs k y; omega)).trans (h.kept.block k hl hn)
theorem Pg.seto {w W : World} {I J : IHeap} (h : Pg w I J W) {a : Addr} (ho : OwnOk w J W a.block) (u : Value) : Pg w I J (W.setCell a u) :=
  h.own (S := fun k => k = a.block) (Kept.setCell (S := fun k => k = a.block) (Kept.refl _ _) (fun _ => rfl) u) (fun k e => e ▸ ho.2.1) (fun k e => e ▸ ho.2.2)
theorem Pg.put {w W : World} {I J : IHeap} (h : Pg w I J W) {k : Nat} {o : Obj} (hk : W.heap[k]? = some o) (ho : immO o) (hw : w.heap.size ≤ k) : Pg w I (J.put k o) W ∧ ILe J (J.put k o) := by
  have hl := ILe.put h.held hk
  refine ⟨⟨⟨h.grow.le.trans hl, fun j hj => ?_⟩, h.kept, h.held.put hk ho⟩, hl⟩
  unfold IHeap.put at hj
  by_cases e : j = k
  · exact .inr (e ▸ hw)
  · rw [if_neg e] at hj; exact h.grow.new j hj
theorem Pg.row {w W : World} {I J : IHeap} (h : Pg w I J W) {base n sz : Nat} {E : TypeId} {v : Value} {xs : List Value} (hown : W.ownsRow base E sz v n xs) (ht : mutT E = false) (hb : w.heap.size ≤ base) :
    ∃ K, Pg w I K W ∧ ILe J K ∧ Row K E sz v n xs ∧ (∀ k, K k ≠ none → J k ≠ none ∨ some k = v.ownBlock) := by
  obtain ⟨h1, h2⟩ := hown
  rcases h2 with ⟨rfl, rfl⟩ | ⟨g, cap, cur, rfl, hg0, hg, hnc, hcm, hcs, htake⟩
  · exact ⟨J, h, ILe.refl _, ⟨h1, none, 0, rfl, Nat.le_refl _, Nat.zero_le _, fun _ => rfl, .inl rfl⟩, fun k hk => .inl hk⟩
  · obtain ⟨h3, h4⟩ := h.put hg (show immO (.cells cur E (0, 0)) from ht) (Nat.le_trans hb hg0)
    refine ⟨_, h3, h4, ⟨h1, some ⟨g, 0, none⟩, cap, rfl, hnc, hcm, (fun h => by cases h), .inr ⟨g, 0, cur, (0, 0), rfl, by simp [IHeap.put], by simpa using htake⟩⟩, fun k hk => ?_⟩
    unfold IHeap.put at hk
    by_cases e : k = g
    · exact .inr (by simp [Value.ownBlock, e])
    · rw [if_neg e] at hk; exact .inl hk
theorem OR.rowp {w W : World} {I J : IHeap} {E : TypeId} {sz : Nat} {v : Value} {n : Nat} {xs : List Value} (ho : OR w J W E sz v n xs) (h : Pg w I J W) :
    ∃ K, Pg w I K W ∧ ILe J K ∧ Row K E sz v n xs ∧ (∀ k, K k ≠ none → J k ≠ none ∨ some k = v.ownBlock) := h.row ho.own ho.ty (Nat.le_refl _)
theorem Pg.app {w W W1 : World} {I J : IHeap} (h : Pg w I J W) {E : TypeId} {sz : Nat} {v : Value} {n : Nat} {xs : List Value} (hr : OR w J W E sz v n xs) (hg : W.grownBy W1 v.ownBlock) : Pg w I J W1 :=
  h.own (S := fun k => v.ownBlock = some k) (Kept.grown (S := fun k => v.ownBlock = some k) (Kept.refl _ _) hg (fun k e _ => e)) (fun k e => (hr.own.lt k e).1) hr.no
theorem OB.freshp {w W : World} {I J : IHeap} (h : Pg w I J W) (cs : Array Value) (t : TypeId) (ht : mutT t = false) : OB w J (W.alloc (.cells cs t)) W.heap.size cs t := ⟨alloc_new W _, ht, h.size, h.fresh⟩
/-- What a function leaves that asks nothing. -/
def PPost (w : World) (I : IHeap) (R : IHeap → Value → Prop) (e : Ending) (W' : World) : Prop := ∃ J v, e = .returned v ∧ Pg w I J W' ∧ R J v
theorem Pg.post {w W : World} {I J : IHeap} (h : Pg w I J W) {R : IHeap → Value → Prop} {v : Value} (hR : R J v) : PPost w I R (.returned v) W := ⟨J, v, rfl, h, hR⟩
theorem Pg.trans {w W W1 : World} {I J K : IHeap} (h : Pg w I J W) (k : Pg W J K W1) : Pg w I K W1 := ⟨h.grow.trans k.grow h.size, h.kept.trans k.kept, k.held⟩
theorem Mg.pure {w W W1 : World} {L : Loc} {I J K : IHeap} {s : PS} (h : Mg w L I J s W) (k : Pg W J K W1) : Mg w L I K s W1 :=
  ⟨h.grow.trans k.grow h.size, h.keeps.trans (Keeps.new h.st k.kept), (h.st.new k.kept).mono k.grow.le k.held⟩
theorem OB.pure {w W W1 : World} {J K : IHeap} {b : Nat} {cs : Array Value} {t : TypeId} (ho : OB w J W b cs t) {I : IHeap} (k : Pg W I K W1) (hI : I = J) : OB w K W1 b cs t := by
  subst hI; exact ⟨k.kept.obj ho.at_, ho.ty, ho.ge, k.grow.none ho.no (lt_of_block ho.at_)⟩
theorem OR.pure {w W W1 : World} {J K : IHeap} {E : TypeId} {sz : Nat} {v : Value} {n : Nat} {xs : List Value} (ho : OR w J W E sz v n xs) (k : Pg W J K W1) : OR w K W1 E sz v n xs :=
  ho.kept fun j cs _ _ hh hn => ⟨k.kept.obj hh, k.grow.none hn (lt_of_block hh)⟩
theorem PPost.mono {w W : World} {I : IHeap} {R R' : IHeap → Value → Prop} {e : Ending} (h : PPost w I R e W) (hr : ∀ J v, R J v → R' J v) : PPost w I R' e W := by
  obtain ⟨J, v, h1, h2, h3⟩ := h; exact ⟨J, v, h1, h2, hr _ _ h3⟩
/-- A row grows; another one lies elsewhere. -/
theorem OR.app2 {w W W1 : World} {J : IHeap} {E' : TypeId} {sz' : Nat} {v' : Value} {n' : Nat} {xs' : List Value} (ho : OR w J W E' sz' v' n' xs') {r : Option Nat} (hne : ∀ k, v'.ownBlock = some k → r ≠ some k) (hg : W.grownBy W1 r) : OR w J W1 E' sz' v' n' xs' :=
  ho.kept fun k cs hk _ hh hn => ⟨(hg.block k (lt_of_block hh) (fun e => hne k hk e.symm)).trans hh, hn⟩
theorem OR.rowOf2 {w W : World} {J K : IHeap} {E' : TypeId} {sz' : Nat} {v' : Value} {n' : Nat} {xs' : List Value} (ho : OR w J W E' sz' v' n' xs') {r : Option Nat} (hne : ∀ k, v'.ownBlock = some k → r ≠ some k) (h : ∀ k, K k ≠ none → J k ≠ none ∨ some k = r) : OR w K W E' sz' v' n' xs' :=
  ho.kept fun k cs hk _ hh hn => ⟨hh, by
    cases e : K k with
    | none => rfl
    | some o =>
      rcases h k (by rw [e]; simp) with h1 | h1
      · exact absurd hn h1
      · exact absurd h1.symm (hne k hk)⟩
section
variable {ops : Array Oper} {rest : List Oper} {o : Oper} {a : Act} {Q : Exit → Act → World → Prop}
theorem wp_app0 {w W : World} {I J : IHeap} (hg : o.guard = none) (s x : Operand) (t e : TypeId) (z : Value) (size bytes : Nat)
    (ho : o.op = .call { callee := .builtin .append, args := #[s, x], argTypes := #[t, t] })
    (ht : Tryz.prog.underlying t = some (.slice e)) (hinfo : (Tryz.prog.info? e).map (fun i => (i.zero, i.size, i.bytes)) = some (some z, size, bytes)) (hz : z.cells.size = size) (hs0 : 0 < size) (hb0 : 0 < bytes)
    (v : Value) (n m c : Nat) (ad : Addr) (xs ys : List Value) (hs : a.eval s = v) (hx : a.eval x = .slice (some ad) m c) (hys : ys.length = m * size) (hnews : ∀ j u, ys[j]? = some u → W.cell? (ad.add j) = some u) (h1 : ∀ u ∈ ys, u.oneCell' = true)
    (HO : OR w J W e size v n xs) (HM : Pg w I J W) (hl : (n + m) * bytes ≤ 140737488355328)
    (h : ∀ v1 W1, OR w J W1 e size v1 (n + m) (xs ++ ys) → Pg w I J W1 → W.grownBy W1 v.ownBlock → (v1.ownBlock = v.ownBlock ∨ v1.ownBlock = some W.heap.size) → wpList Tryz.prog ops Q rest (a.put o.dst v1) W1) :
    wpList Tryz.prog ops Q (o :: rest) a W := by
  obtain ⟨i0, hi, hzz⟩ := Option.map_eq_some_iff.1 hinfo
  simp only [Prod.mk.injEq] at hzz
  obtain ⟨hz0, hz1, hz2⟩ := hzz
  have hlen : n + m ≤ 140737488355328 := Nat.le_trans (Nat.le_mul_of_pos_right _ hb0) hl
  refine wpList_append_own_at (P := Tryz.prog) W hg s x t ho w.heap.size e i0 z size bytes ht hi hz0 hz1 hz2 hz hs0 v n xs hs HO.own ad m c ys hx hys hnews h1 (by simp only [maxLen]; omega) hl HM.size ?_
  intro v1 W1 hown hgr _ hat
  refine h v1 W1 ⟨hown, HO.ty, fun k hk => ?_⟩ (HM.app HO hgr) hgr hat
  rcases hat with hat | hat
  · exact HO.no k (hat ▸ hk)
  · rw [hat] at hk; injection hk with hk; subst hk; exact HM.fresh
theorem wp_app01 {α : Type} {w W : World} {I J : IHeap} (hg : o.guard = none) (s x : Operand) (t e : TypeId) (z : Value) (size bytes : Nat)
    (ho : o.op = .call { callee := .builtin .append, args := #[s, x], argTypes := #[t, t] })
    (ht : Tryz.prog.underlying t = some (.slice e)) (hinfo : (Tryz.prog.info? e).map (fun i => (i.zero, i.size, i.bytes)) = some (some z, size, bytes)) (hz : z.cells.size = size) (hs0 : 0 < size) (hb0 : 0 < bytes)
    (enc : α → List Value) (v : Value) (l : List α) (y : α) (b c : Nat) (cs : Array Value) (tb : TypeId) (fr : Nat × Nat) (hs : a.eval s = v) (hx : a.eval x = .slice (some ⟨b, 0, none⟩) 1 c) (hb : W.heap[b]? = some (.cells cs tb fr)) (hcs : cs = (enc y).toArray) (hys : (enc y).length = size) (h1 : ∀ u ∈ enc y, u.oneCell' = true)
    (HO : OL w J W e size enc v l) (HM : Pg w I J W) (hl : (l.length + 1) * bytes ≤ 140737488355328)
    (h : ∀ v1 W1, OL w J W1 e size enc v1 (l ++ [y]) → Pg w I J W1 → W.grownBy W1 v.ownBlock → (v1.ownBlock = v.ownBlock ∨ v1.ownBlock = some W.heap.size) → wpList Tryz.prog ops Q rest (a.put o.dst v1) W1) :
    wpList Tryz.prog ops Q (o :: rest) a W := by
  subst hcs
  refine wp_app0 hg s x t e z size bytes ho ht hinfo hz hs0 hb0 v l.length 1 c ⟨b, 0, none⟩ (l.flatMap enc) (enc y) hs hx (by simpa using hys) (news_blk hb) h1 HO HM hl ?_
  intro v1 W1 h1 h2 h3 h4
  exact h v1 W1 (by unfold OL; simpa using h1) h2 h3 h4
end
theorem info_bool : (Tryz.prog.info? 4).map (fun i => (i.zero, i.size, i.bytes)) = some (some (.bool false), 1, 1) := by kernel_rfl
theorem info_entry : (Tryz.prog.info? 62).map (fun i => (i.zero, i.size, i.bytes)) = some (some (.agg #[.string ⟨#[]⟩, .string ⟨#[]⟩, .bool false]), 3, 40) := by kernel_rfl
theorem wp_pp_str {ops : Array Oper} {rest : List Oper} {o : Oper} {a : Act} {Q : Exit → Act → World → Prop} {w W : World} {I J : IHeap} (hg : o.guard = none) (s x : Operand)
    (ho : o.op = .call { callee := .builtin .append, args := #[s, x], argTypes := #[76, 76] })
    (v : Value) (l : List ByteArray) (y : ByteArray) (b c : Nat) (cs : Array Value) (tb : TypeId) (fr : Nat × Nat) (hs : a.eval s = v) (hx : a.eval x = .slice (some ⟨b, 0, none⟩) 1 c) (hb : W.heap[b]? = some (.cells cs tb fr)) (hcs : cs = (encStr y).toArray)
    (HO : OL w J W 9 1 encStr v l) (HM : Pg w I J W) (hl : (l.length + 1) * 16 ≤ 140737488355328)
    (h : ∀ v1 W1, OL w J W1 9 1 encStr v1 (l ++ [y]) → Pg w I J W1 → W.grownBy W1 v.ownBlock → (v1.ownBlock = v.ownBlock ∨ v1.ownBlock = some W.heap.size) → wpList Tryz.prog ops Q rest (a.put o.dst v1) W1) :
    wpList Tryz.prog ops Q (o :: rest) a W :=
  wp_app01 hg s x 76 9 (.string ⟨#[]⟩) 1 16 ho Tryz.underlying76 info_str rfl (by decide) (by decide) encStr v l y b c cs tb fr hs hx hb hcs rfl (by intro u hu; simp [encStr] at hu; first | (subst hu; rfl) | (rcases hu with rfl | rfl <;> rfl) | (rcases hu with rfl | rfl | rfl <;> rfl)) HO HM hl h
theorem wp_pp_bool {ops : Array Oper} {rest : List Oper} {o : Oper} {a : Act} {Q : Exit → Act → World → Prop} {w W : World} {I J : IHeap} (hg : o.guard = none) (s x : Operand)
    (ho : o.op = .call { callee := .builtin .append, args := #[s, x], argTypes := #[90, 90] })
    (v : Value) (l : List Bool) (y : Bool) (b c : Nat) (cs : Array Value) (tb : TypeId) (fr : Nat × Nat) (hs : a.eval s = v) (hx : a.eval x = .slice (some ⟨b, 0, none⟩) 1 c) (hb : W.heap[b]? = some (.cells cs tb fr)) (hcs : cs = (encBool y).toArray)
    (HO : OL w J W 4 1 encBool v l) (HM : Pg w I J W) (hl : (l.length + 1) * 1 ≤ 140737488355328)
    (h : ∀ v1 W1, OL w J W1 4 1 encBool v1 (l ++ [y]) → Pg w I J W1 → W.grownBy W1 v.ownBlock → (v1.ownBlock = v.ownBlock ∨ v1.ownBlock = some W.heap.size) → wpList Tryz.prog ops Q rest (a.put o.dst v1) W1) :
    wpList Tryz.prog ops Q (o :: rest) a W :=
  wp_app01 hg s x 90 4 (.bool false) 1 1 ho Tryz.underlying90 info_bool rfl (by decide) (by decide) encBool v l y b c cs tb fr hs hx hb hcs rfl (by intro u hu; simp [encBool] at hu; first | (subst hu; rfl) | (rcases hu with rfl | rfl <;> rfl) | (rcases hu with rfl | rfl | rfl <;> rfl)) HO HM hl h
theorem wp_pp_int {ops : Array Oper} {rest : List Oper} {o : Oper} {a : Act} {Q : Exit → Act → World → Prop} {w W : World} {I J : IHeap} (hg : o.guard = none) (s x : Operand)
    (ho : o.op = .call { callee := .builtin .append, args := #[s, x], argTypes := #[23, 23] })
    (v : Value) (l : List Int) (y : Int) (b c : Nat) (cs : Array Value) (tb : TypeId) (fr : Nat × Nat) (hs : a.eval s = v) (hx : a.eval x = .slice (some ⟨b, 0, none⟩) 1 c) (hb : W.heap[b]? = some (.cells cs tb fr)) (hcs : cs = (encInt y).toArray)
    (HO : OL w J W 3 1 encInt v l) (HM : Pg w I J W) (hl : (l.length + 1) * 8 ≤ 140737488355328)
    (h : ∀ v1 W1, OL w J W1 3 1 encInt v1 (l ++ [y]) → Pg w I J W1 → W.grownBy W1 v.ownBlock → (v1.ownBlock = v.ownBlock ∨ v1.ownBlock = some W.heap.size) → wpList Tryz.prog ops Q rest (a.put o.dst v1) W1) :
    wpList Tryz.prog ops Q (o :: rest) a W :=
  wp_app01 hg s x 23 3 (.int .i64 0) 1 8 ho Tryz.underlying23 info_int rfl (by decide) (by decide) encInt v l y b c cs tb fr hs hx hb hcs rfl (by intro u hu; simp [encInt] at hu; first | (subst hu; rfl) | (rcases hu with rfl | rfl <;> rfl) | (rcases hu with rfl | rfl | rfl <;> rfl)) HO HM hl h
theorem wp_pp_entry {ops : Array Oper} {rest : List Oper} {o : Oper} {a : Act} {Q : Exit → Act → World → Prop} {w W : World} {I J : IHeap} (hg : o.guard = none) (s x : Operand)
    (ho : o.op = .call { callee := .builtin .append, args := #[s, x], argTypes := #[55, 55] })
    (v : Value) (l : List Entry) (y : Entry) (b c : Nat) (cs : Array Value) (tb : TypeId) (fr : Nat × Nat) (hs : a.eval s = v) (hx : a.eval x = .slice (some ⟨b, 0, none⟩) 1 c) (hb : W.heap[b]? = some (.cells cs tb fr)) (hcs : cs = (encEntry y).toArray)
    (HO : OL w J W 62 3 encEntry v l) (HM : Pg w I J W) (hl : (l.length + 1) * 40 ≤ 140737488355328)
    (h : ∀ v1 W1, OL w J W1 62 3 encEntry v1 (l ++ [y]) → Pg w I J W1 → W.grownBy W1 v.ownBlock → (v1.ownBlock = v.ownBlock ∨ v1.ownBlock = some W.heap.size) → wpList Tryz.prog ops Q rest (a.put o.dst v1) W1) :
    wpList Tryz.prog ops Q (o :: rest) a W :=
  wp_app01 hg s x 55 62 (.agg #[.string ⟨#[]⟩, .string ⟨#[]⟩, .bool false]) 3 40 ho Tryz.underlying55 info_entry rfl (by decide) (by decide) encEntry v l y b c cs tb fr hs hx hb hcs rfl (by intro u hu; simp [encEntry] at hu; first | (subst hu; rfl) | (rcases hu with rfl | rfl <;> rfl) | (rcases hu with rfl | rfl | rfl <;> rfl)) HO HM hl h
theorem wp_pp_pair {ops : Array Oper} {rest : List Oper} {o : Oper} {a : Act} {Q : Exit → Act → World → Prop} {w W : World} {I J : IHeap} (hg : o.guard = none) (s x : Operand)
    (ho : o.op = .call { callee := .builtin .append, args := #[s, x], argTypes := #[63, 63] })
    (v : Value) (l : List Pair) (y : Pair) (b c : Nat) (cs : Array Value) (tb : TypeId) (fr : Nat × Nat) (hs : a.eval s = v) (hx : a.eval x = .slice (some ⟨b, 0, none⟩) 1 c) (hb : W.heap[b]? = some (.cells cs tb fr)) (hcs : cs = (encPair y).toArray)
    (HO : OL w J W 74 2 encPair v l) (HM : Pg w I J W) (hl : (l.length + 1) * 32 ≤ 140737488355328)
    (h : ∀ v1 W1, OL w J W1 74 2 encPair v1 (l ++ [y]) → Pg w I J W1 → W.grownBy W1 v.ownBlock → (v1.ownBlock = v.ownBlock ∨ v1.ownBlock = some W.heap.size) → wpList Tryz.prog ops Q rest (a.put o.dst v1) W1) :
    wpList Tryz.prog ops Q (o :: rest) a W :=
  wp_app01 hg s x 63 74 (.agg #[.string ⟨#[]⟩, .string ⟨#[]⟩]) 2 32 ho Tryz.underlying63 info_pair rfl (by decide) (by decide) encPair v l y b c cs tb fr hs hx hb hcs rfl (by intro u hu; simp [encPair] at hu; first | (subst hu; rfl) | (rcases hu with rfl | rfl <;> rfl) | (rcases hu with rfl | rfl | rfl <;> rfl)) HO HM hl h
end Go.Proofs.YtadaiihoclknmaaGreat
/- Blocks that are no cells (a loop's record, its deferred calls), of a call's own; contracts at the wide fence. -/
namespace Go.Proofs.YtadaiihoclknmaaGreat
open Go.RowKit
set_option linter.unusedVariables false
set_option linter.unusedSimpArgs false

def isC : Obj → Bool
  | .cells _ _ _ => true
  | _ => false
structure NB (w : World) (J : IHeap) (W : World) (b : Nat) (o : Obj) : Prop where
  at_ : W.heap[b]? = some o
  nc : isC o = false
  ge : w.heap.size ≤ b
  no : J b = none
theorem NB.not_ss {w W : World} {L : Loc} {I J : IHeap} {s : PS} {b : Nat} {o : Obj} (ho : NB w J W b o) (h : Mg w L I J s W) : ¬ SS L W b := fun x => by
  obtain ⟨cs, t, fr, h1, _⟩ := h.st.ss_type x
  rw [ho.at_] at h1
  injection h1 with h1
  have := ho.nc
  rw [h1] at this
  cases this
theorem NB.lt {w W : World} {J : IHeap} {b : Nat} {o : Obj} (ho : NB w J W b o) : b < W.heap.size := (Array.getElem?_eq_some_iff.1 ho.at_).1
theorem NB.call {w W W1 : World} {L : Loc} {I J K : IHeap} {s : PS} {b : Nat} {o : Obj} (h : Mg w L I J s W) (hk : Keeps L W W1) (hg : Grow J W K) (ho : NB w J W b o) : NB w K W1 b o :=
  ⟨hk.kept.obj ho.at_ (ho.not_ss h), ho.nc, ho.ge, hg.none ho.no ho.lt⟩
theorem NB.thru {w W0 W W1 : World} {L : Loc} {I J K : IHeap} {s : PS} {b : Nat} {o : Obj} (ho : NB w J W0 b o) (h : Mg w L I J s W) (hk : Keeps L W W1) (hg : Grow J W K) (hw : NB w J W0 b o → NB w J W b o) : NB w K W1 b o := NB.call h hk hg (hw ho)
theorem NB.new {w W W1 : World} {J : IHeap} {b : Nat} {o : Obj} (ho : NB w J W b o) (hk : New W W1) : NB w J W1 b o := ⟨hk.obj ho.at_, ho.nc, ho.ge, ho.no⟩
theorem NB.alloc {w W : World} {J : IHeap} {b : Nat} {o : Obj} (ho : NB w J W b o) (o' : Obj) : NB w J (W.alloc o') b o := ho.new ((Kept.refl _ _).alloc o')
theorem NB.drew {w W : World} {J : IHeap} {b : Nat} {o : Obj} (ho : NB w J W b o) : NB w J W.drew b o := ⟨ho.at_, ho.nc, ho.ge, ho.no⟩
theorem NB.drewN {w W : World} {J : IHeap} {b : Nat} {o : Obj} (ho : NB w J W b o) (n : Nat) : NB w J (W.drewN n) b o := ⟨ho.at_, ho.nc, ho.ge, ho.no⟩
theorem NB.far {w W : World} {J : IHeap} {b : Nat} {o : Obj} (ho : NB w J W b o) {a : Addr} (hn : b ≠ a.block) (u : Value) : NB w J (W.setCell a u) b o := ⟨set_far ho.at_ hn u, ho.nc, ho.ge, ho.no⟩
theorem NB.fresh {w W : World} {L : Loc} {I J : IHeap} {s : PS} (h : Mg w L I J s W) (o : Obj) (hc : isC o = false) : NB w J (W.alloc o) W.heap.size o := ⟨alloc_new W _, hc, h.size, h.none⟩
theorem NB.ne {w W : World} {J : IHeap} {b b' : Nat} {o : Obj} {cs : Array Value} {t : TypeId} (ho : NB w J W b o) (hc : OB w J W b' cs t) : b ≠ b' := fun e => by
  subst e
  have h1 := ho.at_
  rw [hc.at_] at h1
  injection h1 with h1
  have := ho.nc
  rw [← h1] at this
  cases this
theorem Kept.putObj {S : Nat → Prop} {a w : World} (h : Kept S a w) {b : Nat} (hb : b < a.heap.size → S b) (o : Obj) : Kept S a (w.putObj b o) :=
  ⟨h.os, h.tape, h.output, by rw [World.putObj_size]; exact h.size, fun k hk hs => (World.putObj_heap_other (fun e => hs (by rw [e]; exact hb (by rw [← e]; exact hk)))).trans (h.block k hk hs)⟩
theorem Mg.putObj {w W : World} {L : Loc} {I J : IHeap} {s : PS} {b : Nat} {o : Obj} (h : Mg w L I J s W) (ho : NB w J W b o) (o' : Obj) : Mg w L I J s (W.putObj b o') :=
  h.own (S := fun k => k = b) (Kept.putObj (S := fun k => k = b) (Kept.refl _ _) (fun _ => rfl) o') (fun k e => e ▸ ho.ge) (fun k e => e ▸ ho.not_ss h) (fun k e => e ▸ ho.no)
theorem NB.put {w W : World} {J : IHeap} {b : Nat} {o : Obj} (ho : NB w J W b o) (o' : Obj) (hc : isC o' = false) : NB w J (W.putObj b o') b o' := ⟨World.putObj_heap_same ho.lt, hc, ho.ge, ho.no⟩
theorem NB.putFar {w W : World} {J : IHeap} {b b' : Nat} {o : Obj} (ho : NB w J W b o) (hn : b ≠ b') (o' : Obj) : NB w J (W.putObj b' o') b o := ⟨(World.putObj_heap_other hn).trans ho.at_, ho.nc, ho.ge, ho.no⟩
theorem OB.putFar {w W : World} {J : IHeap} {b b' : Nat} {cs : Array Value} {t : TypeId} (ho : OB w J W b cs t) (hn : b ≠ b') (o' : Obj) : OB w J (W.putObj b' o') b cs t := ⟨(World.putObj_heap_other hn).trans ho.at_, ho.ty, ho.ge, ho.no⟩
/-- A range over a function, outermost, at the wide fence. -/
theorem wp_range {P : Program} {g : Operand} {ps : Array Tmp} {assign body : Code} {Q : Exit → Act → World → Prop} {a : Act} {w : World} {k : FuncId} {caps : Array Value}
    (hen : ∀ args W, (callFunc k args).run P W = .ok (.enter k args) W) (hres : ∀ l W, (resolve a.eval (rangeCall g l) 0).run P W = .ok { target := .fn (.func k) caps, args := #[.func (.yield l) #[] #[]] } W)
    (h : ∀ fn, CallsIn Fence.wide 0 P k (#[.func (.yield (w.heap.size + 1)) #[] #[]] ++ caps) ((w.alloc (.deferred (some []))).alloc (.loop { state := .ready, pending := none, fn, tmps := a.tmps, params := ps, assign, body, defers := w.heap.size }))
      (rangePost Fence.wide 0 P (w.heap.size + 1) Q { a with defers := [{ target := .collected w.heap.size, args := #[] }] ++ a.defers })) :
    (Code.rangeFunc g ps assign body).wpIn Fence.wide 0 P Q a w := by
  refine wpIn_rangeFunc ?_
  intro fn _
  exact ⟨w.heap.size + 1, _, _, _, _, k, _, _, run_enterLoop_outer fn _ _ _ _, hres _ _, fun _ _ => trivial, by simp [invoke, hen], (fun h => by cases h), h fn⟩
end Go.Proofs.YtadaiihoclknmaaGreat
