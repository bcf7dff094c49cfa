/- Part 8 of the proof: Bag, Hash, Probe1, Probe2. -/
import Derived.Test.YtadaiihoclknmaaGreatC07
/- What a call owns, in one bag: blocks and rows. -/
namespace Go.Proofs.YtadaiihoclknmaaGreat
open Go.RowKit
set_option maxRecDepth 100000
set_option linter.unusedVariables false
set_option linter.unusedSimpArgs false
inductive It where
  | blk (b : Nat) (cs : Array Value) (t : TypeId)
  | row (E : TypeId) (sz : Nat) (v : Value) (n : Nat) (xs : List Value)
def It.at_ (w : World) (J : IHeap) (W : World) : It → Prop
  | .blk b cs t => OB w J W b cs t
  | .row E sz v n xs => OR w J W E sz v n xs
/-- Elsewhere than a block of a type. -/
def It.far (b : Nat) (t : TypeId) : It → Prop
  | .blk b' _ _ => b' ≠ b
  | .row E _ _ _ _ => E ≠ t
/-- Of another type than a row's. -/
def It.other (E : TypeId) : It → Prop
  | .blk _ _ t => E ≠ t
  | .row E' _ _ _ _ => E ≠ E'
structure Bag (w : World) (L : Loc) (I J : IHeap) (s : PS) (W : World) (its : List It) : Prop where
  m : Mg w L I J s W
  a : ∀ i ∈ its, i.at_ w J W
variable {w W W1 : World} {L : Loc} {I J K : IHeap} {s : PS} {its : List It}
theorem Bag.start (h : St w L I s) : Bag w L I I s w [] := ⟨Mg.start h, fun _ h => by cases h⟩
theorem Bag.sub (h : Bag w L I J s W its) {jts : List It} (hs : jts ⊆ its) : Bag w L I J s W jts := ⟨h.m, fun i hi => h.a i (hs hi)⟩
theorem Bag.ob (h : Bag w L I J s W its) {b : Nat} {cs : Array Value} {t : TypeId} (hi : It.blk b cs t ∈ its) : OB w J W b cs t := h.a _ hi
theorem Bag.row (h : Bag w L I J s W its) {E : TypeId} {sz n : Nat} {v : Value} {xs : List Value} (hi : It.row E sz v n xs ∈ its) : OR w J W E sz v n xs := h.a _ hi
theorem It.at_.new {i : It} (h : i.at_ w J W) (hk : New W W1) : i.at_ w J W1 := by
  cases i with
  | blk b cs t => exact OB.new h hk
  | row E sz v n xs => exact OR.new h hk
theorem Bag.new (h : Bag w L I J s W its) (hk : New W W1) : Bag w L I J s W1 its := ⟨h.m.new hk, fun i hi => (h.a i hi).new hk⟩
theorem Bag.alloc (h : Bag w L I J s W its) (o : Obj) : Bag w L I J s (W.alloc o) its := h.new ((Kept.refl _ _).alloc o)
theorem Bag.drew (h : Bag w L I J s W its) : Bag w L I J s W.drew its := h.new ((Kept.refl _ _).drew)
theorem Bag.drewN (h : Bag w L I J s W its) (n : Nat) : Bag w L I J s (W.drewN n) its := h.new ((Kept.refl _ _).drewN n)
theorem Bag.fresh (h : Bag w L I J s W its) (cs : Array Value) (t : TypeId) (ht : mutT t = false) : Bag w L I J s (W.alloc (.cells cs t)) (.blk W.heap.size cs t :: its) :=
  ⟨h.m.alloc _, fun i hi => by
    rcases List.mem_cons.1 hi with rfl | hi
    · exact OB.fresh h.m cs t ht
    · exact (h.a i hi).new ((Kept.refl _ _).alloc _)⟩
theorem Bag.freshAt (h : Bag w L I J s W its) (b : Nat) (hb : b = W.heap.size) (cs : Array Value) (t : TypeId) (ht : mutT t = false) : Bag w L I J s (W.alloc (.cells cs t)) (.blk b cs t :: its) := by subst hb; exact h.fresh cs t ht
theorem Bag.pure (h : Bag w L I J s W its) (k : Pg W J K W1) : Bag w L I K s W1 its := ⟨h.m.pure k, fun i hi => by
  have := h.a i hi
  cases i with
  | blk b cs t => exact OB.pure this k rfl
  | row E sz v n xs => exact OR.pure this k⟩
theorem Bag.call {α : Type} (h : Bag w L I J s W its) {r : Out α × PS} {R : IHeap → Value → α → Prop} {e : Ending} (hp : Post L W J r R e W1) :
    (∃ a s1 K v, r = (.ret a, s1) ∧ e = .returned v ∧ R K v a ∧ Grow J W K ∧ Bag w L I K s1 W1 its) ∨ (∃ s1 K, r = (.paused, s1) ∧ e = .panicked [pzEntry] ∧ Mg w L I K s1 W1) := by
  rcases h.m.call hp with ⟨a, s1, K, v, h1, h2, h3, h4, h5, h6⟩ | ⟨s1, K, h1, h2, h3⟩
  · refine .inl ⟨a, s1, K, v, h1, h2, h3, h4, h6, fun i hi => ?_⟩
    have := h.a i hi
    cases i with
    | blk b cs t => exact OB.call h.m h5 h4 this
    | row E sz v n xs => exact OR.call h.m h5 h4 this
  · exact .inr ⟨s1, K, h1, h2, h3⟩
theorem It.at_.far {i : It} {b : Nat} {cs : Array Value} {t : TypeId} (h : i.at_ w J W) (ho : OB w J W b cs t) (hf : i.far b t) (j : Nat) (u : Value) : i.at_ w J (W.setCell ⟨b, j, none⟩ u) := by
  cases i with
  | blk b' cs' t' => exact OB.far h (by simpa [It.far] using hf) u
  | row E sz v n xs => exact OR.far h ho.at_ hf j u
/-- A cell of the first block is written. -/
theorem Bag.set {b : Nat} {cs : Array Value} {t : TypeId} (h : Bag w L I J s W (.blk b cs t :: its)) (hf : ∀ i ∈ its, i.far b t) (j : Nat) (u : Value) : Bag w L I J s (W.setCell ⟨b, j, none⟩ u) (.blk b (cs.setIfInBounds j u) t :: its) := by
  have ho := h.ob (List.mem_cons_self)
  refine ⟨h.m.seto ho.ok u, fun i hi => ?_⟩
  rcases List.mem_cons.1 hi with rfl | hi
  · exact ho.set j u
  · exact (h.a i (List.mem_cons_of_mem _ hi)).far ho (hf i hi) j u
theorem Bag.setT {b : Nat} {cs : Array Value} {t : TypeId} (h : Bag w L I J s W (.blk b cs t :: its)) (hf : ∀ i ∈ its, i.other t) (j : Nat) (u : Value) : Bag w L I J s (W.setCell ⟨b, j, none⟩ u) (.blk b (cs.setIfInBounds j u) t :: its) :=
  h.set (fun i hi => by
    have ho := hf i hi
    have hi' := h.a i (List.mem_cons_of_mem _ hi)
    have hb := h.ob (List.mem_cons_self)
    cases i with
    | blk b' cs' t' =>
      intro e
      subst e
      have h1 := hi'.at_
      rw [hb.at_] at h1
      injection h1 with h1
      injection h1 with _ h1
      exact ho h1
    | row E sz v n xs => exact fun e => ho e.symm) j u
/-- The first row has grown. -/
theorem Bag.app {E : TypeId} {sz n n1 : Nat} {v v1 : Value} {xs xs1 : List Value} (h : Bag w L I J s W (.row E sz v n xs :: its)) (hf : ∀ i ∈ its, i.other E) (hM : Mg w L I J s W1) (hO : OR w J W1 E sz v1 n1 xs1) (hg : W.grownBy W1 v.ownBlock) : Bag w L I J s W1 (.row E sz v1 n1 xs1 :: its) := by
  have hr := h.row (List.mem_cons_self)
  refine ⟨hM, fun i hi => ?_⟩
  rcases List.mem_cons.1 hi with rfl | hi
  · exact hO
  · have := h.a i (List.mem_cons_of_mem _ hi)
    have ho := hf i hi
    cases i with
    | blk b cs t => exact OB.app this hr ho hg
    | row E' sz' v' n' xs' => exact OR.app this hr ho hg
/-- The first row is complete: it is written no more. -/
theorem Bag.done {E : TypeId} {sz n : Nat} {v : Value} {xs : List Value} (h : Bag w L I J s W (.row E sz v n xs :: its)) (hf : ∀ i ∈ its, i.other E) :
    ∃ K, Bag w L I K s W its ∧ ILe J K ∧ Row K E sz v n xs := by
  have hr := h.row (List.mem_cons_self)
  obtain ⟨K, hM, hle, hR, hno⟩ := hr.row h.m
  refine ⟨K, ⟨hM, fun i hi => ?_⟩, hle, hR⟩
  have := h.a i (List.mem_cons_of_mem _ hi)
  have ho := hf i hi
  cases i with
  | blk b cs t => exact OB.row this hr ho hno
  | row E' sz' v' n' xs' => exact OR.rowOf this hr ho hno
/-- The first block is complete. -/
theorem Bag.shut {b : Nat} {cs : Array Value} {t : TypeId} (h : Bag w L I J s W (.blk b cs t :: its)) (hf : ∀ i ∈ its, i.far b t) :
    ∃ K, Bag w L I K s W its ∧ ILe J K ∧ K b = some (.cells cs t (0, 0)) := by
  have ho := h.ob (List.mem_cons_self)
  obtain ⟨hM, hle⟩ := h.m.put ho.at_ ho.ty ho.ge
  refine ⟨_, ⟨hM, fun i hi => ?_⟩, hle, by simp [IHeap.put]⟩
  have hn : ∀ k, k ≠ b → J k = none → (J.put b (.cells cs t (0, 0))) k = none := fun k hk hJ => by simp [IHeap.put, hk, hJ]
  have := h.a i (List.mem_cons_of_mem _ hi)
  have hff := hf i hi
  cases i with
  | blk b' cs' t' => exact OB.mono this (hn _ hff this.no)
  | row E sz v n xs => exact OR.kept this (fun k cs' hk _ hh hno => ⟨hh, hn k (fun e => by
      subst e
      rw [ho.at_] at hh
      injection hh with hh
      injection hh with _ hh
      exact hff hh.symm) hno⟩)
theorem Bag.row0 {E : TypeId} (h : Bag w L I J s W its) (sz : Nat) (ht : mutT E = false) : Bag w L I J s W (.row E sz (.slice none 0 0) 0 [] :: its) := ⟨h.m, fun i hi => by
  rcases List.mem_cons.1 hi with rfl | hi
  · exact OR.nil w J W E sz ht
  · exact h.a i hi⟩
/-- A row that a callee has made. -/
theorem Bag.own {E : TypeId} {sz n : Nat} {v : Value} {xs : List Value} (h : Bag w L I J s W its) (hk : New W W1) (ho : W1.ownsRow W.heap.size E sz v n xs) (ht : mutT E = false) : Bag w L I J s W1 (.row E sz v n xs :: its) := ⟨h.m.new hk, fun i hi => by
  rcases List.mem_cons.1 hi with rfl | hi
  · refine ⟨⟨ho.1, ?_⟩, ht, fun k hk' => ?_⟩
    · rcases ho.2 with h1 | ⟨g, cap, cur, h1, h2, h3⟩
      · exact .inl h1
      · exact .inr ⟨g, cap, cur, h1, Nat.le_trans h.m.size h2, h3⟩
    · have := (ho.lt k hk').1
      cases e : J k with
      | none => rfl
      | some o => have := h.m.st.held.lt e; omega
  · exact (h.a i hi).new hk⟩
/-- A row that a callee has made, and that nobody writes any more. -/
theorem Bag.ownDone {E : TypeId} {sz n : Nat} {v : Value} {xs : List Value} (h : Bag w L I J s W its) (hk : New W W1) (ho : W1.ownsRow W.heap.size E sz v n xs) (ht : mutT E = false) :
    ∃ K, Bag w L I K s W1 its ∧ ILe J K ∧ Row K E sz v n xs ∧ Grow J W K := by
  have h1 := h.new hk
  obtain ⟨K, hM, hle, hR, hno⟩ := h1.m.row ho ht h.m.size
  have hn : ∀ k, k < W.heap.size → J k = none → K k = none := fun k hkl hJ => by
    refine no_of hno hJ fun e => ?_
    have := (ho.lt k e.symm).1
    omega
  refine ⟨K, ⟨hM, fun i hi => ?_⟩, hle, hR, ⟨hle, fun k hkk => ?_⟩⟩
  · have h2 := h1.a i hi
    have h3 := h.a i hi
    cases i with
    | blk b cs t => exact OB.mono h2 (hn _ (lt_of_block h3.at_) h3.no)
    | row E' sz' v' n' xs' => exact OR.kept h2 (fun k cs' hk' _ hh hj => ⟨hh, by
        obtain ⟨cs, hb, _⟩ := OR.blk h3 hk'
        exact hn _ (lt_of_block hb) hj⟩)
  · rcases hno k hkk with h4 | h4
    · exact .inl h4
    · exact .inr (ho.lt k h4.symm).1
section
variable {x0 x1 x2 x3 x4 x5 x6 x7 x8 x9 x10 x11 : It} {b : Nat} {cs : Array Value} {t E : TypeId} {sz n : Nat} {v : Value} {xs : List Value}
theorem Bag.o0 (h : Bag w L I J s W (.blk b cs t :: its)) : OB w J W b cs t := h.ob (by simp)
theorem Bag.r0 (h : Bag w L I J s W (.row E sz v n xs :: its)) : OR w J W E sz v n xs := h.row (by simp)
theorem Bag.o1 (h : Bag w L I J s W (x0 :: .blk b cs t :: its)) : OB w J W b cs t := h.ob (by simp)
theorem Bag.r1 (h : Bag w L I J s W (x0 :: .row E sz v n xs :: its)) : OR w J W E sz v n xs := h.row (by simp)
theorem Bag.up1 (h : Bag w L I J s W (x0 :: x1 :: its)) : Bag w L I J s W (x1 :: x0 :: its) := h.sub (fun i hi => by simp at hi ⊢; rcases hi with hi | hi | hi <;> simp [*])
theorem Bag.cut1 (h : Bag w L I J s W (x0 :: its)) : Bag w L I J s W its := h.sub (fun i hi => by simp [hi])
theorem Bag.o2 (h : Bag w L I J s W (x0 :: x1 :: .blk b cs t :: its)) : OB w J W b cs t := h.ob (by simp)
theorem Bag.r2 (h : Bag w L I J s W (x0 :: x1 :: .row E sz v n xs :: its)) : OR w J W E sz v n xs := h.row (by simp)
theorem Bag.up2 (h : Bag w L I J s W (x0 :: x1 :: x2 :: its)) : Bag w L I J s W (x2 :: x0 :: x1 :: its) := h.sub (fun i hi => by simp at hi ⊢; rcases hi with hi | hi | hi | hi <;> simp [*])
theorem Bag.cut2 (h : Bag w L I J s W (x0 :: x1 :: its)) : Bag w L I J s W its := h.sub (fun i hi => by simp [hi])
theorem Bag.o3 (h : Bag w L I J s W (x0 :: x1 :: x2 :: .blk b cs t :: its)) : OB w J W b cs t := h.ob (by simp)
theorem Bag.r3 (h : Bag w L I J s W (x0 :: x1 :: x2 :: .row E sz v n xs :: its)) : OR w J W E sz v n xs := h.row (by simp)
theorem Bag.up3 (h : Bag w L I J s W (x0 :: x1 :: x2 :: x3 :: its)) : Bag w L I J s W (x3 :: x0 :: x1 :: x2 :: its) := h.sub (fun i hi => by simp at hi ⊢; rcases hi with hi | hi | hi | hi | hi <;> simp [*])
theorem Bag.cut3 (h : Bag w L I J s W (x0 :: x1 :: x2 :: its)) : Bag w L I J s W its := h.sub (fun i hi => by simp [hi])
theorem Bag.o4 (h : Bag w L I J s W (x0 :: x1 :: x2 :: x3 :: .blk b cs t :: its)) : OB w J W b cs t := h.ob (by simp)
theorem Bag.r4 (h : Bag w L I J s W (x0 :: x1 :: x2 :: x3 :: .row E sz v n xs :: its)) : OR w J W E sz v n xs := h.row (by simp)
theorem Bag.up4 (h : Bag w L I J s W (x0 :: x1 :: x2 :: x3 :: x4 :: its)) : Bag w L I J s W (x4 :: x0 :: x1 :: x2 :: x3 :: its) := h.sub (fun i hi => by simp at hi ⊢; rcases hi with hi | hi | hi | hi | hi | hi <;> simp [*])
theorem Bag.cut4 (h : Bag w L I J s W (x0 :: x1 :: x2 :: x3 :: its)) : Bag w L I J s W its := h.sub (fun i hi => by simp [hi])
theorem Bag.o5 (h : Bag w L I J s W (x0 :: x1 :: x2 :: x3 :: x4 :: .blk b cs t :: its)) : OB w J W b cs t := h.ob (by simp)
theorem Bag.r5 (h : Bag w L I J s W (x0 :: x1 :: x2 :: x3 :: x4 :: .row E sz v n xs :: its)) : OR w J W E sz v n xs := h.row (by simp)
theorem Bag.up5 (h : Bag w L I J s W (x0 :: x1 :: x2 :: x3 :: x4 :: x5 :: its)) : Bag w L I J s W (x5 :: x0 :: x1 :: x2 :: x3 :: x4 :: its) := h.sub (fun i hi => by simp at hi ⊢; rcases hi with hi | hi | hi | hi | hi | hi | hi <;> simp [*])
theorem Bag.cut5 (h : Bag w L I J s W (x0 :: x1 :: x2 :: x3 :: x4 :: its)) : Bag w L I J s W its := h.sub (fun i hi => by simp [hi])
theorem Bag.o6 (h : Bag w L I J s W (x0 :: x1 :: x2 :: x3 :: x4 :: x5 :: .blk b cs t :: its)) : OB w J W b cs t := h.ob (by simp)
theorem Bag.r6 (h : Bag w L I J s W (x0 :: x1 :: x2 :: x3 :: x4 :: x5 :: .row E sz v n xs :: its)) : OR w J W E sz v n xs := h.row (by simp)
theorem Bag.up6 (h : Bag w L I J s W (x0 :: x1 :: x2 :: x3 :: x4 :: x5 :: x6 :: its)) : Bag w L I J s W (x6 :: x0 :: x1 :: x2 :: x3 :: x4 :: x5 :: its) := h.sub (fun i hi => by simp at hi ⊢; rcases hi with hi | hi | hi | hi | hi | hi | hi | hi <;> simp [*])
theorem Bag.cut6 (h : Bag w L I J s W (x0 :: x1 :: x2 :: x3 :: x4 :: x5 :: its)) : Bag w L I J s W its := h.sub (fun i hi => by simp [hi])
theorem Bag.o7 (h : Bag w L I J s W (x0 :: x1 :: x2 :: x3 :: x4 :: x5 :: x6 :: .blk b cs t :: its)) : OB w J W b cs t := h.ob (by simp)
theorem Bag.r7 (h : Bag w L I J s W (x0 :: x1 :: x2 :: x3 :: x4 :: x5 :: x6 :: .row E sz v n xs :: its)) : OR w J W E sz v n xs := h.row (by simp)
theorem Bag.up7 (h : Bag w L I J s W (x0 :: x1 :: x2 :: x3 :: x4 :: x5 :: x6 :: x7 :: its)) : Bag w L I J s W (x7 :: x0 :: x1 :: x2 :: x3 :: x4 :: x5 :: x6 :: its) := h.sub (fun i hi => by simp at hi ⊢; rcases hi with hi | hi | hi | hi | hi | hi | hi | hi | hi <;> simp [*])
theorem Bag.cut7 (h : Bag w L I J s W (x0 :: x1 :: x2 :: x3 :: x4 :: x5 :: x6 :: its)) : Bag w L I J s W its := h.sub (fun i hi => by simp [hi])
theorem Bag.o8 (h : Bag w L I J s W (x0 :: x1 :: x2 :: x3 :: x4 :: x5 :: x6 :: x7 :: .blk b cs t :: its)) : OB w J W b cs t := h.ob (by simp)
theorem Bag.r8 (h : Bag w L I J s W (x0 :: x1 :: x2 :: x3 :: x4 :: x5 :: x6 :: x7 :: .row E sz v n xs :: its)) : OR w J W E sz v n xs := h.row (by simp)
theorem Bag.up8 (h : Bag w L I J s W (x0 :: x1 :: x2 :: x3 :: x4 :: x5 :: x6 :: x7 :: x8 :: its)) : Bag w L I J s W (x8 :: x0 :: x1 :: x2 :: x3 :: x4 :: x5 :: x6 :: x7 :: its) := h.sub (fun i hi => by simp at hi ⊢; rcases hi with hi | hi | hi | hi | hi | hi | hi | hi | hi | hi <;> simp [*])
theorem Bag.cut8 (h : Bag w L I J s W (x0 :: x1 :: x2 :: x3 :: x4 :: x5 :: x6 :: x7 :: its)) : Bag w L I J s W its := h.sub (fun i hi => by simp [hi])
theorem Bag.o9 (h : Bag w L I J s W (x0 :: x1 :: x2 :: x3 :: x4 :: x5 :: x6 :: x7 :: x8 :: .blk b cs t :: its)) : OB w J W b cs t := h.ob (by simp)
theorem Bag.r9 (h : Bag w L I J s W (x0 :: x1 :: x2 :: x3 :: x4 :: x5 :: x6 :: x7 :: x8 :: .row E sz v n xs :: its)) : OR w J W E sz v n xs := h.row (by simp)
theorem Bag.up9 (h : Bag w L I J s W (x0 :: x1 :: x2 :: x3 :: x4 :: x5 :: x6 :: x7 :: x8 :: x9 :: its)) : Bag w L I J s W (x9 :: x0 :: x1 :: x2 :: x3 :: x4 :: x5 :: x6 :: x7 :: x8 :: its) := h.sub (fun i hi => by simp at hi ⊢; rcases hi with hi | hi | hi | hi | hi | hi | hi | hi | hi | hi | hi <;> simp [*])
theorem Bag.cut9 (h : Bag w L I J s W (x0 :: x1 :: x2 :: x3 :: x4 :: x5 :: x6 :: x7 :: x8 :: its)) : Bag w L I J s W its := h.sub (fun i hi => by simp [hi])
theorem Bag.o10 (h : Bag w L I J s W (x0 :: x1 :: x2 :: x3 :: x4 :: x5 :: x6 :: x7 :: x8 :: x9 :: .blk b cs t :: its)) : OB w J W b cs t := h.ob (by simp)
theorem Bag.r10 (h : Bag w L I J s W (x0 :: x1 :: x2 :: x3 :: x4 :: x5 :: x6 :: x7 :: x8 :: x9 :: .row E sz v n xs :: its)) : OR w J W E sz v n xs := h.row (by simp)
theorem Bag.up10 (h : Bag w L I J s W (x0 :: x1 :: x2 :: x3 :: x4 :: x5 :: x6 :: x7 :: x8 :: x9 :: x10 :: its)) : Bag w L I J s W (x10 :: x0 :: x1 :: x2 :: x3 :: x4 :: x5 :: x6 :: x7 :: x8 :: x9 :: its) := h.sub (fun i hi => by simp at hi ⊢; rcases hi with hi | hi | hi | hi | hi | hi | hi | hi | hi | hi | hi | hi <;> simp [*])
theorem Bag.cut10 (h : Bag w L I J s W (x0 :: x1 :: x2 :: x3 :: x4 :: x5 :: x6 :: x7 :: x8 :: x9 :: its)) : Bag w L I J s W its := h.sub (fun i hi => by simp [hi])
theorem Bag.o11 (h : Bag w L I J s W (x0 :: x1 :: x2 :: x3 :: x4 :: x5 :: x6 :: x7 :: x8 :: x9 :: x10 :: .blk b cs t :: its)) : OB w J W b cs t := h.ob (by simp)
theorem Bag.r11 (h : Bag w L I J s W (x0 :: x1 :: x2 :: x3 :: x4 :: x5 :: x6 :: x7 :: x8 :: x9 :: x10 :: .row E sz v n xs :: its)) : OR w J W E sz v n xs := h.row (by simp)
theorem Bag.up11 (h : Bag w L I J s W (x0 :: x1 :: x2 :: x3 :: x4 :: x5 :: x6 :: x7 :: x8 :: x9 :: x10 :: x11 :: its)) : Bag w L I J s W (x11 :: x0 :: x1 :: x2 :: x3 :: x4 :: x5 :: x6 :: x7 :: x8 :: x9 :: x10 :: its) := h.sub (fun i hi => by simp at hi ⊢; rcases hi with hi | hi | hi | hi | hi | hi | hi | hi | hi | hi | hi | hi | hi <;> simp [*])
theorem Bag.cut11 (h : Bag w L I J s W (x0 :: x1 :: x2 :: x3 :: x4 :: x5 :: x6 :: x7 :: x8 :: x9 :: x10 :: its)) : Bag w L I J s W its := h.sub (fun i hi => by simp [hi])
end
end Go.Proofs.YtadaiihoclknmaaGreat
/- Sums of texts. -/
namespace Go.Proofs.YtadaiihoclknmaaGreat
open Go.RowKit
set_option maxHeartbeats 4000000
set_option maxRecDepth 100000
set_option linter.unusedVariables false
set_option linter.unusedSimpArgs false

def hEnd (h : Int) : Int :=
  (bits .xor .u32 ((h + h * 8) % 4294967296) ((h + h * 8) % 4294967296 / 2048) +
    bits .xor .u32 ((h + h * 8) % 4294967296) ((h + h * 8) % 4294967296 / 2048) * 32768 % 4294967296) % 4294967296
theorem hash_End (h : Int) (w : World) : Calls Tryz.prog 239 #[.int .u32 h] w fun e w' => e = .returned (.int .u32 (hEnd h)) ∧ w = w' := by
  go_enter Tryz.func239, Tryz.ntmps239
  go_wp2
  go_ret
  exact ⟨rfl, rfl⟩
def hStep (y c : Int) : Int :=
  bits .xor .u32 ((y + c + (y + c) % 4294967296 * 1024) % 4294967296) ((y + c + (y + c) % 4294967296 * 1024) % 4294967296 / 64)
def hAdd (y : Int) : List UInt8 → Int
  | [] => y
  | c :: t => hAdd (hStep y c.toNat) t
theorem hash_Add (h : Int) (s : ByteArray) (hs : s.size ≤ maxLen) (w : World) : Calls Tryz.prog 240 #[.int .u32 h, .string s] w fun e w' => e = .returned (.int .u32 (hAdd h s.data.toList)) ∧ w = w' := by
  go_enter Tryz.func240, Tryz.ntmps240
  go_wp2_with fail
  go_loopg [0, 8] s.size (fun g x v W => ∃ (i : Nat) (y : Int), v = .int .i64 i ∧ x = .int .u32 y ∧ i + g = s.size ∧ Hid (W = w) ∧ Hid (hAdd h s.data.toList = hAdd y (s.data.toList.drop i)))
  case atStart => exact ⟨0, h, rfl, rfl, by simp, Lib.hid rfl, Lib.hid (by simp)⟩
  case round =>
  obtain ⟨i, y, rfl, rfl, hi, hw, he⟩ := hrel
  obtain rfl := hw.out
  by_cases hlt : i < s.size
  · have h1 : decide ((i : Int) < s.size) = true := by simp; omega
    have hd : s.data.toList.drop i = s[i] :: s.data.toList.drop (i + 1) := List.drop_eq_getElem_cons (l := s.data.toList) (by simpa using hlt)
    have he2 := Lib.hid (he.out.trans (by rw [hd]; rfl : _ = hAdd (hStep y (s[i].toNat)) (s.data.toList.drop (i + 1))))
    clear hd he
    go_wp2
    go_roundg (gk - 1)
    case measure => omega
    case rel => exact ⟨i + 1, _, next_int hlt hs, rfl, by omega, Lib.hid rfl, he2⟩
  · have h1 : decide ((i : Int) < s.size) = false := by simp; omega
    have hd : s.data.toList.drop i = [] := List.drop_eq_nil_of_le (by simpa using hlt)
    have he2 := Lib.hid (he.out.trans (by rw [hd]; rfl : _ = y))
    go_wp2
    go_ret
    exact ⟨by rw [he2.out]; rfl, rfl⟩
def hOf (s : ByteArray) : Int := hEnd (hAdd 0 s.data.toList)
theorem hash_Of (s : ByteArray) (hs : s.size ≤ maxLen) (w : World) : Calls Tryz.prog 215 #[.string s] w fun e w' => e = .returned (.int .u32 (hOf s)) ∧ w = w' := by
  go_enter Tryz.func215, Tryz.ntmps215
  go_wp2_with (first
    | (go_at_call 240; refine (hash_Add _ _ hs _).mono ?_; rintro e w' ⟨rfl, rfl⟩)
    | (go_at_call 239; refine (hash_End _ _).mono ?_; rintro e w' ⟨rfl, rfl⟩))
  go_ret
  exact ⟨rfl, rfl⟩
theorem hEnd_bounds (h : Int) : 0 ≤ hEnd h ∧ hEnd h < 4294967296 := by
  unfold hEnd; omega
theorem hOf_bounds (s : ByteArray) : 0 ≤ hOf s ∧ hOf s < 4294967296 := hEnd_bounds _
end Go.Proofs.YtadaiihoclknmaaGreat
/- Tables by which keys are found: their size, where a key is looked for first. -/
namespace Go.Proofs.YtadaiihoclknmaaGreat
open Go.RowKit
set_option maxHeartbeats 4000000
set_option maxRecDepth 100000
set_option linter.unusedVariables false
set_option linter.unusedSimpArgs false

def pSizeF : Nat → Nat → Nat → Nat
  | 0, s, _ => s
  | f + 1, s, n => if s / 2 < n then pSizeF f (s * 2) n else s
def pSize (n : Nat) : Nat := pSizeF 64 2 n
theorem probe_Size (n : Nat) (hn : n ≤ 1099511627776) (w : World) : Calls Tryz.prog 157 #[.int .i64 n] w fun e w' => e = .returned (.int .i64 (pSize n)) ∧ w = w' := by
  go_enter Tryz.func157, Tryz.ntmps157
  go_wp2_with fail
  go_loopg [3] 64 (fun g v W => ∃ (s : Nat), v = .int .i64 s ∧ s * 2 ^ g = 2 ^ 65 ∧ s ≤ 4398046511104 ∧ Hid (W = w) ∧ Hid (pSize n = pSizeF g s n))
  case atStart => exact ⟨2, rfl, by decide, by decide, Lib.hid rfl, Lib.hid rfl⟩
  case round =>
  obtain ⟨s, rfl, hs, hs2, hw, he⟩ := hrel
  obtain rfl := hw.out
  cases gk with
  | zero => simp at hs; omega
  | succ g =>
  by_cases hlt : s / 2 < n
  · have he2 := Lib.hid (he.out.trans (by rw [pSizeF, if_pos hlt] : _ = pSizeF g (s * 2) n))
    have h1 : decide ((s : Int) / 2 < n) = true := by simp; omega
    go_wp2
    go_roundg g
    case measure => omega
    case rel => exact ⟨s * 2, by simp, by rw [Nat.pow_succ] at hs; rw [← hs, Nat.mul_assoc, Nat.mul_comm 2], by omega, Lib.hid rfl, he2⟩
  · have he2 := Lib.hid (he.out.trans (by rw [pSizeF, if_neg hlt] : _ = s))
    have h1 : decide ((s : Int) / 2 < n) = false := by simp; omega
    go_wp2
    go_ret
    exact ⟨by rw [he2.out]; rfl, rfl⟩
theorem pSizeF_pow : ∀ (f j n : Nat), ∃ i, pSizeF f (2 ^ (j + 1)) n = 2 ^ (i + 1) ∧ j ≤ i
  | 0, j, n => ⟨j, rfl, Nat.le_refl _⟩
  | f + 1, j, n => by
    unfold pSizeF
    split
    · obtain ⟨i, h1, h2⟩ := pSizeF_pow f (j + 1) n
      exact ⟨i, by rw [← h1, Nat.pow_succ 2 (j + 1)], by omega⟩
    · exact ⟨j, rfl, Nat.le_refl _⟩
theorem pSizeF_ge : ∀ (f s n : Nat), n < s * 2 ^ f → n ≤ pSizeF f s n / 2 ∨ f = 0 ∨ pSizeF f s n = s * 2 ^ f
  | 0, s, n, h => .inr (.inl rfl)
  | f + 1, s, n, h => by
    unfold pSizeF
    split
    · rcases pSizeF_ge f (s * 2) n (by rw [Nat.pow_succ] at h; rw [Nat.mul_assoc, Nat.mul_comm 2]; exact h) with h1 | h1 | h1
      · exact .inl h1
      · subst h1; exact .inr (.inr (by simp [pSizeF]))
      · exact .inr (.inr (by rw [h1, Nat.pow_succ, Nat.mul_assoc, Nat.mul_comm 2]))
    · exact .inl (by omega)
theorem pSizeF_le : ∀ (f s n m : Nat), s ≤ m → (∀ k, k / 2 < n → k ≤ m → k * 2 ≤ m ∨ True) → n ≤ 1099511627776 → s ≤ 4398046511104 → pSizeF f s n ≤ 4398046511104
  | 0, s, n, m, _, _, _, h => h
  | f + 1, s, n, m, h1, h2, h3, h4 => by
    unfold pSizeF
    split
    · exact pSizeF_le f (s * 2) n (s * 2) (Nat.le_refl _) (fun _ _ _ => .inr trivial) h3 (by omega)
    · exact h4
theorem pSize_pow (n : Nat) (hn : n ≤ 1099511627776) : ∃ i, pSize n = 2 ^ i ∧ 1 ≤ i ∧ i ≤ 42 ∧ 2 * n ≤ pSize n ∧ pSize n ≤ 4398046511104 := by
  obtain ⟨i, h1, h2⟩ := pSizeF_pow 64 0 n
  have hle : pSize n ≤ 4398046511104 := pSizeF_le 64 2 n 2 (Nat.le_refl _) (fun _ _ _ => .inr trivial) hn (by omega)
  have hi : i + 1 ≤ 42 := by
    rcases Nat.lt_or_ge 42 (i + 1) with h | h
    · have : 2 ^ 43 ≤ 2 ^ (i + 1) := Nat.pow_le_pow_right (by decide) h
      have h5 : pSize n = 2 ^ (i + 1) := h1
      omega
    · exact h
  refine ⟨i + 1, h1, by omega, hi, ?_, hle⟩
  rcases pSizeF_ge 64 2 n (by omega) with h | h | h
  · have h5 : n ≤ pSize n / 2 := h
    omega
  · omega
  · have h5 : pSize n = 2 * 2 ^ 64 := h
    omega
def pFirst (size : Nat) (k : ByteArray) : Nat := (hOf k).toNat % size
theorem pFirst_lt {size : Nat} (h : 0 < size) (k : ByteArray) : pFirst size k < size := Nat.mod_lt _ h
theorem and_pow (x i : Nat) (hx : x < 2 ^ 62) (hi : i ≤ 62) : bits .and .i64 (x : Int) (((2 ^ i : Nat) : Int) - 1) = ((x % 2 ^ i : Nat) : Int) := by
  have h := bits_mask .i64 62 (by decide) wraps_i62 i hi (x : Int) (by omega) (by exact_mod_cast hx)
  have e1 : ((2 ^ i : Nat) : Int) = (2 : Int) ^ i := by simp
  rw [e1, h]
  simp
theorem probe_first (i : Nat) (hi : i ≤ 42) (k : ByteArray) (hk : k.size ≤ maxLen) (w : World) :
    Calls Tryz.prog 158 #[.int .i64 ((2 ^ i : Nat) : Int), .string k] w fun e w' => e = .returned (.int .i64 (pFirst (2 ^ i) k)) ∧ w = w' := by
  have h0 := hOf_bounds k
  have h1 := and_pow (hOf k).toNat i (by omega) (by omega)
  rw [Int.toNat_of_nonneg h0.1] at h1
  have hp : 2 ^ i ≤ 2 ^ 42 := Nat.pow_le_pow_right (by decide) hi
  have hp0 : 0 < 2 ^ i := Nat.two_pow_pos i
  unfold pFirst
  have HO := fun w => Lib.hid (hash_Of k hk w)
  generalize 2 ^ i = m at *
  generalize hOf k = x at *
  go_enter Tryz.func158, Tryz.ntmps158
  go_wp2_with (go_at_call 215; refine (HO _).out.mono ?_; rintro e w' ⟨rfl, rfl⟩)
  go_ret
  exact ⟨by simp, rfl⟩
end Go.Proofs.YtadaiihoclknmaaGreat
/- Tables by which keys are found: Find. -/
namespace Go.Proofs.YtadaiihoclknmaaGreat
open Go.RowKit
set_option maxHeartbeats 4000000
set_option maxRecDepth 100000
set_option linter.unusedVariables false
set_option linter.unusedSimpArgs false

/-- What is found from a slot on, in so many looks, n looks over. -/
def pFindF (t : List Int) (keys : List ByteArray) (k : ByteArray) : Nat → Nat → Int × Int
  | 0, _ => (-1, t.length)
  | f + 1, a =>
    if t.getD a 0 = 0 then (-1, (t.length : Int) - f)
    else if 0 < t.getD a 0 ∧ t.getD a 0 ≤ keys.length ∧ (keys.getD (t.getD a 0 - 1).toNat ⟨#[]⟩).toList = k.toList then (t.getD a 0 - 1, (t.length : Int) - f)
    else pFindF t keys k f ((a + 1) % t.length)
def pFind (t : List Int) (keys : List ByteArray) (k : ByteArray) : Int × Int :=
  if t.length = pSize keys.length then pFindF t keys k t.length (pFirst t.length k) else (-1, 0)
theorem probe_Find (w : World) (I : IHeap) (hI : Held I w) (t : List Int) (keys : List ByteArray) (k : ByteArray) (tv kv : Value) (ht : Ints I tv t) (hk : Strs I kv keys) (hn : keys.length ≤ 1099511627776) (hs : k.size ≤ maxLen) :
    Calls Tryz.prog 111 #[tv, kv, .string k] w fun e w' => e = .returned (.tuple #[.int .i64 (pFind t keys k).1, .int .i64 (pFind t keys k).2]) ∧ w = w' := by
  obtain ⟨ta, tc, rfl, t1, t2, _⟩ := ht.form
  obtain ⟨ka, kc, rfl, k1, k2, _⟩ := hk.form
  obtain ⟨i, hi, hi1, hi2, hi3, hi4⟩ := pSize_pow keys.length hn
  have HT := Lib.hid ht
  have HK := Lib.hid hk
  have HI := Lib.hid hI
  clear ht hk hI
  go_enter Tryz.func111, Tryz.ntmps111
  by_cases hl : t.length = pSize keys.length
  · have HF := Lib.hid (show pFind t keys k = pFindF t keys k t.length (pFirst t.length k) from if_pos hl)
    have HP := fun w => Lib.hid (probe_first i hi2 k hs w)
    have HA := fun (x : Nat) (hx : x < 2 ^ 62) => and_pow x i hx (by omega)
    have hb : t.length ≤ 4398046511104 := by omega
    have hb0 : 0 < t.length := by rw [hl, hi]; exact Nat.two_pow_pos i
    have hp1 := pFirst_lt hb0 k
    rw [← hi, ← hl] at HP HA
    have t0 : ((t.length : Int) != (pSize keys.length : Nat)) = false := by rw [hl]; simp
    clear hl hi hi3 hi4 hi1 hi2
    generalize pFirst t.length k = at0 at *
    go_wp2_with (first
      | (go_at_call 157; refine (probe_Size _ hn _).mono ?_; rintro e w' ⟨rfl, rfl⟩)
      | (go_at_call 158; refine (HP _).out.mono ?_; rintro e w' ⟨rfl, rfl⟩))
    go_loopg [8, 9] t.length (fun g av nv W => ∃ a : Nat, av = .int .i64 a ∧ nv = .int .i64 ((t.length : Int) - g + 1) ∧ a < t.length ∧ g ≤ t.length ∧ Hid (W = w) ∧ Hid (pFind t keys k = pFindF t keys k g a))
    case atStart => exact ⟨at0, rfl, by simp, hp1, Nat.le_refl _, Lib.hid rfl, HF⟩
    case round =>
    obtain ⟨a, rfl, rfl, ha, hg, hw, he⟩ := hrel
    obtain rfl := hw.out
    clear HF hw
    cases gk with
    | zero =>
      have he2 := Lib.hid (show pFind t keys k = (-1, (t.length : Int)) from he.out)
      clear he
      have h1 : decide ((t.length : Int) - ((0 : Nat) : Int) + 1 ≤ t.length) = false := by simp; omega
      go_wp2
      go_ret2
      exact ⟨by rw [he2.out]; rfl, rfl⟩
    | succ f =>
    have en : (t.length : Int) - ((f + 1 : Nat) : Int) + 1 = (t.length : Int) - f := by omega
    rw [en]
    have h1 : decide ((t.length : Int) - f ≤ t.length) = true := decide_eq_true (by omega)
    obtain ⟨b, off, rfl, _, hc⟩ := Sl.cell HI.out HT.out (fun _ => rfl) hb0
    have hx := List.getElem?_eq_getElem ha
    have c0 : wr.cell? ⟨b, off + a * 1, none⟩ = _ := hc a 0 _ _ hx rfl
    rw [Nat.mul_one] at c0
    have E : t.getD a 0 = t[a] := by simp [List.getD, hx]
    have he1 := Lib.hid (he.out.trans (by rw [pFindF, E] : _ = _))
    generalize t[a] = x at c0 E he1
    clear he E hx hc
    have hnx := HA (a + 1) (by omega)
    have hnx2 : bits .and .i64 ((a : Int) + 1) ((t.length : Int) - 1) = ((a + 1) % t.length : Nat) := by rw [← hnx]; simp
    have hw1 : wrap64 ((t.length : Int) - f + 1) = (t.length : Int) - f + 1 := by unfold wrap64; omega
    clear hnx HA
    have hm : (a + 1) % t.length < t.length := Nat.mod_lt _ hb0
    generalize (a + 1) % t.length = a2 at *
    by_cases hz : x = 0
    · subst hz
      have he2 := Lib.hid (he1.out.trans (if_pos rfl))
      clear he1
      go_wp2
      try go_region
      all_goals
        try go_wp2
        go_ret2
        exact ⟨by rw [he2.out]; rfl, rfl⟩
    · have hz' : (x == 0) = false := by simpa using hz
      have he2 := Lib.hid (he1.out.trans (if_neg hz))
      clear he1
      by_cases hx1 : 0 < x ∧ x ≤ keys.length
      · obtain ⟨j, rfl⟩ : ∃ j : Nat, x = (j : Int) + 1 := ⟨(x - 1).toNat, by omega⟩
        have hj : j < keys.length := by omega
        obtain ⟨b2, off2, rfl, _, hc⟩ := Sl.cell HI.out HK.out (fun _ => rfl) (by omega)
        have hx := List.getElem?_eq_getElem hj
        have c1 : wr.cell? ⟨b2, off2 + j * 1, none⟩ = _ := hc j 0 _ _ hx rfl
        rw [Nat.mul_one] at c1
        have E : keys.getD ((j : Int) + 1 - 1).toNat ⟨#[]⟩ = keys[j] := by simp [List.getD, hx]
        rw [E] at he2
        generalize keys[j] = q at c1 he2
        clear hc hx E
        have hj1 : decide (0 < (j : Int) + 1) = true := decide_eq_true (by omega)
        have hj2 : decide ((j : Int) + 1 ≤ keys.length) = true := decide_eq_true (by omega)
        have hj3 : wrap64 ((j : Int) + 1 - 1) = j := by unfold wrap64; omega
        by_cases hq : q.toList = k.toList
        · have he3 := Lib.hid (he2.out.trans (if_pos ⟨hx1.1, hx1.2, hq⟩))
          have hq' : (q.toList == k.toList) = true := by simpa using hq
          go_wp2
          try go_region
          all_goals
            try go_wp2
            go_ret2
            exact ⟨by rw [he3.out]; simp, rfl⟩
        · have he3 := Lib.hid (he2.out.trans (if_neg (fun h => hq h.2.2)))
          have hq' : (q.toList == k.toList) = false := by simpa using hq
          go_wp2
          go_roundg f
          case measure => omega
          case rel => exact ⟨a2, rfl, rfl, hm, by omega, Lib.hid rfl, he3⟩
      · have he3 := Lib.hid (he2.out.trans (if_neg (fun h => hx1 ⟨h.1, h.2.1⟩)))
        by_cases hx0 : 0 < x
        · have hj1 : decide (0 < x) = true := decide_eq_true hx0
          have hj2 : decide (x ≤ keys.length) = false := decide_eq_false (fun h => hx1 ⟨hx0, h⟩)
          go_wp2
          go_roundg f
          case measure => omega
          case rel => exact ⟨a2, rfl, rfl, hm, by omega, Lib.hid rfl, he3⟩
        · have hj1 : decide (0 < x) = false := decide_eq_false hx0
          go_wp2
          go_roundg f
          case measure => omega
          case rel => exact ⟨a2, rfl, rfl, hm, by omega, Lib.hid rfl, he3⟩
  · have he3 := Lib.hid (show pFind t keys k = (-1, 0) from if_neg hl)
    have t0 : ((t.length : Int) != (pSize keys.length : Nat)) = true := by simp; omega
    clear hl hi hi3 hi4 hi1 hi2
    go_wp2_with (go_at_call 157; refine (probe_Size _ hn _).mono ?_; rintro e w' ⟨rfl, rfl⟩)
    try go_region
    all_goals
      try go_wp2
      go_ret2
      exact ⟨by rw [he3.out]; rfl, rfl⟩
end Go.Proofs.YtadaiihoclknmaaGreat
