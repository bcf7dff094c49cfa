/- Part 1 of the proof: Base, Row, Tag, Data. -/
import Derived.Test.YtadaiihoclknmaaGreatProg
import Derived.WalkKit
import Derived.WalkSpells
import Derived.WalkLawsBesides
import Derived.Deep.QuietTactic
import Derived.BigQuiet
import Derived.KernelRfl
import Derived.Lib.Hide
import Derived.Test.YtadaiihoclknmaaGreatRows
import Derived.ProofKit
import Derived.OpenShut
/- The data that the program's functions read and make, as plain Lean values, and how they lie in memory. -/
set_option linter.unusedVariables false
set_option linter.unusedSimpArgs false
namespace Go.Proofs.YtadaiihoclknmaaGreat
open Go.RowKit

theorem quiet_eq {P : Program} {f : FuncId} {args : Array Value} {w : World} {n : Nat} {v : Value}
    (h : Calls P f args (w.drewN n) fun e w' => e = .returned v ∧ w.drewN n = w') : Calls P f args (w.drewN n) fun e w'' => e = .returned v ∧ ∃ m, w'' = w.drewN m :=
  h.mono fun _ _ ⟨he, hm⟩ => ⟨he, n, hm.symm⟩
theorem post_panic {P : Program} {fn : Func} {R : Ending → World → Prop} {a : Act} {w : World} {ch : List PanicEntry} (hd : a.defers = []) (h : R (.panicked ch) w) : bodyPost P fn R (.panic ch) a w := ⟨hd, h⟩

/-! ### Memory that nobody writes any more -/
abbrev IHeap := Nat → Option Obj
def ILe (I J : IHeap) : Prop := ∀ k o, I k = some o → J k = some o
theorem ILe.refl (I : IHeap) : ILe I I := fun _ _ h => h
theorem ILe.trans {I J K : IHeap} (h : ILe I J) (k : ILe J K) : ILe I K := fun _ _ x => k _ _ (h _ _ x)

/-- Types whose blocks are written: ports, memories, cells, answers, machines. -/
def mutT (t : TypeId) : Bool := t == 152 || t == 169 || t == 239 || t == 154 || t == 218
def immO : Obj → Prop
  | .cells _ t _ => mutT t = false
  | _ => False
structure Held (I : IHeap) (w : World) : Prop where
  at_ : ∀ k o, I k = some o → w.heap[k]? = some o
  imm : ∀ k o, I k = some o → immO o
theorem Held.lt {I : IHeap} {w : World} (h : Held I w) {k : Nat} {o : Obj} (hk : I k = some o) : k < w.heap.size := (Array.getElem?_eq_some_iff.1 (h.at_ k o hk)).1

/-- One object more that nobody writes any more. -/
def IHeap.put (I : IHeap) (k : Nat) (o : Obj) : IHeap := fun j => if j = k then some o else I j
theorem ILe.put {I : IHeap} {w : World} (h : Held I w) {k : Nat} {o : Obj} (hk : w.heap[k]? = some o) : ILe I (I.put k o) := by
  intro j q hj
  unfold IHeap.put
  by_cases e : j = k
  · subst e; rw [if_pos rfl, ← hk, h.at_ _ _ hj]
  · rw [if_neg e]; exact hj
theorem Held.put {I : IHeap} {w : World} (h : Held I w) {k : Nat} {o : Obj} (hk : w.heap[k]? = some o) (ho : immO o) : Held (I.put k o) w := by
  refine ⟨fun j q hj => ?_, fun j q hj => ?_⟩ <;> unfold IHeap.put at hj <;> by_cases e : j = k
  · subst e; rw [if_pos rfl] at hj; injection hj with hj; rw [← hj]; exact hk
  · rw [if_neg e] at hj; exact h.at_ _ _ hj
  · subst e; rw [if_pos rfl] at hj; injection hj with hj; rw [← hj]; exact ho
  · rw [if_neg e] at hj; exact h.imm _ _ hj

/-! ### What is kept from one world to another: all but some blocks -/
/-- All that was there is as it was, but for the blocks S. -/
structure Kept (S : Nat → Prop) (w w' : World) : Prop where
  os : w'.os = w.os
  tape : w'.tape = w.tape
  output : w'.output = w.output
  size : w.heap.size ≤ w'.heap.size
  block : ∀ k, k < w.heap.size → ¬ S k → w'.heap[k]? = w.heap[k]?
theorem Kept.refl (S : Nat → Prop) (w : World) : Kept S w w := ⟨rfl, rfl, rfl, Nat.le_refl _, fun _ _ _ => rfl⟩
theorem Kept.trans {S : Nat → Prop} {a b c : World} (h : Kept S a b) (k : Kept S b c) : Kept S a c :=
  ⟨k.os.trans h.os, k.tape.trans h.tape, k.output.trans h.output, Nat.le_trans h.size k.size, fun i hi hs => (k.block i (Nat.lt_of_lt_of_le hi h.size) hs).trans (h.block i hi hs)⟩
theorem Kept.mono {S S' : Nat → Prop} {a b : World} (h : Kept S a b) (hs : ∀ k, k < a.heap.size → S k → S' k) : Kept S' a b := ⟨h.os, h.tape, h.output, h.size, fun k hk hn => h.block k hk (fun x => hn (hs k hk x))⟩
theorem Kept.drew {S : Nat → Prop} {a w : World} (h : Kept S a w) : Kept S a w.drew := ⟨h.os, h.tape, h.output, h.size, h.block⟩
theorem Kept.drewN {S : Nat → Prop} {a w : World} (h : Kept S a w) (n : Nat) : Kept S a (w.drewN n) := ⟨h.os, h.tape, h.output, h.size, h.block⟩
theorem Kept.alloc {S : Nat → Prop} {a w : World} (h : Kept S a w) (o : Obj) : Kept S a (w.alloc o) :=
  h.trans ⟨rfl, rfl, rfl, by simp, fun k hk _ => Below.heap_alloc _ _ _ hk⟩
theorem Kept.setCell {S : Nat → Prop} {a w : World} (h : Kept S a w) {p : Addr} (hp : p.block < a.heap.size → S p.block) (u : Value) : Kept S a (w.setCell p u) :=
  ⟨h.os, h.tape, h.output, by simpa [World.setCell] using h.size, fun k hk hs => (Below.heap_setCell _ _ _ _ (fun e => hs (by rw [e]; exact hp (by rw [← e]; exact hk)))).trans (h.block k hk hs)⟩
theorem Kept.grown {S : Nat → Prop} {a w w' : World} {row : Option Nat} (h : Kept S a w) (hg : w.grownBy w' row) (hr : ∀ k, row = some k → k < a.heap.size → S k) : Kept S a w' :=
  ⟨hg.os.trans h.os, hg.tape.trans h.tape, hg.output.trans h.output, Nat.le_trans h.size hg.size, fun k hk hs => (hg.block k (Nat.lt_of_lt_of_le hk h.size) (fun e => hs (hr k e.symm hk))).trans (h.block k hk hs)⟩
theorem Kept.below {S : Nat → Prop} {a w w' : World} (h : Kept S a w) (hb : Below w.heap.size w w') : Kept S a w' :=
  ⟨hb.os.trans h.os, hb.tape.trans h.tape, hb.output.trans h.output, Nat.le_trans h.size hb.size, fun k hk hs => (hb.block k (Nat.lt_of_lt_of_le hk h.size)).trans (h.block k hk hs)⟩
/-- Nothing but new blocks. -/
abbrev New (w w' : World) : Prop := Kept (fun _ => False) w w'
theorem New.kept {w w' : World} (h : New w w') (S : Nat → Prop) : Kept S w w' := h.mono (fun _ _ x => x.elim)
theorem Kept.obj {S : Nat → Prop} {w w' : World} (h : Kept S w w') {k : Nat} {o : Obj} (hk : w.heap[k]? = some o) (hs : ¬ S k) : w'.heap[k]? = some o :=
  (h.block k (Array.getElem?_eq_some_iff.1 hk).1 hs).trans hk
theorem Kept.cell {S : Nat → Prop} {w w' : World} (h : Kept S w w') {a : Addr} {v : Value} (hc : w.cell? a = some v) (hs : ¬ S a.block) : w'.cell? a = some v :=
  (World.cell?_of_block (h.block a.block (World.block_lt_of_cell? w a hc) hs)).trans hc
theorem New.obj {w w' : World} (h : New w w') {k : Nat} {o : Obj} (hk : w.heap[k]? = some o) : w'.heap[k]? = some o := Kept.obj h hk id
theorem New.cell {w w' : World} (h : New w w') {a : Addr} {v : Value} (hc : w.cell? a = some v) : w'.cell? a = some v := Kept.cell h hc id
theorem New.trans {a b c : World} (h : New a b) (k : New b c) : New a c := Kept.trans h k

/-- A block's cell, and that it may be written. -/
theorem cell_blk {w : World} {b : Nat} {cs : Array Value} {t : TypeId} {fr : Nat × Nat} (h : w.heap[b]? = some (.cells cs t fr)) (j : Nat) : w.cell? ⟨b, j, none⟩ = cs[j]? := by simp [World.cell?, h]
theorem free_blk {w : World} {b : Nat} {cs : Array Value} {t : TypeId} (h : w.heap[b]? = some (.cells cs t (0, 0))) (j : Nat) : w.frozen? ⟨b, j, none⟩ = false := by simp [World.frozen?, h]
theorem set_blk {w : World} {b : Nat} {cs : Array Value} {t : TypeId} {fr : Nat × Nat} (h : w.heap[b]? = some (.cells cs t fr)) (j : Nat) (u : Value) : (w.setCell ⟨b, j, none⟩ u).heap[b]? = some (.cells (cs.setIfInBounds j u) t fr) := by
  have hlt := (Array.getElem?_eq_some_iff.1 h).1
  have h' : w.heap[b] = .cells cs t fr := by simpa [Array.getElem?_eq_getElem hlt] using h
  show (w.heap.modify b _)[b]? = _
  rw [Array.getElem?_eq_getElem (by simpa using hlt), Array.getElem_modify_self, h']
  rfl
theorem set_far {w : World} {b : Nat} {o : Obj} (h : w.heap[b]? = some o) {a : Addr} (hne : b ≠ a.block) (u : Value) : (w.setCell a u).heap[b]? = some o := (Below.heap_setCell _ _ _ _ hne).trans h
theorem alloc_old {w : World} {b : Nat} {o q : Obj} (h : w.heap[b]? = some o) : (w.alloc q).heap[b]? = some o := (Below.heap_alloc _ _ _ (Array.getElem?_eq_some_iff.1 h).1).trans h
theorem alloc_new (w : World) (q : Obj) : (w.alloc q).heap[w.heap.size]? = some q := heap_alloc_new w q

theorem Held.kept {I : IHeap} {w w' : World} {S : Nat → Prop} (h : Held I w) (hk : Kept S w w') (hs : ∀ k o, I k = some o → ¬ S k) : Held I w' :=
  ⟨fun k o hI => hk.obj (h.at_ k o hI) (hs k o hI), h.imm⟩
theorem Held.alloc {I : IHeap} {w : World} (h : Held I w) (o : Obj) : Held I (w.alloc o) := ⟨fun k q hI => alloc_old (h.at_ k q hI), h.imm⟩
theorem Held.drew {I : IHeap} {w : World} (h : Held I w) : Held I w.drew := ⟨h.at_, h.imm⟩
theorem Held.drewN {I : IHeap} {w : World} (h : Held I w) (n : Nat) : Held I (w.drewN n) := ⟨h.at_, h.imm⟩

/-! ### Rows of cells that nobody writes any more -/
/-- A slice value: n elements of sz cells; its cells are xs. -/
def Row (I : IHeap) (E : TypeId) (sz : Nat) (v : Value) (n : Nat) (xs : List Value) : Prop :=
  xs.length = n * sz ∧ ∃ a cap, v = .slice a n cap ∧ n ≤ cap ∧ cap ≤ maxLen ∧ (a = none → cap = 0) ∧
    (n = 0 ∨ ∃ b off cur fr, a = some ⟨b, off, none⟩ ∧ I b = some (.cells cur E fr) ∧ (cur.toList.drop off).take (n * sz) = xs)
theorem Row.mono {I J : IHeap} {E : TypeId} {sz : Nat} {v : Value} {n : Nat} {xs : List Value} (h : Row I E sz v n xs) (hl : ILe I J) : Row J E sz v n xs := by
  obtain ⟨h1, a, cap, hv, h2, h3, h5, h4⟩ := h
  refine ⟨h1, a, cap, hv, h2, h3, h5, ?_⟩
  rcases h4 with h4 | ⟨b, off, cur, fr, ha, hI, hx⟩
  · exact .inl h4
  · exact .inr ⟨b, off, cur, fr, ha, hl _ _ hI, hx⟩
theorem Row.nil (I : IHeap) (E : TypeId) (sz : Nat) : Row I E sz (.slice none 0 0) 0 [] := ⟨by simp, none, 0, rfl, Nat.le_refl _, Nat.zero_le _, fun _ => rfl, .inl rfl⟩
/-- What a call made and owns, once it is written no more. -/
theorem Row.of_own {I : IHeap} {w : World} {base : Nat} {E : TypeId} {sz : Nat} {v : Value} {n : Nat} {xs : List Value} (hI : Held I w) (ht : mutT E = false) (h : w.ownsRow base E sz v n xs) :
    ∃ J, ILe I J ∧ Held J w ∧ Row J E sz v n xs ∧ (∀ k, J k ≠ none → I k ≠ none ∨ base ≤ k) := by
  obtain ⟨h1, h2⟩ := h
  rcases h2 with ⟨rfl, rfl⟩ | ⟨g, cap, cur, rfl, hb, hg, hnc, hcm, hcs, htake⟩
  · refine ⟨I, ILe.refl _, hI, ⟨h1, none, 0, rfl, Nat.le_refl _, Nat.zero_le _, fun _ => rfl, .inl rfl⟩, fun k hk => .inl hk⟩
  · refine ⟨I.put g (.cells cur E (0, 0)), ILe.put hI hg, hI.put hg ht, ⟨h1, some ⟨g, 0, none⟩, cap, rfl, hnc, hcm, (fun h => by cases h), .inr ⟨g, 0, cur, (0, 0), rfl, by simp [IHeap.put], by simpa using htake⟩⟩, fun k hk => ?_⟩
    unfold IHeap.put at hk
    by_cases e : k = g
    · exact .inr (e ▸ hb)
    · rw [if_neg e] at hk; exact .inl hk
/-- The cells of a row. -/
theorem Row.cell {I : IHeap} {w : World} {E : TypeId} {sz : Nat} {a : Option Addr} {n m cap : Nat} {xs : List Value} (hI : Held I w) (h : Row I E sz (.slice a m cap) n xs) (hn : 0 < n) :
    ∃ b off, a = some ⟨b, off, none⟩ ∧ m = n ∧ ∀ j u, xs[j]? = some u → w.cell? ⟨b, off + j, none⟩ = some u := by
  obtain ⟨h1, a', cap', hv, h2, h3, _, h4⟩ := h
  injection hv with e1 e2 e3
  subst e1 e2 e3
  rcases h4 with h4 | ⟨b, off, cur, fr, rfl, hIb, hx⟩
  · omega
  · refine ⟨b, off, rfl, rfl, fun j u hu => ?_⟩
    rw [cell_blk (hI.at_ _ _ hIb)]
    rw [← hx, List.getElem?_take] at hu
    split at hu
    · simpa [List.getElem?_drop] using hu
    · cases hu
theorem Row.form {I : IHeap} {E : TypeId} {sz : Nat} {v : Value} {n : Nat} {xs : List Value} (h : Row I E sz v n xs) : ∃ a cap, v = .slice a n cap ∧ n ≤ cap ∧ cap ≤ maxLen ∧ (a = none → cap = 0) := by
  obtain ⟨_, a, cap, hv, h2, h3, h4, _⟩ := h
  exact ⟨a, cap, hv, h2, h3, h4⟩

/-- Elements of a plain kind: enc: an element's cells. -/
def Sl {α : Type} (I : IHeap) (E : TypeId) (sz : Nat) (enc : α → List Value) (v : Value) (xs : List α) : Prop := Row I E sz v xs.length (xs.flatMap enc)
theorem Sl.mono {α : Type} {I J : IHeap} {E : TypeId} {sz : Nat} {enc : α → List Value} {v : Value} {xs : List α} (h : Sl I E sz enc v xs) (hl : ILe I J) : Sl J E sz enc v xs := Row.mono h hl
theorem flat_at {α : Type} {enc : α → List Value} {sz : Nat} (he : ∀ x, (enc x).length = sz) : ∀ (xs : List α) (i j : Nat) (x : α), xs[i]? = some x → j < sz → (xs.flatMap enc)[i * sz + j]? = (enc x)[j]?
  | [], i, j, x, h, _ => by simp at h
  | y :: ys, 0, j, x, h, hj => by
    simp at h; subst h
    simp only [List.flatMap_cons, Nat.zero_mul, Nat.zero_add]
    rw [List.getElem?_append_left (by rw [he]; exact hj)]
  | y :: ys, i + 1, j, x, h, hj => by
    simp at h
    simp only [List.flatMap_cons]
    rw [List.getElem?_append_right (by rw [he, Nat.succ_mul]; omega), he, show (i + 1) * sz + j - sz = i * sz + j by rw [Nat.succ_mul]; omega]
    exact flat_at he ys i j x h hj
theorem Sl.cell {α : Type} {I : IHeap} {w : World} {E : TypeId} {sz : Nat} {enc : α → List Value} {a : Option Addr} {m cap : Nat} {xs : List α} (hI : Held I w) (h : Sl I E sz enc (.slice a m cap) xs) (he : ∀ x, (enc x).length = sz)
    (hn : 0 < xs.length) : ∃ b off, a = some ⟨b, off, none⟩ ∧ m = xs.length ∧ ∀ i j x u, xs[i]? = some x → (enc x)[j]? = some u → w.cell? ⟨b, off + (i * sz + j), none⟩ = some u := by
  obtain ⟨b, off, ha, hm, hc⟩ := Row.cell hI h hn
  refine ⟨b, off, ha, hm, fun i j x u hx hu => hc _ _ ?_⟩
  have hj : j < sz := by rw [← he x]; exact (List.getElem?_eq_some_iff.1 hu).1
  rw [flat_at he xs i j x hx hj]
  exact hu
theorem Sl.form {α : Type} {I : IHeap} {E : TypeId} {sz : Nat} {enc : α → List Value} {v : Value} {xs : List α} (h : Sl I E sz enc v xs) : ∃ a cap, v = .slice a xs.length cap ∧ xs.length ≤ cap ∧ cap ≤ maxLen ∧ (a = none → cap = 0) := Row.form h

end Go.Proofs.YtadaiihoclknmaaGreat
/- Rows of laws: behind a call that has made new blocks alone. -/
namespace Go.Proofs.YtadaiihoclknmaaGreat
open Go.ChangeShapes Go.WideShapes Go.ChangeAt Go.RowKit
set_option linter.unusedVariables false
theorem New.keptBut {w w' : World} (h : New w w') (may : MemPlace → Prop) : w.keptBut w' may := by
  refine ⟨h.os, h.output, fun i hi => ?_⟩
  have e := h.block i hi id
  rw [e]
  rcases w.heap[i]? with _ | o
  · rfl
  · cases o <;> first | exact ⟨rfl, rfl, rfl, fun _ _ => rfl⟩ | exact .inr ⟨rfl, rfl⟩ | rfl
theorem New.frozen {w w' : World} (h : New w w') {a : Addr} (ha : a.block < w.heap.size) : w'.frozen? a = w.frozen? a := by
  unfold World.frozen?
  rw [h.block a.block ha id]
theorem post_of_new {P : Program} {H : Type} {enc : TypeId × Value → H} {f : Func} {s : ChangeSpec} {apart fresh handsOn again : Bool} {W W' : World} {args : Array Value} {v : Value} {ds gs : List (DataW H)} {before pa pv : List MemPlace}
    (hW : DataW.Whole enc P f.params.toList s.vars apart W args.toList ds gs before)
    (hres : ∀ (b : Nat) (sp : Nat → Bool) (hd : Bool), DataW.TrodAll enc P W' b sp hd f.resultTypes.toList (v.resultList f.resultTypes.size) (s.fn H (ds ++ gs)).results [])
    (hargs : ∀ sp : Nat → Bool, (∀ p ∈ before, sp p.block = true) → DataW.TrodAll enc P W' 0 sp true f.params.toList args.toList (s.fn H (ds ++ gs)).args pa)
    (hvars : ∀ sp : Nat → Bool, (∀ p ∈ before, sp p.block = true) → DataW.TrodVars enc P W' sp s.vars (s.fn H (ds ++ gs)).vars pv)
    (hps : before = pa ++ pv) (hk : New W W')
    (hok : ∀ (j : Nat) (t : TypeId) (r : Value), f.resultTypes[j]? = some t → (v.resultList f.resultTypes.size)[j]? = some r → Value.okWide P W' .any 0 t r) :
    s.post enc P f apart fresh handsOn again W args v W' := by
  have hlt : ∀ p ∈ before, p.block < W.heap.size := fun p hp => hW.lt p hp
  have hold : ∀ p ∈ before, (fun b => decide (b < W.heap.size)) p.block = true := fun p hp => by simpa using hlt p hp
  refine ⟨ds, gs, before, [], pa, pv, hW, hres _ _ _, hargs _ hold, hvars _ hold, World.keptBut_mono (fun p hp => ⟨hp, ?_⟩) (hk.keptBut (· ∈ before)), fun _ => ?_⟩
  · rw [hps, List.mem_append] at hp
    exact Or.inr hp
  · obtain ⟨_, _, _, _, _, hz, hn⟩ := hW
    refine ⟨hok, _, _, ([] ++ pa) ++ pv, ⟨[] ++ pa, pv, trodAll_append (hargs _ (fun _ _ => rfl)) (hres _ _ _), hvars _ (fun _ _ => rfl), rfl, ?_, ?_⟩, ?_⟩
    · intro b off hp
      have hb : MemPlace.cell b off ∈ before := by rw [hps]; simpa using hp
      rw [hk.frozen (a := ⟨b, off, none⟩) (hlt _ hb)]
      exact hz b off hb
    · intro ha
      have := hn ha
      rw [hps] at this
      simpa using this
    · intro p hp _
      rw [hps]
      simpa using hp
end Go.Proofs.YtadaiihoclknmaaGreat
/- Handles, and words that bear a version. -/
namespace Go.Proofs.YtadaiihoclknmaaGreat
open Go.RowKit
set_option maxHeartbeats 400000
set_option linter.unusedVariables false
set_option linter.unusedSimpArgs false

def tRight (h : Int) : Bool := decide (0 ≤ h) && decide (h < 1073741824) && !(h % 65536 == 0)
def tHandle (p g : Int) : Int := if 0 ≤ p ∧ p ≤ 65534 ∧ 0 ≤ g ∧ g ≤ 16383 then g * 65536 + (p + 1) else 0
def tPlace (h : Int) : Int := if tRight h = true then h % 65536 - 1 else -1
def tGen (h : Int) : Int := if tRight h = true then h / 65536 else -1
def tWord (h v : Int) : Int := if (h ≠ 0 ∧ tRight h = false) ∨ ¬ (0 ≤ v ∧ v ≤ 1073741824) then -1 else v * 2147483648 + h
def tTo (w : Int) : Int := if w < 0 then 0 else if tRight (w % 2147483648) = true then w % 2147483648 else 0
def tStamp (w : Int) : Int := if 0 ≤ w ∧ w / 2147483648 ≤ 1073741824 ∧ (w % 2147483648 = 0 ∨ tRight (w % 2147483648) = true) then w / 2147483648 else -1

theorem wraps_i62 (n : Int) (h₀ : 0 ≤ n) (h₁ : n < 2 ^ 62) : IntKind.i64.wrap n = n := by rw [IntKind.wrap_i64]; omega
theorem and_16 (x : Int) (h₀ : 0 ≤ x) (h₁ : x < 4611686018427387904) : bits .and .i64 x 65535 = x % 65536 := bits_mask .i64 62 (by decide) wraps_i62 16 (by decide) x h₀ h₁
theorem and_31 (x : Int) (h₀ : 0 ≤ x) (h₁ : x < 4611686018427387904) : bits .and .i64 x 2147483647 = x % 2147483648 := bits_mask .i64 62 (by decide) wraps_i62 31 (by decide) x h₀ h₁
theorem and_32 (x : Int) (h₀ : 0 ≤ x) (h₁ : x < 4611686018427387904) : bits .and .i64 x 4294967295 = x % 4294967296 := bits_mask .i64 62 (by decide) wraps_i62 32 (by decide) x h₀ h₁
theorem or_16 (x y : Int) (h : x % 65536 = 0) (h₀ : 0 ≤ x) (h₁ : x < 4611686018427387904) (h2 : 0 ≤ y) (h3 : y < 65536) : bits .or .i64 x y = x + y :=
  bits_join .i64 62 (by decide) wraps_i62 16 x y h₀ h h₁ h2 h3 (by omega)
theorem or_31 (x y : Int) (h : x % 2147483648 = 0) (h₀ : 0 ≤ x) (h₁ : x < 4611686018427387904) (h2 : 0 ≤ y) (h3 : y < 2147483648) : bits .or .i64 x y = x + y :=
  bits_join .i64 62 (by decide) wraps_i62 31 x y h₀ h h₁ h2 h3 (by omega)
theorem tRight_of {h : Int} (a : 0 ≤ h) (b : h < 1073741824) : tRight h = !(h % 65536 == 0) := by simp [tRight, a, b]
theorem tRight_no {h : Int} (a : ¬ (0 ≤ h ∧ h < 1073741824)) : tRight h = false := by
  unfold tRight
  by_cases h0 : 0 ≤ h
  · simp [h0]; intro h1; omega
  · simp [h0]
theorem tRight_le {h : Int} (a : tRight h = true) : 0 ≤ h ∧ h < 1073741824 ∧ h % 65536 ≠ 0 := by
  simp [tRight] at a; omega

theorem within_any (a b : Int) (w : World) :
    Calls Tryz.prog 214 #[.int .i64 a, .int .i64 b] w fun e w' => e = .returned (.bool (decide (0 ≤ a) && decide (a ≤ b))) ∧ w = w' := by
  go_enter Tryz.func214, Tryz.ntmps214
  by_cases h : 0 ≤ a
  · go_wp2
    go_ret
    simp [h]
  · have h' : decide (0 ≤ a) = false := by simpa using h
    go_wp2
    go_ret
    simp [h']
theorem right_any (h : Int) (w : World) :
    Calls Tryz.prog 171 #[.int .i64 h] w fun e w' => e = .returned (.bool (tRight h)) ∧ w = w' := by
  go_enter Tryz.func171, Tryz.ntmps171
  by_cases h0 : 0 ≤ h ∧ h < 1073741824
  · have hr := tRight_of h0.1 h0.2
    have hb := and_16 h h0.1 (by omega)
    have hd : (decide (0 ≤ h / 65536) && decide (h / 65536 ≤ 16383)) = true := by simp; omega
    go_wp2_with (go_at_call 214; refine (within_any _ _ _).mono ?_; rintro e w' ⟨rfl, rfl⟩; rw [hd])
    go_ret
    exact ⟨by simp [hr, bne], rfl⟩
  · have hr := tRight_no h0
    have hd : (decide (0 ≤ h / 65536) && decide (h / 65536 ≤ 16383)) = false := by simp; omega
    go_wp2_with (go_at_call 214; refine (within_any _ _ _).mono ?_; rintro e w' ⟨rfl, rfl⟩; rw [hd])
    go_ret
    exact ⟨by simp [hr], rfl⟩
theorem handle_any (p g : Int) (w : World) :
    Calls Tryz.prog 189 #[.int .i64 p, .int .i64 g] w fun e w' => e = .returned (.int .i64 (tHandle p g)) ∧ w = w' := by
  go_enter Tryz.func189, Tryz.ntmps189
  by_cases h1 : 0 ≤ p ∧ p ≤ 65534
  · have hd : (decide (0 ≤ p) && decide (p ≤ 65534)) = true := by simp; omega
    by_cases h2 : 0 ≤ g ∧ g ≤ 16383
    · have hd2 : (decide (0 ≤ g) && decide (g ≤ 16383)) = true := by simp; omega
      have ho := or_16 (g * 65536) (p + 1) (by omega) (by omega) (by omega) (by omega) (by omega)
      have e1 : IntKind.i64.wrap (g * 65536) = g * 65536 := IntWalk.i64_in _ (by omega)
      go_wp2_with (go_at_call 214; refine (within_any _ _ _).mono ?_; rintro e w' ⟨rfl, rfl⟩; (first | rw [hd] | rw [hd2]))
      go_ret
      exact ⟨by unfold tHandle; rw [if_pos ⟨h1.1, h1.2, h2.1, h2.2⟩]; rfl, rfl⟩
    · have hd2 : (decide (0 ≤ g) && decide (g ≤ 16383)) = false := by simp; omega
      go_wp2_with (go_at_call 214; refine (within_any _ _ _).mono ?_; rintro e w' ⟨rfl, rfl⟩; (first | rw [hd] | rw [hd2]))
      go_ret
      exact ⟨by unfold tHandle; rw [if_neg (by omega)]; rfl, rfl⟩
  · have hd : (decide (0 ≤ p) && decide (p ≤ 65534)) = false := by simp; omega
    go_wp2_with (go_at_call 214; refine (within_any _ _ _).mono ?_; rintro e w' ⟨rfl, rfl⟩; rw [hd])
    go_ret
    exact ⟨by unfold tHandle; rw [if_neg (by omega)]; rfl, rfl⟩
theorem place_any (h : Int) (w : World) :
    Calls Tryz.prog 228 #[.int .i64 h] w fun e w' => e = .returned (.int .i64 (tPlace h)) ∧ w = w' := by
  go_enter Tryz.func228, Tryz.ntmps228
  by_cases hr : tRight h = true
  · obtain ⟨h0, h1, h2⟩ := tRight_le hr
    have hb := and_16 h h0 (by omega)
    have hx : 1 ≤ h % 65536 := by omega
    go_wp2_with (go_at_call 171; refine (right_any _ _).mono ?_; rintro e w' ⟨rfl, rfl⟩; rw [hr])
    go_ret
    exact ⟨by unfold tPlace; rw [if_pos hr]; rfl, rfl⟩
  · have hr' : tRight h = false := by simpa using hr
    go_wp2_with (go_at_call 171; refine (right_any _ _).mono ?_; rintro e w' ⟨rfl, rfl⟩; rw [hr'])
    go_ret
    exact ⟨by unfold tPlace; rw [if_neg hr]; rfl, rfl⟩
theorem gen_any (h : Int) (w : World) :
    Calls Tryz.prog 229 #[.int .i64 h] w fun e w' => e = .returned (.int .i64 (tGen h)) ∧ w = w' := by
  go_enter Tryz.func229, Tryz.ntmps229
  by_cases hr : tRight h = true
  · obtain ⟨h0, h1, h2⟩ := tRight_le hr
    go_wp2_with (go_at_call 171; refine (right_any _ _).mono ?_; rintro e w' ⟨rfl, rfl⟩; rw [hr])
    go_ret
    exact ⟨by unfold tGen; rw [if_pos hr]; rfl, rfl⟩
  · have hr' : tRight h = false := by simpa using hr
    go_wp2_with (go_at_call 171; refine (right_any _ _).mono ?_; rintro e w' ⟨rfl, rfl⟩; rw [hr'])
    go_ret
    exact ⟨by unfold tGen; rw [if_neg hr]; rfl, rfl⟩
theorem to_any (x : Int) (w : World) (hx : x < 4611686018427387904) :
    Calls Tryz.prog 125 #[.int .i64 x] w fun e w' => e = .returned (.int .i64 (tTo x)) ∧ w = w' := by
  go_enter Tryz.func125, Tryz.ntmps125
  by_cases h0 : x < 0
  · have h0' : decide (x < 0) = true := by simpa using h0
    go_wp2_with fail
    go_ret
    exact ⟨by unfold tTo; rw [if_pos h0]; rfl, rfl⟩
  · have h0' : decide (x < 0) = false := by simpa using h0
    have hb := and_31 x (by omega) hx
    by_cases hr : tRight (x % 2147483648) = true
    · go_wp2_with (go_at_call 171; refine (right_any _ _).mono ?_; rintro e w' ⟨rfl, rfl⟩; rw [hr])
      go_ret
      exact ⟨by unfold tTo; rw [if_neg (by omega), if_pos hr]; rfl, rfl⟩
    · have hr' : tRight (x % 2147483648) = false := by simpa using hr
      go_wp2_with (go_at_call 171; refine (right_any _ _).mono ?_; rintro e w' ⟨rfl, rfl⟩; rw [hr'])
      go_ret
      exact ⟨by unfold tTo; rw [if_neg (by omega), if_neg hr]; rfl, rfl⟩
theorem word_any (h v : Int) (w : World) :
    Calls Tryz.prog 156 #[.int .i64 h, .int .i64 v] w fun e w' => e = .returned (.int .i64 (tWord h v)) ∧ w = w' := by
  go_enter Tryz.func156, Tryz.ntmps156
  by_cases hz : h = 0
  · subst hz
    by_cases h2 : 0 ≤ v ∧ v ≤ 1073741824
    · have hd2 : (decide (0 ≤ v) && decide (v ≤ 1073741824)) = true := by simp; omega
      have ho := or_31 (v * 2147483648) 0 (by omega) (by omega) (by omega) (by omega) (by omega)
      go_wp2_with (go_at_call 214; refine (within_any _ _ _).mono ?_; rintro e w' ⟨rfl, rfl⟩; rw [hd2])
      go_ret
      exact ⟨by unfold tWord; rw [if_neg (by omega), Int.add_zero]; rfl, rfl⟩
    · have hd2 : (decide (0 ≤ v) && decide (v ≤ 1073741824)) = false := by simp; omega
      go_wp2_with (go_at_call 214; refine (within_any _ _ _).mono ?_; rintro e w' ⟨rfl, rfl⟩; rw [hd2])
      go_ret
      exact ⟨by unfold tWord; rw [if_pos (.inr h2)]; rfl, rfl⟩
  · have hz' : (h != 0) = true := by simpa using hz
    by_cases hr : tRight h = true
    · obtain ⟨g0, g1, g2⟩ := tRight_le hr
      by_cases h2 : 0 ≤ v ∧ v ≤ 1073741824
      · have hd2 : (decide (0 ≤ v) && decide (v ≤ 1073741824)) = true := by simp; omega
        have ho := or_31 (v * 2147483648) h (by omega) (by omega) (by omega) (by omega) (by omega)
        go_wp2_with (first | (go_at_call 214; refine (within_any _ _ _).mono ?_; rintro e w' ⟨rfl, rfl⟩; rw [hd2]) | (go_at_call 171; refine (right_any _ _).mono ?_; rintro e w' ⟨rfl, rfl⟩; rw [hr]))
        go_ret
        exact ⟨by unfold tWord; rw [if_neg (by rw [hr]; simp; omega)]; rfl, rfl⟩
      · have hd2 : (decide (0 ≤ v) && decide (v ≤ 1073741824)) = false := by simp; omega
        go_wp2_with (first | (go_at_call 214; refine (within_any _ _ _).mono ?_; rintro e w' ⟨rfl, rfl⟩; rw [hd2]) | (go_at_call 171; refine (right_any _ _).mono ?_; rintro e w' ⟨rfl, rfl⟩; rw [hr]))
        go_ret
        exact ⟨by unfold tWord; rw [if_pos (.inr h2)]; rfl, rfl⟩
    · have hr' : tRight h = false := by simpa using hr
      go_wp2_with (go_at_call 171; refine (right_any _ _).mono ?_; rintro e w' ⟨rfl, rfl⟩; rw [hr'])
      go_ret
      exact ⟨by unfold tWord; rw [if_pos (.inl ⟨hz, hr'⟩)]; rfl, rfl⟩
end Go.Proofs.YtadaiihoclknmaaGreat
/- The program's data: swaps, descriptors, revisions, ages, nodes; memory, a port, and what a function asks of it. -/
namespace Go.Proofs.YtadaiihoclknmaaGreat
open Go.RowKit
set_option linter.unusedVariables false
set_option linter.unusedSimpArgs false

/-! ### Plain data, and how it lies in memory -/
structure Swap where
  cell : Int
  old : Int
  new : Int
  deriving DecidableEq, Inhabited
structure Desc where
  version : Int
  before : Int
  status : Int
  swaps : List Swap
  deriving DecidableEq, Inhabited
structure Span where
  lo : ByteArray
  hi : ByteArray
  all : Bool
  deriving DecidableEq
structure Entry where
  key : ByteArray
  val : ByteArray
  gone : Bool
  deriving DecidableEq
structure Pair where
  key : ByteArray
  val : ByteArray
  deriving DecidableEq
structure Rev where
  version : Int
  rate : Int
  span : Span
  dead : Bool
  keys : List ByteArray
  vals : List ByteArray
  gone : List Bool
  table : List Int
  deriving DecidableEq
structure Age where
  rev : Rev
  prev : Int
  deriving DecidableEq
structure Node where
  low : ByteArray
  head : Int
  next : List Int
  deriving DecidableEq
/-- What a cell of memory holds: a word, or a block. -/
inductive Blk where
  | word (n : Int)
  | desc (d : Desc)
  | age (a : Age)
  | node (n : Node)
  deriving DecidableEq

instance : Inhabited Span := ⟨⟨ByteArray.empty, ByteArray.empty, false⟩⟩
instance : Inhabited Entry := ⟨⟨ByteArray.empty, ByteArray.empty, false⟩⟩
instance : Inhabited Pair := ⟨⟨ByteArray.empty, ByteArray.empty⟩⟩
def Span.none : Span := ⟨⟨#[]⟩, ⟨#[]⟩, false⟩
def Rev.none : Rev := ⟨0, 0, Span.none, false, [], [], [], []⟩
def Desc.none : Desc := ⟨0, 0, 0, []⟩
def Age.none : Age := ⟨Rev.none, 0⟩
def Node.none : Node := ⟨⟨#[]⟩, 0, []⟩
instance : Inhabited Rev := ⟨Rev.none⟩

def encInt (n : Int) : List Value := [.int .i64 n]
def encStr (s : ByteArray) : List Value := [.string s]
def encBool (b : Bool) : List Value := [.bool b]
def encSwap (s : Swap) : List Value := [.int .i64 s.cell, .int .i64 s.old, .int .i64 s.new]
def encEntry (e : Entry) : List Value := [.string e.key, .string e.val, .bool e.gone]
def encPair (e : Pair) : List Value := [.string e.key, .string e.val]
def encSpan (s : Span) : List Value := [.string s.lo, .string s.hi, .bool s.all]
abbrev Ints (I : IHeap) (v : Value) (xs : List Int) : Prop := Sl I 3 1 encInt v xs
abbrev Strs (I : IHeap) (v : Value) (xs : List ByteArray) : Prop := Sl I 9 1 encStr v xs
abbrev Bools (I : IHeap) (v : Value) (xs : List Bool) : Prop := Sl I 4 1 encBool v xs
abbrev Swaps (I : IHeap) (v : Value) (xs : List Swap) : Prop := Sl I 44 3 encSwap v xs
abbrev Entries (I : IHeap) (v : Value) (xs : List Entry) : Prop := Sl I 62 3 encEntry v xs
abbrev Pairs (I : IHeap) (v : Value) (xs : List Pair) : Prop := Sl I 74 2 encPair v xs
def spanV (s : Span) : Value := .agg #[.string s.lo, .string s.hi, .bool s.all]

/-- A revision's ten cells. -/
def RevR (I : IHeap) (c : List Value) (r : Rev) : Prop := ∃ k v g t, c = [.int .i64 r.version, .int .i64 r.rate, .string r.span.lo, .string r.span.hi, .bool r.span.all, .bool r.dead, k, v, g, t] ∧
  Strs I k r.keys ∧ Strs I v r.vals ∧ Bools I g r.gone ∧ Ints I t r.table
def RevV (I : IHeap) (v : Value) (r : Rev) : Prop := ∃ c, v = .agg c.toArray ∧ RevR I c r
def DescV (I : IHeap) (v : Value) (d : Desc) : Prop := ∃ s, v = .agg #[.int .i64 d.version, .int .i64 d.before, .int .i64 d.status, s] ∧ Swaps I s d.swaps
def AgeV (I : IHeap) (v : Value) (a : Age) : Prop := ∃ k l g t, v = .agg #[.int .i64 a.rev.version, .int .i64 a.rev.rate, .string a.rev.span.lo, .string a.rev.span.hi, .bool a.rev.span.all, .bool a.rev.dead, k, l, g, t, .int .i64 a.prev] ∧
  Strs I k a.rev.keys ∧ Strs I l a.rev.vals ∧ Bools I g a.rev.gone ∧ Ints I t a.rev.table
def NodeV (I : IHeap) (v : Value) (n : Node) : Prop := ∃ s, v = .agg #[.string n.low, .int .i64 n.head, s] ∧ Ints I s n.next
def BlkV (I : IHeap) (v : Value) : Option Blk → Prop
  | none => v = .nilIface
  | some (.word n) => v = .iface 227 (.int .i64 n)
  | some (.desc d) => ∃ x, v = .iface 46 x ∧ DescV I x d
  | some (.age a) => ∃ x, v = .iface 211 x ∧ AgeV I x a
  | some (.node n) => ∃ x, v = .iface 117 x ∧ NodeV I x n
theorem RevR.mono {I J : IHeap} {c : List Value} {r : Rev} (h : RevR I c r) (hl : ILe I J) : RevR J c r := by
  obtain ⟨k, v, g, t, hc, h1, h2, h3, h4⟩ := h; exact ⟨k, v, g, t, hc, h1.mono hl, h2.mono hl, h3.mono hl, h4.mono hl⟩
theorem RevV.mono {I J : IHeap} {v : Value} {r : Rev} (h : RevV I v r) (hl : ILe I J) : RevV J v r := by
  obtain ⟨c, hc, h⟩ := h; exact ⟨c, hc, h.mono hl⟩
theorem DescV.mono {I J : IHeap} {v : Value} {r : Desc} (h : DescV I v r) (hl : ILe I J) : DescV J v r := by
  obtain ⟨c, hc, h⟩ := h; exact ⟨c, hc, h.mono hl⟩
theorem NodeV.mono {I J : IHeap} {v : Value} {r : Node} (h : NodeV I v r) (hl : ILe I J) : NodeV J v r := by
  obtain ⟨c, hc, h⟩ := h; exact ⟨c, hc, h.mono hl⟩
theorem AgeV.mono {I J : IHeap} {v : Value} {r : Age} (h : AgeV I v r) (hl : ILe I J) : AgeV J v r := by
  obtain ⟨k, v, g, t, hc, h1, h2, h3, h4⟩ := h; exact ⟨k, v, g, t, hc, h1.mono hl, h2.mono hl, h3.mono hl, h4.mono hl⟩
theorem BlkV.mono {I J : IHeap} {v : Value} {b : Option Blk} (h : BlkV I v b) (hl : ILe I J) : BlkV J v b := by
  match b with
  | none => exact h
  | some (.word n) => exact h
  | some (.desc d) => obtain ⟨x, hx, h⟩ := h; exact ⟨x, hx, h.mono hl⟩
  | some (.age d) => obtain ⟨x, hx, h⟩ := h; exact ⟨x, hx, h.mono hl⟩
  | some (.node d) => obtain ⟨x, hx, h⟩ := h; exact ⟨x, hx, h.mono hl⟩

/-! ### Memory -/
structure Cel where
  v : Option Blk
  gen : Int
  stamp : Int
  retired : Bool
  deriving DecidableEq, Inhabited
structure Mem where
  cells : List Cel
  count : Int
  live : Int
  stale : Int
  deriving DecidableEq, Inhabited
/-- What memory answers. -/
structure Ans where
  b : Option Blk
  n : Int
  ok : Bool
  e : Int
  deriving DecidableEq, Inhabited
def CelR (I : IHeap) (c : List Value) (x : Cel) : Prop := ∃ b, c = [b, .int .i64 x.gen, .int .i64 x.stamp, .bool x.retired] ∧ BlkV I b x.v
def AnsR (I : IHeap) (c : List Value) (x : Ans) : Prop := ∃ b, c = [b, .int .i64 x.n, .bool x.ok, .int .i64 x.e] ∧ BlkV I b x.b
def AnsV (I : IHeap) (v : Value) (x : Ans) : Prop := ∃ b, v = .agg #[b, .int .i64 x.n, .bool x.ok, .int .i64 x.e] ∧ BlkV I b x.b
theorem CelR.mono {I J : IHeap} {c : List Value} {x : Cel} (h : CelR I c x) (hl : ILe I J) : CelR J c x := by
  obtain ⟨b, hc, h⟩ := h; exact ⟨b, hc, h.mono hl⟩
theorem AnsR.mono {I J : IHeap} {c : List Value} {x : Ans} (h : AnsR I c x) (hl : ILe I J) : AnsR J c x := by
  obtain ⟨b, hc, h⟩ := h; exact ⟨b, hc, h.mono hl⟩

/-- A port: where in the log it is, how often it may ask anew, what was noted. -/
structure PS where
  mem : Mem
  log : List Ans
  at_ : Nat
  left : Int
  note : Int
  deriving DecidableEq, Inhabited
structure Loc where
  p : Nat
  m : Nat
  cb : Nat

/-- Memory lies at block m of w, its cells at block cb. -/
structure MemAt (w : World) (m cb : Nat) (I : IHeap) (M : Mem) : Prop where
  hd : w.heap[m]? = some (.cells #[.slice (some ⟨cb, 0, none⟩) M.cells.length M.cells.length, .int .i64 M.count, .int .i64 M.live, .int .i64 M.stale] 169 (0, 0))
  small : M.cells.length ≤ 65535
  arr : ∃ cur, w.heap[cb]? = some (.cells cur 239 (0, 0)) ∧ cur.size = M.cells.length * 4 ∧ ∀ i c, M.cells[i]? = some c → CelR I ((cur.toList.drop (i * 4)).take 4) c
/-- The rows of a log: a slice's value, and its cells. -/
def LogR (w : World) (I : IHeap) (v : Value) (l : List Ans) : Prop :=
  ∃ xs, w.ownsRow 0 154 4 v l.length xs ∧ ∀ i a, l[i]? = some a → AnsR I ((xs.drop (i * 4)).take 4) a
structure PortAt (w : World) (p m : Nat) (I : IHeap) (s : PS) (lv : Value) : Prop where
  hd : w.heap[p]? = some (.cells #[.pointer (some ⟨m, 0, none⟩), lv, .int .i64 s.at_, .int .i64 s.left, .int .i64 s.note] 152 (0, 0))
  log : LogR w I lv s.log
  le : s.at_ ≤ s.log.length
structure St (w : World) (L : Loc) (I : IHeap) (s : PS) : Prop where
  held : Held I w
  mem : MemAt w L.m L.cb I s.mem
  port : ∃ lv, PortAt w L.p L.m I s lv
end Go.Proofs.YtadaiihoclknmaaGreat
