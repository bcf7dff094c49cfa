/- Part 18 of the proof: Pure2, Rev2, Rev4, Held. -/
import Derived.Test.YtadaiihoclknmaaGreatC07
import Derived.Test.YtadaiihoclknmaaGreatC05
import Derived.Test.YtadaiihoclknmaaGreatC17
import Derived.Deep.RegionHeld3
import Derived.Test.YtadaiihoclknmaaGreatC01
/- Rows of a function's own, one element more in a region that draws its order. -/
namespace Go.Proofs.YtadaiihoclknmaaGreat
open Go.RowKit
set_option maxRecDepth 100000
set_option linter.unusedVariables false
set_option linter.unusedSimpArgs false
section
variable {ops : Array Oper} {o : Oper} {a : Act} {Q : Exit → Act → World → Prop} {K : Act → World → Prop}
theorem step_pp1 {α : Type} {w W : World} {I J : IHeap} {E : Prop} (hg : o.guard = none) (s x : Operand) (t e : TypeId) (z : Value) (size bytes : Nat)
    (ho : o.op = .call { callee := .builtin .append, args := #[s, x], argTypes := #[t, t] })
    (ht : Tryz.prog.underlying t = some (.slice e)) (hinfo : (Tryz.prog.info? e).map (fun i => (i.zero, i.size, i.bytes)) = some (some z, size, bytes)) (hz : z.cells.size = size) (hs0 : 0 < size) (hb0 : 0 < bytes)
    (enc : α → List Value) (v : Value) (l : List α) (y : α) (b c : Nat) (cs : Array Value) (tb : TypeId) (fr : Nat × Nat) (hs : a.eval s = v) (hx : a.eval x = .slice (some ⟨b, 0, none⟩) 1 c) (hb : W.heap[b]? = some (.cells cs tb fr)) (hcs : cs = (enc y).toArray) (hys : (enc y).length = size) (h1 : ∀ u ∈ enc y, u.oneCell' = true)
    (HO : OL w J W e size enc v l) (HM : Pg w I J W) (hl : (l.length + 1) * bytes ≤ 140737488355328)
    (h : ∀ v1 W1, OL w J W1 e size enc v1 (l ++ [y]) → Pg w I J W1 → W.grownBy W1 v.ownBlock → (v1.ownBlock = v.ownBlock ∨ v1.ownBlock = some W.heap.size) → K (a.put o.dst v1) W1) :
    if Region.wanted o (yielded ops a.tmps) = true then Oper.wp Tryz.prog o a W K Q else E := by
  subst hcs
  obtain ⟨i0, hi, hzz⟩ := Option.map_eq_some_iff.1 hinfo
  simp only [Prod.mk.injEq] at hzz
  obtain ⟨hz0, hz1, hz2⟩ := hzz
  have hw : Region.wanted o (yielded ops a.tmps) = true := by simp [Region.wanted, hg]
  have hlen : l.length + 1 ≤ 140737488355328 := Nat.le_trans (Nat.le_mul_of_pos_right _ hb0) hl
  rw [if_pos hw]
  obtain ⟨v1, w1, hr, hown, hgr, _, hat⟩ := run_append_own_at (P := Tryz.prog) W w.heap.size t o.type e i0 z size bytes ht hi hz0 hz1 hz2 hz hs0 v l.length (l.flatMap enc) HO.own ⟨b, 0, none⟩ 1 c (enc y) (by simpa using hys) (news_blk hb) h1 (by simp only [maxLen]; omega) hl HM.size
  unfold Oper.wp execOp
  simp only [ho, resolve, invoke, builtin, Sem.run_bind, Sem.run_pure, Result.andThen_ok, List.map_toArray, List.map_cons, List.map_nil, hs, hx, hr]
  refine h v1 w1 ⟨by simpa using hown, HO.ty, fun k hk => ?_⟩ (HM.app HO hgr) hgr hat
  rcases hat with hat | hat
  · exact HO.no k (hat ▸ hk)
  · rw [hat] at hk; injection hk with hk; subst hk; exact HM.fresh
end
theorem step_pp_str {ops : Array Oper} {o : Oper} {a : Act} {Q : Exit → Act → World → Prop} {K : Act → World → Prop} {w W : World} {I J : IHeap} {E : Prop} (hg : o.guard = none) (s x : Operand)
    (ho : o.op = .call { callee := .builtin .append, args := #[s, x], argTypes := #[76, 76] })
    (v : Value) (l : List ByteArray) (y : ByteArray) (b c : Nat) (cs : Array Value) (tb : TypeId) (fr : Nat × Nat) (hs : a.eval s = v) (hx : a.eval x = .slice (some ⟨b, 0, none⟩) 1 c) (hb : W.heap[b]? = some (.cells cs tb fr)) (hcs : cs = (encStr y).toArray)
    (HO : OL w J W 9 1 encStr v l) (HM : Pg w I J W) (hl : (l.length + 1) * 16 ≤ 140737488355328)
    (h : ∀ v1 W1, OL w J W1 9 1 encStr v1 (l ++ [y]) → Pg w I J W1 → W.grownBy W1 v.ownBlock → (v1.ownBlock = v.ownBlock ∨ v1.ownBlock = some W.heap.size) → K (a.put o.dst v1) W1) :
    if Region.wanted o (yielded ops a.tmps) = true then Oper.wp Tryz.prog o a W K Q else E :=
  step_pp1 hg s x 76 9 (.string ⟨#[]⟩) 1 16 ho Tryz.underlying76 info_str rfl (by decide) (by decide) encStr v l y b c cs tb fr hs hx hb hcs rfl (by intro u hu; simp [encStr] at hu; first | (subst hu; rfl) | (rcases hu with rfl | rfl <;> rfl) | (rcases hu with rfl | rfl | rfl <;> rfl)) HO HM hl h
theorem step_pp_bool {ops : Array Oper} {o : Oper} {a : Act} {Q : Exit → Act → World → Prop} {K : Act → World → Prop} {w W : World} {I J : IHeap} {E : Prop} (hg : o.guard = none) (s x : Operand)
    (ho : o.op = .call { callee := .builtin .append, args := #[s, x], argTypes := #[90, 90] })
    (v : Value) (l : List Bool) (y : Bool) (b c : Nat) (cs : Array Value) (tb : TypeId) (fr : Nat × Nat) (hs : a.eval s = v) (hx : a.eval x = .slice (some ⟨b, 0, none⟩) 1 c) (hb : W.heap[b]? = some (.cells cs tb fr)) (hcs : cs = (encBool y).toArray)
    (HO : OL w J W 4 1 encBool v l) (HM : Pg w I J W) (hl : (l.length + 1) * 1 ≤ 140737488355328)
    (h : ∀ v1 W1, OL w J W1 4 1 encBool v1 (l ++ [y]) → Pg w I J W1 → W.grownBy W1 v.ownBlock → (v1.ownBlock = v.ownBlock ∨ v1.ownBlock = some W.heap.size) → K (a.put o.dst v1) W1) :
    if Region.wanted o (yielded ops a.tmps) = true then Oper.wp Tryz.prog o a W K Q else E :=
  step_pp1 hg s x 90 4 (.bool false) 1 1 ho Tryz.underlying90 info_bool rfl (by decide) (by decide) encBool v l y b c cs tb fr hs hx hb hcs rfl (by intro u hu; simp [encBool] at hu; first | (subst hu; rfl) | (rcases hu with rfl | rfl <;> rfl) | (rcases hu with rfl | rfl | rfl <;> rfl)) HO HM hl h
theorem step_pp_int {ops : Array Oper} {o : Oper} {a : Act} {Q : Exit → Act → World → Prop} {K : Act → World → Prop} {w W : World} {I J : IHeap} {E : Prop} (hg : o.guard = none) (s x : Operand)
    (ho : o.op = .call { callee := .builtin .append, args := #[s, x], argTypes := #[23, 23] })
    (v : Value) (l : List Int) (y : Int) (b c : Nat) (cs : Array Value) (tb : TypeId) (fr : Nat × Nat) (hs : a.eval s = v) (hx : a.eval x = .slice (some ⟨b, 0, none⟩) 1 c) (hb : W.heap[b]? = some (.cells cs tb fr)) (hcs : cs = (encInt y).toArray)
    (HO : OL w J W 3 1 encInt v l) (HM : Pg w I J W) (hl : (l.length + 1) * 8 ≤ 140737488355328)
    (h : ∀ v1 W1, OL w J W1 3 1 encInt v1 (l ++ [y]) → Pg w I J W1 → W.grownBy W1 v.ownBlock → (v1.ownBlock = v.ownBlock ∨ v1.ownBlock = some W.heap.size) → K (a.put o.dst v1) W1) :
    if Region.wanted o (yielded ops a.tmps) = true then Oper.wp Tryz.prog o a W K Q else E :=
  step_pp1 hg s x 23 3 (.int .i64 0) 1 8 ho Tryz.underlying23 info_int rfl (by decide) (by decide) encInt v l y b c cs tb fr hs hx hb hcs rfl (by intro u hu; simp [encInt] at hu; first | (subst hu; rfl) | (rcases hu with rfl | rfl <;> rfl) | (rcases hu with rfl | rfl | rfl <;> rfl)) HO HM hl h
theorem step_pp_entry {ops : Array Oper} {o : Oper} {a : Act} {Q : Exit → Act → World → Prop} {K : Act → World → Prop} {w W : World} {I J : IHeap} {E : Prop} (hg : o.guard = none) (s x : Operand)
    (ho : o.op = .call { callee := .builtin .append, args := #[s, x], argTypes := #[55, 55] })
    (v : Value) (l : List Entry) (y : Entry) (b c : Nat) (cs : Array Value) (tb : TypeId) (fr : Nat × Nat) (hs : a.eval s = v) (hx : a.eval x = .slice (some ⟨b, 0, none⟩) 1 c) (hb : W.heap[b]? = some (.cells cs tb fr)) (hcs : cs = (encEntry y).toArray)
    (HO : OL w J W 62 3 encEntry v l) (HM : Pg w I J W) (hl : (l.length + 1) * 40 ≤ 140737488355328)
    (h : ∀ v1 W1, OL w J W1 62 3 encEntry v1 (l ++ [y]) → Pg w I J W1 → W.grownBy W1 v.ownBlock → (v1.ownBlock = v.ownBlock ∨ v1.ownBlock = some W.heap.size) → K (a.put o.dst v1) W1) :
    if Region.wanted o (yielded ops a.tmps) = true then Oper.wp Tryz.prog o a W K Q else E :=
  step_pp1 hg s x 55 62 (.agg #[.string ⟨#[]⟩, .string ⟨#[]⟩, .bool false]) 3 40 ho Tryz.underlying55 info_entry rfl (by decide) (by decide) encEntry v l y b c cs tb fr hs hx hb hcs rfl (by intro u hu; simp [encEntry] at hu; first | (subst hu; rfl) | (rcases hu with rfl | rfl <;> rfl) | (rcases hu with rfl | rfl | rfl <;> rfl)) HO HM hl h
theorem step_pp_pair {ops : Array Oper} {o : Oper} {a : Act} {Q : Exit → Act → World → Prop} {K : Act → World → Prop} {w W : World} {I J : IHeap} {E : Prop} (hg : o.guard = none) (s x : Operand)
    (ho : o.op = .call { callee := .builtin .append, args := #[s, x], argTypes := #[63, 63] })
    (v : Value) (l : List Pair) (y : Pair) (b c : Nat) (cs : Array Value) (tb : TypeId) (fr : Nat × Nat) (hs : a.eval s = v) (hx : a.eval x = .slice (some ⟨b, 0, none⟩) 1 c) (hb : W.heap[b]? = some (.cells cs tb fr)) (hcs : cs = (encPair y).toArray)
    (HO : OL w J W 74 2 encPair v l) (HM : Pg w I J W) (hl : (l.length + 1) * 32 ≤ 140737488355328)
    (h : ∀ v1 W1, OL w J W1 74 2 encPair v1 (l ++ [y]) → Pg w I J W1 → W.grownBy W1 v.ownBlock → (v1.ownBlock = v.ownBlock ∨ v1.ownBlock = some W.heap.size) → K (a.put o.dst v1) W1) :
    if Region.wanted o (yielded ops a.tmps) = true then Oper.wp Tryz.prog o a W K Q else E :=
  step_pp1 hg s x 63 74 (.agg #[.string ⟨#[]⟩, .string ⟨#[]⟩]) 2 32 ho Tryz.underlying63 info_pair rfl (by decide) (by decide) encPair v l y b c cs tb fr hs hx hb hcs rfl (by intro u hu; simp [encPair] at hu; first | (subst hu; rfl) | (rcases hu with rfl | rfl <;> rfl) | (rcases hu with rfl | rfl | rfl <;> rfl)) HO HM hl h
end Go.Proofs.YtadaiihoclknmaaGreat
/- Revisions: Entries. -/
namespace Go.Proofs.YtadaiihoclknmaaGreat
open Go.RowKit
set_option maxHeartbeats 4000000
set_option maxRecDepth 100000
set_option linter.unusedVariables false
set_option linter.unusedSimpArgs false

def rEntriesL : List ByteArray → List ByteArray → List Bool → List Entry
  | k :: ks, v :: vs, g :: gs => ⟨k, v, g⟩ :: rEntriesL ks vs gs
  | _, _, _ => []
def rEntries (r : Rev) : List Entry := rEntriesL r.keys r.vals r.gone
theorem rEntriesL_cons {ks vs : List ByteArray} {gs : List Bool} {k v : ByteArray} {g : Bool} : rEntriesL (k :: ks) (v :: vs) (g :: gs) = ⟨k, v, g⟩ :: rEntriesL ks vs gs := rfl
theorem rEntriesL_length : ∀ (ks vs : List ByteArray) (gs : List Bool), vs.length = ks.length → gs.length = ks.length → (rEntriesL ks vs gs).length = ks.length
  | [], vs, gs, _, _ => by simp [rEntriesL]
  | k :: ks, v :: vs, g :: gs, h1, h2 => by
    simp only [rEntriesL, List.length_cons] at *
    rw [rEntriesL_length ks vs gs (by omega) (by omega)]
  | k :: ks, [], gs, h1, h2 => by simp at h1
  | k :: ks, v :: vs, [], h1, h2 => by simp at h2
theorem blk_drew {w : World} {b : Nat} {o : Obj} (h : w.heap[b]? = some o) : w.drew.heap[b]? = some o := h
theorem rev_EntriesO (w : World) (I : IHeap) (hI : Held I w) (r : Rev) (rv : Value) (hr : RevV I rv r) (hok : rvOk r) :
    Calls Tryz.prog 203 #[rv] w (fun e W' => ∃ v, e = .returned v ∧ Pg w I I W' ∧ OL w I W' 62 3 encEntry v (rEntries r)) := by
  obtain ⟨ka, kc, va, vc, ga, gc, ta, tc, rfl, h1, h2, h3, h4⟩ := hr.form
  obtain ⟨o1, o2, o3, o4⟩ := hok
  have P1 := Lib.hid o1
  have P2 := Lib.hid o2
  have H1 := Lib.hid h1
  have H2 := Lib.hid h2
  have H3 := Lib.hid h3
  have M0 := Lib.hid (Pg.start hI)
  clear h1 h2 h3 h4 hr hI o4 o1 o2
  have X0 := Lib.hid (show rEntries r = [] ++ rEntriesL (r.keys.drop 0) (r.vals.drop 0) (r.gone.drop 0) from rfl)
  go_enter Tryz.func203, Tryz.ntmps203
  go_wp2_with fail
  have O0 := Lib.hid (OB.freshp M0.out #[.int .i64 r.version, .int .i64 r.rate, .string r.span.lo, .string r.span.hi, .bool r.span.all, .bool r.dead, .slice ka r.keys.length kc, .slice va r.vals.length vc, .slice ga r.gone.length gc, .slice ta r.table.length tc] 92 rfl)
  have M1 := Lib.hid (M0.out.alloc (.cells #[.int .i64 r.version, .int .i64 r.rate, .string r.span.lo, .string r.span.hi, .bool r.span.all, .bool r.dead, .slice ka r.keys.length kc, .slice va r.vals.length vc, .slice ga r.gone.length gc, .slice ta r.table.length tc] 92))
  have R0 := Lib.hid (OL.nil w I (w.alloc (.cells #[.int .i64 r.version, .int .i64 r.rate, .string r.span.lo, .string r.span.hi, .bool r.span.all, .bool r.dead, .slice ka r.keys.length kc, .slice va r.vals.length vc, .slice ga r.gone.length gc, .slice ta r.table.length tc] 92)) 62 3 encEntry rfl)
  generalize hbb : w.heap.size = bb at *
  generalize w.alloc (.cells #[.int .i64 r.version, .int .i64 r.rate, .string r.span.lo, .string r.span.hi, .bool r.span.all, .bool r.dead, .slice ka r.keys.length kc, .slice va r.vals.length vc, .slice ga r.gone.length gc, .slice ta r.table.length tc] 92) = W1 at *
  go_loopg [3, 9] r.keys.length (fun g ov iv W => ∃ (i : Nat) (l : List Entry), iv = .int .i64 i ∧ i + g = r.keys.length ∧ l.length = i ∧ Hid (Pg w I I W) ∧ Hid (OB w I W bb #[.int .i64 r.version, .int .i64 r.rate, .string r.span.lo, .string r.span.hi, .bool r.span.all, .bool r.dead, .slice ka r.keys.length kc, .slice va r.vals.length vc, .slice ga r.gone.length gc, .slice ta r.table.length tc] 92) ∧ Hid (OL w I W 62 3 encEntry ov l) ∧
    Hid (rEntries r = l ++ rEntriesL (r.keys.drop i) (r.vals.drop i) (r.gone.drop i)))
  case atStart => exact ⟨0, [], rfl, by simp, rfl, M1, O0, R0, X0⟩
  case round =>
  clear M0 M1 O0 R0 X0
  obtain ⟨i, l, rfl, hi, hl, M0, O0, R0, X0⟩ := hrel
  by_cases hlt : i < r.keys.length
  · have hv : i < r.vals.length := by have := P1.out; omega
    have hg : i < r.gone.length := by have := P2.out; omega
    obtain ⟨kb, koff, rfl, _, hc⟩ := Sl.cell M0.out.held H1.out (fun _ => rfl) (by omega)
    have hx := List.getElem?_eq_getElem hlt
    have c0 : wr.cell? ⟨kb, koff + i * 1, none⟩ = _ := hc i 0 _ _ hx rfl
    rw [Nat.mul_one] at c0
    obtain ⟨vb, voff, rfl, _, hc⟩ := Sl.cell M0.out.held H2.out (fun _ => rfl) (by omega)
    have hx := List.getElem?_eq_getElem hv
    have c1 : wr.cell? ⟨vb, voff + i * 1, none⟩ = _ := hc i 0 _ _ hx rfl
    rw [Nat.mul_one] at c1
    obtain ⟨gb, goff, rfl, _, hc⟩ := Sl.cell M0.out.held H3.out (fun _ => rfl) (by omega)
    have hx := List.getElem?_eq_getElem hg
    have c2 : wr.cell? ⟨gb, goff + i * 1, none⟩ = _ := hc i 0 _ _ hx rfl
    rw [Nat.mul_one] at c2
    have X1 := Lib.hid (X0.out.trans (by rw [List.drop_eq_getElem_cons hlt, List.drop_eq_getElem_cons hv, List.drop_eq_getElem_cons hg, rEntriesL_cons, List.append_cons] : _ = (l ++ [⟨r.keys[i], r.vals[i], r.gone[i]⟩]) ++ rEntriesL (r.keys.drop (i + 1)) (r.vals.drop (i + 1)) (r.gone.drop (i + 1))))
    generalize r.keys[i] = k at c0 X1
    generalize r.vals[i] = v at c1 X1
    generalize r.gone[i] = g at c2 X1
    clear hc hx X0
    have s0 := World.block_lt_of_cell? _ _ c0
    have s1 := World.block_lt_of_cell? _ _ c1
    have s2 := World.block_lt_of_cell? _ _ c2
    have g0 := cell_blk O0.out.at_ 0
    have g1 := cell_blk O0.out.at_ 1
    have g2 := cell_blk O0.out.at_ 2
    have g3 := cell_blk O0.out.at_ 3
    have g4 := cell_blk O0.out.at_ 4
    have g5 := cell_blk O0.out.at_ 5
    have g6 := cell_blk O0.out.at_ 6
    have g7 := cell_blk O0.out.at_ 7
    have g8 := cell_blk O0.out.at_ 8
    have g9 := cell_blk O0.out.at_ 9
    have gf0 := free_blk O0.out.at_ 0
    have gf1 := free_blk O0.out.at_ 1
    have gf2 := free_blk O0.out.at_ 2
    have gf3 := free_blk O0.out.at_ 3
    have gf4 := free_blk O0.out.at_ 4
    have gf5 := free_blk O0.out.at_ 5
    have gf6 := free_blk O0.out.at_ 6
    have gf7 := free_blk O0.out.at_ 7
    have gf8 := free_blk O0.out.at_ 8
    have gf9 := free_blk O0.out.at_ 9
    have gs := lt_of_block O0.out.at_
    go_wp2
    go_region_law (refine step_pp_entry rfl (.tmp 14) (.tmp 27) rfl _ l ⟨k, v, g⟩ _ 1 _ _ _ rfl rfl (blk_drew (alloc_new _ _)) rfl (OR.alloc R0.out _).drew (M0.out.alloc _).drew (by omega) ?_; intro v1 W2 hO hM hg hne; have M2 := Lib.hid hM; have O2 := Lib.hid (OB.app (O0.out.alloc _).drew (OR.alloc R0.out _).drew (by decide) hg); have R2 := Lib.hid hO; clear hO hM hg hne)
    all_goals
      go_wp2
      go_roundg (gk - 1)
      case measure => omega
      case rel => exact ⟨i + 1, _, by simp, by omega, by simp [hl], M2, O2, R2, X1⟩
  · have h0 : List.drop i r.keys = [] := List.drop_eq_nil_of_le (by omega)
    have X1 := Lib.hid (X0.out.trans (by rw [h0]; exact List.append_nil l : _ = l))
    go_wp2
    go_ret
    exact ⟨_, rfl, M0.out, by rw [X1.out]; exact R0.out⟩
theorem rev_Entries (w : World) (I : IHeap) (hI : Held I w) (r : Rev) (rv : Value) (hr : RevV I rv r) (hok : rvOk r) :
    Calls Tryz.prog 203 #[rv] w (PPost w I fun J v => Entries J v (rEntries r)) := by
  refine (rev_EntriesO w I hI r rv hr hok).mono ?_
  rintro e W1 ⟨v, rfl, hM, hO⟩
  obtain ⟨K, hM, hle, hR, hno⟩ := hO.rowp hM
  exact ⟨K, _, rfl, hM, hR⟩
end Go.Proofs.YtadaiihoclknmaaGreat
/- Revisions: laid. -/
namespace Go.Proofs.YtadaiihoclknmaaGreat
open Go.RowKit
set_option maxHeartbeats 4000000
set_option maxRecDepth 100000
set_option linter.unusedVariables false
set_option linter.unusedSimpArgs false

def rLaid (version rate : Int) (sp : Span) (l : List Entry) : Rev := ⟨version, rate, sp, false, l.map Entry.key, l.map Entry.val, l.map Entry.gone, pBuild (l.map Entry.key)⟩
/-- An entry's cells. -/
theorem entries_at2 {I : IHeap} {W : World} {a : Option Addr} {m cap i : Nat} {xs : List Entry} (hI : Held I W) (h : Entries I (.slice a m cap) xs) (hlt : i < xs.length) :
    ∃ b off, a = some ⟨b, off, none⟩ ∧ m = xs.length ∧ W.cell? ⟨b, off + i * 3, none⟩ = some (.string xs[i].key) ∧ W.cell? ⟨b, off + i * 3 + 1, none⟩ = some (.string xs[i].val) ∧ W.cell? ⟨b, off + i * 3 + 2, none⟩ = some (.bool xs[i].gone) ∧ b < W.heap.size := by
  obtain ⟨b, off, ha, hm, hc⟩ := Sl.cell hI h (fun _ => rfl) (by omega)
  have hx := List.getElem?_eq_getElem hlt
  have c0 := hc i 0 _ _ hx rfl
  have c1 := hc i 1 _ _ hx rfl
  have c2 := hc i 2 _ _ hx rfl
  rw [← Nat.add_assoc] at c0 c1 c2
  exact ⟨b, off, ha, hm, c0, c1, c2, World.block_lt_of_cell? _ _ c0⟩
theorem take_map_succ {α β : Type} {l : List α} {i : Nat} (f : α → β) (h : i < l.length) : (l.take (i + 1)).map f = (l.take i).map f ++ [f l[i]] := by
  rw [← List.take_append_getElem h, List.map_append, List.map_cons, List.map_nil]
theorem alloc_at {W : World} {o : Obj} {s : Nat} (h : s = W.heap.size) : (W.alloc o).heap[s]? = some o := by
  subst h; exact alloc_new W o
theorem OR.slice {w : World} {J : IHeap} {W : World} {E : TypeId} {sz : Nat} {v : Value} {n : Nat} {xs : List Value} (h : OR w J W E sz v n xs) : ∃ a m c, v = .slice a m c := by
  rcases h.own.2 with ⟨rfl, _⟩ | ⟨g, cap, cur, rfl, _⟩
  · exact ⟨_, _, _, rfl⟩
  · exact ⟨_, _, _, rfl⟩
theorem OB.ne_ty {w W : World} {J : IHeap} {b b' : Nat} {cs cs' : Array Value} {t t' : TypeId} (h : OB w J W b cs t) (h' : OB w J W b' cs' t') (hn : t ≠ t') : b ≠ b' := fun e => by
  subst e
  have := h.at_
  rw [h'.at_] at this
  injection this with this
  injection this with _ this
  exact hn this.symm
/-- Two rows of a function's own lie apart. -/
def DJ (a b : Value) : Prop := ∀ k, a.ownBlock = some k → b.ownBlock ≠ some k
theorem DJ.symm {a b : Value} (h : DJ a b) : DJ b a := fun k hk hb => h k hb hk
theorem DJ.app {w W : World} {J : IHeap} {E : TypeId} {sz n : Nat} {a a1 b : Value} {xs : List Value} (h : DJ a b) (hb : OR w J W E sz b n xs) (hat : a1.ownBlock = a.ownBlock ∨ a1.ownBlock = some W.heap.size) : DJ a1 b := by
  intro k hk hbk
  rcases hat with hat | hat
  · exact h k (hat ▸ hk) hbk
  · rw [hat] at hk
    injection hk with hk
    obtain ⟨cs, hh, _⟩ := hb.blk hbk
    have := lt_of_block hh
    omega
theorem DJ.ne {a b : Value} (h : DJ a b) : ∀ k, b.ownBlock = some k → a.ownBlock ≠ some k := fun k hb ha => h k ha hb
theorem rev_laid (w : World) (I : IHeap) (hI : Held I w) (version rate : Int) (sp : Span) (l : List Entry) (lv : Value) (hl : Entries I lv l) (hb : l.length ≤ 1048576) (hs : ∀ e ∈ l, e.key.size ≤ maxLen) :
    Calls Tryz.prog 165 #[.int .i64 version, .int .i64 rate, spanV sp, lv] w (PPost w I fun J v => RevV J v (rLaid version rate sp l)) := by
  obtain ⟨la, lc, rfl, _, _, _⟩ := hl.form
  have HL := Lib.hid hl
  have M0 := Lib.hid (Pg.start hI)
  have HS := Lib.hid hs
  clear hl hI hs
  unfold spanV
  go_enter Tryz.func165, Tryz.ntmps165
  go_wp2_with fail
  have O1 := Lib.hid (((OB.freshp M0.out #[.string sp.lo, .string sp.hi, .bool sp.all] 71 rfl).alloc (.cells #[.int .i64 0, .int .i64 0, .string ⟨#[]⟩, .string ⟨#[]⟩, .bool false, .bool false, .slice none 0 0, .slice none 0 0, .slice none 0 0, .slice none 0 0] 92)).alloc (.cells #[.int .i64 version, .int .i64 rate, .string sp.lo, .string sp.hi, .bool sp.all, .bool false, .slice none 0 0, .slice none 0 0, .slice none 0 0, .slice none 0 0] 92))
  have O2 := Lib.hid ((OB.freshp (M0.out.alloc (.cells #[.string sp.lo, .string sp.hi, .bool sp.all] 71)) #[.int .i64 0, .int .i64 0, .string ⟨#[]⟩, .string ⟨#[]⟩, .bool false, .bool false, .slice none 0 0, .slice none 0 0, .slice none 0 0, .slice none 0 0] 92 rfl).alloc (.cells #[.int .i64 version, .int .i64 rate, .string sp.lo, .string sp.hi, .bool sp.all, .bool false, .slice none 0 0, .slice none 0 0, .slice none 0 0, .slice none 0 0] 92))
  have O3 := Lib.hid (OB.freshp ((M0.out.alloc (.cells #[.string sp.lo, .string sp.hi, .bool sp.all] 71)).alloc (.cells #[.int .i64 0, .int .i64 0, .string ⟨#[]⟩, .string ⟨#[]⟩, .bool false, .bool false, .slice none 0 0, .slice none 0 0, .slice none 0 0, .slice none 0 0] 92)) #[.int .i64 version, .int .i64 rate, .string sp.lo, .string sp.hi, .bool sp.all, .bool false, .slice none 0 0, .slice none 0 0, .slice none 0 0, .slice none 0 0] 92 rfl)
  have M1 := Lib.hid (((M0.out.alloc (.cells #[.string sp.lo, .string sp.hi, .bool sp.all] 71)).alloc (.cells #[.int .i64 0, .int .i64 0, .string ⟨#[]⟩, .string ⟨#[]⟩, .bool false, .bool false, .slice none 0 0, .slice none 0 0, .slice none 0 0, .slice none 0 0] 92)).alloc (.cells #[.int .i64 version, .int .i64 rate, .string sp.lo, .string sp.hi, .bool sp.all, .bool false, .slice none 0 0, .slice none 0 0, .slice none 0 0, .slice none 0 0] 92))
  rw [show (w.alloc (.cells #[.string sp.lo, .string sp.hi, .bool sp.all] 71)).heap.size = w.heap.size + 1 by simp] at O2
  rw [show ((w.alloc (.cells #[.string sp.lo, .string sp.hi, .bool sp.all] 71)).alloc (.cells #[.int .i64 0, .int .i64 0, .string ⟨#[]⟩, .string ⟨#[]⟩, .bool false, .bool false, .slice none 0 0, .slice none 0 0, .slice none 0 0, .slice none 0 0] 92)).heap.size = w.heap.size + 1 + 1 by simp] at O3
  have hne : w.heap.size + 1 ≠ w.heap.size + 1 + 1 := by omega
  clear O1
  generalize ((w.alloc (.cells #[.string sp.lo, .string sp.hi, .bool sp.all] 71)).alloc (.cells #[.int .i64 0, .int .i64 0, .string ⟨#[]⟩, .string ⟨#[]⟩, .bool false, .bool false, .slice none 0 0, .slice none 0 0, .slice none 0 0, .slice none 0 0] 92)).alloc (.cells #[.int .i64 version, .int .i64 rate, .string sp.lo, .string sp.hi, .bool sp.all, .bool false, .slice none 0 0, .slice none 0 0, .slice none 0 0, .slice none 0 0] 92) = W1 at *
  generalize w.heap.size + 1 + 1 = br at *
  generalize w.heap.size + 1 = bz at *
  go_loopg [18] l.length (fun g iv W => ∃ (i : Nat) (kv vv gv : Value), iv = .int .i64 i ∧ i + g = l.length ∧ Hid (Pg w I I W) ∧ Hid (OB w I W bz #[.int .i64 0, .int .i64 0, .string ⟨#[]⟩, .string ⟨#[]⟩, .bool false, .bool false, .slice none 0 0, .slice none 0 0, .slice none 0 0, .slice none 0 0] 92) ∧ Hid (OB w I W br #[.int .i64 version, .int .i64 rate, .string sp.lo, .string sp.hi, .bool sp.all, .bool false, kv, vv, gv, .slice none 0 0] 92) ∧
    Hid (OL w I W 9 1 encStr kv ((l.take i).map Entry.key)) ∧ Hid (OL w I W 9 1 encStr vv ((l.take i).map Entry.val)) ∧ Hid (OL w I W 4 1 encBool gv ((l.take i).map Entry.gone)) ∧ Hid (DJ kv vv))
  case atStart => exact ⟨0, _, _, _, rfl, by simp, M1, O2, O3, Lib.hid (OL.nil _ _ _ _ _ _ rfl), Lib.hid (OL.nil _ _ _ _ _ _ rfl), Lib.hid (OL.nil _ _ _ _ _ _ rfl), Lib.hid (fun k hk => by simp [Value.ownBlock] at hk)⟩
  case round =>
  clear M0 M1 O2 O3
  obtain ⟨i, kv, vv, gv, rfl, hi, M0, O2, O3, K0, V0, G0, D0⟩ := hrel
  by_cases hlt : i < l.length
  · obtain ⟨kb, koff, rfl, _, c0, c1, c2, s0⟩ := entries_at2 M0.out.held HL.out hlt
    have X1 := Lib.hid (show (l.take (i + 1)).map Entry.key = (l.take i).map Entry.key ++ [l[i].key] from take_map_succ _ hlt)
    have X2 := Lib.hid (show (l.take (i + 1)).map Entry.val = (l.take i).map Entry.val ++ [l[i].val] from take_map_succ _ hlt)
    have X3 := Lib.hid (show (l.take (i + 1)).map Entry.gone = (l.take i).map Entry.gone ++ [l[i].gone] from take_map_succ _ hlt)
    have hk1 : ((l.take i).map Entry.key).length = i := by simp; omega
    have hk2 : ((l.take i).map Entry.val).length = i := by simp; omega
    have hk3 : ((l.take i).map Entry.gone).length = i := by simp; omega
    generalize (l.take i).map Entry.key = ks at *
    generalize (l.take i).map Entry.val = vs at *
    generalize (l.take i).map Entry.gone = gsl at *
    generalize l[i] = e at c0 c1 c2 X1 X2 X3
    have g0 := cell_blk O3.out.at_ 0
    have g1 := cell_blk O3.out.at_ 1
    have g2 := cell_blk O3.out.at_ 2
    have g3 := cell_blk O3.out.at_ 3
    have g4 := cell_blk O3.out.at_ 4
    have g5 := cell_blk O3.out.at_ 5
    have g6 := cell_blk O3.out.at_ 6
    have g7 := cell_blk O3.out.at_ 7
    have g8 := cell_blk O3.out.at_ 8
    have g9 := cell_blk O3.out.at_ 9
    have gf0 := free_blk O3.out.at_ 0
    have gf1 := free_blk O3.out.at_ 1
    have gf2 := free_blk O3.out.at_ 2
    have gf3 := free_blk O3.out.at_ 3
    have gf4 := free_blk O3.out.at_ 4
    have gf5 := free_blk O3.out.at_ 5
    have gf6 := free_blk O3.out.at_ 6
    have gf7 := free_blk O3.out.at_ 7
    have gf8 := free_blk O3.out.at_ 8
    have gf9 := free_blk O3.out.at_ 9
    have gs := lt_of_block O3.out.at_
    have E0 := Lib.hid (OB.freshp M0.out #[.string e.key, .string e.val, .bool e.gone] 62 rfl)
    go_wp2_with (first
      | (at_builtin; refine wp_pp_str rfl _ _ rfl kv ks e.key _ _ _ _ _ rfl rfl (alloc_at (by simp)) rfl (OR.alloc (OR.alloc K0.out _) _) ((M0.out.alloc _).alloc _) (by omega) ?_
         intro kv1 W2 hO hM hg hat
         have M2 := Lib.hid hM
         have K2 := Lib.hid hO
         have Z2 := Lib.hid (OB.app ((O2.out.alloc _).alloc _) (OR.alloc (OR.alloc K0.out _) _) (by decide) hg)
         have R2 := Lib.hid (OB.app ((O3.out.alloc _).alloc _) (OR.alloc (OR.alloc K0.out _) _) (by decide) hg)
         have E2 := Lib.hid (OB.app (E0.out.alloc _) (OR.alloc (OR.alloc K0.out _) _) (by decide) hg)
         have V2 := Lib.hid (OR.app2 (OR.alloc (OR.alloc V0.out _) _) D0.out.ne hg)
         have G2 := Lib.hid (OR.app (OR.alloc (OR.alloc G0.out _) _) (OR.alloc (OR.alloc K0.out _) _) (by decide) hg)
         have D2 := Lib.hid (DJ.app D0.out (OR.alloc (OR.alloc V0.out _) _) hat)
         obtain ⟨ka1, kn1, kc1, rfl⟩ := OR.slice hO
         clear hO hM hg hat M0 K0 O2 O3 E0 V0 G0 D0 g0 g1 g2 g3 g4 g5 g6 g7 g8 g9 gf0 gf1 gf2 gf3 gf4 gf5 gf6 gf7 gf8 gf9 gs c0 c1 c2 s0
         have g0 := cell_blk R2.out.at_ 0
         have g1 := cell_blk R2.out.at_ 1
         have g2 := cell_blk R2.out.at_ 2
         have g3 := cell_blk R2.out.at_ 3
         have g4 := cell_blk R2.out.at_ 4
         have g5 := cell_blk R2.out.at_ 5
         have g6 := cell_blk R2.out.at_ 6
         have g7 := cell_blk R2.out.at_ 7
         have g8 := cell_blk R2.out.at_ 8
         have g9 := cell_blk R2.out.at_ 9
         have gf0 := free_blk R2.out.at_ 0
         have gf1 := free_blk R2.out.at_ 1
         have gf2 := free_blk R2.out.at_ 2
         have gf3 := free_blk R2.out.at_ 3
         have gf4 := free_blk R2.out.at_ 4
         have gf5 := free_blk R2.out.at_ 5
         have gf6 := free_blk R2.out.at_ 6
         have gf7 := free_blk R2.out.at_ 7
         have gf8 := free_blk R2.out.at_ 8
         have gf9 := free_blk R2.out.at_ 9
         have gs := lt_of_block R2.out.at_
         have e0 := cell_blk E2.out.at_ 0
         have e1 := cell_blk E2.out.at_ 1
         have e2 := cell_blk E2.out.at_ 2
         have ef0 := free_blk E2.out.at_ 0
         have ef1 := free_blk E2.out.at_ 1
         have ef2 := free_blk E2.out.at_ 2
         have es := lt_of_block E2.out.at_
         skip)
      | (at_builtin; refine wp_pp_str rfl _ _ rfl vv vs e.val _ _ _ _ _ rfl rfl (alloc_at (by simp)) rfl (OR.alloc (OR.far V2.out R2.out.at_ (by decide) _ _) _) ((M2.out.seto (a := ⟨br, 6, none⟩) R2.out.ok _).alloc _) (by omega) ?_
         intro vv1 W3 hO hM hg hat
         have hVo := OR.alloc (OR.far V2.out R2.out.at_ (by decide) 6 (.slice ka1 kn1 kc1)) (.cells #[.string e.val] 9)
         have M3 := Lib.hid hM
         have V3 := Lib.hid hO
         have Z3 := Lib.hid (OB.app ((Z2.out.far hne _).alloc _) hVo (by decide) hg)
         have R3 := Lib.hid (OB.app ((R2.out.set 6 (.slice ka1 kn1 kc1)).alloc _) hVo (by decide) hg)
         have E3 := Lib.hid (OB.app ((E2.out.far (E2.out.ne_ty R2.out (by decide)) _).alloc _) hVo (by decide) hg)
         have K3 := Lib.hid (OR.app2 (OR.alloc (OR.far K2.out R2.out.at_ (by decide) 6 (.slice ka1 kn1 kc1)) (.cells #[.string e.val] 9)) D2.out.symm.ne hg)
         have G3 := Lib.hid (OR.app (OR.alloc (OR.far G2.out R2.out.at_ (by decide) 6 (.slice ka1 kn1 kc1)) (.cells #[.string e.val] 9)) hVo (by decide) hg)
         have D3 := Lib.hid (DJ.app D2.out.symm (OR.alloc (OR.far K2.out R2.out.at_ (by decide) 6 (.slice ka1 kn1 kc1)) (.cells #[.string e.val] 9)) hat).symm
         obtain ⟨va1, vn1, vc1, rfl⟩ := OR.slice hO
         clear hVo hO hM hg hat M2 K2 Z2 R2 E2 V2 G2 D2 g0 g1 g2 g3 g4 g5 g6 g7 g8 g9 gf0 gf1 gf2 gf3 gf4 gf5 gf6 gf7 gf8 gf9 gs e0 e1 e2 ef0 ef1 ef2 es
         have g0 := cell_blk R3.out.at_ 0
         have g1 := cell_blk R3.out.at_ 1
         have g2 := cell_blk R3.out.at_ 2
         have g3 := cell_blk R3.out.at_ 3
         have g4 := cell_blk R3.out.at_ 4
         have g5 := cell_blk R3.out.at_ 5
         have g6 := cell_blk R3.out.at_ 6
         have g7 := cell_blk R3.out.at_ 7
         have g8 := cell_blk R3.out.at_ 8
         have g9 := cell_blk R3.out.at_ 9
         have gf0 := free_blk R3.out.at_ 0
         have gf1 := free_blk R3.out.at_ 1
         have gf2 := free_blk R3.out.at_ 2
         have gf3 := free_blk R3.out.at_ 3
         have gf4 := free_blk R3.out.at_ 4
         have gf5 := free_blk R3.out.at_ 5
         have gf6 := free_blk R3.out.at_ 6
         have gf7 := free_blk R3.out.at_ 7
         have gf8 := free_blk R3.out.at_ 8
         have gf9 := free_blk R3.out.at_ 9
         have gs := lt_of_block R3.out.at_
         have e0 := cell_blk E3.out.at_ 0
         have e1 := cell_blk E3.out.at_ 1
         have e2 := cell_blk E3.out.at_ 2
         have ef0 := free_blk E3.out.at_ 0
         have ef1 := free_blk E3.out.at_ 1
         have ef2 := free_blk E3.out.at_ 2
         have es := lt_of_block E3.out.at_
         skip)
      | (at_builtin; refine wp_pp_bool rfl _ _ rfl gv gsl e.gone _ _ _ _ _ rfl rfl (alloc_at (by simp)) rfl (OR.alloc (OR.far G3.out R3.out.at_ (by decide) _ _) _) ((M3.out.seto (a := ⟨br, 7, none⟩) R3.out.ok _).alloc _) (by omega) ?_
         intro gv1 W4 hO hM hg hat
         have hGo := OR.alloc (OR.far G3.out R3.out.at_ (by decide) 7 (.slice va1 vn1 vc1)) (.cells #[.bool e.gone] 4)
         have M4 := Lib.hid hM
         have G4 := Lib.hid hO
         have Z4 := Lib.hid (OB.app ((Z3.out.far hne _).alloc _) hGo (by decide) hg)
         have R4 := Lib.hid (OB.app ((R3.out.set 7 (.slice va1 vn1 vc1)).alloc _) hGo (by decide) hg)
         have K4 := Lib.hid (OR.app (OR.alloc (OR.far K3.out R3.out.at_ (by decide) 7 (.slice va1 vn1 vc1)) (.cells #[.bool e.gone] 4)) hGo (by decide) hg)
         have V4 := Lib.hid (OR.app (OR.alloc (OR.far V3.out R3.out.at_ (by decide) 7 (.slice va1 vn1 vc1)) (.cells #[.bool e.gone] 4)) hGo (by decide) hg)
         obtain ⟨ga1, gn1, gc1, rfl⟩ := OR.slice hO
         clear hGo hO hM hg hat M3 K3 Z3 R3 E3 V3 G3 g0 g1 g2 g3 g4 g5 g6 g7 g8 g9 gf0 gf1 gf2 gf3 gf4 gf5 gf6 gf7 gf8 gf9 gs e0 e1 e2 ef0 ef1 ef2 es
         have g0 := cell_blk R4.out.at_ 0
         have g1 := cell_blk R4.out.at_ 1
         have g2 := cell_blk R4.out.at_ 2
         have g3 := cell_blk R4.out.at_ 3
         have g4 := cell_blk R4.out.at_ 4
         have g5 := cell_blk R4.out.at_ 5
         have g6 := cell_blk R4.out.at_ 6
         have g7 := cell_blk R4.out.at_ 7
         have g8 := cell_blk R4.out.at_ 8
         have g9 := cell_blk R4.out.at_ 9
         have gf0 := free_blk R4.out.at_ 0
         have gf1 := free_blk R4.out.at_ 1
         have gf2 := free_blk R4.out.at_ 2
         have gf3 := free_blk R4.out.at_ 3
         have gf4 := free_blk R4.out.at_ 4
         have gf5 := free_blk R4.out.at_ 5
         have gf6 := free_blk R4.out.at_ 6
         have gf7 := free_blk R4.out.at_ 7
         have gf8 := free_blk R4.out.at_ 8
         have gf9 := free_blk R4.out.at_ 9
         have gs := lt_of_block R4.out.at_
         skip))
    go_roundg (gk - 1)
    case measure => omega
    case rel => exact ⟨i + 1, .slice ka1 kn1 kc1, .slice va1 vn1 vc1, .slice ga1 gn1 gc1, rfl, by omega, Lib.hid (M4.out.seto (a := ⟨br, 8, none⟩) R4.out.ok _), Lib.hid (Z4.out.far hne _), Lib.hid (R4.out.set 8 (.slice ga1 gn1 gc1)),
        Lib.hid (by rw [X1.out]; exact OR.far K4.out R4.out.at_ (by decide) _ _), Lib.hid (by rw [X2.out]; exact OR.far V4.out R4.out.at_ (by decide) _ _), Lib.hid (by rw [X3.out]; exact OR.far G4.out R4.out.at_ (by decide) _ _), D3⟩
  · have hti : l.take i = l := List.take_of_length_le (by omega)
    rw [hti] at K0 V0 G0
    obtain ⟨K, hM, hle, hR, hno⟩ := K0.out.rowp M0.out
    have M1 := Lib.hid hM
    have HRk := Lib.hid (show Strs K kv (l.map Entry.key) from hR)
    have V1 := Lib.hid (OR.rowOf2 V0.out D0.out.ne hno)
    have G1 := Lib.hid (OR.rowOf G0.out K0.out (by decide) hno)
    have Z1 := Lib.hid (OB.row O2.out K0.out (by decide) hno)
    have R1 := Lib.hid (OB.row O3.out K0.out (by decide) hno)
    have hks : ∀ k ∈ l.map Entry.key, k.size ≤ maxLen := by
      intro k hk
      obtain ⟨e, he, rfl⟩ := List.mem_map.1 hk
      exact HS.out e he
    have hkl : (l.map Entry.key).length ≤ 1099511627776 := by rw [List.length_map]; omega
    have HL2 := Lib.hid (show (rLaid version rate sp l) = ⟨version, rate, sp, false, l.map Entry.key, l.map Entry.val, l.map Entry.gone, pBuild (l.map Entry.key)⟩ from rfl)
    generalize l.map Entry.key = ks at *
    generalize l.map Entry.val = vs at *
    generalize l.map Entry.gone = gsl at *
    have HB := Lib.hid (probe_Build wr K hM.held ks kv HRk.out hkl hks)
    clear hM hle hR hno M0 K0 V0 G0 O2 O3 hks hti
    obtain ⟨ka, kc, rfl, _⟩ := HRk.out.form
    obtain ⟨va, vn, vc, rfl⟩ := OR.slice V1.out
    obtain ⟨ga, gn, gc, rfl⟩ := OR.slice G1.out
    have g0 := cell_blk R1.out.at_ 0
    have g1 := cell_blk R1.out.at_ 1
    have g2 := cell_blk R1.out.at_ 2
    have g3 := cell_blk R1.out.at_ 3
    have g4 := cell_blk R1.out.at_ 4
    have g5 := cell_blk R1.out.at_ 5
    have g6 := cell_blk R1.out.at_ 6
    have g7 := cell_blk R1.out.at_ 7
    have g8 := cell_blk R1.out.at_ 8
    have g9 := cell_blk R1.out.at_ 9
    have gf0 := free_blk R1.out.at_ 0
    have gf1 := free_blk R1.out.at_ 1
    have gf2 := free_blk R1.out.at_ 2
    have gf3 := free_blk R1.out.at_ 3
    have gf4 := free_blk R1.out.at_ 4
    have gf5 := free_blk R1.out.at_ 5
    have gf6 := free_blk R1.out.at_ 6
    have gf7 := free_blk R1.out.at_ 7
    have gf8 := free_blk R1.out.at_ 8
    have gf9 := free_blk R1.out.at_ 9
    have gs := lt_of_block R1.out.at_
    go_wp2_with (go_at_call 216; refine HB.out.mono ?_; rintro e2 W5 ⟨K5, tv, rfl, hP, hT⟩
                 have M5 := Lib.hid (M1.out.trans hP)
                 have Z5 := Lib.hid (OB.pure Z1.out hP rfl)
                 have R5 := Lib.hid (OB.pure R1.out hP rfl)
                 have V5 := Lib.hid (OR.pure V1.out hP)
                 have G5 := Lib.hid (OR.pure G1.out hP)
                 have HK5 := Lib.hid (HRk.out.mono hP.grow.le)
                 obtain ⟨ta, tc, rfl, _⟩ := hT.form
                 have HT5 := Lib.hid hT
                 clear hP hT M1 Z1 R1 V1 G1 HB HRk g0 g1 g2 g3 g4 g5 g6 g7 g8 g9 gf0 gf1 gf2 gf3 gf4 gf5 gf6 gf7 gf8 gf9 gs
                 have g0 := cell_blk R5.out.at_ 0
                 have g1 := cell_blk R5.out.at_ 1
                 have g2 := cell_blk R5.out.at_ 2
                 have g3 := cell_blk R5.out.at_ 3
                 have g4 := cell_blk R5.out.at_ 4
                 have g5 := cell_blk R5.out.at_ 5
                 have g6 := cell_blk R5.out.at_ 6
                 have g7 := cell_blk R5.out.at_ 7
                 have g8 := cell_blk R5.out.at_ 8
                 have g9 := cell_blk R5.out.at_ 9
                 have gf0 := free_blk R5.out.at_ 0
                 have gf1 := free_blk R5.out.at_ 1
                 have gf2 := free_blk R5.out.at_ 2
                 have gf3 := free_blk R5.out.at_ 3
                 have gf4 := free_blk R5.out.at_ 4
                 have gf5 := free_blk R5.out.at_ 5
                 have gf6 := free_blk R5.out.at_ 6
                 have gf7 := free_blk R5.out.at_ 7
                 have gf8 := free_blk R5.out.at_ 8
                 have gf9 := free_blk R5.out.at_ 9
                 have gs := lt_of_block R5.out.at_
                 have z0 := cell_blk Z5.out.at_ 0
                 have z1 := cell_blk Z5.out.at_ 1
                 have z2 := cell_blk Z5.out.at_ 2
                 have z3 := cell_blk Z5.out.at_ 3
                 have z4 := cell_blk Z5.out.at_ 4
                 have z5 := cell_blk Z5.out.at_ 5
                 have z6 := cell_blk Z5.out.at_ 6
                 have z7 := cell_blk Z5.out.at_ 7
                 have z8 := cell_blk Z5.out.at_ 8
                 have z9 := cell_blk Z5.out.at_ 9
                 have zf0 := free_blk Z5.out.at_ 0
                 have zf1 := free_blk Z5.out.at_ 1
                 have zf2 := free_blk Z5.out.at_ 2
                 have zf3 := free_blk Z5.out.at_ 3
                 have zf4 := free_blk Z5.out.at_ 4
                 have zf5 := free_blk Z5.out.at_ 5
                 have zf6 := free_blk Z5.out.at_ 6
                 have zf7 := free_blk Z5.out.at_ 7
                 have zf8 := free_blk Z5.out.at_ 8
                 have zf9 := free_blk Z5.out.at_ 9
                 have zs := lt_of_block Z5.out.at_
                 skip)
    refine bodyPost_ret (v := .agg #[.int .i64 version, .int .i64 rate, .string sp.lo, .string sp.hi, .bool sp.all, .bool false, .slice ka ks.length kc, .slice va vn vc, .slice ga gn gc, .slice ta (pBuild ks).length tc]) (by simp [results, Tryz.results165, go_sem, z0, z1, z2, z3, z4, z5, z6, z7, z8, z9, zs]) rfl ?_
    obtain ⟨K6, hM6, hl6, hR6, hno6⟩ := V5.out.rowp M5.out
    have G6 := OR.rowOf G5.out V5.out (by decide) hno6
    have Z6 := OB.row Z5.out V5.out (by decide) hno6
    have R6 := OB.row R5.out V5.out (by decide) hno6
    obtain ⟨K7, hM7, hl7, hR7, hno7⟩ := G6.rowp hM6
    have Z7 := OB.row Z6 G6 (by decide) hno7
    have R7 := OB.row R6 G6 (by decide) hno7
    rw [HL2.out]
    refine Pg.post (J := K7) ?_ ⟨_, rfl, _, _, _, _, rfl, (HK5.out.mono hl6).mono hl7, Row.mono hR6 hl7, hR7, (HT5.out.mono hl6).mono hl7⟩
    repeat (first | with_reducible exact hM7 | refine Pg.seto ?_ (by repeat (first | with_reducible exact Z7.ok | with_reducible exact R7.ok | with_reducible refine OwnOk.set ?_ _ _)) _)
end Go.Proofs.YtadaiihoclknmaaGreat
/- Regions that draw their order, operation by operation. -/
namespace Go.Proofs.YtadaiihoclknmaaGreat
open Go.RowKit
theorem wpAnyH_takeD {P : Program} {ops : Array Oper} {Q : Exit → Act → World → Prop} {md : Region.Mode} {S : World → Prop} (i : Nat) (d : Option Tmp) {oi : Oper} {v : Value} {fuel : Nat} {listed : Array Bool} {a : Act} {w : World} (hi : ops[i]? = some oi) (hd : oi.dst = d)
    (hs : Region.noSelect ops = true) (hf : Region.free md ops listed i = true) (hr : (Region.ready md ops listed).contains i = true)
    (hQ : ∀ c a w, Q (.panic c) (a.put d v) w → Q (.panic c) a w) (hy : YieldsIf P ops S oi v a) (hS : S w)
    (h : wpAnyH P md ops Q S fuel (listed.setIfInBounds i true) (a.put d v) w) : wpAnyH P md ops Q S (fuel + 1) listed a w := by
  subst hd
  exact wpAnyH_take hi hs hf hr hQ hy hS h
end Go.Proofs.YtadaiihoclknmaaGreat
