/- Part 24 of the proof: Rev8, Rev9, Write1. -/
import Derived.Test.YtadaiihoclknmaaGreatC21
import Derived.Test.YtadaiihoclknmaaGreatC23
import Derived.Test.YtadaiihoclknmaaGreatC07
/- Revisions: slices.DeleteFunc in place; live. -/
namespace Go.Proofs.YtadaiihoclknmaaGreat
open Go.RowKit
set_option maxHeartbeats 4000000
set_option maxRecDepth 100000
set_option linter.unusedVariables false
set_option linter.unusedSimpArgs false
/-- The cells of entries, one behind the other. -/
def EntCs (cur : Array Value) (l : List Entry) : Prop := ∀ i (h : i < l.length), cur[i * 3]? = some (.string l[i].key) ∧ cur[i * 3 + 1]? = some (.string l[i].val) ∧ cur[i * 3 + 2]? = some (.bool l[i].gone)
theorem EntCs.at_ {w : World} {b : Nat} {cur : Array Value} {t : TypeId} {fr : Nat × Nat} {l : List Entry} (h : EntCs cur l) (hb : w.heap[b]? = some (.cells cur t fr)) : EntAt w b 0 l := fun i hi => by
  obtain ⟨c0, c1, c2⟩ := h i hi
  simp only [Nat.zero_add]
  exact ⟨by rw [cell_blk hb]; exact c0, by rw [cell_blk hb]; exact c1, by rw [cell_blk hb]; exact c2⟩
theorem EntCs.set {cur : Array Value} {l : List Entry} {i : Nat} (h : EntCs cur l) (hi : i < l.length) (e : Entry) :
    EntCs (((cur.setIfInBounds (i * 3) (.string e.key)).setIfInBounds (i * 3 + 1) (.string e.val)).setIfInBounds (i * 3 + 2) (.bool e.gone)) (l.set i e) := by
  intro j hj
  have hj' : j < l.length := by simpa using hj
  obtain ⟨c0, c1, c2⟩ := h j hj'
  obtain ⟨d0, d1, d2⟩ := h i hi
  have s2 : i * 3 + 2 < cur.size := (Array.getElem?_eq_some_iff.1 d2).1
  simp only [Array.getElem?_setIfInBounds, List.getElem_set, Array.size_setIfInBounds]
  by_cases he : i = j
  · subst he
    simp (discharger := omega) [show i * 3 < cur.size by omega, show i * 3 + 1 < cur.size by omega, s2]
  · simp (discharger := omega) only [he, if_false, show ¬ (i * 3 = j * 3) by omega, show ¬ (i * 3 + 1 = j * 3) by omega, show ¬ (i * 3 + 2 = j * 3) by omega, show ¬ (i * 3 = j * 3 + 1) by omega, show ¬ (i * 3 + 1 = j * 3 + 1) by omega, show ¬ (i * 3 + 2 = j * 3 + 1) by omega, show ¬ (i * 3 = j * 3 + 2) by omega, show ¬ (i * 3 + 1 = j * 3 + 2) by omega, show ¬ (i * 3 + 2 = j * 3 + 2) by omega]
    exact ⟨c0, c1, c2⟩
def zEnt : List Value := [.string ⟨#[]⟩, .string ⟨#[]⟩, .bool false]
theorem zeroV_entry (w : World) : (zeroValue 62).run Tryz.prog w = .ok (.agg #[.string ⟨#[]⟩, .string ⟨#[]⟩, .bool false]) w := by
  obtain ⟨i0, hi, hzz⟩ := Option.map_eq_some_iff.1 info_entry
  simp only [Prod.mk.injEq] at hzz
  simp [zeroValue, typeInfo, hi, hzz.1]
theorem run_clear_ent (w : World) (g o n c : Nat) (cur : Array Value) (hg : w.heap[g]? = some (.cells cur 62 (0, 0))) (hfit : o + n * 3 ≤ cur.size) (hn : 0 < n) :
    ∃ cur', (∀ ty, (Builtin.clear_ #[55] ty #[.slice (some ⟨g, o, none⟩) n c]).run Tryz.prog w = .ok (.tuple #[]) (w.setRow g cur')) ∧ cur'.size = cur.size ∧ ∀ j, j < o → cur'[j]? = cur[j]? := by
  have h1 : ∀ v ∈ (Builtin.zeroCells (Value.agg #[.string ⟨#[]⟩, .string ⟨#[]⟩, .bool false]).cells n).toList, v.oneCell' = true := by
    intro v hv
    simp only [Builtin.zeroCells, Array.toList_map, List.mem_map] at hv
    obtain ⟨i, _, rfl⟩ := hv
    have : i % 3 < 3 := Nat.mod_lt _ (by decide)
    show ((#[Value.string ⟨#[]⟩, .string ⟨#[]⟩, .bool false] : Array Value)[i % 3]!).oneCell' = true
    rcases (show i % 3 = 0 ∨ i % 3 = 1 ∨ i % 3 = 2 by omega) with e | e | e <;> rw [e] <;> rfl
  have hlen : (Builtin.zeroCells (Value.agg #[.string ⟨#[]⟩, .string ⟨#[]⟩, .bool false]).cells n).toList.length = n * 3 := by
    simp [Builtin.zeroCells]; rfl
  generalize hz : (Builtin.zeroCells (Value.agg #[.string ⟨#[]⟩, .string ⟨#[]⟩, .bool false]).cells n).toList = zs at h1 hlen
  have hst := run_storeCells_at Tryz.prog g o 62 zs 0 cur w hg (by rw [hlen]; simpa using hfit) h1
  refine ⟨(cur.toList.take (o + 0) ++ zs ++ cur.toList.drop (o + 0 + zs.length)).toArray, ?_, ?_, ?_⟩
  · intro ty
    obtain ⟨m, rfl⟩ : ∃ m, n = m + 1 := ⟨n - 1, by omega⟩
    simp [Builtin.clear_, run_underlying Tryz.underlying55, zeroV_entry, hz, hst]
  · simp [hlen]; try omega
  · intro j hj
    simp only [List.getElem?_toArray, Nat.add_zero]
    rw [List.append_assoc, List.getElem?_append_left (by simp; try omega), List.getElem?_take_of_lt hj]
    simp
def keepE (l : List Entry) : List Entry := l.filter fun e => !e.gone
theorem goneAt_ge : ∀ (l : List Entry) (i : Nat), goneAt l i = -1 ∨ (i : Int) ≤ goneAt l i
  | [], i => .inl rfl
  | e :: t, i => by
    unfold goneAt
    split
    · exact .inr (Int.le_refl _)
    · rcases goneAt_ge t (i + 1) with h | h
      · exact .inl h
      · exact .inr (by omega)
theorem goneAt_cases : ∀ (l : List Entry) (i : Nat), (goneAt l i = -1 ∧ keepE l = l) ∨ (∃ k, k < l.length ∧ goneAt l i = ((i + k : Nat) : Int) ∧ keepE l = l.take k ++ keepE (l.drop (k + 1)))
  | [], i => .inl ⟨rfl, rfl⟩
  | e :: t, i => by
    by_cases h : e.gone = true
    · refine .inr ⟨0, by simp, ?_, ?_⟩
      · simp [goneAt, h]
      · simp [keepE, List.filter_cons, h]
    · rcases goneAt_cases t (i + 1) with ⟨h1, h2⟩ | ⟨k, h1, h2, h3⟩
      · refine .inl ⟨by simp [goneAt, h, h1], ?_⟩
        unfold keepE at h2 ⊢
        simp [List.filter_cons, h, h2]
      · refine .inr ⟨k + 1, by simp; omega, ?_, ?_⟩
        · simp only [goneAt, h]
          rw [if_neg (by simp), h2]; congr 1; omega
        · unfold keepE at h3 ⊢
          simp [List.filter_cons, h, h3]
theorem slices_DeleteFunc (w : World) (g cap : Nat) (cur : Array Value) (l : List Entry) (hg : w.heap[g]? = some (.cells cur 62 (0, 0))) (he : EntCs cur l) (hb : l.length ≤ 1048576) (hc : l.length ≤ cap) (hm : cap ≤ maxLen) :
    Calls Tryz.prog 233 #[.slice (some ⟨g, 0, none⟩) l.length cap, .func (.func 234) #[] #[]] w fun r w' =>
      ∃ cur', r = .returned (.slice (some ⟨g, 0, none⟩) (keepE l).length cap) ∧ Kept (fun k => k = g) w w' ∧ w'.heap[g]? = some (.cells cur' 62 (0, 0)) ∧ cur'.size = cur.size ∧ EntCs cur' (keepE l) := by
  have H0 := Lib.hid (he.at_ hg)
  go_enter Tryz.func233, Tryz.ntmps233
  rcases goneAt_cases l 0 with ⟨h1, h2⟩ | ⟨k, h1, h2, h3⟩
  · go_wp2_with (go_at_call 243; refine (slices_IndexFunc _ _ _ _ l H0.out hb).mono ?_; rintro r W1 ⟨rfl, hk⟩; rw [h1])
    go_ret
    refine ⟨cur, by rw [h2]; rfl, New.kept hk _, New.obj hk hg, rfl, by rw [h2]; exact he⟩
  · rw [Nat.zero_add] at h2
    have X0 := Lib.hid h3
    have G0 := Lib.hid hg
    have E0 := Lib.hid he
    clear h3 hg he
    go_wp2_with (go_at_call 243; refine (slices_IndexFunc _ _ _ _ l H0.out hb).mono ?_; rintro r W1 ⟨rfl, hk⟩; rw [h2]; have N1 := Lib.hid hk; clear hk)
    have K1 := Lib.hid (New.kept N1.out (fun k => k = g))
    have G1 := Lib.hid (New.obj N1.out G0.out)
    clear N1 G0 H0
    go_loopg [5, 6] l.length (fun gk iv jv W => ∃ (i j : Nat) (l1 : List Entry) (c1 : Array Value), iv = .int .i64 i ∧ jv = .int .i64 j ∧ l.length ≤ j + gk ∧ j ≤ l.length ∧ i < j ∧ l1.length = l.length ∧ Hid (Kept (fun k => k = g) w W) ∧ Hid (W.heap[g]? = some (.cells c1 62 (0, 0))) ∧ Hid (EntCs c1 l1) ∧ Hid (c1.size = cur.size) ∧ Hid (l1.drop j = l.drop j) ∧ Hid (keepE l = l1.take i ++ keepE (l1.drop j)))
    case atStart => exact ⟨k, k + 1, l, cur, rfl, by simp, by omega, by omega, by omega, rfl, K1, G1, E0, Lib.hid rfl, Lib.hid rfl, X0⟩
    case round =>
    clear K1 G1 E0 X0
    obtain ⟨i, j, l1, c1, rfl, rfl, hgk, hjl, hij, hl1, K1, G1, E1, S1, D1, X1⟩ := hrel
    have A0 := Lib.hid (E1.out.at_ G1.out)
    by_cases hlt : j < l.length
    · have hj1 : j < l1.length := by omega
      obtain ⟨c0, c1', c2⟩ := A0.out j hj1
      have X2 := Lib.hid (X1.out.trans (by rw [List.drop_eq_getElem_cons hj1] : _ = l1.take i ++ keepE (l1[j] :: l1.drop (j + 1))))
      have D2 := Lib.hid (show l1.drop (j + 1) = l.drop (j + 1) by have := congrArg (List.drop 1) D1.out; simpa [List.drop_drop, Nat.add_comm] using this)
      have E2 := fun e => Lib.hid (E1.out.set (i := i) (by omega) e)
      have HF := fun w => Lib.hid (rev_live1 l1[j] w)
      have s0 := World.block_lt_of_cell? _ _ c0
      generalize l1[j] = e at c0 c1' c2 X2 HF
      obtain ⟨ek, ev, q⟩ := e
      simp only [Nat.zero_add] at c0 c1' c2 X2 HF
      clear A0 X1
      cases q with
      | true =>
        have X3 := Lib.hid (X2.out.trans (by simp [keepE, List.filter_cons] : _ = l1.take i ++ keepE (l1.drop (j + 1))))
        go_wp2_with (go_at_call 234; refine (HF _).out.mono ?_; rintro r W1 ⟨rfl, hk⟩; have N1 := Lib.hid (((Kept.refl _ _).alloc _).trans hk : New wr W1); clear hk)
        go_roundg (gk - 1)
        case measure => omega
        case rel => exact ⟨i, j + 1, l1, c1, rfl, by simp, by omega, by omega, by omega, hl1, Lib.hid (K1.out.trans (New.kept N1.out _)), Lib.hid (New.obj N1.out G1.out), E1, S1, D2, X3⟩
      | false =>
        have X3 := Lib.hid (X2.out.trans (by simp [keepE, List.filter_cons] : _ = l1.take i ++ ⟨ek, ev, false⟩ :: keepE (l1.drop (j + 1))))
        go_wp2_with (go_at_call 234; refine (HF _).out.mono ?_; rintro r W1 ⟨rfl, hk⟩; have N1 := Lib.hid (((Kept.refl _ _).alloc _).trans hk : New wr W1)
                     have b1 := New.obj hk (alloc_new _ _)
                     have G2 := Lib.hid (New.obj N1.out G1.out)
                     have K2 := Lib.hid (K1.out.trans (New.kept N1.out _))
                     have d0 := cell_blk b1 0
                     have d1 := cell_blk b1 1
                     have d2 := cell_blk b1 2
                     have b1s := lt_of_block b1
                     have gs := lt_of_block G2.out
                     obtain ⟨t0, t1, t2⟩ := (E1.out.at_ G2.out) i (by omega)
                     simp only [Nat.zero_add] at t0 t1 t2
                     have f0 := free_blk G2.out (i * 3)
                     have f1 := free_blk G2.out (i * 3 + 1)
                     have f2 := free_blk G2.out (i * 3 + 2)
                     clear c0 c1' c2 b1 hk N1 G1 K1 s0)
        go_roundg (gk - 1)
        case measure => omega
        case rel =>
          refine ⟨i + 1, j + 1, _, _, by simp, by simp, by omega, by omega, by omega, ?_, ?_, Lib.hid (set_blk (set_blk (set_blk G2.out _ _) _ _) _ _), E2 ⟨ek, ev, false⟩, ?_, ?_, ?_⟩
          · simpa using hl1
          · exact Lib.hid (Kept.setCell (Kept.setCell (Kept.setCell K2.out (fun _ => rfl) _) (fun _ => rfl) _) (fun _ => rfl) _)
          · exact Lib.hid (by simpa using S1.out)
          · exact Lib.hid (by rw [List.drop_set_of_lt (by omega)]; exact D2.out)
          · refine Lib.hid ?_
            rw [List.drop_set_of_lt (by omega), List.take_succ_eq_append_getElem (by simp; omega), List.take_set_of_le (Nat.le_refl _), List.getElem_set_self, List.append_assoc, List.singleton_append]
            exact X3.out
    · have hje : j = l.length := by omega
      subst hje
      obtain ⟨cur', hcl, hsz, hsame⟩ := run_clear_ent wr g (i * 3) (l.length - i) (cap - i) c1 G1.out (by
        obtain ⟨_, _, c2⟩ := E1.out (l.length - 1) (by omega)
        have := (Array.getElem?_eq_some_iff.1 c2).1
        omega) (by omega)
      have X2 := Lib.hid (X1.out.trans (by rw [List.drop_eq_nil_of_le (by omega)]; exact List.append_nil _ : _ = l1.take i))
      have hlen : (keepE l).length = i := by rw [X2.out]; simp; omega
      go_wp2
      go_ret
      refine ⟨cur', by rw [hlen]; rfl, ?_, setRow_heap _ _ _ _ _ _ G1.out, hsz.trans S1.out, ?_⟩
      · exact K1.out.trans ⟨rfl, rfl, rfl, by simp, fun q hq hn => setRow_other _ _ _ _ hn⟩
      · rw [X2.out]
        intro a ha
        have ha' : a < i := by simp at ha; omega
        obtain ⟨c0, c1', c2⟩ := E1.out a (by omega)
        rw [hsame _ (by omega), hsame _ (by omega), hsame _ (by omega), List.getElem_take]
        exact ⟨c0, c1', c2⟩
theorem slices_IndexFunc_nil (w : World) :
    Calls Tryz.prog 243 #[.slice none 0 0, .func (.func 234) #[] #[]] w fun r w' => r = .returned (.int .i64 (-1)) ∧ w' = w := by
  go_enter Tryz.func243, Tryz.ntmps243
  go_wp2_with fail
  go_loopg [8] 1 (fun g iv W => iv = .int .i64 0 ∧ W = w)
  case atStart => exact ⟨rfl, rfl⟩
  case round =>
  obtain ⟨rfl, rfl⟩ := hrel
  go_wp2
  go_ret
  exact ⟨rfl, rfl⟩
theorem slices_DeleteFunc_nil (w : World) :
    Calls Tryz.prog 233 #[.slice none 0 0, .func (.func 234) #[] #[]] w fun r w' => r = .returned (.slice none 0 0) ∧ w' = w := by
  go_enter Tryz.func233, Tryz.ntmps233
  go_wp2_with (go_at_call 243; refine (slices_IndexFunc_nil _).mono ?_; rintro r W1 ⟨rfl, rfl⟩)
  go_ret
  exact ⟨rfl, rfl⟩
theorem EntCs.take {cur : Array Value} {l : List Entry} (h : EntCs cur l) : cur.toList.take (l.length * 3) = l.flatMap encEntry := by
  apply List.ext_getElem?
  intro t
  have ht : t = t / 3 * 3 + t % 3 := by omega
  have hm : t % 3 < 3 := Nat.mod_lt _ (by decide)
  by_cases hl : t < l.length * 3
  · rw [List.getElem?_take_of_lt hl]
    have hi : t / 3 < l.length := by omega
    obtain ⟨c0, c1, c2⟩ := h _ hi
    have e := flat_at (enc := encEntry) (sz := 3) (fun _ => rfl) l (t / 3) (t % 3) _ (List.getElem?_eq_getElem hi) hm
    rw [← ht] at e
    rw [e, Array.getElem?_toList]
    clear e
    generalize l[t / 3] = x at c0 c1 c2
    rcases (show t % 3 = 0 ∨ t % 3 = 1 ∨ t % 3 = 2 by omega) with q | q | q <;> rw [q] at ht ⊢ <;> rw [ht]
    · exact c0
    · exact c1
    · exact c2
  · rw [List.getElem?_eq_none (by simp; omega), List.getElem?_eq_none]
    have : (l.flatMap encEntry).length = l.length * 3 := by
      clear h hl ht hm
      induction l with
      | nil => rfl
      | cons x t ih => simp [encEntry] at ih ⊢; omega
    omega
theorem EntCs.of_take {cur : Array Value} {l : List Entry} (h : cur.toList.take (l.length * 3) = l.flatMap encEntry) : EntCs cur l := by
  intro i hi
  have e := fun j (hj : j < 3) => flat_at (enc := encEntry) (sz := 3) (fun _ => rfl) l i j _ (List.getElem?_eq_getElem hi) hj
  rw [← h] at e
  have e0 := e 0 (by decide)
  have e1 := e 1 (by decide)
  have e2 := e 2 (by decide)
  rw [List.getElem?_take_of_lt (by omega), Array.getElem?_toList] at e0 e1 e2
  exact ⟨e0, e1, e2⟩
theorem keepE_le (l : List Entry) : (keepE l).length ≤ l.length := List.length_filter_le _ _
theorem rev_live (w : World) (I : IHeap) (hI : Held I w) (r : Rev) (rv : Value) (hr : RevV I rv r) (hok : rvOk r) :
    Calls Tryz.prog 204 #[rv] w (PPost w I fun J v => Entries J v (keepE (rEntries r))) := by
  have HE := fun w hI => Lib.hid (rev_EntriesO w I hI r rv hr hok)
  have hlen : (rEntries r).length ≤ 1048576 := by
    obtain ⟨o1, o2, o3, o4⟩ := hok
    unfold rEntries; rw [rEntriesL_length _ _ _ o1 o2]; omega
  have M0 := Lib.hid (Pg.start hI)
  obtain ⟨ka, kc, va, vc, ga, gc, ta, tc, rfl, _⟩ := hr.form
  clear hr hI
  go_enter Tryz.func204, Tryz.ntmps204
  have M1 := Lib.hid (M0.out.alloc (.cells #[.int .i64 r.version, .int .i64 r.rate, .string r.span.lo, .string r.span.hi, .bool r.span.all, .bool r.dead, .slice ka r.keys.length kc, .slice va r.vals.length vc, .slice ga r.gone.length gc, .slice ta r.table.length tc] 92))
  have O1 := Lib.hid (OB.freshp M0.out #[.int .i64 r.version, .int .i64 r.rate, .string r.span.lo, .string r.span.hi, .bool r.span.all, .bool r.dead, .slice ka r.keys.length kc, .slice va r.vals.length vc, .slice ga r.gone.length gc, .slice ta r.table.length tc] 92 rfl)
  go_wp2_with (first
    | (go_at_call 203; refine (HE _ M1.out.held).out.mono ?_; rintro e W1 ⟨v, rfl, hM, hO⟩
       have M2 := Lib.hid (M1.out.trans hM)
       have R2 := Lib.hid (show OL w I W1 62 3 encEntry v (rEntries r) from ⟨⟨hO.own.1, by
         rcases hO.own.2 with h | ⟨g, cap, cur, h1, h2, h3⟩
         · exact .inl h
         · exact .inr ⟨g, cap, cur, h1, Nat.le_trans M1.out.size h2, h3⟩⟩, hO.ty, hO.no⟩)
       clear hM hO M0 M1 O1 HE)
    | (go_at_call 233
       obtain ⟨⟨hxs, hv⟩, hty, hno⟩ := R2.out
       rcases hv with ⟨rfl, hn⟩ | ⟨g, cap, cur, rfl, hge, hg, hnc, hcm, hsz, htake⟩
       · refine (slices_DeleteFunc_nil _).mono ?_
         rintro e W2 ⟨rfl, rfl⟩
         go_wp2
         go_ret
         refine ⟨I, _, rfl, M2.out, ?_⟩
         rw [List.length_eq_zero_iff.1 hn]
         exact Row.nil _ _ _
       · refine (slices_DeleteFunc _ g cap cur _ hg (EntCs.of_take htake) hlen hnc hcm).mono ?_
         rintro e W2 ⟨cur', rfl, hK, hg', hsz', hE⟩
         have hI0 : I g = none := hno g rfl
         have M3 := M2.out.own hK (fun k e => e ▸ hge) (fun k e => e ▸ hI0)
         obtain ⟨h3, h4⟩ := M3.put hg' (show immO (.cells cur' 62 (0, 0)) from rfl) hge
         have hle := keepE_le (rEntries r)
         have hT := hE.take
         go_wp2
         go_ret
         refine ⟨_, _, rfl, h3, ?_⟩
         refine ⟨?_, some ⟨g, 0, none⟩, cap, rfl, by omega, hcm, (fun h => by cases h), .inr ⟨g, 0, cur', (0, 0), rfl, by simp [IHeap.put], by simpa using hT⟩⟩
         have := congrArg List.length hT
         rw [← this, List.length_take]
         have : cur'.toList.length = cap * 3 := by rw [Array.length_toList, hsz', hsz]
         omega))
end Go.Proofs.YtadaiihoclknmaaGreat
/- Revisions: Clean. -/
namespace Go.Proofs.YtadaiihoclknmaaGreat
open Go.RowKit
set_option maxHeartbeats 4000000
set_option maxRecDepth 100000
set_option linter.unusedVariables false
set_option linter.unusedSimpArgs false
def rClean (r : Rev) : Rev := if r.dead = true then r else rLaid r.version r.rate r.span (keepE (rEntries r))
theorem rEntriesL_key : ∀ (ks vs : List ByteArray) (gs : List Bool) (e : Entry), e ∈ rEntriesL ks vs gs → e.key ∈ ks
  | [], vs, gs, e, h => by simp [rEntriesL] at h
  | k :: ks, [], gs, e, h => by simp [rEntriesL] at h
  | k :: ks, v :: vs, [], e, h => by simp [rEntriesL] at h
  | k :: ks, v :: vs, g :: gs, e, h => by
    rw [rEntriesL_cons] at h
    rcases List.mem_cons.1 h with rfl | h
    · simp
    · exact List.mem_cons_of_mem _ (rEntriesL_key ks vs gs e h)
theorem rev_Clean (w : World) (I : IHeap) (hI : Held I w) (r : Rev) (rv : Value) (hr : RevV I rv r) (hok : rvOk r) :
    Calls Tryz.prog 152 #[rv] w (PPost w I fun J v => RevV J v (rClean r)) := by
  obtain ⟨N, hN⟩ : ∃ N, N = rClean r := ⟨_, rfl⟩
  have HN := Lib.hid hN
  rw [← hN]
  have HE := fun w hI => Lib.hid (rev_live w I hI r rv hr hok)
  have hlen : (keepE (rEntries r)).length ≤ 1048576 := by
    refine Nat.le_trans (keepE_le _) ?_
    unfold rEntries; rw [rEntriesL_length _ _ _ hok.1 hok.2.1]; exact hok.2.2.1
  have hs : ∀ e ∈ keepE (rEntries r), e.key.size ≤ maxLen := fun e he => hok.2.2.2 _ (rEntriesL_key _ _ _ e (List.mem_filter.1 he).1)
  have HLD := fun w J hJ lv (hv : Entries J lv (keepE (rEntries r))) => Lib.hid (rev_laid w J hJ r.version r.rate r.span (keepE (rEntries r)) lv hv hlen hs)
  have M0 := Lib.hid (Pg.start hI)
  obtain ⟨ka, kc, va, vc, ga, gc, ta, tc, rfl, _⟩ := hr.form
  have HRV := Lib.hid hr
  clear hr hI hok hN hs hlen
  unfold rClean at HN
  unfold spanV at HLD
  generalize keepE (rEntries r) = el at *
  cases hd : r.dead with
  | true =>
    have HN2 := Lib.hid (HN.out.trans (if_pos hd))
    rw [hd] at HRV
    clear HN HE HLD
    go_enter Tryz.func152, Tryz.ntmps152
    go_wp2_with fail
    refine bodyPost_ret (v := _) (by simp [results, Tryz.results152, go_sem]; rfl) rfl ?_
    exact Pg.post (J := I) ((M0.out.alloc _).alloc _) (by rw [HN2.out]; exact HRV.out)
  | false =>
    have HN2 := Lib.hid (HN.out.trans (if_neg (by rw [hd]; decide)))
    rw [hd] at HE
    clear HN
    have Q0 := Lib.hid ((OB.freshp M0.out #[.int .i64 r.version, .int .i64 r.rate, .string r.span.lo, .string r.span.hi, .bool r.span.all, .bool false, .slice ka r.keys.length kc, .slice va r.vals.length vc, .slice ga r.gone.length gc, .slice ta r.table.length tc] 92 rfl).alloc (.cells #[.int .i64 0, .int .i64 0, .string ⟨#[]⟩, .string ⟨#[]⟩, .bool false, .bool false, .slice none 0 0, .slice none 0 0, .slice none 0 0, .slice none 0 0] 92))
    have O0 := Lib.hid (OB.freshp (M0.out.alloc (.cells #[.int .i64 r.version, .int .i64 r.rate, .string r.span.lo, .string r.span.hi, .bool r.span.all, .bool false, .slice ka r.keys.length kc, .slice va r.vals.length vc, .slice ga r.gone.length gc, .slice ta r.table.length tc] 92)) #[.int .i64 0, .int .i64 0, .string ⟨#[]⟩, .string ⟨#[]⟩, .bool false, .bool false, .slice none 0 0, .slice none 0 0, .slice none 0 0, .slice none 0 0] 92 rfl)
    have M1 := Lib.hid ((M0.out.alloc (.cells #[.int .i64 r.version, .int .i64 r.rate, .string r.span.lo, .string r.span.hi, .bool r.span.all, .bool false, .slice ka r.keys.length kc, .slice va r.vals.length vc, .slice ga r.gone.length gc, .slice ta r.table.length tc] 92)).alloc (.cells #[.int .i64 0, .int .i64 0, .string ⟨#[]⟩, .string ⟨#[]⟩, .bool false, .bool false, .slice none 0 0, .slice none 0 0, .slice none 0 0, .slice none 0 0] 92))
    rw [show (w.alloc (.cells #[.int .i64 r.version, .int .i64 r.rate, .string r.span.lo, .string r.span.hi, .bool r.span.all, .bool false, .slice ka r.keys.length kc, .slice va r.vals.length vc, .slice ga r.gone.length gc, .slice ta r.table.length tc] 92)).heap.size = w.heap.size + 1 by simp] at O0
    have HQ := Lib.hid (show ∀ W3 : World, W3.heap[w.heap.size]? = some (.cells #[.int .i64 r.version, .int .i64 r.rate, .string r.span.lo, .string r.span.hi, .bool r.span.all, .bool false, .slice ka r.keys.length kc, .slice va r.vals.length vc, .slice ga r.gone.length gc, .slice ta r.table.length tc] 92 (0, 0)) → W3.cell? ⟨w.heap.size, 0, none⟩ = some (.int .i64 r.version) ∧ W3.cell? ⟨w.heap.size, 1, none⟩ = some (.int .i64 r.rate) ∧ W3.cell? ⟨w.heap.size, 2, none⟩ = some (.string r.span.lo) ∧ W3.cell? ⟨w.heap.size, 3, none⟩ = some (.string r.span.hi) ∧ W3.cell? ⟨w.heap.size, 4, none⟩ = some (.bool r.span.all) ∧ W3.cell? ⟨w.heap.size, 5, none⟩ = some (.bool false) ∧ W3.cell? ⟨w.heap.size, 6, none⟩ = some (.slice ka r.keys.length kc) ∧ W3.cell? ⟨w.heap.size, 7, none⟩ = some (.slice va r.vals.length vc) ∧ W3.cell? ⟨w.heap.size, 8, none⟩ = some (.slice ga r.gone.length gc) ∧ W3.cell? ⟨w.heap.size, 9, none⟩ = some (.slice ta r.table.length tc) from fun W3 h => ⟨cell_blk h 0, cell_blk h 1, cell_blk h 2, cell_blk h 3, cell_blk h 4, cell_blk h 5, cell_blk h 6, cell_blk h 7, cell_blk h 8, cell_blk h 9⟩)
    go_enter Tryz.func152, Tryz.ntmps152
    go_wp2_with fail
    refine wp_region_held_drew (S := fun W3 => W3.cell? ⟨w.heap.size, 0, none⟩ = some (.int .i64 r.version) ∧ W3.cell? ⟨w.heap.size, 1, none⟩ = some (.int .i64 r.rate) ∧ W3.cell? ⟨w.heap.size, 2, none⟩ = some (.string r.span.lo) ∧ W3.cell? ⟨w.heap.size, 3, none⟩ = some (.string r.span.hi) ∧ W3.cell? ⟨w.heap.size, 4, none⟩ = some (.bool r.span.all) ∧ W3.cell? ⟨w.heap.size, 5, none⟩ = some (.bool false) ∧ W3.cell? ⟨w.heap.size, 6, none⟩ = some (.slice ka r.keys.length kc) ∧ W3.cell? ⟨w.heap.size, 7, none⟩ = some (.slice va r.vals.length vc) ∧ W3.cell? ⟨w.heap.size, 8, none⟩ = some (.slice ga r.gone.length gc) ∧ W3.cell? ⟨w.heap.size, 9, none⟩ = some (.slice ta r.table.length tc)) (by kernel_rfl) (HQ.out _ Q0.out.drew.at_) (fun hS0 => ?_)
    refine wpAnyH_takeD 0 (some 6) (v := ?_) rfl rfl (by kernel_rfl) (by kernel_rfl) (by kernel_rfl) (fun _ _ _ h => h) (Or.inl ⟨by rfl, ?_⟩) (by assumption) ?_
    rotate_left
    · (intro _w hSw; (try dsimp only at hSw); go_simp; try with_reducible rfl)
    try simp only [Act.put, List.setIfInBounds_toArray, List.set_cons_zero, List.set_cons_succ]
    refine wpAnyH_takeD 1 (some 7) (v := ?_) rfl rfl (by kernel_rfl) (by kernel_rfl) (by kernel_rfl) (fun _ _ _ h => h) (Or.inl ⟨by rfl, ?_⟩) (by assumption) ?_
    rotate_left
    · (intro _w hSw; (try dsimp only at hSw); go_simp; try with_reducible rfl)
    try simp only [Act.put, List.setIfInBounds_toArray, List.set_cons_zero, List.set_cons_succ]
    refine wpAnyH_takeD 2 (some 8) (v := ?_) rfl rfl (by kernel_rfl) (by kernel_rfl) (by kernel_rfl) (fun _ _ _ h => h) (Or.inl ⟨by rfl, ?_⟩) (by assumption) ?_
    rotate_left
    · (intro _w hSw; (try dsimp only at hSw); go_simp; try with_reducible rfl)
    try simp only [Act.put, List.setIfInBounds_toArray, List.set_cons_zero, List.set_cons_succ]
    refine wpAnyH_takeD 3 (some 9) (v := ?_) rfl rfl (by kernel_rfl) (by kernel_rfl) (by kernel_rfl) (fun _ _ _ h => h) (Or.inl ⟨by rfl, ?_⟩) (by assumption) ?_
    rotate_left
    · (intro _w hSw; (try dsimp only at hSw); go_simp; try with_reducible rfl)
    try simp only [Act.put, List.setIfInBounds_toArray, List.set_cons_zero, List.set_cons_succ]
    refine wpAnyH_takeD 4 (some 10) (v := ?_) rfl rfl (by kernel_rfl) (by kernel_rfl) (by kernel_rfl) (fun _ _ _ h => h) (Or.inl ⟨by rfl, ?_⟩) (by assumption) ?_
    rotate_left
    · (intro _w hSw; (try dsimp only at hSw); go_simp; try with_reducible rfl)
    try simp only [Act.put, List.setIfInBounds_toArray, List.set_cons_zero, List.set_cons_succ]
    refine wpAnyH_takeD 5 (some 11) (v := ?_) rfl rfl (by kernel_rfl) (by kernel_rfl) (by kernel_rfl) (fun _ _ _ h => h) (Or.inl ⟨by rfl, ?_⟩) (by assumption) ?_
    rotate_left
    · (intro _w hSw; (try dsimp only at hSw); go_simp; try with_reducible rfl)
    try simp only [Act.put, List.setIfInBounds_toArray, List.set_cons_zero, List.set_cons_succ]
    refine wpAnyH_takeD 6 (some 12) (v := ?_) rfl rfl (by kernel_rfl) (by kernel_rfl) (by kernel_rfl) (fun _ _ _ h => h) (Or.inl ⟨by rfl, ?_⟩) (by assumption) ?_
    rotate_left
    · (intro _w hSw; (try dsimp only at hSw); go_simp; try with_reducible rfl)
    try simp only [Act.put, List.setIfInBounds_toArray, List.set_cons_zero, List.set_cons_succ]
    refine wpAnyH_ready (rs := [7]) (by kernel_rfl) (by simp) ?_
    refine AllReadyH.cons rfl (fun K hK => ?_) AllReadyH.nil
    go_simp
    go_wp2_with (go_at_call 204; refine (HE _ M1.out.drew.held).out.mono ?_; rintro e2 W3 ⟨K3, ev, rfl, hP, hV⟩; have M3 := Lib.hid (M1.out.drew.trans hP); have O3 := Lib.hid (OB.pure O0.out.drew hP rfl); have Q3 := Lib.hid (OB.pure Q0.out.drew hP rfl); have HV3 := Lib.hid hV; clear hP hV)
    refine hK.out _ _ (HQ.out _ Q3.out.at_) ?_
    clear hK K
    intro hSS
    try simp only [Act.put, List.setIfInBounds_toArray, List.set_cons_zero, List.set_cons_succ]
    refine wpAnyH_ready (rs := [8]) (by kernel_rfl) (by simp) ?_
    refine AllReadyH.cons rfl (fun K hK => ?_) AllReadyH.nil
    go_simp
    go_wp2_with (go_at_call 165; refine (HLD _ _ M3.out.held _ HV3.out).out.mono ?_; rintro e2 W5 ⟨K5, rv, rfl, hP, hV⟩; have M5 := Lib.hid (M3.out.trans hP); have O5 := Lib.hid (OB.pure O3.out hP rfl); have Q5 := Lib.hid (OB.pure Q3.out hP rfl); obtain ⟨ka1, kc1, va1, vc1, ga1, gc1, ta1, tc1, rfl, _⟩ := hV.form; have HV5 := Lib.hid hV; clear hP hV)
    refine hK.out _ _ (HQ.out _ Q5.out.at_) ?_
    clear hK K
    intro hSS
    try simp only [Act.put, List.setIfInBounds_toArray, List.set_cons_zero, List.set_cons_succ]
    have hqz : w.heap.size ≠ w.heap.size + 1 := by omega
    clear hSS hS0
    have g0 := cell_blk O5.out.at_ 0
    have g1 := cell_blk O5.out.at_ 1
    have g2 := cell_blk O5.out.at_ 2
    have g3 := cell_blk O5.out.at_ 3
    have g4 := cell_blk O5.out.at_ 4
    have g5 := cell_blk O5.out.at_ 5
    have g6 := cell_blk O5.out.at_ 6
    have g7 := cell_blk O5.out.at_ 7
    have g8 := cell_blk O5.out.at_ 8
    have g9 := cell_blk O5.out.at_ 9
    have gf0 := free_blk O5.out.at_ 0
    have gf1 := free_blk O5.out.at_ 1
    have gf2 := free_blk O5.out.at_ 2
    have gf3 := free_blk O5.out.at_ 3
    have gf4 := free_blk O5.out.at_ 4
    have gf5 := free_blk O5.out.at_ 5
    have gf6 := free_blk O5.out.at_ 6
    have gf7 := free_blk O5.out.at_ 7
    have gf8 := free_blk O5.out.at_ 8
    have gf9 := free_blk O5.out.at_ 9
    have gs := lt_of_block O5.out.at_
    refine wpAnyH_ready (rs := [9]) (by kernel_rfl) (by simp) ?_
    refine AllReadyH.cons rfl (fun K hK => ?_) AllReadyH.nil
    go_simp
    refine hK.out _ _ (HQ.out _ ?_) ?_
    · repeat (first | with_reducible exact Q5.out.at_ | refine set_far ?_ hqz _)
    clear hK K
    intro hSS
    try simp only [Act.put, List.setIfInBounds_toArray, List.set_cons_zero, List.set_cons_succ]
    refine wpAnyH_done (by kernel_rfl) ?_ _
    go_wp2
    refine bodyPost_ret (v := _) (by simp [results, Tryz.results152, go_sem, g0, g1, g2, g3, g4, g5, g6, g7, g8, g9, gs]; rfl) rfl ?_
    refine Pg.post (J := K5) ?_ (by rw [HN2.out]; exact HV5.out)
    repeat (first | with_reducible exact M5.out | with_reducible refine Pg.drew ?_ | with_reducible refine Pg.alloc ?_ _ | refine Pg.seto ?_ (by repeat (first | with_reducible exact O5.out.ok | with_reducible refine OwnOk.set ?_ _ _ | with_reducible refine OwnOk.drew ?_)) _)
end Go.Proofs.YtadaiihoclknmaaGreat
/- Write: what a store may be made of. -/
namespace Go.Proofs.YtadaiihoclknmaaGreat
open Go.RowKit
set_option maxHeartbeats 4000000
set_option maxRecDepth 100000
set_option linter.unusedVariables false
set_option linter.unusedSimpArgs false

theorem write_between (n l h : Int) (w : World) : Calls Tryz.prog 100 #[.int .i64 n, .int .i64 l, .int .i64 h] w fun e w' => e = .returned (.bool (decide (l ≤ n) && decide (n ≤ h))) ∧ w = w' := by
  go_enter Tryz.func100, Tryz.ntmps100
  by_cases h1 : l ≤ n
  · go_wp2
    go_ret
    simp [h1]
  · have h' : decide (l ≤ n) = false := by simpa using h1
    go_wp2
    go_ret
    simp [h']
structure Conf where
  (cells clients snaps levels low high top : Int)
  deriving DecidableEq
def confV (c : Conf) : Value := .agg #[.int .i64 c.cells, .int .i64 c.clients, .int .i64 c.snaps, .int .i64 c.levels, .int .i64 c.low, .int .i64 c.high, .int .i64 c.top]
def wIn (n l h : Int) : Bool := decide (l ≤ n) && decide (n ≤ h)
def wGood (c : Conf) : Bool := wIn c.cells 1 65535 && wIn c.clients 1 64 && wIn c.snaps 0 64 && wIn c.levels 1 24 && wIn c.low 2 64 && wIn c.high c.low 64 && wIn c.top 1 1073741824
theorem write_Good (c : Conf) (w : World) : Calls Tryz.prog 48 #[confV c] w fun e w' => e = .returned (.bool (wGood c)) ∧ New w w' := by
  have HB := fun n l h w => Lib.hid (write_between n l h w)
  obtain ⟨G, hG⟩ : ∃ G, G = wGood c := ⟨_, rfl⟩
  rw [← hG]
  unfold wGood at hG
  have HG := Lib.hid hG
  clear hG
  unfold confV
  change ∀ n l h w, Hid (Calls Tryz.prog 100 #[.int .i64 n, .int .i64 l, .int .i64 h] w fun e w' => e = .returned (.bool (wIn n l h)) ∧ w = w') at HB
  have B1 := fun w => HB c.cells 1 65535 w
  have B2 := fun w => HB c.clients 1 64 w
  have B3 := fun w => HB c.snaps 0 64 w
  have B4 := fun w => HB c.levels 1 24 w
  have B5 := fun w => HB c.low 2 64 w
  have B6 := fun w => HB c.high c.low 64 w
  have B7 := fun w => HB c.top 1 1073741824 w
  clear HB
  generalize wIn c.cells 1 65535 = b1 at *
  generalize wIn c.clients 1 64 = b2 at *
  generalize wIn c.snaps 0 64 = b3 at *
  generalize wIn c.levels 1 24 = b4 at *
  generalize wIn c.low 2 64 = b5 at *
  generalize wIn c.high c.low 64 = b6 at *
  generalize wIn c.top 1 1073741824 = b7 at *
  cases b1 with
  | false =>
    go_enter Tryz.func48, Tryz.ntmps48
    go_wp2_with (first
        | (go_at_call 100; refine (B1 _).out.mono ?_; clear B1; rintro e w' ⟨rfl, rfl⟩)
        | (go_at_call 100; refine (B2 _).out.mono ?_; clear B2; rintro e w' ⟨rfl, rfl⟩)
        | (go_at_call 100; refine (B3 _).out.mono ?_; clear B3; rintro e w' ⟨rfl, rfl⟩)
        | (go_at_call 100; refine (B4 _).out.mono ?_; clear B4; rintro e w' ⟨rfl, rfl⟩)
        | (go_at_call 100; refine (B5 _).out.mono ?_; clear B5; rintro e w' ⟨rfl, rfl⟩)
        | (go_at_call 100; refine (B6 _).out.mono ?_; clear B6; rintro e w' ⟨rfl, rfl⟩)
        | (go_at_call 100; refine (B7 _).out.mono ?_; clear B7; rintro e w' ⟨rfl, rfl⟩))
    go_ret
    exact ⟨by rw [HG.out]; rfl, (Kept.refl _ _).alloc _⟩
  | true =>
  cases b2 with
  | false =>
    go_enter Tryz.func48, Tryz.ntmps48
    go_wp2_with (first
        | (go_at_call 100; refine (B1 _).out.mono ?_; clear B1; rintro e w' ⟨rfl, rfl⟩)
        | (go_at_call 100; refine (B2 _).out.mono ?_; clear B2; rintro e w' ⟨rfl, rfl⟩)
        | (go_at_call 100; refine (B3 _).out.mono ?_; clear B3; rintro e w' ⟨rfl, rfl⟩)
        | (go_at_call 100; refine (B4 _).out.mono ?_; clear B4; rintro e w' ⟨rfl, rfl⟩)
        | (go_at_call 100; refine (B5 _).out.mono ?_; clear B5; rintro e w' ⟨rfl, rfl⟩)
        | (go_at_call 100; refine (B6 _).out.mono ?_; clear B6; rintro e w' ⟨rfl, rfl⟩)
        | (go_at_call 100; refine (B7 _).out.mono ?_; clear B7; rintro e w' ⟨rfl, rfl⟩))
    go_ret
    exact ⟨by rw [HG.out]; rfl, (Kept.refl _ _).alloc _⟩
  | true =>
  cases b3 with
  | false =>
    go_enter Tryz.func48, Tryz.ntmps48
    go_wp2_with (first
        | (go_at_call 100; refine (B1 _).out.mono ?_; clear B1; rintro e w' ⟨rfl, rfl⟩)
        | (go_at_call 100; refine (B2 _).out.mono ?_; clear B2; rintro e w' ⟨rfl, rfl⟩)
        | (go_at_call 100; refine (B3 _).out.mono ?_; clear B3; rintro e w' ⟨rfl, rfl⟩)
        | (go_at_call 100; refine (B4 _).out.mono ?_; clear B4; rintro e w' ⟨rfl, rfl⟩)
        | (go_at_call 100; refine (B5 _).out.mono ?_; clear B5; rintro e w' ⟨rfl, rfl⟩)
        | (go_at_call 100; refine (B6 _).out.mono ?_; clear B6; rintro e w' ⟨rfl, rfl⟩)
        | (go_at_call 100; refine (B7 _).out.mono ?_; clear B7; rintro e w' ⟨rfl, rfl⟩))
    go_ret
    exact ⟨by rw [HG.out]; rfl, (Kept.refl _ _).alloc _⟩
  | true =>
  cases b4 with
  | false =>
    go_enter Tryz.func48, Tryz.ntmps48
    go_wp2_with (first
        | (go_at_call 100; refine (B1 _).out.mono ?_; clear B1; rintro e w' ⟨rfl, rfl⟩)
        | (go_at_call 100; refine (B2 _).out.mono ?_; clear B2; rintro e w' ⟨rfl, rfl⟩)
        | (go_at_call 100; refine (B3 _).out.mono ?_; clear B3; rintro e w' ⟨rfl, rfl⟩)
        | (go_at_call 100; refine (B4 _).out.mono ?_; clear B4; rintro e w' ⟨rfl, rfl⟩)
        | (go_at_call 100; refine (B5 _).out.mono ?_; clear B5; rintro e w' ⟨rfl, rfl⟩)
        | (go_at_call 100; refine (B6 _).out.mono ?_; clear B6; rintro e w' ⟨rfl, rfl⟩)
        | (go_at_call 100; refine (B7 _).out.mono ?_; clear B7; rintro e w' ⟨rfl, rfl⟩))
    go_ret
    exact ⟨by rw [HG.out]; rfl, (Kept.refl _ _).alloc _⟩
  | true =>
  cases b5 with
  | false =>
    go_enter Tryz.func48, Tryz.ntmps48
    go_wp2_with (first
        | (go_at_call 100; refine (B1 _).out.mono ?_; clear B1; rintro e w' ⟨rfl, rfl⟩)
        | (go_at_call 100; refine (B2 _).out.mono ?_; clear B2; rintro e w' ⟨rfl, rfl⟩)
        | (go_at_call 100; refine (B3 _).out.mono ?_; clear B3; rintro e w' ⟨rfl, rfl⟩)
        | (go_at_call 100; refine (B4 _).out.mono ?_; clear B4; rintro e w' ⟨rfl, rfl⟩)
        | (go_at_call 100; refine (B5 _).out.mono ?_; clear B5; rintro e w' ⟨rfl, rfl⟩)
        | (go_at_call 100; refine (B6 _).out.mono ?_; clear B6; rintro e w' ⟨rfl, rfl⟩)
        | (go_at_call 100; refine (B7 _).out.mono ?_; clear B7; rintro e w' ⟨rfl, rfl⟩))
    go_ret
    exact ⟨by rw [HG.out]; rfl, (Kept.refl _ _).alloc _⟩
  | true =>
  cases b6 with
  | false =>
    go_enter Tryz.func48, Tryz.ntmps48
    go_wp2_with (first
        | (go_at_call 100; refine (B1 _).out.mono ?_; clear B1; rintro e w' ⟨rfl, rfl⟩)
        | (go_at_call 100; refine (B2 _).out.mono ?_; clear B2; rintro e w' ⟨rfl, rfl⟩)
        | (go_at_call 100; refine (B3 _).out.mono ?_; clear B3; rintro e w' ⟨rfl, rfl⟩)
        | (go_at_call 100; refine (B4 _).out.mono ?_; clear B4; rintro e w' ⟨rfl, rfl⟩)
        | (go_at_call 100; refine (B5 _).out.mono ?_; clear B5; rintro e w' ⟨rfl, rfl⟩)
        | (go_at_call 100; refine (B6 _).out.mono ?_; clear B6; rintro e w' ⟨rfl, rfl⟩)
        | (go_at_call 100; refine (B7 _).out.mono ?_; clear B7; rintro e w' ⟨rfl, rfl⟩))
    go_ret
    exact ⟨by rw [HG.out]; rfl, (Kept.refl _ _).alloc _⟩
  | true =>
  cases b7 with
  | false =>
    go_enter Tryz.func48, Tryz.ntmps48
    go_wp2_with (first
        | (go_at_call 100; refine (B1 _).out.mono ?_; clear B1; rintro e w' ⟨rfl, rfl⟩)
        | (go_at_call 100; refine (B2 _).out.mono ?_; clear B2; rintro e w' ⟨rfl, rfl⟩)
        | (go_at_call 100; refine (B3 _).out.mono ?_; clear B3; rintro e w' ⟨rfl, rfl⟩)
        | (go_at_call 100; refine (B4 _).out.mono ?_; clear B4; rintro e w' ⟨rfl, rfl⟩)
        | (go_at_call 100; refine (B5 _).out.mono ?_; clear B5; rintro e w' ⟨rfl, rfl⟩)
        | (go_at_call 100; refine (B6 _).out.mono ?_; clear B6; rintro e w' ⟨rfl, rfl⟩)
        | (go_at_call 100; refine (B7 _).out.mono ?_; clear B7; rintro e w' ⟨rfl, rfl⟩))
    go_ret
    exact ⟨by rw [HG.out]; rfl, (Kept.refl _ _).alloc _⟩
  | true =>
  go_enter Tryz.func48, Tryz.ntmps48
  go_wp2_with (first
        | (go_at_call 100; refine (B1 _).out.mono ?_; clear B1; rintro e w' ⟨rfl, rfl⟩)
        | (go_at_call 100; refine (B2 _).out.mono ?_; clear B2; rintro e w' ⟨rfl, rfl⟩)
        | (go_at_call 100; refine (B3 _).out.mono ?_; clear B3; rintro e w' ⟨rfl, rfl⟩)
        | (go_at_call 100; refine (B4 _).out.mono ?_; clear B4; rintro e w' ⟨rfl, rfl⟩)
        | (go_at_call 100; refine (B5 _).out.mono ?_; clear B5; rintro e w' ⟨rfl, rfl⟩)
        | (go_at_call 100; refine (B6 _).out.mono ?_; clear B6; rintro e w' ⟨rfl, rfl⟩)
        | (go_at_call 100; refine (B7 _).out.mono ?_; clear B7; rintro e w' ⟨rfl, rfl⟩))
  go_ret
  exact ⟨by rw [HG.out]; rfl, (Kept.refl _ _).alloc _⟩
end Go.Proofs.YtadaiihoclknmaaGreat
