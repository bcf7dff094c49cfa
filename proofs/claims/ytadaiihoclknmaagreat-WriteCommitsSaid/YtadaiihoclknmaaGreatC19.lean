/- Part 19 of the proof: Batch1, Batch2. -/
import Derived.Test.YtadaiihoclknmaaGreatC18
import Derived.Test.YtadaiihoclknmaaGreatC16
import Derived.Deep.LoopGhost
/- Batches: Within. -/
namespace Go.Proofs.YtadaiihoclknmaaGreat
open Go.RowKit
set_option maxHeartbeats 4000000
set_option maxRecDepth 100000
set_option linter.unusedVariables false
set_option linter.unusedSimpArgs false
theorem flat_len {α : Type} {enc : α → List Value} {sz : Nat} (he : ∀ x, (enc x).length = sz) : ∀ xs : List α, (xs.flatMap enc).length = xs.length * sz
  | [] => by simp
  | x :: t => by rw [List.flatMap_cons, List.length_append, he, flat_len he t, List.length_cons, Nat.succ_mul]; omega
theorem flat_take {α : Type} {enc : α → List Value} {sz : Nat} (he : ∀ x, (enc x).length = sz) (l : List α) (n : Nat) : (l.flatMap enc).take (n * sz) = (l.take n).flatMap enc := by
  by_cases h : n ≤ l.length
  · conv => lhs; rw [← List.take_append_drop n l, List.flatMap_append]
    have hl : ((l.take n).flatMap enc).length = n * sz := by rw [flat_len he, List.length_take, Nat.min_eq_left h]
    rw [List.take_append_of_le_length (by omega), List.take_of_length_le (by omega)]
  · have h1 : l.length * sz ≤ n * sz := Nat.mul_le_mul_right _ (by omega)
    rw [List.take_of_length_le (by rw [flat_len he]; exact h1), List.take_of_length_le (by omega)]
theorem Sl.take {α : Type} {I : IHeap} {E : TypeId} {sz : Nat} {enc : α → List Value} {a : Option Addr} {m cap : Nat} {xs : List α} (h : Sl I E sz enc (.slice a m cap) xs) (he : ∀ x, (enc x).length = sz) (n : Nat) (hn : n ≤ xs.length) :
    Sl I E sz enc (.slice a n cap) (xs.take n) := by
  obtain ⟨h1, a', cap', hv, h2, h3, h4, h5⟩ := h
  injection hv with e1 e2 e3
  subst e1 e2 e3
  have hl : (xs.take n).length = n := by rw [List.length_take]; omega
  refine ⟨by rw [flat_len he], a, cap, by rw [hl], by omega, h3, h4, ?_⟩
  rcases h5 with h5 | ⟨b, off, cur, fr, ha, hI, hx⟩
  · exact .inl (by omega)
  · refine .inr ⟨b, off, cur, fr, ha, hI, ?_⟩
    rw [hl, ← flat_take he, ← hx, List.take_take, Nat.min_eq_left (Nat.mul_le_mul_right _ hn)]
theorem Sl.len {α : Type} {I : IHeap} {E : TypeId} {sz : Nat} {enc : α → List Value} {a : Option Addr} {m cap : Nat} {xs : List α} (h : Sl I E sz enc (.slice a m cap) xs) : m = xs.length := by
  obtain ⟨h1, a', cap', hv, _⟩ := h
  injection hv
def eWithin (l : List Entry) (sp : Span) : List Entry := l.takeWhile fun e => kHas sp e.key
theorem batch_Within (w : World) (I : IHeap) (hI : Held I w) (l : List Entry) (lv : Value) (hl : Entries I lv l) (sp : Span) (hb : l.length ≤ 1048576) :
    Calls Tryz.prog 139 #[lv, spanV sp] w (PPost w I fun J v => Entries J v (eWithin l sp)) := by
  obtain ⟨la, lc, rfl, hc1, hc2, _⟩ := hl.form
  have HL := Lib.hid hl
  have M0 := Lib.hid (Pg.start hI)
  have HK := fun w k => (key_Has w sp k)
  obtain ⟨N, hN⟩ : ∃ N, N = eWithin l sp := ⟨_, rfl⟩
  rw [← hN]
  have X0 := Lib.hid (show N = l.take 0 ++ eWithin (l.drop 0) sp from hN)
  clear hN hl hI
  unfold spanV at *
  go_enter Tryz.func139, Tryz.ntmps139
  go_wp2_with fail
  have O1 := Lib.hid (OB.freshp M0.out #[.string sp.lo, .string sp.hi, .bool sp.all] 71 rfl)
  have M1 := Lib.hid (M0.out.alloc (.cells #[.string sp.lo, .string sp.hi, .bool sp.all] 71))
  generalize w.alloc (.cells #[.string sp.lo, .string sp.hi, .bool sp.all] 71) = W1 at *
  generalize w.heap.size = bs at *
  go_loopg [5] l.length (fun g iv W => ∃ (i : Nat), iv = .int .i64 i ∧ i + g = l.length ∧ Hid (Pg w I I W) ∧ Hid (OB w I W bs #[.string sp.lo, .string sp.hi, .bool sp.all] 71) ∧ Hid (N = l.take i ++ eWithin (l.drop i) sp))
  case atStart => exact ⟨0, rfl, by simp, M1, O1, X0⟩
  case round =>
  clear M1 O1 X0 M0
  obtain ⟨i, rfl, hi, M0, O0, X0⟩ := hrel
  have HCL := Lib.hid (HL.out.take (fun _ => rfl) i (by omega))
  have hli : (l.take i).length = i := by rw [List.length_take]; omega
  by_cases hlt : i < l.length
  · obtain ⟨kb, koff, rfl, _, c0, c1, c2, s0⟩ := entries_at2 M0.out.held HL.out hlt
    have X1 := Lib.hid (X0.out.trans (by rw [List.drop_eq_getElem_cons hlt] : _ = l.take i ++ eWithin (l[i] :: l.drop (i + 1)) sp))
    have X2 := Lib.hid (show l.take (i + 1) = l.take i ++ [l[i]] from (List.take_append_getElem hlt).symm)
    have HKe := fun w => HK w l[i].key
    have hd3 : decide ((i : Int) < l.length) = true := decide_eq_true (by omega)
    generalize l[i] = e at c0 c1 c2 X1 X2 HKe
    obtain ⟨k, v, gn⟩ := e
    simp only at c0 c1 c2 X2 HKe
    clear X0 HK c1 c2
    have HQ := Lib.hid (show ∀ W3, New wr W3 → W3.cell? ⟨bs, 0, none⟩ = some (.string sp.lo) ∧ W3.cell? ⟨bs, 1, none⟩ = some (.string sp.hi) ∧ W3.cell? ⟨bs, 2, none⟩ = some (.bool sp.all) ∧ W3.cell? ⟨kb, koff + i * 3, none⟩ = some (.string k) from
      fun W3 hk => ⟨hk.cell (cell_blk O0.out.at_ 0), hk.cell (cell_blk O0.out.at_ 1), hk.cell (cell_blk O0.out.at_ 2), hk.cell c0⟩)
    go_wp2_with fail
    refine wp_region_held_drew (S := fun W3 => W3.cell? ⟨bs, 0, none⟩ = some (.string sp.lo) ∧ W3.cell? ⟨bs, 1, none⟩ = some (.string sp.hi) ∧ W3.cell? ⟨bs, 2, none⟩ = some (.bool sp.all) ∧ W3.cell? ⟨kb, koff + i * 3, none⟩ = some (.string k)) (by kernel_rfl) (HQ.out _ (Kept.refl _ _).drew) (fun hS0 => ?_)
    refine wpAnyH_takeD 0 (some 6) (v := ?_) rfl rfl (by kernel_rfl) (by kernel_rfl) (by kernel_rfl) (fun _ _ _ h => h) (Or.inl ⟨by rfl, ?_⟩) (by assumption) ?_
    rotate_left
    · (intro _w hSw; (try dsimp only at hSw); go_simp; try with_reducible rfl)
    try simp only [Act.put, List.setIfInBounds_toArray, List.set_cons_zero, List.set_cons_succ]
    refine wpAnyH_takeD 1 (some 7) (v := ?_) rfl rfl (by kernel_rfl) (by kernel_rfl) (by kernel_rfl) (fun _ _ _ h => h) (Or.inl ⟨by rfl, ?_⟩) (by assumption) ?_
    rotate_left
    · (intro _w hSw; (try dsimp only at hSw); go_simp; try with_reducible rfl)
    try simp only [Act.put, List.setIfInBounds_toArray, List.set_cons_zero, List.set_cons_succ]
    refine wpAnyH_takeD 2 (some 8) (v := ?_) rfl rfl (by kernel_rfl) (by kernel_rfl) (by kernel_rfl) (fun _ _ _ h => h) (Or.inl ⟨by rfl, ?_⟩) (by assumption) ?_
    rotate_left
    · (intro _w hSw; (try dsimp only at hSw); go_simp; try with_reducible rfl)
    try simp only [Act.put, List.setIfInBounds_toArray, List.set_cons_zero, List.set_cons_succ]
    refine wpAnyH_takeD 3 (some 9) (v := ?_) rfl rfl (by kernel_rfl) (by kernel_rfl) (by kernel_rfl) (fun _ _ _ h => h) (Or.inl ⟨by rfl, ?_⟩) (by assumption) ?_
    rotate_left
    · (intro _w hSw; (try dsimp only at hSw); go_simp; try with_reducible rfl)
    try simp only [Act.put, List.setIfInBounds_toArray, List.set_cons_zero, List.set_cons_succ]
    refine wpAnyH_takeD 4 (some 10) (v := ?_) rfl rfl (by kernel_rfl) (by kernel_rfl) (by kernel_rfl) (fun _ _ _ h => h) (Or.inl ⟨by rfl, ?_⟩) (by assumption) ?_
    rotate_left
    · (intro _w hSw; (try dsimp only at hSw); go_simp; try with_reducible rfl)
    try simp only [Act.put, List.setIfInBounds_toArray, List.set_cons_zero, List.set_cons_succ]
    refine wpAnyH_takeD 5 (some 11) (v := ?_) rfl rfl (by kernel_rfl) (by kernel_rfl) (by kernel_rfl) (fun _ _ _ h => h) (Or.inl ⟨by rfl, ?_⟩) (by assumption) ?_
    rotate_left
    · (intro _w hSw; (try dsimp only at hSw); go_simp; try with_reducible rfl)
    try simp only [Act.put, List.setIfInBounds_toArray, List.set_cons_zero, List.set_cons_succ]
    refine wpAnyH_takeD 6 (some 12) (v := ?_) rfl rfl (by kernel_rfl) (by kernel_rfl) (by kernel_rfl) (fun _ _ _ h => h) (Or.inl ⟨by rfl, ?_⟩) (by assumption) ?_
    rotate_left
    · (intro _w hSw; (try dsimp only at hSw); go_simp; try with_reducible rfl)
    try simp only [Act.put, List.setIfInBounds_toArray, List.set_cons_zero, List.set_cons_succ]
    refine wpAnyH_takeD 7 (some 13) (v := ?_) rfl rfl (by kernel_rfl) (by kernel_rfl) (by kernel_rfl) (fun _ _ _ h => h) (Or.inl ⟨by rfl, ?_⟩) (by assumption) ?_
    rotate_left
    · (intro _w hSw; (try dsimp only at hSw); go_simp; try with_reducible rfl)
    try simp only [Act.put, List.setIfInBounds_toArray, List.set_cons_zero, List.set_cons_succ]
    refine wpAnyH_takeD 8 (some 14) (v := ?_) rfl rfl (by kernel_rfl) (by kernel_rfl) (by kernel_rfl) (fun _ _ _ h => h) (Or.inl ⟨by rfl, ?_⟩) (by assumption) ?_
    rotate_left
    · (intro _w hSw; (try dsimp only at hSw); go_simp; try with_reducible rfl)
    try simp only [Act.put, List.setIfInBounds_toArray, List.set_cons_zero, List.set_cons_succ]
    refine wpAnyH_takeD 9 (some 15) (v := ?_) rfl rfl (by kernel_rfl) (by kernel_rfl) (by kernel_rfl) (fun _ _ _ h => h) (Or.inl ⟨by rfl, ?_⟩) (by assumption) ?_
    rotate_left
    · (intro _w hSw; (try dsimp only at hSw); go_simp; try with_reducible rfl)
    try simp only [Act.put, List.setIfInBounds_toArray, List.set_cons_zero, List.set_cons_succ]
    refine wpAnyH_takeD 10 (some 16) (v := ?_) rfl rfl (by kernel_rfl) (by kernel_rfl) (by kernel_rfl) (fun _ _ _ h => h) (Or.inl ⟨by rfl, ?_⟩) (by assumption) ?_
    rotate_left
    · (intro _w hSw; (try dsimp only at hSw); go_simp; try with_reducible rfl)
    try simp only [Act.put, List.setIfInBounds_toArray, List.set_cons_zero, List.set_cons_succ]
    refine wpAnyH_ready (rs := [11]) (by kernel_rfl) (by simp) ?_
    refine AllReadyH.cons rfl (fun K hK => ?_) AllReadyH.nil
    go_simp
    go_wp2_with (go_at_call 59; refine (HKe _).mono ?_; rintro e2 W3 ⟨rfl, hk⟩; have HN := Lib.hid hk; have HR := Lib.hid (HQ.out _ ((Kept.refl _ _).drew.trans hk)); clear hk)
    refine hK.out _ _ HR.out ?_
    clear hK K
    intro hSS
    try simp only [Act.put, List.setIfInBounds_toArray, List.set_cons_zero, List.set_cons_succ]
    refine wpAnyH_takeD 12 (some 18) (v := ?_) rfl rfl (by kernel_rfl) (by kernel_rfl) (by kernel_rfl) (fun _ _ _ h => h) (Or.inl ⟨by rfl, ?_⟩) (by assumption) ?_
    rotate_left
    · (intro _w hSw; (try dsimp only at hSw); go_simp; try with_reducible rfl)
    try simp only [Act.put, List.setIfInBounds_toArray, List.set_cons_zero, List.set_cons_succ]
    refine wpAnyH_done (by kernel_rfl) ?_ _
    have M3 := Lib.hid (M0.out.drew.new HN.out)
    have O3 := Lib.hid (O0.out.drew.new HN.out)
    clear HN HR hSS hS0 HQ HKe
    cases hq : kHas sp k with
    | true =>
      have X3 := Lib.hid (X1.out.trans (by unfold eWithin; rw [List.takeWhile_cons_of_pos (by simpa using hq), X2.out, List.append_assoc]; rfl : _ = l.take (i + 1) ++ eWithin (l.drop (i + 1)) sp))
      go_wp2
      go_roundg (gk - 1)
      case measure => omega
      case rel => exact ⟨i + 1, by simp, by omega, M3, O3, X3⟩
    | false =>
      have X2 := Lib.hid (X1.out.trans (by unfold eWithin; rw [List.takeWhile_cons_of_neg (by simpa using hq)]; exact List.append_nil _ : _ = l.take i))
      go_wp2_with (go_at_call 188; refine (clone_entries _ I M3.out.held _ _ HCL.out (by omega)).mono ?_; rintro e W5 ⟨v5, rfl, hO, hk⟩)
      go_ret
      obtain ⟨K, hM, hle, hR, hno⟩ := (M3.out.new hk).row hO rfl M3.out.size
      exact ⟨K, _, rfl, hM, by rw [X2.out]; exact hR⟩
  · have hd3 : decide ((i : Int) < l.length) = false := decide_eq_false (by omega)
    have X2 := Lib.hid (X0.out.trans (by rw [List.drop_eq_nil_of_le (by omega)]; exact List.append_nil _ : _ = l.take i))
    have HQ := Lib.hid (show ∀ W3, New wr W3 → W3.cell? ⟨bs, 0, none⟩ = some (.string sp.lo) ∧ W3.cell? ⟨bs, 1, none⟩ = some (.string sp.hi) ∧ W3.cell? ⟨bs, 2, none⟩ = some (.bool sp.all) from
      fun W3 hk => ⟨hk.cell (cell_blk O0.out.at_ 0), hk.cell (cell_blk O0.out.at_ 1), hk.cell (cell_blk O0.out.at_ 2)⟩)
    go_wp2_with fail
    refine wp_region_held_drew (S := fun W3 => W3.cell? ⟨bs, 0, none⟩ = some (.string sp.lo) ∧ W3.cell? ⟨bs, 1, none⟩ = some (.string sp.hi) ∧ W3.cell? ⟨bs, 2, none⟩ = some (.bool sp.all)) (by kernel_rfl) (HQ.out _ (Kept.refl _ _).drew) (fun hS0 => ?_)
    refine wpAnyH_takeD 0 (some 6) (v := ?_) rfl rfl (by kernel_rfl) (by kernel_rfl) (by kernel_rfl) (fun _ _ _ h => h) (Or.inl ⟨by rfl, ?_⟩) (by assumption) ?_
    rotate_left
    · (intro _w hSw; (try dsimp only at hSw); go_simp; try with_reducible rfl)
    try simp only [Act.put, List.setIfInBounds_toArray, List.set_cons_zero, List.set_cons_succ]
    refine wpAnyH_takeD 1 (some 7) (v := ?_) rfl rfl (by kernel_rfl) (by kernel_rfl) (by kernel_rfl) (fun _ _ _ h => h) (Or.inl ⟨by rfl, ?_⟩) (by assumption) ?_
    rotate_left
    · (intro _w hSw; (try dsimp only at hSw); go_simp; try with_reducible rfl)
    try simp only [Act.put, List.setIfInBounds_toArray, List.set_cons_zero, List.set_cons_succ]
    refine wpAnyH_takeD 2 (some 8) (v := ?_) rfl rfl (by kernel_rfl) (by kernel_rfl) (by kernel_rfl) (fun _ _ _ h => h) (Or.inl ⟨by rfl, ?_⟩) (by assumption) ?_
    rotate_left
    · (intro _w hSw; (try dsimp only at hSw); go_simp; try with_reducible rfl)
    try simp only [Act.put, List.setIfInBounds_toArray, List.set_cons_zero, List.set_cons_succ]
    refine wpAnyH_takeD 3 (some 9) (v := ?_) rfl rfl (by kernel_rfl) (by kernel_rfl) (by kernel_rfl) (fun _ _ _ h => h) (Or.inl ⟨by rfl, ?_⟩) (by assumption) ?_
    rotate_left
    · (intro _w hSw; (try dsimp only at hSw); go_simp; try with_reducible rfl)
    try simp only [Act.put, List.setIfInBounds_toArray, List.set_cons_zero, List.set_cons_succ]
    refine wpAnyH_takeD 4 (some 10) (v := ?_) rfl rfl (by kernel_rfl) (by kernel_rfl) (by kernel_rfl) (fun _ _ _ h => h) (Or.inl ⟨by rfl, ?_⟩) (by assumption) ?_
    rotate_left
    · (intro _w hSw; (try dsimp only at hSw); go_simp; try with_reducible rfl)
    try simp only [Act.put, List.setIfInBounds_toArray, List.set_cons_zero, List.set_cons_succ]
    refine wpAnyH_takeD 5 (some 11) (v := undef) rfl rfl (by kernel_rfl) (by kernel_rfl) (by kernel_rfl) (fun _ _ _ h => h) (Or.inr ⟨by rfl, rfl⟩) (by assumption) ?_
    try simp only [Act.put, List.setIfInBounds_toArray, List.set_cons_zero, List.set_cons_succ]
    refine wpAnyH_takeD 6 (some 12) (v := undef) rfl rfl (by kernel_rfl) (by kernel_rfl) (by kernel_rfl) (fun _ _ _ h => h) (Or.inr ⟨by rfl, rfl⟩) (by assumption) ?_
    try simp only [Act.put, List.setIfInBounds_toArray, List.set_cons_zero, List.set_cons_succ]
    refine wpAnyH_takeD 7 (some 13) (v := undef) rfl rfl (by kernel_rfl) (by kernel_rfl) (by kernel_rfl) (fun _ _ _ h => h) (Or.inr ⟨by rfl, rfl⟩) (by assumption) ?_
    try simp only [Act.put, List.setIfInBounds_toArray, List.set_cons_zero, List.set_cons_succ]
    refine wpAnyH_takeD 8 (some 14) (v := undef) rfl rfl (by kernel_rfl) (by kernel_rfl) (by kernel_rfl) (fun _ _ _ h => h) (Or.inr ⟨by rfl, rfl⟩) (by assumption) ?_
    try simp only [Act.put, List.setIfInBounds_toArray, List.set_cons_zero, List.set_cons_succ]
    refine wpAnyH_takeD 9 (some 15) (v := undef) rfl rfl (by kernel_rfl) (by kernel_rfl) (by kernel_rfl) (fun _ _ _ h => h) (Or.inr ⟨by rfl, rfl⟩) (by assumption) ?_
    try simp only [Act.put, List.setIfInBounds_toArray, List.set_cons_zero, List.set_cons_succ]
    refine wpAnyH_takeD 10 (some 16) (v := undef) rfl rfl (by kernel_rfl) (by kernel_rfl) (by kernel_rfl) (fun _ _ _ h => h) (Or.inr ⟨by rfl, rfl⟩) (by assumption) ?_
    try simp only [Act.put, List.setIfInBounds_toArray, List.set_cons_zero, List.set_cons_succ]
    refine wpAnyH_takeD 11 (some 17) (v := undef) rfl rfl (by kernel_rfl) (by kernel_rfl) (by kernel_rfl) (fun _ _ _ h => h) (Or.inr ⟨by rfl, rfl⟩) (by assumption) ?_
    try simp only [Act.put, List.setIfInBounds_toArray, List.set_cons_zero, List.set_cons_succ]
    refine wpAnyH_takeD 12 (some 18) (v := ?_) rfl rfl (by kernel_rfl) (by kernel_rfl) (by kernel_rfl) (fun _ _ _ h => h) (Or.inl ⟨by rfl, ?_⟩) (by assumption) ?_
    rotate_left
    · (intro _w hSw; (try dsimp only at hSw); go_simp; try with_reducible rfl)
    try simp only [Act.put, List.setIfInBounds_toArray, List.set_cons_zero, List.set_cons_succ]
    refine wpAnyH_done (by kernel_rfl) ?_ _
    have M3 := Lib.hid (M0.out.drew)
    clear hS0 HQ HK
    go_wp2_with (go_at_call 188; refine (clone_entries _ I M3.out.held _ _ HCL.out (by omega)).mono ?_; rintro e W5 ⟨v5, rfl, hO, hk⟩)
    go_ret
    obtain ⟨K, hM, hle, hR, hno⟩ := (M3.out.new hk).row hO rfl M3.out.size
    exact ⟨K, _, rfl, hM, by rw [X2.out]; exact hR⟩
end Go.Proofs.YtadaiihoclknmaaGreat
/- Batches: Sorted, at one entry at most. -/
namespace Go.Proofs.YtadaiihoclknmaaGreat
open Go.RowKit
set_option maxHeartbeats 4000000
set_option maxRecDepth 100000
set_option linter.unusedVariables false
set_option linter.unusedSimpArgs false
def byF : Value := .func (.func 198) #[] #[]
theorem insertion_one (w : World) (A : Option Addr) (n cap : Nat) (hn : n ≤ 1) : Calls Tryz.prog 178 #[.slice A n cap, .int .i64 0, .int .i64 n, byF] w fun e w' => e = .returned (.tuple #[]) ∧ w = w' := by
  have hd : decide ((1 : Int) < n) = false := decide_eq_false (by omega)
  unfold byF
  go_enter Tryz.func178, Tryz.ntmps178
  go_wp2_with fail
  go_loopg [8] 1 (fun g iv W => iv = .int .i64 1 ∧ Hid (w = W))
  case atStart => exact ⟨rfl, Lib.hid rfl⟩
  case round =>
  obtain ⟨rfl, h0⟩ := hrel
  go_wp2

  refine bodyPost_end (v := .tuple #[]) (by simp [results, Tryz.results178, go_sem]) rfl ?_
  exact ⟨rfl, h0.out⟩
theorem stable_one (w : World) (A : Option Addr) (n cap : Nat) (hn : n ≤ 1) : Calls Tryz.prog 230 #[.slice A n cap, .int .i64 n, byF] w fun e w' => e = .returned (.tuple #[]) ∧ w = w' := by
  have hd : decide ((20 : Int) ≤ n) = false := decide_eq_false (by omega)
  have hd2 : decide ((20 : Int) < n) = false := decide_eq_false (by omega)
  have HI := Lib.hid (insertion_one w A n cap hn)
  unfold byF at HI ⊢
  go_enter Tryz.func230, Tryz.ntmps230
  go_wp2_with fail
  go_loopg [7, 8] 1 (fun g av bv W => av = .int .i64 0 ∧ bv = .int .i64 20 ∧ Hid (w = W))
  case atStart => exact ⟨rfl, rfl, Lib.hid rfl⟩
  case round =>
  obtain ⟨rfl, rfl, h0⟩ := hrel
  go_wp2_with (go_at_call 178; refine (h0.out ▸ HI.out).mono ?_; rintro e W1 ⟨rfl, h1⟩)
  go_loopg [6, 7, 8, 9] 1 (fun g sv av bv mv W => sv = .int .i64 20 ∧ Hid (w = W))
  case atStart => exact ⟨rfl, Lib.hid (h0.out.trans h1)⟩
  case round =>
  obtain ⟨rfl, h2⟩ := hrel
  go_wp2
  refine bodyPost_end (v := .tuple #[]) (by simp [results, Tryz.results230, go_sem]) rfl ?_
  exact ⟨rfl, h2.out⟩
theorem SortStable_one (w : World) (A : Option Addr) (n cap : Nat) (hn : n ≤ 1) : Calls Tryz.prog 197 #[.slice A n cap, byF] w fun e w' => e = .returned (.tuple #[]) ∧ w = w' := by
  have HI := Lib.hid (stable_one w A n cap hn)
  unfold byF at HI ⊢
  go_enter Tryz.func197, Tryz.ntmps197
  go_wp2_with (go_at_call 230; refine HI.out.mono ?_; rintro e W1 ⟨rfl, h1⟩)
  refine bodyPost_end (v := .tuple #[]) (by simp [results, Tryz.results197, go_sem]) rfl ?_
  exact ⟨rfl, h1⟩
/-- What Sorted may answer. -/
def SortOf (l s : List Entry) : Prop := s.length = l.length ∧ (l.length ≤ 1 → s = l)
theorem batch_Sorted1 (w : World) (I : IHeap) (hI : Held I w) (l : List Entry) (lv : Value) (hl : Entries I lv l) (hb : l.length ≤ 1) :
    Calls Tryz.prog 149 #[lv] w (PPost w I fun J v => ∃ s, SortOf l s ∧ Entries J v s) := by
  have M0 := Lib.hid (Pg.start hI)
  have HC := Lib.hid (clone_entries w I hI lv l hl (by omega))
  clear hl hI
  go_enter Tryz.func149, Tryz.ntmps149
  go_wp2_with (first
    | (go_at_call 188; refine HC.out.mono ?_; rintro e W1 ⟨v1, rfl, hO, hk⟩
       obtain ⟨K, hM, hle, hR, hno⟩ := (M0.out.new hk).row hO rfl M0.out.size
       obtain ⟨A, cap, rfl, _⟩ := hR.form
       have MK := Lib.hid hM
       have RK := Lib.hid hR
       clear hM hR hno hO hk)
    | (go_at_call 197; refine (SortStable_one _ _ _ _ hb).mono ?_; rintro e W2 ⟨rfl, rfl⟩))
  go_ret
  exact ⟨K, _, rfl, MK.out, l, ⟨rfl, fun _ => rfl⟩, RK.out⟩
end Go.Proofs.YtadaiihoclknmaaGreat
