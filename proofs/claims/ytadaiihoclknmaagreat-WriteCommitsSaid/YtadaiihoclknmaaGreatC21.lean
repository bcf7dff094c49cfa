/- Part 21 of the proof: Batch3, Rev7. -/
import Derived.Test.YtadaiihoclknmaaGreatC19
import Derived.Test.YtadaiihoclknmaaGreatC20
import Derived.Test.YtadaiihoclknmaaGreatC18
/- Batches: Check. -/
namespace Go.Proofs.YtadaiihoclknmaaGreat
open Go.RowKit
set_option maxHeartbeats 4000000
set_option maxRecDepth 100000
set_option linter.unusedVariables false
set_option linter.unusedSimpArgs false
def eEntry (e : Entry) : Bool := kRight e.key && decide (e.val.size ≤ 65536) && (!e.gone || e.val.toList == [])
theorem batch_entry (w : World) (e : Entry) :
    Calls Tryz.prog 150 #[.agg #[.string e.key, .string e.val, .bool e.gone]] w fun r w' => r = .returned (.bool (eEntry e)) ∧ New w w' := by
  obtain ⟨k, v, g⟩ := e
  have HR := fun w => Lib.hid (key_Right w k)
  have HF := fun w => Lib.hid (key_Fits w v)
  unfold eEntry
  simp only
  generalize kRight k = a at *
  generalize decide (v.size ≤ 65536) = b at *
  cases a with
  | false =>
    go_enter Tryz.func150, Tryz.ntmps150
    go_wp2_with (go_at_call 199; refine (HR _).out.mono ?_; rintro r W1 ⟨rfl, hk⟩; have N1 := Lib.hid hk; clear hk)
    go_ret
    exact ⟨by simp, ((Kept.refl _ _).alloc _).trans N1.out⟩
  | true =>
  cases b with
  | false =>
    go_enter Tryz.func150, Tryz.ntmps150
    have B0 := alloc_new w (.cells #[.string k, .string v, .bool g] 62)
    go_wp2_with (first
      | (go_at_call 199; refine (HR _).out.mono ?_; rintro r W1 ⟨rfl, hk⟩; have N1 := Lib.hid hk; have B1 := New.obj hk B0; have c0 := cell_blk B1 0; have c1 := cell_blk B1 1; have c2 := cell_blk B1 2; have l1 := lt_of_block B1; clear hk)
      | (go_at_call 200; refine (HF _).out.mono ?_; rintro r W2 ⟨rfl, hk⟩; have N2 := Lib.hid hk; clear hk))
    go_ret
    exact ⟨by simp, (((Kept.refl _ _).alloc _).trans N1.out).trans N2.out⟩
  | true =>
  cases g with
  | false =>
    go_enter Tryz.func150, Tryz.ntmps150
    have B0 := alloc_new w (.cells #[.string k, .string v, .bool false] 62)
    go_wp2_with (first
      | (go_at_call 199; refine (HR _).out.mono ?_; rintro r W1 ⟨rfl, hk⟩; have N1 := Lib.hid hk; have B1 := New.obj hk B0; have c0 := cell_blk B1 0; have c1 := cell_blk B1 1; have c2 := cell_blk B1 2; have l1 := lt_of_block B1; clear hk)
      | (go_at_call 200; refine (HF _).out.mono ?_; rintro r W2 ⟨rfl, hk⟩; have N2 := Lib.hid hk; have B2 := New.obj hk B1; clear c0 c1 c2 l1; have c0 := cell_blk B2 0; have c1 := cell_blk B2 1; have c2 := cell_blk B2 2; have l1 := lt_of_block B2; clear hk))
    go_ret
    exact ⟨by simp, (((Kept.refl _ _).alloc _).trans N1.out).trans N2.out⟩
  | true =>
    go_enter Tryz.func150, Tryz.ntmps150
    have B0 := alloc_new w (.cells #[.string k, .string v, .bool true] 62)
    go_wp2_with (first
      | (go_at_call 199; refine (HR _).out.mono ?_; rintro r W1 ⟨rfl, hk⟩; have N1 := Lib.hid hk; have B1 := New.obj hk B0; have c0 := cell_blk B1 0; have c1 := cell_blk B1 1; have c2 := cell_blk B1 2; have l1 := lt_of_block B1; clear hk)
      | (go_at_call 200; refine (HF _).out.mono ?_; rintro r W2 ⟨rfl, hk⟩; have N2 := Lib.hid hk; have B2 := New.obj hk B1; clear c0 c1 c2 l1; have c0 := cell_blk B2 0; have c1 := cell_blk B2 1; have c2 := cell_blk B2 2; have l1 := lt_of_block B2; clear hk))
    go_ret
    exact ⟨by simp, (((Kept.refl _ _).alloc _).trans N1.out).trans N2.out⟩
def eBad (p : Option ByteArray) (e : Entry) : Bool := !eEntry e || (match p with | none => false | some q => q.toList == e.key.toList)
def eCheckL : Option ByteArray → List Entry → Int
  | _, [] => 0
  | p, e :: t => if eBad p e = true then 1 else eCheckL (some e.key) t
def eCheck (l s : List Entry) : Int := if l.length < 1 ∨ 4096 < l.length then 1 else eCheckL none s
theorem batch_Check (w : World) (I : IHeap) (hI : Held I w) (l : List Entry) (lv : Value) (hl : Entries I lv l) (hb : l.length ≤ 1) :
    Calls Tryz.prog 99 #[lv] w (PPost w I fun J v => ∃ s, SortOf l s ∧ v = .int .i64 (eCheck l s)) := by
  obtain ⟨la, lc, rfl, _, _, _⟩ := hl.form
  have M0 := Lib.hid (Pg.start hI)
  have HS := Lib.hid (batch_Sorted1 w I hI l _ hl hb)
  clear hl hI
  by_cases h1 : l.length < 1
  · have d1 : decide ((l.length : Int) < 1) = true := decide_eq_true (by omega)
    go_enter Tryz.func99, Tryz.ntmps99
    go_wp2_with fail
    go_ret
    exact ⟨I, _, rfl, M0.out, l, ⟨rfl, fun _ => rfl⟩, by simp [eCheck, h1]⟩
  have d1 : decide ((l.length : Int) < 1) = false := decide_eq_false (by omega)
  by_cases h2 : 4096 < l.length
  · have d2 : decide ((l.length : Int) > 4096) = true := decide_eq_true (by omega)
    go_enter Tryz.func99, Tryz.ntmps99
    go_wp2_with fail
    go_ret
    exact ⟨I, _, rfl, M0.out, l, ⟨rfl, fun _ => rfl⟩, by simp [eCheck, h2]⟩
  have d2 : decide ((l.length : Int) > 4096) = false := decide_eq_false (by omega)
  have HC := Lib.hid (show ∀ s, eCheck l s = eCheckL none s from fun s => if_neg (by omega))
  have hlim : l.length ≤ 4096 := by omega
  clear h1 h2
  go_enter Tryz.func99, Tryz.ntmps99
  go_wp2_with (go_at_call 149; refine HS.out.mono ?_; rintro e W1 ⟨J, v, rfl, hM, s, hs, hv⟩; obtain ⟨sa, sc, rfl, _, _, _⟩ := hv.form; have M1 := Lib.hid hM; have HL := Lib.hid hv; have HSO := Lib.hid hs; clear hM hv)
  clear M0 HS d1 d2
  have hsl : s.length ≤ 4096 := by have := hs.1; omega
  clear hs
  obtain ⟨G, hG⟩ : ∃ G, G = eCheck l s := ⟨_, rfl⟩
  have X0 := Lib.hid (show G = eCheckL (lastKey s 0) (s.drop 0) from hG.trans (HC.out s))
  have HG := Lib.hid hG
  clear hG HC
  go_loopg [18] s.length (fun g iv W => ∃ (i : Nat), iv = .int .i64 i ∧ i + g = s.length ∧ Hid (Pg w I J W) ∧ Hid (G = eCheckL (lastKey s i) (s.drop i)))
  case atStart => exact ⟨0, rfl, by simp, M1, X0⟩
  case round =>
  clear M1 X0
  obtain ⟨i, rfl, hi, M0, X0⟩ := hrel
  by_cases hlt : i < s.length
  · obtain ⟨kb, koff, rfl, _, c0, c1, c2, s0⟩ := entries_at M0.out.held HL.out hlt
    have X1 := Lib.hid (X0.out.trans (by rw [List.drop_eq_getElem_cons hlt]; rfl : _ = if eBad (lastKey s i) s[i] = true then 1 else eCheckL (some s[i].key) (s.drop (i + 1))))
    have X2 := Lib.hid (show some s[i].key = lastKey s (i + 1) by simp [lastKey, hlt])
    have hlast : Hid (i = 0 ∨ ∃ j, i = j + 1) := Lib.hid (by cases i with | zero => exact .inl rfl | succ j => exact .inr ⟨j, rfl⟩)
    have HKe := fun w => Lib.hid (batch_entry w s[i])
    unfold eBad at X1
    generalize s[i] = e at c0 c1 c2 X1 X2 HKe
    generalize eEntry e = q at HKe X1
    obtain ⟨k, v, gn⟩ := e
    simp only at c0 c1 c2 X1 X2 HKe
    clear X0
    go_wp2_with fail
    have P1 := Lib.hid (OB.freshp M0.out #[.string k, .string v, .bool gn] 62 rfl)
    have M1 := Lib.hid (M0.out.alloc (.cells #[.string k, .string v, .bool gn] 62))
    clear c0 c1 c2 s0
    have p0 := cell_blk P1.out.at_ 0
    have p1 := cell_blk P1.out.at_ 1
    have p2 := cell_blk P1.out.at_ 2
    have pf0 := free_blk P1.out.at_ 0
    have pf1 := free_blk P1.out.at_ 1
    have pf2 := free_blk P1.out.at_ 2
    have ps := lt_of_block P1.out.at_
    cases q with
    | false =>
      have X1 := Lib.hid (X1.out.trans (if_pos (by simp) : _ = (1 : Int)))
      generalize wr.alloc (.cells #[.string k, .string v, .bool gn] 62) = W2 at *
      generalize wr.heap.size = be at *
      have HQ := Lib.hid (show ∀ W3, New W2 W3 → W3.cell? ⟨be, 0, none⟩ = some (.string k) ∧ W3.cell? ⟨be, 1, none⟩ = some (.string v) ∧ W3.cell? ⟨be, 2, none⟩ = some (.bool gn) from fun W3 hk => ⟨hk.cell p0, hk.cell p1, hk.cell p2⟩)
      refine wp_region_held_drew (S := fun W3 => W3.cell? ⟨be, 0, none⟩ = some (.string k) ∧ W3.cell? ⟨be, 1, none⟩ = some (.string v) ∧ W3.cell? ⟨be, 2, none⟩ = some (.bool gn)) (by kernel_rfl) (HQ.out _ (Kept.refl _ _).drew) (fun hS0 => ?_)
      refine wpAnyH_takeD 0 (some 23) (v := ?_) rfl rfl (by kernel_rfl) (by kernel_rfl) (by kernel_rfl) (fun _ _ _ h => h) (Or.inl ⟨by rfl, ?_⟩) (by assumption) ?_
      rotate_left
      · (intro _w hSw; (try dsimp only at hSw); go_simp; try with_reducible rfl)
      try simp only [Act.put, List.setIfInBounds_toArray, List.set_cons_zero, List.set_cons_succ]
      refine wpAnyH_ready (rs := [1]) (by kernel_rfl) (by simp) ?_
      refine AllReadyH.cons rfl (fun K hK => ?_) AllReadyH.nil
      go_simp
      go_wp2_with (go_at_call 150; refine (HKe _).out.mono ?_; rintro e2 W3 ⟨rfl, hk⟩; have HN := Lib.hid hk; have HR := Lib.hid (HQ.out _ ((Kept.refl _ _).drew.trans hk)); clear hk)
      refine hK.out _ _ HR.out ?_
      clear hK K
      intro hSS
      try simp only [Act.put, List.setIfInBounds_toArray, List.set_cons_zero, List.set_cons_succ]
      refine wpAnyH_takeD 2 (some 25) (v := ?_) rfl rfl (by kernel_rfl) (by kernel_rfl) (by kernel_rfl) (fun _ _ _ h => h) (Or.inl ⟨by rfl, ?_⟩) (by assumption) ?_
      rotate_left
      · (intro _w hSw; (try dsimp only at hSw); go_simp; try with_reducible rfl)
      try simp only [Act.put, List.setIfInBounds_toArray, List.set_cons_zero, List.set_cons_succ]
      refine wpAnyH_takeD 3 (some 26) (v := ?_) rfl rfl (by kernel_rfl) (by kernel_rfl) (by kernel_rfl) (fun _ _ _ h => h) (Or.inl ⟨by rfl, ?_⟩) (by assumption) ?_
      rotate_left
      · (intro _w hSw; (try dsimp only at hSw); go_simp; try with_reducible rfl)
      try simp only [Act.put, List.setIfInBounds_toArray, List.set_cons_zero, List.set_cons_succ]
      refine wpAnyH_takeD 4 (some 27) (v := undef) rfl rfl (by kernel_rfl) (by kernel_rfl) (by kernel_rfl) (fun _ _ _ h => h) (Or.inr ⟨by rfl, rfl⟩) (by assumption) ?_
      try simp only [Act.put, List.setIfInBounds_toArray, List.set_cons_zero, List.set_cons_succ]
      refine wpAnyH_takeD 5 (some 28) (v := undef) rfl rfl (by kernel_rfl) (by kernel_rfl) (by kernel_rfl) (fun _ _ _ h => h) (Or.inr ⟨by rfl, rfl⟩) (by assumption) ?_
      try simp only [Act.put, List.setIfInBounds_toArray, List.set_cons_zero, List.set_cons_succ]
      refine wpAnyH_takeD 6 (some 29) (v := undef) rfl rfl (by kernel_rfl) (by kernel_rfl) (by kernel_rfl) (fun _ _ _ h => h) (Or.inr ⟨by rfl, rfl⟩) (by assumption) ?_
      try simp only [Act.put, List.setIfInBounds_toArray, List.set_cons_zero, List.set_cons_succ]
      refine wpAnyH_takeD 7 (some 30) (v := undef) rfl rfl (by kernel_rfl) (by kernel_rfl) (by kernel_rfl) (fun _ _ _ h => h) (Or.inr ⟨by rfl, rfl⟩) (by assumption) ?_
      try simp only [Act.put, List.setIfInBounds_toArray, List.set_cons_zero, List.set_cons_succ]
      refine wpAnyH_takeD 8 (some 31) (v := undef) rfl rfl (by kernel_rfl) (by kernel_rfl) (by kernel_rfl) (fun _ _ _ h => h) (Or.inr ⟨by rfl, rfl⟩) (by assumption) ?_
      try simp only [Act.put, List.setIfInBounds_toArray, List.set_cons_zero, List.set_cons_succ]
      refine wpAnyH_takeD 9 (some 32) (v := undef) rfl rfl (by kernel_rfl) (by kernel_rfl) (by kernel_rfl) (fun _ _ _ h => h) (Or.inr ⟨by rfl, rfl⟩) (by assumption) ?_
      try simp only [Act.put, List.setIfInBounds_toArray, List.set_cons_zero, List.set_cons_succ]
      refine wpAnyH_takeD 10 (some 33) (v := undef) rfl rfl (by kernel_rfl) (by kernel_rfl) (by kernel_rfl) (fun _ _ _ h => h) (Or.inr ⟨by rfl, rfl⟩) (by assumption) ?_
      try simp only [Act.put, List.setIfInBounds_toArray, List.set_cons_zero, List.set_cons_succ]
      refine wpAnyH_takeD 11 (some 34) (v := undef) rfl rfl (by kernel_rfl) (by kernel_rfl) (by kernel_rfl) (fun _ _ _ h => h) (Or.inr ⟨by rfl, rfl⟩) (by assumption) ?_
      try simp only [Act.put, List.setIfInBounds_toArray, List.set_cons_zero, List.set_cons_succ]
      refine wpAnyH_takeD 12 (some 35) (v := undef) rfl rfl (by kernel_rfl) (by kernel_rfl) (by kernel_rfl) (fun _ _ _ h => h) (Or.inr ⟨by rfl, rfl⟩) (by assumption) ?_
      try simp only [Act.put, List.setIfInBounds_toArray, List.set_cons_zero, List.set_cons_succ]
      refine wpAnyH_takeD 13 (some 36) (v := undef) rfl rfl (by kernel_rfl) (by kernel_rfl) (by kernel_rfl) (fun _ _ _ h => h) (Or.inr ⟨by rfl, rfl⟩) (by assumption) ?_
      try simp only [Act.put, List.setIfInBounds_toArray, List.set_cons_zero, List.set_cons_succ]
      refine wpAnyH_takeD 14 (some 37) (v := undef) rfl rfl (by kernel_rfl) (by kernel_rfl) (by kernel_rfl) (fun _ _ _ h => h) (Or.inr ⟨by rfl, rfl⟩) (by assumption) ?_
      try simp only [Act.put, List.setIfInBounds_toArray, List.set_cons_zero, List.set_cons_succ]
      refine wpAnyH_takeD 15 (some 38) (v := undef) rfl rfl (by kernel_rfl) (by kernel_rfl) (by kernel_rfl) (fun _ _ _ h => h) (Or.inr ⟨by rfl, rfl⟩) (by assumption) ?_
      try simp only [Act.put, List.setIfInBounds_toArray, List.set_cons_zero, List.set_cons_succ]
      refine wpAnyH_takeD 16 (some 39) (v := undef) rfl rfl (by kernel_rfl) (by kernel_rfl) (by kernel_rfl) (fun _ _ _ h => h) (Or.inr ⟨by rfl, rfl⟩) (by assumption) ?_
      try simp only [Act.put, List.setIfInBounds_toArray, List.set_cons_zero, List.set_cons_succ]
      refine wpAnyH_takeD 17 (some 40) (v := ?_) rfl rfl (by kernel_rfl) (by kernel_rfl) (by kernel_rfl) (fun _ _ _ h => h) (Or.inl ⟨by rfl, ?_⟩) (by assumption) ?_
      rotate_left
      · (intro _w hSw; (try dsimp only at hSw); go_simp; try with_reducible rfl)
      try simp only [Act.put, List.setIfInBounds_toArray, List.set_cons_zero, List.set_cons_succ]
      refine wpAnyH_done (by kernel_rfl) ?_ _
      have M3 := Lib.hid (M1.out.drew.new HN.out)
      clear HN HR hSS hS0 HQ
      go_wp2
      go_ret
      exact ⟨J, _, rfl, M3.out, s, HSO.out, by rw [← HG.out, X1.out]; rfl⟩
    | true =>
    rcases hlast.out with h0 | ⟨j, hj⟩
    · have X1 := Lib.hid (X1.out.trans (by rw [h0]; rfl : _ = eCheckL (some k) (s.drop (i + 1))))
      have hd3 : decide ((i : Int) > 0) = false := decide_eq_false (by omega)
      have hd4 : decide (0 < i) = false := decide_eq_false (by omega)
      clear h0 hlast
      generalize wr.alloc (.cells #[.string k, .string v, .bool gn] 62) = W2 at *
      generalize wr.heap.size = be at *
      have HQ := Lib.hid (show ∀ W3, New W2 W3 → W3.cell? ⟨be, 0, none⟩ = some (.string k) ∧ W3.cell? ⟨be, 1, none⟩ = some (.string v) ∧ W3.cell? ⟨be, 2, none⟩ = some (.bool gn) from fun W3 hk => ⟨hk.cell p0, hk.cell p1, hk.cell p2⟩)
      refine wp_region_held_drew (S := fun W3 => W3.cell? ⟨be, 0, none⟩ = some (.string k) ∧ W3.cell? ⟨be, 1, none⟩ = some (.string v) ∧ W3.cell? ⟨be, 2, none⟩ = some (.bool gn)) (by kernel_rfl) (HQ.out _ (Kept.refl _ _).drew) (fun hS0 => ?_)
      refine wpAnyH_takeD 0 (some 23) (v := ?_) rfl rfl (by kernel_rfl) (by kernel_rfl) (by kernel_rfl) (fun _ _ _ h => h) (Or.inl ⟨by rfl, ?_⟩) (by assumption) ?_
      rotate_left
      · (intro _w hSw; (try dsimp only at hSw); go_simp; try with_reducible rfl)
      try simp only [Act.put, List.setIfInBounds_toArray, List.set_cons_zero, List.set_cons_succ]
      refine wpAnyH_ready (rs := [1]) (by kernel_rfl) (by simp) ?_
      refine AllReadyH.cons rfl (fun K hK => ?_) AllReadyH.nil
      go_simp
      go_wp2_with (go_at_call 150; refine (HKe _).out.mono ?_; rintro e2 W3 ⟨rfl, hk⟩; have HN := Lib.hid hk; have HR := Lib.hid (HQ.out _ ((Kept.refl _ _).drew.trans hk)); clear hk)
      refine hK.out _ _ HR.out ?_
      clear hK K
      intro hSS
      try simp only [Act.put, List.setIfInBounds_toArray, List.set_cons_zero, List.set_cons_succ]
      refine wpAnyH_takeD 2 (some 25) (v := ?_) rfl rfl (by kernel_rfl) (by kernel_rfl) (by kernel_rfl) (fun _ _ _ h => h) (Or.inl ⟨by rfl, ?_⟩) (by assumption) ?_
      rotate_left
      · (intro _w hSw; (try dsimp only at hSw); go_simp; try with_reducible rfl)
      try simp only [Act.put, List.setIfInBounds_toArray, List.set_cons_zero, List.set_cons_succ]
      refine wpAnyH_takeD 3 (some 26) (v := ?_) rfl rfl (by kernel_rfl) (by kernel_rfl) (by kernel_rfl) (fun _ _ _ h => h) (Or.inl ⟨by rfl, ?_⟩) (by assumption) ?_
      rotate_left
      · (intro _w hSw; (try dsimp only at hSw); go_simp; try with_reducible rfl)
      try simp only [Act.put, List.setIfInBounds_toArray, List.set_cons_zero, List.set_cons_succ]
      refine wpAnyH_takeD 4 (some 27) (v := ?_) rfl rfl (by kernel_rfl) (by kernel_rfl) (by kernel_rfl) (fun _ _ _ h => h) (Or.inl ⟨by rfl, ?_⟩) (by assumption) ?_
      rotate_left
      · (intro _w hSw; (try dsimp only at hSw); go_simp; try with_reducible rfl)
      try simp only [Act.put, List.setIfInBounds_toArray, List.set_cons_zero, List.set_cons_succ]
      refine wpAnyH_takeD 5 (some 28) (v := ?_) rfl rfl (by kernel_rfl) (by kernel_rfl) (by kernel_rfl) (fun _ _ _ h => h) (Or.inl ⟨by rfl, ?_⟩) (by assumption) ?_
      rotate_left
      · (intro _w hSw; (try dsimp only at hSw); go_simp; try with_reducible rfl)
      try simp only [Act.put, List.setIfInBounds_toArray, List.set_cons_zero, List.set_cons_succ]
      refine wpAnyH_takeD 6 (some 29) (v := ?_) rfl rfl (by kernel_rfl) (by kernel_rfl) (by kernel_rfl) (fun _ _ _ h => h) (Or.inl ⟨by rfl, ?_⟩) (by assumption) ?_
      rotate_left
      · (intro _w hSw; (try dsimp only at hSw); go_simp; try with_reducible rfl)
      try simp only [Act.put, List.setIfInBounds_toArray, List.set_cons_zero, List.set_cons_succ]
      refine wpAnyH_takeD 7 (some 30) (v := undef) rfl rfl (by kernel_rfl) (by kernel_rfl) (by kernel_rfl) (fun _ _ _ h => h) (Or.inr ⟨by rfl, rfl⟩) (by assumption) ?_
      try simp only [Act.put, List.setIfInBounds_toArray, List.set_cons_zero, List.set_cons_succ]
      refine wpAnyH_takeD 8 (some 31) (v := undef) rfl rfl (by kernel_rfl) (by kernel_rfl) (by kernel_rfl) (fun _ _ _ h => h) (Or.inr ⟨by rfl, rfl⟩) (by assumption) ?_
      try simp only [Act.put, List.setIfInBounds_toArray, List.set_cons_zero, List.set_cons_succ]
      refine wpAnyH_takeD 9 (some 32) (v := undef) rfl rfl (by kernel_rfl) (by kernel_rfl) (by kernel_rfl) (fun _ _ _ h => h) (Or.inr ⟨by rfl, rfl⟩) (by assumption) ?_
      try simp only [Act.put, List.setIfInBounds_toArray, List.set_cons_zero, List.set_cons_succ]
      refine wpAnyH_takeD 10 (some 33) (v := undef) rfl rfl (by kernel_rfl) (by kernel_rfl) (by kernel_rfl) (fun _ _ _ h => h) (Or.inr ⟨by rfl, rfl⟩) (by assumption) ?_
      try simp only [Act.put, List.setIfInBounds_toArray, List.set_cons_zero, List.set_cons_succ]
      refine wpAnyH_takeD 11 (some 34) (v := undef) rfl rfl (by kernel_rfl) (by kernel_rfl) (by kernel_rfl) (fun _ _ _ h => h) (Or.inr ⟨by rfl, rfl⟩) (by assumption) ?_
      try simp only [Act.put, List.setIfInBounds_toArray, List.set_cons_zero, List.set_cons_succ]
      refine wpAnyH_takeD 12 (some 35) (v := undef) rfl rfl (by kernel_rfl) (by kernel_rfl) (by kernel_rfl) (fun _ _ _ h => h) (Or.inr ⟨by rfl, rfl⟩) (by assumption) ?_
      try simp only [Act.put, List.setIfInBounds_toArray, List.set_cons_zero, List.set_cons_succ]
      refine wpAnyH_takeD 13 (some 36) (v := undef) rfl rfl (by kernel_rfl) (by kernel_rfl) (by kernel_rfl) (fun _ _ _ h => h) (Or.inr ⟨by rfl, rfl⟩) (by assumption) ?_
      try simp only [Act.put, List.setIfInBounds_toArray, List.set_cons_zero, List.set_cons_succ]
      refine wpAnyH_takeD 14 (some 37) (v := undef) rfl rfl (by kernel_rfl) (by kernel_rfl) (by kernel_rfl) (fun _ _ _ h => h) (Or.inr ⟨by rfl, rfl⟩) (by assumption) ?_
      try simp only [Act.put, List.setIfInBounds_toArray, List.set_cons_zero, List.set_cons_succ]
      refine wpAnyH_takeD 15 (some 38) (v := undef) rfl rfl (by kernel_rfl) (by kernel_rfl) (by kernel_rfl) (fun _ _ _ h => h) (Or.inr ⟨by rfl, rfl⟩) (by assumption) ?_
      try simp only [Act.put, List.setIfInBounds_toArray, List.set_cons_zero, List.set_cons_succ]
      refine wpAnyH_takeD 16 (some 39) (v := ?_) rfl rfl (by kernel_rfl) (by kernel_rfl) (by kernel_rfl) (fun _ _ _ h => h) (Or.inl ⟨by rfl, ?_⟩) (by assumption) ?_
      rotate_left
      · (intro _w hSw; (try dsimp only at hSw); go_simp; try with_reducible rfl)
      try simp only [Act.put, List.setIfInBounds_toArray, List.set_cons_zero, List.set_cons_succ]
      refine wpAnyH_takeD 17 (some 40) (v := ?_) rfl rfl (by kernel_rfl) (by kernel_rfl) (by kernel_rfl) (fun _ _ _ h => h) (Or.inl ⟨by rfl, ?_⟩) (by assumption) ?_
      rotate_left
      · (intro _w hSw; (try dsimp only at hSw); go_simp; try with_reducible rfl)
      try simp only [Act.put, List.setIfInBounds_toArray, List.set_cons_zero, List.set_cons_succ]
      refine wpAnyH_done (by kernel_rfl) ?_ _
      have M3 := Lib.hid (M1.out.drew.new HN.out)
      clear HN HR hSS hS0 HQ
      go_wp2
      go_roundg (gk - 1)
      case measure => omega
      case rel => exact ⟨i + 1, by simp, by omega, M3, Lib.hid (X1.out.trans (by rw [X2.out]))⟩
    · subst hj
      have hlt' : j < s.length := by omega
      obtain ⟨kb', koff', hkb, _, d0, _⟩ := entries_at M0.out.held HL.out hlt'
      injection hkb with hkb
      injection hkb with hb1 hb2
      subst hb1 hb2
      have X1 := Lib.hid (X1.out.trans (by simp only [lastKey, List.getElem?_eq_getElem hlt', Option.map_some]; rfl : _ = if (s[j].key.toList == k.toList) = true then 1 else eCheckL (some k) (s.drop (j + 1 + 1))))
      have hd3 : decide (((j + 1 : Nat) : Int) > 0) = true := decide_eq_true (by omega)
      have hd4 : decide (0 < j + 1) = true := decide_eq_true (by omega)
      have hw3 : IntKind.i64.wrap (j : Int) = j := by rw [IntKind.wrap_i64]; omega
      have hj0 : (0 : Int) ≤ j := by omega
      have hj1 : (j : Int) < s.length := by omega
      clear hlast
      generalize s[j].key = pk at d0 X1
      have D0 := New.cell ((Kept.refl _ _).alloc (.cells #[.string k, .string v, .bool gn] 62)) d0
      generalize wr.alloc (.cells #[.string k, .string v, .bool gn] 62) = W2 at *
      generalize wr.heap.size = be at *
      have HQ := Lib.hid (show ∀ W3, New W2 W3 → W3.cell? ⟨be, 0, none⟩ = some (.string k) ∧ W3.cell? ⟨be, 1, none⟩ = some (.string v) ∧ W3.cell? ⟨be, 2, none⟩ = some (.bool gn) ∧ W3.cell? ⟨kb, koff + j * 3, none⟩ = some (.string pk) from fun W3 hk => ⟨hk.cell p0, hk.cell p1, hk.cell p2, hk.cell D0⟩)
      refine wp_region_held_drew (S := fun W3 => W3.cell? ⟨be, 0, none⟩ = some (.string k) ∧ W3.cell? ⟨be, 1, none⟩ = some (.string v) ∧ W3.cell? ⟨be, 2, none⟩ = some (.bool gn) ∧ W3.cell? ⟨kb, koff + j * 3, none⟩ = some (.string pk)) (by kernel_rfl) (HQ.out _ (Kept.refl _ _).drew) (fun hS0 => ?_)
      refine wpAnyH_takeD 0 (some 23) (v := ?_) rfl rfl (by kernel_rfl) (by kernel_rfl) (by kernel_rfl) (fun _ _ _ h => h) (Or.inl ⟨by rfl, ?_⟩) (by assumption) ?_
      rotate_left
      · (intro _w hSw; (try dsimp only at hSw); go_simp; try with_reducible rfl)
      try simp only [Act.put, List.setIfInBounds_toArray, List.set_cons_zero, List.set_cons_succ]
      refine wpAnyH_ready (rs := [1]) (by kernel_rfl) (by simp) ?_
      refine AllReadyH.cons rfl (fun K hK => ?_) AllReadyH.nil
      go_simp
      go_wp2_with (go_at_call 150; refine (HKe _).out.mono ?_; rintro e2 W3 ⟨rfl, hk⟩; have HN := Lib.hid hk; have HR := Lib.hid (HQ.out _ ((Kept.refl _ _).drew.trans hk)); clear hk)
      refine hK.out _ _ HR.out ?_
      clear hK K
      intro hSS
      try simp only [Act.put, List.setIfInBounds_toArray, List.set_cons_zero, List.set_cons_succ]
      refine wpAnyH_takeD 2 (some 25) (v := ?_) rfl rfl (by kernel_rfl) (by kernel_rfl) (by kernel_rfl) (fun _ _ _ h => h) (Or.inl ⟨by rfl, ?_⟩) (by assumption) ?_
      rotate_left
      · (intro _w hSw; (try dsimp only at hSw); go_simp; try with_reducible rfl)
      try simp only [Act.put, List.setIfInBounds_toArray, List.set_cons_zero, List.set_cons_succ]
      refine wpAnyH_takeD 3 (some 26) (v := ?_) rfl rfl (by kernel_rfl) (by kernel_rfl) (by kernel_rfl) (fun _ _ _ h => h) (Or.inl ⟨by rfl, ?_⟩) (by assumption) ?_
      rotate_left
      · (intro _w hSw; (try dsimp only at hSw); go_simp; try with_reducible rfl)
      try simp only [Act.put, List.setIfInBounds_toArray, List.set_cons_zero, List.set_cons_succ]
      refine wpAnyH_takeD 4 (some 27) (v := ?_) rfl rfl (by kernel_rfl) (by kernel_rfl) (by kernel_rfl) (fun _ _ _ h => h) (Or.inl ⟨by rfl, ?_⟩) (by assumption) ?_
      rotate_left
      · (intro _w hSw; (try dsimp only at hSw); go_simp; try with_reducible rfl)
      try simp only [Act.put, List.setIfInBounds_toArray, List.set_cons_zero, List.set_cons_succ]
      refine wpAnyH_takeD 5 (some 28) (v := ?_) rfl rfl (by kernel_rfl) (by kernel_rfl) (by kernel_rfl) (fun _ _ _ h => h) (Or.inl ⟨by rfl, ?_⟩) (by assumption) ?_
      rotate_left
      · (intro _w hSw; (try dsimp only at hSw); go_simp; try with_reducible rfl)
      try simp only [Act.put, List.setIfInBounds_toArray, List.set_cons_zero, List.set_cons_succ]
      refine wpAnyH_takeD 6 (some 29) (v := ?_) rfl rfl (by kernel_rfl) (by kernel_rfl) (by kernel_rfl) (fun _ _ _ h => h) (Or.inl ⟨by rfl, ?_⟩) (by assumption) ?_
      rotate_left
      · (intro _w hSw; (try dsimp only at hSw); go_simp; try with_reducible rfl)
      try simp only [Act.put, List.setIfInBounds_toArray, List.set_cons_zero, List.set_cons_succ]
      refine wpAnyH_takeD 7 (some 30) (v := ?_) rfl rfl (by kernel_rfl) (by kernel_rfl) (by kernel_rfl) (fun _ _ _ h => h) (Or.inl ⟨by rfl, ?_⟩) (by assumption) ?_
      rotate_left
      · (intro _w hSw; (try dsimp only at hSw); go_simp; try with_reducible rfl)
      try simp only [Act.put, List.setIfInBounds_toArray, List.set_cons_zero, List.set_cons_succ]
      refine wpAnyH_takeD 8 (some 31) (v := ?_) rfl rfl (by kernel_rfl) (by kernel_rfl) (by kernel_rfl) (fun _ _ _ h => h) (Or.inl ⟨by rfl, ?_⟩) (by assumption) ?_
      rotate_left
      · (intro _w hSw; (try dsimp only at hSw); go_simp; try with_reducible rfl)
      try simp only [Act.put, List.setIfInBounds_toArray, List.set_cons_zero, List.set_cons_succ]
      refine wpAnyH_takeD 9 (some 32) (v := ?_) rfl rfl (by kernel_rfl) (by kernel_rfl) (by kernel_rfl) (fun _ _ _ h => h) (Or.inl ⟨by rfl, ?_⟩) (by assumption) ?_
      rotate_left
      · (intro _w hSw; (try dsimp only at hSw); go_simp; try with_reducible rfl)
      try simp only [Act.put, List.setIfInBounds_toArray, List.set_cons_zero, List.set_cons_succ]
      refine wpAnyH_takeD 10 (some 33) (v := ?_) rfl rfl (by kernel_rfl) (by kernel_rfl) (by kernel_rfl) (fun _ _ _ h => h) (Or.inl ⟨by rfl, ?_⟩) (by assumption) ?_
      rotate_left
      · (intro _w hSw; (try dsimp only at hSw); go_simp; try with_reducible rfl)
      try simp only [Act.put, List.setIfInBounds_toArray, List.set_cons_zero, List.set_cons_succ]
      refine wpAnyH_takeD 11 (some 34) (v := ?_) rfl rfl (by kernel_rfl) (by kernel_rfl) (by kernel_rfl) (fun _ _ _ h => h) (Or.inl ⟨by rfl, ?_⟩) (by assumption) ?_
      rotate_left
      · (intro _w hSw; (try dsimp only at hSw); go_simp; try with_reducible rfl)
      try simp only [Act.put, List.setIfInBounds_toArray, List.set_cons_zero, List.set_cons_succ]
      refine wpAnyH_takeD 12 (some 35) (v := ?_) rfl rfl (by kernel_rfl) (by kernel_rfl) (by kernel_rfl) (fun _ _ _ h => h) (Or.inl ⟨by rfl, ?_⟩) (by assumption) ?_
      rotate_left
      · (intro _w hSw; (try dsimp only at hSw); go_simp; try with_reducible rfl)
      try simp only [Act.put, List.setIfInBounds_toArray, List.set_cons_zero, List.set_cons_succ]
      refine wpAnyH_takeD 13 (some 36) (v := ?_) rfl rfl (by kernel_rfl) (by kernel_rfl) (by kernel_rfl) (fun _ _ _ h => h) (Or.inl ⟨by rfl, ?_⟩) (by assumption) ?_
      rotate_left
      · (intro _w hSw; (try dsimp only at hSw); go_simp; try with_reducible rfl)
      try simp only [Act.put, List.setIfInBounds_toArray, List.set_cons_zero, List.set_cons_succ]
      refine wpAnyH_takeD 14 (some 37) (v := ?_) rfl rfl (by kernel_rfl) (by kernel_rfl) (by kernel_rfl) (fun _ _ _ h => h) (Or.inl ⟨by rfl, ?_⟩) (by assumption) ?_
      rotate_left
      · (intro _w hSw; (try dsimp only at hSw); go_simp; try with_reducible rfl)
      try simp only [Act.put, List.setIfInBounds_toArray, List.set_cons_zero, List.set_cons_succ]
      refine wpAnyH_takeD 15 (some 38) (v := ?_) rfl rfl (by kernel_rfl) (by kernel_rfl) (by kernel_rfl) (fun _ _ _ h => h) (Or.inl ⟨by rfl, ?_⟩) (by assumption) ?_
      rotate_left
      · (intro _w hSw; (try dsimp only at hSw); go_simp; try with_reducible rfl)
      try simp only [Act.put, List.setIfInBounds_toArray, List.set_cons_zero, List.set_cons_succ]
      refine wpAnyH_takeD 16 (some 39) (v := ?_) rfl rfl (by kernel_rfl) (by kernel_rfl) (by kernel_rfl) (fun _ _ _ h => h) (Or.inl ⟨by rfl, ?_⟩) (by assumption) ?_
      rotate_left
      · (intro _w hSw; (try dsimp only at hSw); go_simp; try with_reducible rfl)
      try simp only [Act.put, List.setIfInBounds_toArray, List.set_cons_zero, List.set_cons_succ]
      refine wpAnyH_takeD 17 (some 40) (v := ?_) rfl rfl (by kernel_rfl) (by kernel_rfl) (by kernel_rfl) (fun _ _ _ h => h) (Or.inl ⟨by rfl, ?_⟩) (by assumption) ?_
      rotate_left
      · (intro _w hSw; (try dsimp only at hSw); go_simp; try with_reducible rfl)
      try simp only [Act.put, List.setIfInBounds_toArray, List.set_cons_zero, List.set_cons_succ]
      refine wpAnyH_done (by kernel_rfl) ?_ _
      have M3 := Lib.hid (M1.out.drew.new HN.out)
      clear HN HR hSS hS0 HQ
      cases hq : pk.toList == k.toList with
      | true =>
        have X2 := Lib.hid (X1.out.trans (if_pos hq))
        go_wp2
        go_ret
        exact ⟨J, _, rfl, M3.out, s, HSO.out, by rw [← HG.out, X2.out]; rfl⟩
      | false =>
        have X3 := Lib.hid (X1.out.trans (if_neg (by rw [hq]; decide)))
        go_wp2
        go_roundg (gk - 1)
        case measure => omega
        case rel => exact ⟨j + 1 + 1, by simp, by omega, M3, Lib.hid (X3.out.trans (by rw [X2.out]))⟩
  · have h0 : List.drop i s = [] := List.drop_eq_nil_of_le (by omega)
    have X1 := Lib.hid (show G = 0 from by rw [X0.out, h0]; rfl)
    have hd3 : decide ((i : Int) < s.length) = false := decide_eq_false (by omega)
    go_wp2
    go_ret
    exact ⟨J, _, rfl, M0.out, s, HSO.out, by rw [← HG.out, X1.out]; rfl⟩
end Go.Proofs.YtadaiihoclknmaaGreat
/- Revisions: entries that are gone, found. -/
namespace Go.Proofs.YtadaiihoclknmaaGreat
open Go.RowKit
set_option maxHeartbeats 4000000
set_option maxRecDepth 100000
set_option linter.unusedVariables false
set_option linter.unusedSimpArgs false

theorem rev_live1 (e : Entry) (w : World) : Calls Tryz.prog 234 #[.agg #[.string e.key, .string e.val, .bool e.gone]] w fun r w' => r = .returned (.bool e.gone) ∧ New w w' := by
  go_enter Tryz.func234, Tryz.ntmps234
  go_wp2
  go_ret
  exact ⟨rfl, by repeat (first | with_reducible exact Kept.refl _ _ | with_reducible refine Kept.alloc ?_ _)⟩
def goneAt : List Entry → Nat → Int
  | [], _ => -1
  | e :: t, i => if e.gone = true then i else goneAt t (i + 1)
/-- Entries that lie in a block, whoever owns it. -/
def EntAt (w : World) (b off : Nat) (l : List Entry) : Prop := ∀ i (h : i < l.length), w.cell? ⟨b, off + i * 3, none⟩ = some (.string l[i].key) ∧ w.cell? ⟨b, off + i * 3 + 1, none⟩ = some (.string l[i].val) ∧ w.cell? ⟨b, off + i * 3 + 2, none⟩ = some (.bool l[i].gone)
theorem EntAt.new {w w' : World} {b off : Nat} {l : List Entry} (h : EntAt w b off l) (hk : New w w') : EntAt w' b off l := fun i hi => ⟨hk.cell (h i hi).1, hk.cell (h i hi).2.1, hk.cell (h i hi).2.2⟩
theorem EntAt.set {w : World} {b i : Nat} {l : List Entry} (h : EntAt w b 0 l) (hi : i < l.length) (e : Entry) :
    EntAt (((w.setCell ⟨b, 0 + i * 3, none⟩ (.string e.key)).setCell ⟨b, 0 + i * 3 + 1, none⟩ (.string e.val)).setCell ⟨b, 0 + i * 3 + 2, none⟩ (.bool e.gone)) b 0 (l.set i e) := by
  intro j hj
  have hj' : j < l.length := by simpa using hj
  obtain ⟨c0, c1, c2⟩ := h j hj'
  have ne : ∀ (W : World) (x y : Nat) (u : Value), x ≠ y → (W.setCell ⟨b, y, none⟩ u).cell? ⟨b, x, none⟩ = W.cell? ⟨b, x, none⟩ := fun W x y u hxy => World.cell?_setCell_other _ _ _ _ (fun e => hxy (by injection e with _ e1; exact e1.symm))
  by_cases he : i = j
  · subst he
    simp only [List.getElem_set_self]
    refine ⟨?_, ?_, ?_⟩
    · rw [ne _ _ _ _ (by omega), ne _ _ _ _ (by omega)]
      exact World.cell?_setCell_same' _ _ _ (by rw [c0]; rfl)
    · rw [ne _ _ _ _ (by omega)]
      exact World.cell?_setCell_same' _ _ _ (by rw [ne _ _ _ _ (by omega), c1]; rfl)
    · exact World.cell?_setCell_same' _ _ _ (by rw [ne _ _ _ _ (by omega), ne _ _ _ _ (by omega), c2]; rfl)
  · simp only [List.getElem_set_ne he]
    refine ⟨?_, ?_, ?_⟩
    · rw [ne _ _ _ _ (by omega), ne _ _ _ _ (by omega), ne _ _ _ _ (by omega)]; exact c0
    · rw [ne _ _ _ _ (by omega), ne _ _ _ _ (by omega), ne _ _ _ _ (by omega)]; exact c1
    · rw [ne _ _ _ _ (by omega), ne _ _ _ _ (by omega), ne _ _ _ _ (by omega)]; exact c2
theorem slices_IndexFunc (w : World) (b off cap : Nat) (l : List Entry) (h : EntAt w b off l) (hb : l.length ≤ 1048576) :
    Calls Tryz.prog 243 #[.slice (some ⟨b, off, none⟩) l.length cap, .func (.func 234) #[] #[]] w fun r w' => r = .returned (.int .i64 (goneAt l 0)) ∧ New w w' := by
  obtain ⟨G, hG⟩ : ∃ G, G = goneAt l 0 := ⟨_, rfl⟩
  rw [← hG]
  have X0 := Lib.hid (show G = goneAt (l.drop 0) 0 from hG)
  have H0 := Lib.hid h
  clear h hG
  go_enter Tryz.func243, Tryz.ntmps243
  go_wp2_with fail
  go_loopg [8] l.length (fun g iv W => ∃ (i : Nat), iv = .int .i64 i ∧ i + g = l.length ∧ Hid (New w W) ∧ Hid (G = goneAt (l.drop i) i))
  case atStart => exact ⟨0, rfl, by simp, Lib.hid (Kept.refl _ _), X0⟩
  case round =>
  clear X0
  obtain ⟨i, rfl, hi, N0, X0⟩ := hrel
  by_cases hlt : i < l.length
  · obtain ⟨c0, c1, c2⟩ := (H0.out.new N0.out) i hlt
    have X1 := Lib.hid (X0.out.trans (by rw [List.drop_eq_getElem_cons hlt]; rfl : _ = if l[i].gone = true then (i : Int) else goneAt (l.drop (i + 1)) (i + 1)))
    have HF := fun w => Lib.hid (rev_live1 l[i] w)
    generalize l[i] = e at c0 c1 c2 X1 HF
    obtain ⟨k, v, q⟩ := e
    simp only at c0 c1 c2 X1 HF
    clear X0
    cases q with
    | true =>
      have X2 := Lib.hid (X1.out.trans (if_pos rfl))
      go_wp2_with (go_at_call 234; refine (HF _).out.mono ?_; rintro r W1 ⟨rfl, hk⟩; have N1 := Lib.hid (N0.out.trans hk); clear hk)
      go_ret
      exact ⟨by rw [X2.out]; rfl, N1.out⟩
    | false =>
      have X2 := Lib.hid (X1.out.trans (if_neg (by simp)))
      go_wp2_with (go_at_call 234; refine (HF _).out.mono ?_; rintro r W1 ⟨rfl, hk⟩; have N1 := Lib.hid (N0.out.trans hk); clear hk)
      go_roundg (gk - 1)
      case measure => omega
      case rel => exact ⟨i + 1, rfl, by omega, N1, X2⟩
  · have h0 : List.drop i l = [] := List.drop_eq_nil_of_le (by omega)
    have X1 := Lib.hid (X0.out.trans (by rw [h0]; rfl : _ = -1))
    clear X0 h0
    go_wp2
    go_ret
    exact ⟨by rw [X1.out]; rfl, N0.out⟩
end Go.Proofs.YtadaiihoclknmaaGreat
