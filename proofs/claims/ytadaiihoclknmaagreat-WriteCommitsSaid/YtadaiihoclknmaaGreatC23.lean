/- Part 23 of the proof: Rev5. -/
import Derived.Test.YtadaiihoclknmaaGreatC20
import Derived.Test.YtadaiihoclknmaaGreatC18
import Derived.Test.YtadaiihoclknmaaGreatC22
/- Revisions: New, Apply. -/
namespace Go.Proofs.YtadaiihoclknmaaGreat
open Go.RowKit
set_option maxHeartbeats 4000000
set_option maxRecDepth 100000
set_option linter.unusedVariables false
set_option linter.unusedSimpArgs false

def rNew (version rate : Int) (sp : Span) (l : List Entry) : Rev × Int := if rRises sp l = true then (rLaid version rate sp l, 0) else (Rev.none, 1)
theorem rev_New (w : World) (I : IHeap) (hI : Held I w) (version rate : Int) (sp : Span) (l : List Entry) (lv : Value) (hl : Entries I lv l) (hb : l.length ≤ 1048576) (hs : ∀ e ∈ l, e.key.size ≤ maxLen) :
    Calls Tryz.prog 119 #[.int .i64 version, .int .i64 rate, spanV sp, lv] w (PPost w I fun J v => RevE J v (rNew version rate sp l)) := by
  obtain ⟨la, lc, rfl, _, _, _⟩ := hl.form
  have HL := Lib.hid hl
  have M0 := Lib.hid (Pg.start hI)
  have HS := Lib.hid hs
  have HR := fun w hI => Lib.hid (rev_rises w I hI sp l _ HL.out hb)
  have HD := fun w hI => Lib.hid (rev_laid w I hI version rate sp l _ HL.out hb HS.out)
  obtain ⟨N, hN⟩ : ∃ N, N = rNew version rate sp l := ⟨_, rfl⟩
  have HN := Lib.hid hN
  rw [← hN]
  clear hl hI hs hN
  unfold rNew at HN
  unfold spanV at HR HD ⊢
  cases hr : rRises sp l with
  | false =>
    have HN2 := Lib.hid (HN.out.trans (if_neg (by rw [hr]; decide)))
    rw [hr] at HR
    clear HN HD hr
    go_enter Tryz.func119, Tryz.ntmps119
    have O0 := Lib.hid (OB.freshp (M0.out.alloc (.cells #[.string sp.lo, .string sp.hi, .bool sp.all] 71)) #[.int .i64 0, .int .i64 0, .string ⟨#[]⟩, .string ⟨#[]⟩, .bool false, .bool false, .slice none 0 0, .slice none 0 0, .slice none 0 0, .slice none 0 0] 92 rfl)
    rw [show (w.alloc (.cells #[.string sp.lo, .string sp.hi, .bool sp.all] 71)).heap.size = w.heap.size + 1 by simp] at O0
    go_wp2_with (go_at_call 164; refine (HR _ ((M0.out.alloc _).alloc _).held).out.mono ?_; rintro e W1 ⟨rfl, hk⟩
                 have M1 := Lib.hid (((M0.out.alloc _).alloc _).new hk)
                 have O1 := Lib.hid (O0.out.new hk)
                 clear hk
                 have g0 := cell_blk O1.out.at_ 0
                 have g1 := cell_blk O1.out.at_ 1
                 have g2 := cell_blk O1.out.at_ 2
                 have g3 := cell_blk O1.out.at_ 3
                 have g4 := cell_blk O1.out.at_ 4
                 have g5 := cell_blk O1.out.at_ 5
                 have g6 := cell_blk O1.out.at_ 6
                 have g7 := cell_blk O1.out.at_ 7
                 have g8 := cell_blk O1.out.at_ 8
                 have g9 := cell_blk O1.out.at_ 9
                 have gf0 := free_blk O1.out.at_ 0
                 have gf1 := free_blk O1.out.at_ 1
                 have gf2 := free_blk O1.out.at_ 2
                 have gf3 := free_blk O1.out.at_ 3
                 have gf4 := free_blk O1.out.at_ 4
                 have gf5 := free_blk O1.out.at_ 5
                 have gf6 := free_blk O1.out.at_ 6
                 have gf7 := free_blk O1.out.at_ 7
                 have gf8 := free_blk O1.out.at_ 8
                 have gf9 := free_blk O1.out.at_ 9
                 have gs := lt_of_block O1.out.at_
                 skip)
    try go_region
    all_goals
      try go_wp2
      refine bodyPost_ret (v := .tuple #[.agg #[.int .i64 0, .int .i64 0, .string ⟨#[]⟩, .string ⟨#[]⟩, .bool false, .bool false, .slice none 0 0, .slice none 0 0, .slice none 0 0, .slice none 0 0], .int .i64 1]) (by simp [results, Tryz.results119, go_sem, g0, g1, g2, g3, g4, g5, g6, g7, g8, g9, gs]) rfl ?_
      refine Pg.post (J := I) ?_ ⟨_, by rw [HN2.out], by rw [HN2.out]; exact RevV.none _⟩
      repeat (first | with_reducible exact M1.out | with_reducible refine Pg.drew ?_ | with_reducible refine Pg.alloc ?_ _ | refine Pg.seto ?_ (by repeat (first | with_reducible exact O1.out.ok | with_reducible refine OwnOk.set ?_ _ _ | with_reducible refine OwnOk.drew ?_)) _)
  | true =>
    have HN2 := Lib.hid (HN.out.trans (if_pos hr))
    rw [hr] at HR
    clear HN hr
    go_enter Tryz.func119, Tryz.ntmps119
    have O0 := Lib.hid (OB.freshp (M0.out.alloc (.cells #[.string sp.lo, .string sp.hi, .bool sp.all] 71)) #[.int .i64 0, .int .i64 0, .string ⟨#[]⟩, .string ⟨#[]⟩, .bool false, .bool false, .slice none 0 0, .slice none 0 0, .slice none 0 0, .slice none 0 0] 92 rfl)
    have P0 := Lib.hid ((OB.freshp M0.out #[.string sp.lo, .string sp.hi, .bool sp.all] 71 rfl).alloc (.cells #[.int .i64 0, .int .i64 0, .string ⟨#[]⟩, .string ⟨#[]⟩, .bool false, .bool false, .slice none 0 0, .slice none 0 0, .slice none 0 0, .slice none 0 0] 92))
    rw [show (w.alloc (.cells #[.string sp.lo, .string sp.hi, .bool sp.all] 71)).heap.size = w.heap.size + 1 by simp] at O0
    go_wp2_with (first
      | (go_at_call 164; refine (HR _ ((M0.out.alloc _).alloc _).held).out.mono ?_; rintro e W1 ⟨rfl, hk⟩
         have M1 := Lib.hid (((M0.out.alloc _).alloc _).new hk)
         have O1 := Lib.hid (O0.out.new hk)
         have P1 := Lib.hid (P0.out.new hk)
         clear hk
         have g0 := cell_blk O1.out.at_ 0
         have g1 := cell_blk O1.out.at_ 1
         have g2 := cell_blk O1.out.at_ 2
         have g3 := cell_blk O1.out.at_ 3
         have g4 := cell_blk O1.out.at_ 4
         have g5 := cell_blk O1.out.at_ 5
         have g6 := cell_blk O1.out.at_ 6
         have g7 := cell_blk O1.out.at_ 7
         have g8 := cell_blk O1.out.at_ 8
         have g9 := cell_blk O1.out.at_ 9
         have gf0 := free_blk O1.out.at_ 0
         have gf1 := free_blk O1.out.at_ 1
         have gf2 := free_blk O1.out.at_ 2
         have gf3 := free_blk O1.out.at_ 3
         have gf4 := free_blk O1.out.at_ 4
         have gf5 := free_blk O1.out.at_ 5
         have gf6 := free_blk O1.out.at_ 6
         have gf7 := free_blk O1.out.at_ 7
         have gf8 := free_blk O1.out.at_ 8
         have gf9 := free_blk O1.out.at_ 9
         have gs := lt_of_block O1.out.at_
         have p0 := cell_blk P1.out.at_ 0
         have p1 := cell_blk P1.out.at_ 1
         have p2 := cell_blk P1.out.at_ 2
         have pf0 := free_blk P1.out.at_ 0
         have pf1 := free_blk P1.out.at_ 1
         have pf2 := free_blk P1.out.at_ 2
         have ps := lt_of_block P1.out.at_
         skip)
      | (go_at_call 165; refine (HD _ M1.out.held).out.mono ?_; rintro e W2 ⟨K, rv, rfl, hP, hV⟩
         have M2 := Lib.hid (M1.out.trans hP)
         have O2 := Lib.hid (OB.pure O1.out hP rfl)
         obtain ⟨ka, kc, va, vc, ga, gc, ta, tc, rfl, _⟩ := hV.form
         have HV := Lib.hid hV
         clear hP hV g0 g1 g2 g3 g4 g5 g6 g7 g8 g9 gf0 gf1 gf2 gf3 gf4 gf5 gf6 gf7 gf8 gf9 gs
         have g0 := cell_blk O2.out.at_ 0
         have g1 := cell_blk O2.out.at_ 1
         have g2 := cell_blk O2.out.at_ 2
         have g3 := cell_blk O2.out.at_ 3
         have g4 := cell_blk O2.out.at_ 4
         have g5 := cell_blk O2.out.at_ 5
         have g6 := cell_blk O2.out.at_ 6
         have g7 := cell_blk O2.out.at_ 7
         have g8 := cell_blk O2.out.at_ 8
         have g9 := cell_blk O2.out.at_ 9
         have gf0 := free_blk O2.out.at_ 0
         have gf1 := free_blk O2.out.at_ 1
         have gf2 := free_blk O2.out.at_ 2
         have gf3 := free_blk O2.out.at_ 3
         have gf4 := free_blk O2.out.at_ 4
         have gf5 := free_blk O2.out.at_ 5
         have gf6 := free_blk O2.out.at_ 6
         have gf7 := free_blk O2.out.at_ 7
         have gf8 := free_blk O2.out.at_ 8
         have gf9 := free_blk O2.out.at_ 9
         have gs := lt_of_block O2.out.at_
         skip))
    try go_region
    all_goals
      try go_wp2
      refine bodyPost_ret (v := .tuple #[.agg #[.int .i64 version, .int .i64 rate, .string sp.lo, .string sp.hi, .bool sp.all, .bool false, .slice ka (l.map Entry.key).length kc, .slice va (l.map Entry.val).length vc, .slice ga (l.map Entry.gone).length gc, .slice ta (pBuild (l.map Entry.key)).length tc], .int .i64 0]) (by simp [results, Tryz.results119, go_sem, g0, g1, g2, g3, g4, g5, g6, g7, g8, g9, gs, rLaid]) rfl ?_
      refine Pg.post (J := K) ?_ ⟨_, by rw [HN2.out], by rw [HN2.out]; exact HV.out⟩
      repeat (first | with_reducible exact M2.out | with_reducible refine Pg.drew ?_ | with_reducible refine Pg.alloc ?_ _ | refine Pg.seto ?_ (by repeat (first | with_reducible exact O2.out.ok | with_reducible refine OwnOk.set ?_ _ _ | with_reducible refine OwnOk.drew ?_)) _)
def rApply (r : Rev) (version : Int) (l : List Entry) : Rev × Int :=
  if r.dead = true then (Rev.none, 1)
  else if rRises r.span l = true then (rLaid version (paceRate r.rate l.length) r.span (rMerge (rEntries r) l), 0)
  else (Rev.none, 1)
theorem rev_Apply (w : World) (I : IHeap) (hI : Held I w) (r : Rev) (rv : Value) (hr : RevV I rv r) (hok : rvOk r) (version : Int) (l : List Entry) (lv : Value) (hl : Entries I lv l) (hb : l.length + r.keys.length ≤ 1048576) (hs : ∀ e ∈ rMerge (rEntries r) l, e.key.size ≤ maxLen) (hm : (rMerge (rEntries r) l).length ≤ 1048576) :
    Calls Tryz.prog 151 #[rv, .int .i64 version, lv] w (PPost w I fun J v => RevE J v (rApply r version l)) := by
  obtain ⟨la, lc, rfl, _, _, _⟩ := hl.form
  obtain ⟨ka, kc, va, vc, ga, gc, ta, tc, rfl, _⟩ := hr.form
  have HL := Lib.hid hl
  have HRV := Lib.hid hr
  have M0 := Lib.hid (Pg.start hI)
  have HR := fun w hI => Lib.hid (rev_rises w I hI r.span l _ HL.out (by omega))
  have HE := fun w hI => Lib.hid (rev_Entries w I hI r _ HRV.out hok)
  have HRT := fun w => Lib.hid (pace_Rate r.rate l.length w)
  have hel : (rEntries r).length = r.keys.length := rEntriesL_length _ _ _ hok.1 hok.2.1
  have HMG := fun w J hJ ev (he : Entries J ev (rEntries r)) (hl : Entries J (.slice la l.length lc) l) => Lib.hid (rev_merged w J hJ (rEntries r) l ev (.slice la l.length lc) he hl (by rw [hel]; omega))
  have HLD := fun w J hJ mv (hv : Entries J mv (rMerge (rEntries r) l)) => Lib.hid (rev_laid w J hJ version (paceRate r.rate l.length) r.span (rMerge (rEntries r) l) mv hv hm hs)
  obtain ⟨N, hN⟩ : ∃ N, N = rApply r version l := ⟨_, rfl⟩
  have HN := Lib.hid hN
  rw [← hN]
  clear hl hI hs hN hr hok hel
  unfold rApply at HN
  unfold spanV at HR HLD
  generalize rMerge (rEntries r) l = ml at *
  generalize rEntries r = el at *
  generalize paceRate r.rate l.length = pr at *
  cases hd : r.dead with
  | true =>
    have HN2 := Lib.hid (HN.out.trans (if_pos hd))
    clear HN HR HE HRT HMG HLD
    go_enter Tryz.func151, Tryz.ntmps151
    go_wp2_with fail
    try go_region
    all_goals
      try go_wp2
      refine bodyPost_ret (v := .tuple #[.agg #[.int .i64 0, .int .i64 0, .string ⟨#[]⟩, .string ⟨#[]⟩, .bool false, .bool false, .slice none 0 0, .slice none 0 0, .slice none 0 0, .slice none 0 0], .int .i64 1]) (by simp [results, Tryz.results151, go_sem]) rfl ?_
      refine Pg.post (J := I) ?_ ⟨_, by rw [HN2.out], by rw [HN2.out]; exact RevV.none _⟩
      repeat (first | with_reducible exact M0.out | with_reducible refine Pg.drew ?_ | with_reducible refine Pg.alloc ?_ _)
  | false =>
  have HN := Lib.hid (HN.out.trans (if_neg (by rw [hd]; decide)))
  have O0 := Lib.hid (OB.freshp (M0.out.alloc (.cells #[.int .i64 r.version, .int .i64 r.rate, .string r.span.lo, .string r.span.hi, .bool r.span.all, .bool false, .slice ka r.keys.length kc, .slice va r.vals.length vc, .slice ga r.gone.length gc, .slice ta r.table.length tc] 92)) #[.int .i64 0, .int .i64 0, .string ⟨#[]⟩, .string ⟨#[]⟩, .bool false, .bool false, .slice none 0 0, .slice none 0 0, .slice none 0 0, .slice none 0 0] 92 rfl)
  rw [show (w.alloc (.cells #[.int .i64 r.version, .int .i64 r.rate, .string r.span.lo, .string r.span.hi, .bool r.span.all, .bool false, .slice ka r.keys.length kc, .slice va r.vals.length vc, .slice ga r.gone.length gc, .slice ta r.table.length tc] 92)).heap.size = w.heap.size + 1 by simp] at O0
  have Q0 := Lib.hid ((OB.freshp M0.out #[.int .i64 r.version, .int .i64 r.rate, .string r.span.lo, .string r.span.hi, .bool r.span.all, .bool false, .slice ka r.keys.length kc, .slice va r.vals.length vc, .slice ga r.gone.length gc, .slice ta r.table.length tc] 92 rfl).alloc (.cells #[.int .i64 0, .int .i64 0, .string ⟨#[]⟩, .string ⟨#[]⟩, .bool false, .bool false, .slice none 0 0, .slice none 0 0, .slice none 0 0, .slice none 0 0] 92))
  cases hrr : rRises r.span l with
  | false =>
    have HN2 := Lib.hid (HN.out.trans (if_neg (by rw [hrr]; decide)))
    rw [hrr] at HR
    clear HN HE HRT HMG HLD hrr
    go_enter Tryz.func151, Tryz.ntmps151
    go_wp2_with (go_at_call 164; refine (HR _ ((M0.out.alloc _).alloc _).held).out.mono ?_; rintro e W1 ⟨rfl, hk⟩
                 have M1 := Lib.hid (((M0.out.alloc _).alloc _).new hk)
                 have O1 := Lib.hid (O0.out.new hk)
                 clear hk
                 have g0 := cell_blk O1.out.at_ 0
                 have g1 := cell_blk O1.out.at_ 1
                 have g2 := cell_blk O1.out.at_ 2
                 have g3 := cell_blk O1.out.at_ 3
                 have g4 := cell_blk O1.out.at_ 4
                 have g5 := cell_blk O1.out.at_ 5
                 have g6 := cell_blk O1.out.at_ 6
                 have g7 := cell_blk O1.out.at_ 7
                 have g8 := cell_blk O1.out.at_ 8
                 have g9 := cell_blk O1.out.at_ 9
                 have gf0 := free_blk O1.out.at_ 0
                 have gf1 := free_blk O1.out.at_ 1
                 have gf2 := free_blk O1.out.at_ 2
                 have gf3 := free_blk O1.out.at_ 3
                 have gf4 := free_blk O1.out.at_ 4
                 have gf5 := free_blk O1.out.at_ 5
                 have gf6 := free_blk O1.out.at_ 6
                 have gf7 := free_blk O1.out.at_ 7
                 have gf8 := free_blk O1.out.at_ 8
                 have gf9 := free_blk O1.out.at_ 9
                 have gs := lt_of_block O1.out.at_
                 skip)
    try go_region
    all_goals
      try go_wp2
      refine bodyPost_ret (v := .tuple #[.agg #[.int .i64 0, .int .i64 0, .string ⟨#[]⟩, .string ⟨#[]⟩, .bool false, .bool false, .slice none 0 0, .slice none 0 0, .slice none 0 0, .slice none 0 0], .int .i64 1]) (by simp [results, Tryz.results151, go_sem, g0, g1, g2, g3, g4, g5, g6, g7, g8, g9, gs]) rfl ?_
      refine Pg.post (J := I) ?_ ⟨_, by rw [HN2.out], by rw [HN2.out]; exact RevV.none _⟩
      repeat (first | with_reducible exact M1.out | with_reducible refine Pg.drew ?_ | with_reducible refine Pg.alloc ?_ _ | refine Pg.seto ?_ (by repeat (first | with_reducible exact O1.out.ok | with_reducible refine OwnOk.set ?_ _ _ | with_reducible refine OwnOk.drew ?_)) _)
  | true =>
    have HN2 := Lib.hid (HN.out.trans (if_pos hrr))
    rw [hrr] at HR
    clear HN hrr
    go_enter Tryz.func151, Tryz.ntmps151
    go_wp2_with (go_at_call 164; refine (HR _ ((M0.out.alloc _).alloc _).held).out.mono ?_; rintro e W1 ⟨rfl, hk⟩
                 have M1 := Lib.hid (((M0.out.alloc _).alloc _).new hk)
                 have O1 := Lib.hid (O0.out.new hk)
                 have Q1 := Lib.hid (Q0.out.new hk)
                 clear hk
                 have g0 := cell_blk O1.out.at_ 0
                 have g1 := cell_blk O1.out.at_ 1
                 have g2 := cell_blk O1.out.at_ 2
                 have g3 := cell_blk O1.out.at_ 3
                 have g4 := cell_blk O1.out.at_ 4
                 have g5 := cell_blk O1.out.at_ 5
                 have g6 := cell_blk O1.out.at_ 6
                 have g7 := cell_blk O1.out.at_ 7
                 have g8 := cell_blk O1.out.at_ 8
                 have g9 := cell_blk O1.out.at_ 9
                 have gf0 := free_blk O1.out.at_ 0
                 have gf1 := free_blk O1.out.at_ 1
                 have gf2 := free_blk O1.out.at_ 2
                 have gf3 := free_blk O1.out.at_ 3
                 have gf4 := free_blk O1.out.at_ 4
                 have gf5 := free_blk O1.out.at_ 5
                 have gf6 := free_blk O1.out.at_ 6
                 have gf7 := free_blk O1.out.at_ 7
                 have gf8 := free_blk O1.out.at_ 8
                 have gf9 := free_blk O1.out.at_ 9
                 have gs := lt_of_block O1.out.at_
                 have q0 := cell_blk Q1.out.at_ 0
                 have q1 := cell_blk Q1.out.at_ 1
                 have q2 := cell_blk Q1.out.at_ 2
                 have q3 := cell_blk Q1.out.at_ 3
                 have q4 := cell_blk Q1.out.at_ 4
                 have q5 := cell_blk Q1.out.at_ 5
                 have q6 := cell_blk Q1.out.at_ 6
                 have q7 := cell_blk Q1.out.at_ 7
                 have q8 := cell_blk Q1.out.at_ 8
                 have q9 := cell_blk Q1.out.at_ 9
                 have qf0 := free_blk Q1.out.at_ 0
                 have qf1 := free_blk Q1.out.at_ 1
                 have qf2 := free_blk Q1.out.at_ 2
                 have qf3 := free_blk Q1.out.at_ 3
                 have qf4 := free_blk Q1.out.at_ 4
                 have qf5 := free_blk Q1.out.at_ 5
                 have qf6 := free_blk Q1.out.at_ 6
                 have qf7 := free_blk Q1.out.at_ 7
                 have qf8 := free_blk Q1.out.at_ 8
                 have qf9 := free_blk Q1.out.at_ 9
                 have qs := lt_of_block Q1.out.at_
                 skip)
    rw [hd] at HRV HE
    have HQ := Lib.hid (show ∀ W3 : World, W3.heap[w.heap.size]? = some (.cells #[.int .i64 r.version, .int .i64 r.rate, .string r.span.lo, .string r.span.hi, .bool r.span.all, .bool false, .slice ka r.keys.length kc, .slice va r.vals.length vc, .slice ga r.gone.length gc, .slice ta r.table.length tc] 92 (0, 0)) → W3.cell? ⟨w.heap.size, 0, none⟩ = some (.int .i64 r.version) ∧ W3.cell? ⟨w.heap.size, 1, none⟩ = some (.int .i64 r.rate) ∧ W3.cell? ⟨w.heap.size, 2, none⟩ = some (.string r.span.lo) ∧ W3.cell? ⟨w.heap.size, 3, none⟩ = some (.string r.span.hi) ∧ W3.cell? ⟨w.heap.size, 4, none⟩ = some (.bool r.span.all) ∧ W3.cell? ⟨w.heap.size, 5, none⟩ = some (.bool false) ∧ W3.cell? ⟨w.heap.size, 6, none⟩ = some (.slice ka r.keys.length kc) ∧ W3.cell? ⟨w.heap.size, 7, none⟩ = some (.slice va r.vals.length vc) ∧ W3.cell? ⟨w.heap.size, 8, none⟩ = some (.slice ga r.gone.length gc) ∧ W3.cell? ⟨w.heap.size, 9, none⟩ = some (.slice ta r.table.length tc) from
      fun W3 h => ⟨cell_blk h 0, cell_blk h 1, cell_blk h 2, cell_blk h 3, cell_blk h 4, cell_blk h 5, cell_blk h 6, cell_blk h 7, cell_blk h 8, cell_blk h 9⟩)
    refine wp_region_held_drew (S := fun W3 => W3.cell? ⟨w.heap.size, 0, none⟩ = some (.int .i64 r.version) ∧ W3.cell? ⟨w.heap.size, 1, none⟩ = some (.int .i64 r.rate) ∧ W3.cell? ⟨w.heap.size, 2, none⟩ = some (.string r.span.lo) ∧ W3.cell? ⟨w.heap.size, 3, none⟩ = some (.string r.span.hi) ∧ W3.cell? ⟨w.heap.size, 4, none⟩ = some (.bool r.span.all) ∧ W3.cell? ⟨w.heap.size, 5, none⟩ = some (.bool false) ∧ W3.cell? ⟨w.heap.size, 6, none⟩ = some (.slice ka r.keys.length kc) ∧ W3.cell? ⟨w.heap.size, 7, none⟩ = some (.slice va r.vals.length vc) ∧ W3.cell? ⟨w.heap.size, 8, none⟩ = some (.slice ga r.gone.length gc) ∧ W3.cell? ⟨w.heap.size, 9, none⟩ = some (.slice ta r.table.length tc)) (by kernel_rfl) (HQ.out _ Q1.out.drew.at_) (fun hS0 => ?_)
    refine wpAnyH_takeD 0 (some 18) (v := ?_) rfl rfl (by kernel_rfl) (by kernel_rfl) (by kernel_rfl) (fun _ _ _ h => h) (Or.inl ⟨by rfl, ?_⟩) (by assumption) ?_
    rotate_left
    · (intro _w hSw; (try dsimp only at hSw); go_simp; try with_reducible rfl)
    try simp only [Act.put, List.setIfInBounds_toArray, List.set_cons_zero, List.set_cons_succ]
    refine wpAnyH_takeD 1 (some 19) (v := ?_) rfl rfl (by kernel_rfl) (by kernel_rfl) (by kernel_rfl) (fun _ _ _ h => h) (Or.inl ⟨by rfl, ?_⟩) (by assumption) ?_
    rotate_left
    · (intro _w hSw; (try dsimp only at hSw); go_simp; try with_reducible rfl)
    try simp only [Act.put, List.setIfInBounds_toArray, List.set_cons_zero, List.set_cons_succ]
    refine wpAnyH_takeD 2 (some 20) (v := ?_) rfl rfl (by kernel_rfl) (by kernel_rfl) (by kernel_rfl) (fun _ _ _ h => h) (Or.inl ⟨by rfl, ?_⟩) (by assumption) ?_
    rotate_left
    · (intro _w hSw; (try dsimp only at hSw); go_simp; try with_reducible rfl)
    try simp only [Act.put, List.setIfInBounds_toArray, List.set_cons_zero, List.set_cons_succ]
    refine wpAnyH_takeD 3 (some 21) (v := ?_) rfl rfl (by kernel_rfl) (by kernel_rfl) (by kernel_rfl) (fun _ _ _ h => h) (Or.inl ⟨by rfl, ?_⟩) (by assumption) ?_
    rotate_left
    · (intro _w hSw; (try dsimp only at hSw); go_simp; try with_reducible rfl)
    try simp only [Act.put, List.setIfInBounds_toArray, List.set_cons_zero, List.set_cons_succ]
    refine wpAnyH_takeD 4 (some 22) (v := ?_) rfl rfl (by kernel_rfl) (by kernel_rfl) (by kernel_rfl) (fun _ _ _ h => h) (Or.inl ⟨by rfl, ?_⟩) (by assumption) ?_
    rotate_left
    · (intro _w hSw; (try dsimp only at hSw); go_simp; try with_reducible rfl)
    try simp only [Act.put, List.setIfInBounds_toArray, List.set_cons_zero, List.set_cons_succ]
    refine wpAnyH_takeD 6 (some 24) (v := ?_) rfl rfl (by kernel_rfl) (by kernel_rfl) (by kernel_rfl) (fun _ _ _ h => h) (Or.inl ⟨by rfl, ?_⟩) (by assumption) ?_
    rotate_left
    · (intro _w hSw; (try dsimp only at hSw); go_simp; try with_reducible rfl)
    try simp only [Act.put, List.setIfInBounds_toArray, List.set_cons_zero, List.set_cons_succ]
    refine wpAnyH_takeD 7 (some 25) (v := ?_) rfl rfl (by kernel_rfl) (by kernel_rfl) (by kernel_rfl) (fun _ _ _ h => h) (Or.inl ⟨by rfl, ?_⟩) (by assumption) ?_
    rotate_left
    · (intro _w hSw; (try dsimp only at hSw); go_simp; try with_reducible rfl)
    try simp only [Act.put, List.setIfInBounds_toArray, List.set_cons_zero, List.set_cons_succ]
    refine wpAnyH_takeD 8 (some 26) (v := ?_) rfl rfl (by kernel_rfl) (by kernel_rfl) (by kernel_rfl) (fun _ _ _ h => h) (Or.inl ⟨by rfl, ?_⟩) (by assumption) ?_
    rotate_left
    · (intro _w hSw; (try dsimp only at hSw); go_simp; try with_reducible rfl)
    try simp only [Act.put, List.setIfInBounds_toArray, List.set_cons_zero, List.set_cons_succ]
    refine wpAnyH_takeD 10 (some 28) (v := ?_) rfl rfl (by kernel_rfl) (by kernel_rfl) (by kernel_rfl) (fun _ _ _ h => h) (Or.inl ⟨by rfl, ?_⟩) (by assumption) ?_
    rotate_left
    · (intro _w hSw; (try dsimp only at hSw); go_simp; try with_reducible rfl)
    try simp only [Act.put, List.setIfInBounds_toArray, List.set_cons_zero, List.set_cons_succ]
    refine wpAnyH_ready (rs := [5]) (by kernel_rfl) (by simp) ?_
    refine AllReadyH.cons rfl (fun K hK => ?_) AllReadyH.nil
    go_simp
    go_wp2_with (go_at_call 201; refine (HRT _).out.mono ?_; rintro e2 W3 ⟨rfl, rfl⟩)
    refine hK.out _ _ (HQ.out _ Q1.out.drew.at_) ?_
    clear hK K
    intro hSS
    try simp only [Act.put, List.setIfInBounds_toArray, List.set_cons_zero, List.set_cons_succ]
    refine wpAnyH_ready (rs := [9]) (by kernel_rfl) (by simp) ?_
    refine AllReadyH.cons rfl (fun K hK => ?_) AllReadyH.nil
    go_simp
    go_wp2_with (go_at_call 203; refine (HE _ M1.out.drew.held).out.mono ?_; rintro e2 W3 ⟨K3, ev, rfl, hP, hV⟩; have M3 := Lib.hid (M1.out.drew.trans hP); have O3 := Lib.hid (OB.pure O1.out.drew hP rfl); have Q3 := Lib.hid (OB.pure Q1.out.drew hP rfl); have HV3 := Lib.hid hV; have HL3 := Lib.hid (HL.out.mono hP.grow.le); clear hP hV)
    refine hK.out _ _ (HQ.out _ Q3.out.at_) ?_
    clear hK K
    intro hSS
    try simp only [Act.put, List.setIfInBounds_toArray, List.set_cons_zero, List.set_cons_succ]
    refine wpAnyH_ready (rs := [11]) (by kernel_rfl) (by simp) ?_
    refine AllReadyH.cons rfl (fun K hK => ?_) AllReadyH.nil
    go_simp
    go_wp2_with (go_at_call 202; refine (HMG _ _ M3.out.held _ HV3.out HL3.out).out.mono ?_; rintro e2 W4 ⟨K4, mv, rfl, hP, hV⟩; have M4 := Lib.hid (M3.out.trans hP); have O4 := Lib.hid (OB.pure O3.out hP rfl); have Q4 := Lib.hid (OB.pure Q3.out hP rfl); have HV4 := Lib.hid hV; clear hP hV)
    refine hK.out _ _ (HQ.out _ Q4.out.at_) ?_
    clear hK K
    intro hSS
    try simp only [Act.put, List.setIfInBounds_toArray, List.set_cons_zero, List.set_cons_succ]
    refine wpAnyH_ready (rs := [12]) (by kernel_rfl) (by simp) ?_
    refine AllReadyH.cons rfl (fun K hK => ?_) AllReadyH.nil
    go_simp
    go_wp2_with (go_at_call 165; refine (HLD _ _ M4.out.held _ HV4.out).out.mono ?_; rintro e2 W5 ⟨K5, rv, rfl, hP, hV⟩; have M5 := Lib.hid (M4.out.trans hP); have O5 := Lib.hid (OB.pure O4.out hP rfl); have Q5 := Lib.hid (OB.pure Q4.out hP rfl); obtain ⟨ka1, kc1, va1, vc1, ga1, gc1, ta1, tc1, rfl, _⟩ := hV.form; have HV5 := Lib.hid hV; clear hP hV)
    refine hK.out _ _ (HQ.out _ Q5.out.at_) ?_
    clear hK K
    intro hSS
    try simp only [Act.put, List.setIfInBounds_toArray, List.set_cons_zero, List.set_cons_succ]
    have hqz : w.heap.size ≠ w.heap.size + 1 := by omega
    clear g0 g1 g2 g3 g4 g5 g6 g7 g8 g9 gf0 gf1 gf2 gf3 gf4 gf5 gf6 gf7 gf8 gf9 gs q0 q1 q2 q3 q4 q5 q6 q7 q8 q9 qf0 qf1 qf2 qf3 qf4 qf5 qf6 qf7 qf8 qf9 qs hSS hS0
    have g0 := cell_blk O5.out.at_ 0
    have g1 := cell_blk O5.out.at_ 1
    have g2 := cell_blk O5.out.at_ 2
    have g3 := cell_blk O5.out.at_ 3
    have g4 := cell_blk O5.out.at_ 4
    have g5 := cell_blk O5.out.at_ 5
    have g6 := cell_blk O5.out.at_ 6
    have g7 := cell_blk O5.out.at_ 7
    have g8 := cell_blk O5.out.at_ 8
    have g9 := cell_blk O5.out.at_ 9
    have gf0 := free_blk O5.out.at_ 0
    have gf1 := free_blk O5.out.at_ 1
    have gf2 := free_blk O5.out.at_ 2
    have gf3 := free_blk O5.out.at_ 3
    have gf4 := free_blk O5.out.at_ 4
    have gf5 := free_blk O5.out.at_ 5
    have gf6 := free_blk O5.out.at_ 6
    have gf7 := free_blk O5.out.at_ 7
    have gf8 := free_blk O5.out.at_ 8
    have gf9 := free_blk O5.out.at_ 9
    have gs := lt_of_block O5.out.at_
    refine wpAnyH_ready (rs := [13]) (by kernel_rfl) (by simp) ?_
    refine AllReadyH.cons rfl (fun K hK => ?_) AllReadyH.nil
    go_simp
    refine hK.out _ _ (HQ.out _ ?_) ?_
    · repeat (first | with_reducible exact Q5.out.at_ | refine set_far ?_ hqz _)
    clear hK K
    intro hSS
    try simp only [Act.put, List.setIfInBounds_toArray, List.set_cons_zero, List.set_cons_succ]
    refine wpAnyH_takeD 14 (some 7) (v := ?_) rfl rfl (by kernel_rfl) (by kernel_rfl) (by kernel_rfl) (fun _ _ _ h => h) (Or.inl ⟨by rfl, ?_⟩) (by assumption) ?_
    rotate_left
    · (intro _w hSw; (try dsimp only at hSw); go_simp; try with_reducible rfl)
    try simp only [Act.put, List.setIfInBounds_toArray, List.set_cons_zero, List.set_cons_succ]
    refine wpAnyH_done (by kernel_rfl) ?_ _
    go_wp2
    refine bodyPost_ret (v := .tuple #[.agg #[.int .i64 (rLaid version pr r.span ml).version, .int .i64 (rLaid version pr r.span ml).rate, .string (rLaid version pr r.span ml).span.lo, .string (rLaid version pr r.span ml).span.hi, .bool (rLaid version pr r.span ml).span.all, .bool (rLaid version pr r.span ml).dead, .slice ka1 (rLaid version pr r.span ml).keys.length kc1, .slice va1 (rLaid version pr r.span ml).vals.length vc1, .slice ga1 (rLaid version pr r.span ml).gone.length gc1, .slice ta1 (rLaid version pr r.span ml).table.length tc1], .int .i64 0]) (by simp [results, Tryz.results151, go_sem, g0, g1, g2, g3, g4, g5, g6, g7, g8, g9, gs]) rfl ?_
    refine Pg.post (J := K5) ?_ ⟨_, by rw [HN2.out], by rw [HN2.out]; exact HV5.out⟩
    repeat (first | with_reducible exact M5.out | with_reducible refine Pg.drew ?_ | with_reducible refine Pg.alloc ?_ _ | refine Pg.seto ?_ (by repeat (first | with_reducible exact O5.out.ok | with_reducible refine OwnOk.set ?_ _ _ | with_reducible refine OwnOk.drew ?_)) _)
end Go.Proofs.YtadaiihoclknmaaGreat
