/- Part 22 of the proof: Cmp, Pace. -/
import Derived.Test.YtadaiihoclknmaaGreatC18
import Derived.Deep.RegionWith
import Derived.Test.YtadaiihoclknmaaGreatC17
import Derived.Test.YtadaiihoclknmaaGreatC13
import Derived.Test.YtadaiihoclknmaaGreatC01
/- Texts held against each other; entries laid one before the other. -/
namespace Go.Proofs.YtadaiihoclknmaaGreat
open Go.RowKit
set_option maxHeartbeats 4000000
set_option maxRecDepth 100000
set_option linter.unusedVariables false
set_option linter.unusedSimpArgs false

theorem cmp_isNaN (x : ByteArray) (w : World) : Calls Tryz.prog 238 #[.string x] w fun e w' => e = .returned (.bool false) ∧ w = w' := by
  go_enter Tryz.func238, Tryz.ntmps238
  go_wp2
  go_ret
  exact ⟨rfl, rfl⟩
def cCmp (x y : ByteArray) : Int := if sLt x y = true then -1 else if sGt x y = true then 1 else 0
theorem cmp_Compare (x y : ByteArray) (w : World) : Calls Tryz.prog 231 #[.string x, .string y] w fun e w' => e = .returned (.int .i64 (cCmp x y)) ∧ w = w' := by
  obtain ⟨c, hc⟩ : ∃ c, c = cCmp x y := ⟨_, rfl⟩
  rw [← hc]
  unfold cCmp sLt sGt at hc
  have HC := Lib.hid hc
  clear hc
  go_enter Tryz.func231, Tryz.ntmps231
  cases h1 : Op.bytesLess x.toList y.toList with
  | true =>
    have HD := Lib.hid (HC.out.trans (if_pos h1))
    go_wp2_with (go_at_call 238; refine (cmp_isNaN _ _).mono ?_; rintro e w' ⟨rfl, rfl⟩)
    go_ret
    exact ⟨by rw [HD.out]; rfl, rfl⟩
  | false =>
    by_cases h2 : x.toList = y.toList
    · have h3 := h1
      rw [h2] at h3
      have HD := Lib.hid (show c = 0 by rw [HC.out]; simp [h2, h3])
      go_wp2_with (go_at_call 238; refine (cmp_isNaN _ _).mono ?_; rintro e w' ⟨rfl, rfl⟩)
      go_ret
      exact ⟨by rw [HD.out]; rfl, rfl⟩
    · have HD := Lib.hid (show c = 1 by rw [HC.out]; simp [h1, h2])
      have h4 : (x.toList == y.toList) = false := by simpa using h2
      go_wp2_with (go_at_call 238; refine (cmp_isNaN _ _).mono ?_; rintro e w' ⟨rfl, rfl⟩)
      go_ret
      exact ⟨by rw [HD.out]; rfl, rfl⟩
theorem slice_tailE (W : World) (b off i cap : Nat) (h1 : 1 ≤ i) (h2 : i ≤ cap) :
    (Instr.slice 55 (.slice (some ⟨b, off, none⟩) i cap) (some (.int .i64 1)) none none).run Tryz.prog W = .ok (.slice (some ⟨b, if cap = 1 then off else off + 3, none⟩) (i - 1) (cap - 1)) W := by
  have hu := fun W => run_underlying (P := Tryz.prog) (w := W) Tryz.underlying55
  obtain ⟨i0, hi, hz0, hz1, hz2⟩ := info_parts info_entry
  have h3 : ¬ ((i : Int) < 1) := by omega
  by_cases hc : cap = 1
  · subst hc
    simp [Instr.slice, Instr.sliceBounds, Instr.sliceBound, hu, sizeOf, typeInfo, hi, hz1, h1, h3, go_sem]
  · have : ¬ (cap = 1) := hc
    simp [Instr.slice, Instr.sliceBounds, Instr.sliceBound, hu, sizeOf, typeInfo, hi, hz1, h1, h3, hc, go_sem]
theorem Row.tailE {I : IHeap} {b off n cap : Nat} {x : Entry} {t : List Entry} (h : Entries I (.slice (some ⟨b, off, none⟩) n cap) (x :: t)) : Entries I (.slice (some ⟨b, if cap = 1 then off else off + 3, none⟩) (n - 1) (cap - 1)) t := by
  obtain ⟨h1, a, c, hv, h2, h3, h4, h5⟩ := h
  simp only [Value.slice.injEq] at hv
  obtain ⟨rfl, rfl, rfl⟩ := hv
  refine ⟨by simp [encEntry] at h1 ⊢; omega, _, _, rfl, ?_, by omega, fun h => (by cases h), ?_⟩
  · simp at h2 ⊢; omega
  · rcases h5 with h5 | ⟨b', off', cur, fr, ha, hI, hx⟩
    · simp at h5
    · simp only [Option.some.injEq, Addr.mk.injEq, and_true] at ha
      obtain ⟨rfl, rfl⟩ := ha
      by_cases ht : t = []
      · subst ht; exact .inl rfl
      · refine .inr ⟨b, _, cur, fr, rfl, hI, ?_⟩
        have hp : 0 < t.length := List.length_pos_iff.2 ht
        rw [if_neg (by simp at h2; omega)]
        have e := congrArg (List.drop 3) hx
        rw [List.drop_take, List.drop_drop] at e
        simp only [List.length_cons] at e
        rw [show (t.length + 1) * 3 - 3 = t.length * 3 by omega] at e
        rw [e]; rfl
theorem wp_cat_entry {ops : Array Oper} {rest : List Oper} {o : Oper} {a : Act} {Q : Exit → Act → World → Prop} {w W : World} {I J : IHeap} (hg : o.guard = none) (s x : Operand)
    (ho : o.op = .call { callee := .builtin .append, args := #[s, x], argTypes := #[55, 55] })
    (v xv : Value) (l l2 : List Entry) (hs : a.eval s = v) (hx : a.eval x = xv) (hr : Entries J xv l2) (HO : OL w J W 62 3 encEntry v l) (HM : Pg w I J W) (hl : (l.length + l2.length) * 40 ≤ 140737488355328)
    (h : ∀ v1 W1, OL w J W1 62 3 encEntry v1 (l ++ l2) → Pg w I J W1 → W.grownBy W1 v.ownBlock → wpList Tryz.prog ops Q rest (a.put o.dst v1) W1) :
    wpList Tryz.prog ops Q (o :: rest) a W := by
  refine wp_cat_own (I := J) hg s x 55 62 (.agg #[.string ⟨#[]⟩, .string ⟨#[]⟩, .bool false]) 3 40 ho Tryz.underlying55 info_entry rfl (by decide) (by decide) w.heap.size v l.length l2.length xv (l.flatMap encEntry) (l2.flatMap encEntry) hs hx HM.held hr ?_ HO.own HM.size hl ?_
  · intro u hu
    obtain ⟨e, _, hu⟩ := List.mem_flatMap.1 hu
    simp [encEntry] at hu
    rcases hu with rfl | rfl | rfl <;> rfl
  · intro v1 W1 hown hgr hat
    refine h v1 W1 ⟨by simpa using hown, HO.ty, fun k hk => ?_⟩ (HM.app HO hgr) hgr
    rcases hat with hat | hat
    · exact HO.no k (hat ▸ hk)
    · rw [hat] at hk; injection hk with hk; subst hk; exact HM.fresh
def rMergeF : Nat → List Entry → List Entry → List Entry
  | 0, a, b => a ++ b
  | _ + 1, [], b => b
  | _ + 1, x :: a, [] => x :: a
  | f + 1, x :: a, y :: b => if sLt x.key y.key = true then x :: rMergeF f a (y :: b) else if sGt x.key y.key = true then y :: rMergeF f (x :: a) b else rMergeF f a (y :: b)
def rMerge (a b : List Entry) : List Entry := rMergeF (a.length + b.length) a b
theorem rMergeF_end (f : Nat) (a b : List Entry) (h : a = [] ∨ b = []) : rMergeF f a b = a ++ b := by
  cases f with
  | zero => rfl
  | succ f =>
    rcases h with rfl | rfl
    · rfl
    · cases a with
      | nil => rfl
      | cons x a => simp [rMergeF]
theorem rMergeF_cons (f : Nat) (x y : Entry) (a b : List Entry) : rMergeF (f + 1) (x :: a) (y :: b) = if sLt x.key y.key = true then x :: rMergeF f a (y :: b) else if sGt x.key y.key = true then y :: rMergeF f (x :: a) b else rMergeF f a (y :: b) := rfl
theorem rev_merged (w : World) (I : IHeap) (hI : Held I w) (a b : List Entry) (av bv : Value) (ha : Entries I av a) (hb : Entries I bv b) (hl : a.length + b.length ≤ 1048576) :
    Calls Tryz.prog 202 #[av, bv] w (PPost w I fun J v => Entries J v (rMerge a b)) := by
  obtain ⟨aa, ac, rfl, a1, a2, _⟩ := ha.form
  obtain ⟨ba, bc, rfl, b1, b2, _⟩ := hb.form
  have HA := Lib.hid ha
  have HB := Lib.hid hb
  have M0 := Lib.hid (Pg.start hI)
  have X0 := Lib.hid (show rMerge a b = [] ++ rMergeF (a.length + b.length) a b from rfl)
  clear hI ha hb
  go_enter Tryz.func202, Tryz.ntmps202
  go_wp2_with fail
  have R0 := Lib.hid (OL.nil w I w 62 3 encEntry rfl)
  go_loopg [0, 1, 5] (a.length + b.length) (fun g av bv ov W => ∃ (la lb lo : List Entry) (aa ba : Option Addr) (ac bc : Nat), av = .slice aa la.length ac ∧ bv = .slice ba lb.length bc ∧ g = la.length + lb.length ∧ lo.length + g ≤ 1048576 ∧ Hid (Entries I (.slice aa la.length ac) la) ∧ Hid (Entries I (.slice ba lb.length bc) lb) ∧
    Hid (Pg w I I W) ∧ Hid (OL w I W 62 3 encEntry ov lo) ∧ Hid (rMerge a b = lo ++ rMergeF g la lb))
  case atStart => exact ⟨a, b, [], aa, ba, ac, bc, rfl, rfl, rfl, by simpa using hl, HA, HB, M0, R0, X0⟩
  case round =>
  clear HA HB M0 R0 X0
  obtain ⟨la, lb, lo, aa, ba, ac, bc, rfl, rfl, hg, hlo, HA, HB, M0, R0, X0⟩ := hrel
  by_cases hz : la = [] ∨ lb = []
  · have X1 := Lib.hid (X0.out.trans (by rw [rMergeF_end _ _ _ hz, List.append_assoc] : _ = (lo ++ la) ++ lb))
    rcases Nat.eq_zero_or_pos la.length with hla | hla
    · have HA' := HA.out
      have HB' := HB.out
      rw [hla] at HA' ⊢
      clear X0
      go_wp2_with (first
        | (at_builtin; refine wp_cat_entry rfl _ _ rfl _ _ lo la rfl rfl HA' R0.out M0.out (by omega) ?_; intro v1 W1 hO hM hg2; have M1 := Lib.hid hM; have R1 := Lib.hid hO; clear hO hM hg2)
        | (at_builtin; refine wp_cat_entry rfl _ _ rfl _ _ (lo ++ la) lb rfl rfl HB' R1.out M1.out (by simp only [List.length_append]; omega) ?_; intro v2 W2 hO hM hg2; have M2 := Lib.hid hM; have R2 := Lib.hid hO; clear hO hM hg2))
      obtain ⟨K, hM, hle, hR, hno⟩ := R2.out.rowp M2.out
      go_ret
      exact ⟨K, _, rfl, hM, by rw [X1.out]; exact hR⟩
    · have hlb : lb.length = 0 := by rcases hz with rfl | rfl; (simp at hla); rfl
      have HA' := HA.out
      have HB' := HB.out
      rw [hlb] at HB' ⊢
      have hpa : (0 : Int) < la.length := by omega
      clear X0
      go_wp2_with (first
        | (at_builtin; refine wp_cat_entry rfl _ _ rfl _ _ lo la rfl rfl HA' R0.out M0.out (by omega) ?_; intro v1 W1 hO hM hg2; have M1 := Lib.hid hM; have R1 := Lib.hid hO; clear hO hM hg2)
        | (at_builtin; refine wp_cat_entry rfl _ _ rfl _ _ (lo ++ la) lb rfl rfl HB' R1.out M1.out (by simp only [List.length_append]; omega) ?_; intro v2 W2 hO hM hg2; have M2 := Lib.hid hM; have R2 := Lib.hid hO; clear hO hM hg2))
      obtain ⟨K, hM, hle, hR, hno⟩ := R2.out.rowp M2.out
      go_ret
      exact ⟨K, _, rfl, hM, by rw [X1.out]; exact hR⟩
  · obtain ⟨x, ta, rfl⟩ : ∃ x ta, la = x :: ta := by cases la with | nil => exact absurd (.inl rfl) hz | cons x ta => exact ⟨x, ta, rfl⟩
    obtain ⟨y, tb, rfl⟩ : ∃ y tb, lb = y :: tb := by cases lb with | nil => exact absurd (.inr rfl) hz | cons y tb => exact ⟨y, tb, rfl⟩
    obtain ⟨f, rfl⟩ : ∃ f, gk = f + 1 := ⟨gk - 1, by simp at hg; omega⟩
    rw [rMergeF_cons] at X0
    obtain ⟨ab, aoff, rfl, _, c0, c1, c2, s0⟩ := entries_at2 M0.out.held HA.out (show 0 < (x :: ta).length by simp)
    obtain ⟨bb, boff, rfl, _, d0, d1, d2, s1⟩ := entries_at2 M0.out.held HB.out (show 0 < (y :: tb).length by simp)
    simp only [List.getElem_cons_zero, Nat.zero_mul, Nat.add_zero] at c0 c1 c2 d0 d1 d2
    have HTA := Lib.hid (Row.tailE HA.out)
    have HTB := Lib.hid (Row.tailE HB.out)
    have hA3 := HA.out.form
    have hcapa : (x :: ta).length ≤ ac := by obtain ⟨_, _, hv, q, _⟩ := HA.out.form; injection hv with _ q1 q2; omega
    have hcapb : (y :: tb).length ≤ bc := by obtain ⟨_, _, hv, q, _⟩ := HB.out.form; injection hv with _ q1 q2; omega
    have hsa := fun W => slice_tailE W ab aoff (x :: ta).length ac (by simp) hcapa
    have hsb := fun W => slice_tailE W bb boff (y :: tb).length bc (by simp) hcapb
    generalize (if ac = 1 then aoff else aoff + 3) = aoff2 at HTA hsa
    generalize (if bc = 1 then boff else boff + 3) = boff2 at HTB hsb
    have hla : (x :: ta).length - 1 = ta.length := by simp
    have hlb : (y :: tb).length - 1 = tb.length := by simp
    rw [hla] at HTA hsa
    rw [hlb] at HTB hsb
    simp only [List.length_cons] at HA HB hsa hsb hg hlo hcapa hcapb
    clear hA3 hz hla hlb
    have hpa : (0 : Int) < (ta.length : Int) + 1 := by omega
    have hpb : (0 : Int) < (tb.length : Int) + 1 := by omega
    have HCC := fun w => Lib.hid (cmp_Compare x.key y.key w)
    by_cases h1 : sLt x.key y.key = true
    · have X1 := Lib.hid (X0.out.trans (by rw [if_pos h1, List.append_cons] : _ = (lo ++ [x]) ++ rMergeF f ta (y :: tb)))
      rw [show cCmp x.key y.key = -1 from if_pos h1] at HCC
      clear h1 X0
      go_wp2_with fail
      go_region_with (go_at_call 231; refine (HCC _).out.mono ?_; rintro e w' ⟨rfl, rfl⟩)
      all_goals
        go_wp2_with fail
        go_region_law (refine step_pp_entry rfl _ _ rfl _ lo x _ 1 _ _ _ rfl rfl (blk_drew (alloc_new _ _)) rfl (OR.alloc R0.out.drew _).drew (M0.out.drew.alloc _).drew (by omega) ?_; intro v1 W2 hO hM hg2 hne; have M2 := Lib.hid hM; have R2 := Lib.hid hO; clear hO hM hg2 hne)
      all_goals
        go_wp2
        go_roundg f
        case measure => omega
        case rel => exact ⟨ta, y :: tb, lo ++ [x], _, _, _, _, rfl, rfl, by simp only [List.length_cons]; omega, by simp only [List.length_append, List.length_cons, List.length_nil]; omega, HTA, HB, M2, R2, X1⟩
    · by_cases h2 : sGt x.key y.key = true
      · have X1 := Lib.hid (X0.out.trans (by rw [if_neg h1, if_pos h2, List.append_cons] : _ = (lo ++ [y]) ++ rMergeF f (x :: ta) tb))
        rw [show cCmp x.key y.key = 1 from (if_neg h1).trans (if_pos h2)] at HCC
        clear h1 h2 X0
        go_wp2_with fail
        go_region_with (go_at_call 231; refine (HCC _).out.mono ?_; rintro e w' ⟨rfl, rfl⟩)
        all_goals
          go_wp2_with fail
          go_region_law (refine step_pp_entry rfl _ _ rfl _ lo y _ 1 _ _ _ rfl rfl (blk_drew (alloc_new _ _)) rfl (OR.alloc R0.out.drew _).drew (M0.out.drew.alloc _).drew (by omega) ?_; intro v1 W2 hO hM hg2 hne; have M2 := Lib.hid hM; have R2 := Lib.hid hO; clear hO hM hg2 hne)
        all_goals
          go_wp2
          go_roundg f
          case measure => omega
          case rel => exact ⟨x :: ta, tb, lo ++ [y], _, _, _, _, rfl, rfl, by simp only [List.length_cons]; omega, by simp only [List.length_append, List.length_cons, List.length_nil]; omega, HA, HTB, M2, R2, X1⟩
      · have X1 := Lib.hid (X0.out.trans (by rw [if_neg h1, if_neg h2] : _ = lo ++ rMergeF f ta (y :: tb)))
        rw [show cCmp x.key y.key = 0 from (if_neg h1).trans (if_neg h2)] at HCC
        clear h1 h2 X0
        go_wp2_with fail
        go_region_with (go_at_call 231; refine (HCC _).out.mono ?_; rintro e w' ⟨rfl, rfl⟩)
        all_goals
          go_wp2
          go_roundg f
          case measure => omega
          case rel => exact ⟨ta, y :: tb, lo, _, _, _, _, rfl, rfl, by simp only [List.length_cons]; omega, by omega, HTA, HB, Lib.hid M0.out.drew, Lib.hid R0.out.drew, X1⟩
end Go.Proofs.YtadaiihoclknmaaGreat
/- The rate behind a change. -/
namespace Go.Proofs.YtadaiihoclknmaaGreat
open Go.RowKit
set_option maxHeartbeats 4000000
set_option maxRecDepth 100000
set_option linter.unusedVariables false
set_option linter.unusedSimpArgs false

theorem pace_between (n l hi : Int) (w : World) : Calls Tryz.prog 232 #[.int .i64 n, .int .i64 l, .int .i64 hi] w fun e w' => e = .returned (.int .i64 (min (max n l) hi)) ∧ w = w' := by
  go_enter Tryz.func232, Tryz.ntmps232
  go_wp2
  all_goals
    go_ret
    refine ⟨?_, rfl⟩
    refine congrArg (fun x => Ending.returned (Value.int .i64 x)) (?_ : _ = min (max n l) hi)
    omega
theorem tdiv4 (x : Int) : x.tdiv 4 = if 0 ≤ x then x / 4 else -((-x) / 4) := by
  split
  · exact Int.tdiv_eq_ediv_of_nonneg (by omega)
  · have : x = -(-x) := by omega
    rw [this, Int.neg_tdiv, Int.tdiv_eq_ediv_of_nonneg (by omega), Int.neg_neg]
def paceRate (rate n : Int) : Int := (min (max rate 0) 4080) + ((16 * min (max n 0) 255 - min (max rate 0) 4080).tdiv 4)
theorem pace_Rate (rate n : Int) (w : World) : Calls Tryz.prog 201 #[.int .i64 rate, .int .i64 n] w fun e w' => e = .returned (.int .i64 (paceRate rate n)) ∧ w = w' := by
  unfold paceRate
  have h1 : 0 ≤ min (max rate 0) 4080 ∧ min (max rate 0) 4080 ≤ 4080 := by omega
  have h2 : 0 ≤ min (max n 0) 255 ∧ min (max n 0) 255 ≤ 255 := by omega
  have H1 := fun w => Lib.hid (pace_between rate 0 4080 w)
  have H2 := fun w => Lib.hid (pace_between n 0 255 w)
  generalize min (max rate 0) 4080 = r at *
  generalize min (max n 0) 255 = m at *
  go_enter Tryz.func201, Tryz.ntmps201
  go_wp2_with (first
    | (go_at_call 232; refine (H1 _).out.mono ?_; clear H1; rintro e w' ⟨rfl, rfl⟩)
    | (go_at_call 232; refine (H2 _).out.mono ?_; clear H2; rintro e w' ⟨rfl, rfl⟩))
  go_ret
  refine ⟨?_, rfl⟩
  have hw : wrap64 (r + (16 * m - r).tdiv 4) = r + (16 * m - r).tdiv 4 := by
    rw [tdiv4]; unfold wrap64; split <;> omega
  show Ending.returned (Value.int .i64 (wrap64 (r + (16 * m - r).tdiv 4))) = _
  rw [hw]
end Go.Proofs.YtadaiihoclknmaaGreat
