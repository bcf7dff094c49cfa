/- Part 27 of the proof: Lay1, Rising. -/
import Derived.Test.YtadaiihoclknmaaGreatC08
import Derived.Test.YtadaiihoclknmaaGreatC26
/- Write: lay. -/
namespace Go.Proofs.YtadaiihoclknmaaGreat
open Go.RowKit
set_option maxHeartbeats 4000000
set_option maxRecDepth 100000
set_option linter.unusedVariables false
set_option linter.unusedSimpArgs false
/-- A function value without bound arguments, and what it captures. -/
structure FnC where
  k : Nat
  caps : Array Value
def encFn (f : FnC) : List Value := [.func (.func f.k) #[] f.caps]
theorem info_fn : (Tryz.prog.info? 1).map (fun i => (i.zero, i.size, i.bytes)) = some (some .nilFunc, 1, 8) := by kernel_rfl
theorem wp_app_fn {ops : Array Oper} {rest : List Oper} {o : Oper} {a : Act} {Q : Exit → Act → World → Prop} {w W : World} {L : Loc} {I J : IHeap} {st : PS} (hg : o.guard = none) (s x : Operand)
    (ho : o.op = .call { callee := .builtin .append, args := #[s, x], argTypes := #[173, 173] })
    (v : Value) (l : List FnC) (y : FnC) (b c : Nat) (cs : Array Value) (tb : TypeId) (fr : Nat × Nat) (hs : a.eval s = v) (hx : a.eval x = .slice (some ⟨b, 0, none⟩) 1 c) (hb : W.heap[b]? = some (.cells cs tb fr)) (hcs : cs = (encFn y).toArray)
    (HO : OL w J W 1 1 encFn v l) (HM : Mg w L I J st W) (hl : (l.length + 1) * 8 ≤ 140737488355328)
    (h : ∀ v1 W1, OL w J W1 1 1 encFn v1 (l ++ [y]) → Mg w L I J st W1 → W.grownBy W1 v.ownBlock → wpList Tryz.prog ops Q rest (a.put o.dst v1) W1) :
    wpList Tryz.prog ops Q (o :: rest) a W :=
  wp_app1 hg s x 173 1 .nilFunc 1 8 ho Tryz.underlying173 info_fn rfl (by decide) (by decide) encFn v l y b c cs tb fr hs hx hb hcs rfl (by
    intro u hu
    simp only [encFn, List.mem_cons, List.not_mem_nil, or_false] at hu
    subst hu; rfl) HO HM hl h
def LayOk (x : Part) : Prop := rvOk x.rev ∧ x.entries.length + x.rev.keys.length ≤ 1048576 ∧ (∀ e ∈ rMerge (rEntries x.rev) x.entries, e.key.size ≤ maxLen) ∧ (rMerge (rEntries x.rev) x.entries).length ≤ 1048576
instance (x : Part) : Decidable (LayOk x) := by unfold LayOk; infer_instance
instance (r : Rev) : Decidable (rvOk r) := by unfold rvOk; infer_instance
/-- New ages of parts, where nothing fails. -/
def wLay (version : Int) : List Part → List Swap → Prog (List Swap × Int)
  | [], out => return (out, 0)
  | x :: t, out =>
    if LayOk x then
      if (rApply x.rev version x.entries).2 = 0 then
        if rvOk (rApply x.rev version x.entries).1 then do
          let h ← nLay (rClean (rApply x.rev version x.entries).1) x.head
          if h.2 = 0 then wLay version t (out ++ [⟨x.cell, x.head, h.1⟩]) else .stuck
        else .stuck
      else .stuck
    else .stuck
theorem wLay_nil (version : Int) (out : List Swap) : wLay version [] out = return (out, 0) := rfl
theorem wLay_cons (version : Int) (x : Part) (t : List Part) (out : List Swap) : wLay version (x :: t) out = (
    if LayOk x then
      if (rApply x.rev version x.entries).2 = 0 then
        if rvOk (rApply x.rev version x.entries).1 then do
          let h ← nLay (rClean (rApply x.rev version x.entries).1) x.head
          if h.2 = 0 then wLay version t (out ++ [⟨x.cell, x.head, h.1⟩]) else .stuck
        else .stuck
      else .stuck
    else .stuck) := rfl
def LayE (J : IHeap) (v : Value) (a : List Swap × Int) : Prop := ∃ x ua un uc, v = .tuple #[x, .slice ua un uc, .int .i64 a.2] ∧ Swaps J x a.1
theorem stuck_not {γ : Type} {r : Out γ × PS} {s : PS} (hn : r.1.ok) (hx : r = (Prog.stuck : Prog γ).exec s) : False := by rw [hx] at hn; exact hn
theorem write_lay (w : World) (L : Loc) (I : IHeap) (s : PS) (hst : St w L I s) (version : Int) (cs : List PartC) (pv : Value) (hp : Sl I 94 13 encPart pv cs) (hc : OkAll I cs) (hb : cs.length ≤ 1048576) (hn : ((wLay version (cs.map PartC.p) []).exec s).1.ok) :
    Calls Tryz.prog 102 #[.pointer (some ⟨L.p, 0, none⟩), pv, .int .i64 version] w (Post L w I ((wLay version (cs.map PartC.p) []).exec s) LayE) := by
  have B0 := Lib.hid (Bag.start hst)
  have HN := Lib.hid hn
  obtain ⟨R0, hR0⟩ : ∃ R0, R0 = (wLay version (cs.map PartC.p) []).exec s := ⟨_, rfl⟩
  have X0 := Ex.mk (show R0 = (wLay version ((cs.drop 0).map PartC.p) []).exec s from hR0)
  rw [← hR0] at HN ⊢
  obtain ⟨pa, pc, rfl, _, _, _⟩ := hp.form
  have HP := Lib.hid hp
  have HC := Lib.hid hc
  clear hst hn hR0 hp hc
  go_enter Tryz.func102, Tryz.ntmps102
  go_wp2_with fail
  have B1 := Lib.hid (((B0.out.fresh #[.pointer (some ⟨L.p, 0, none⟩)] 39 rfl).row0 (E := 44) 3 rfl).row0 (E := 1) 1 rfl)
  generalize w.heap.size = bp at *
  generalize w.alloc (.cells #[.pointer (some ⟨L.p, 0, none⟩)] 39) = W0 at *
  go_loopg [9, 10, 18] cs.length (fun m sv uv iv W => ∃ (J : IHeap) (s' : PS) (i : Nat) (out : List Swap) (us : List FnC), iv = .int .i64 i ∧ i + m = cs.length ∧ out.length = i ∧ us.length = i ∧ Hid (ILe I J) ∧ Hid (Bag w L I J s' W [.row 1 1 uv us.length (us.flatMap encFn), .row 44 3 sv out.length (out.flatMap encSwap), .blk bp #[.pointer (some ⟨L.p, 0, none⟩)] 39]) ∧ Ex R0 ((wLay version ((cs.drop i).map PartC.p) out).exec s'))
  case atStart => exact ⟨I, s, 0, [], [], rfl, by simp, rfl, rfl, Lib.hid (ILe.refl _), B1, X0⟩
  case round =>
  clear B0 B1 X0
  obtain ⟨J0, s0, i, out, us, rfl, hi, ho, hu, HJ, B0, X0⟩ := hrel
  by_cases hlt : i < cs.length
  · have hd1 : decide ((i : Int) < cs.length) = true := decide_eq_true (by omega)
    obtain ⟨b, off, rfl, _, hcell⟩ := Sl.cell B0.out.m.st.held (HP.out.mono HJ.out) (fun _ => rfl) (by omega)
    have hx := List.getElem?_eq_getElem hlt
    have HO := Lib.hid ((HC.out _ (List.getElem_mem hlt)).mono HJ.out)
    have E := Lib.hid (List.drop_eq_getElem_cons hlt)
    have hcc := fun j u => hcell i j _ u hx
    generalize cs[i] = c at hcc E HO
    rw [E.out, List.map_cons, wLay_cons] at X0
    clear E hcell hx
    obtain ⟨⟨xc, xh, r, es⟩, ka, va, ga, ta, ea, kc, vc, gc, tc, ec⟩ := c
    simp only [encPart, PartC.k, PartC.v, PartC.g, PartC.t, PartC.e, PartC.ok, ← Nat.add_assoc] at hcc HO X0
    have c0 := hcc 0 _ rfl
    have c1 := hcc 1 _ rfl
    have c2 := hcc 2 _ rfl
    have c3 := hcc 3 _ rfl
    have c4 := hcc 4 _ rfl
    have c5 := hcc 5 _ rfl
    have c6 := hcc 6 _ rfl
    have c7 := hcc 7 _ rfl
    have c8 := hcc 8 _ rfl
    have c9 := hcc 9 _ rfl
    have c10 := hcc 10 _ rfl
    have c11 := hcc 11 _ rfl
    have c12 := hcc 12 _ rfl
    rw [Nat.add_zero] at c0
    clear hcc
    by_cases hok : LayOk ⟨xc, xh, r, es⟩
    rotate_left
    · exact (stuck_not HN.out (x_else X0.out hok)).elim
    have X1 := Ex.mk (x_if X0.out hok)
    clear X0
    have HRV := Lib.hid (show RevV J0 (.agg #[.int .i64 r.version, .int .i64 r.rate, .string r.span.lo, .string r.span.hi, .bool r.span.all, .bool r.dead, .slice ka r.keys.length kc, .slice va r.vals.length vc, .slice ga r.gone.length gc, .slice ta r.table.length tc]) r from ⟨_, rfl, _, _, _, _, rfl, HO.out.1, HO.out.2.1, HO.out.2.2.1, HO.out.2.2.2.1⟩)
    have HAP := fun W hI => Lib.hid (rev_Apply W J0 hI r _ HRV.out hok.1 version es _ HO.out.2.2.2.2 hok.2.1 hok.2.2.1 hok.2.2.2)
    generalize rApply r version es = ra at *
    obtain ⟨r1, e1⟩ := ra
    dsimp only at X1 HAP
    by_cases he : e1 = 0
    rotate_left
    · exact (stuck_not HN.out (x_else X1.out he)).elim
    have X2 := Ex.mk (x_if X1.out he)
    subst he
    by_cases hk : rvOk r1
    rotate_left
    · exact (stuck_not HN.out (x_else X2.out hk)).elim
    have X3 := Ex.mk (x_if X2.out hk)
    clear X1 X2 hok HRV
    go_wp2_with fail
    have B1 := Lib.hid (B0.out.fresh #[.int .i64 xc, .int .i64 xh, .int .i64 r.version, .int .i64 r.rate, .string r.span.lo, .string r.span.hi, .bool r.span.all, .bool r.dead, .slice ka r.keys.length kc, .slice va r.vals.length vc, .slice ga r.gone.length gc, .slice ta r.table.length tc, .slice ea es.length ec] 94 rfl)
    clear B0 c0 c1 c2 c3 c4 c5 c6 c7 c8 c9 c10 c11 c12
    generalize wr.heap.size = bx at *
    generalize wr.alloc (.cells #[.int .i64 xc, .int .i64 xh, .int .i64 r.version, .int .i64 r.rate, .string r.span.lo, .string r.span.hi, .bool r.span.all, .bool r.dead, .slice ka r.keys.length kc, .slice va r.vals.length vc, .slice ga r.gone.length gc, .slice ta r.table.length tc, .slice ea es.length ec] 94) = W1 at *
    refine (HAP _ B1.out.m.st.held).out.mono ?_
    rintro e W2 ⟨K2, _, rfl, hP, xv, rfl, hV⟩
    obtain ⟨ka1, kc1, va1, vc1, ga1, gc1, ta1, tc1, rfl, _⟩ := hV.form
    have B2 := Lib.hid (B1.out.pure hP)
    have HJ2 := Lib.hid (HJ.out.trans hP.grow.le)
    have HV := Lib.hid hV
    clear HAP hP hV B1 HJ
    dsimp only at HV ⊢
    have xat := B2.out.o0.at_
    have x0 := cell_blk xat 0
    have x1 := cell_blk xat 1
    have x12 := cell_blk xat 12
    have xf0 := free_blk xat 0
    have xf1 := free_blk xat 1
    have xf12 := free_blk xat 12
    have xs := lt_of_block xat
    clear xat
    go_wp2_with fail
    have B3 := Lib.hid (B2.out.fresh #[.int .i64 r1.version, .int .i64 r1.rate, .string r1.span.lo, .string r1.span.hi, .bool r1.span.all, .bool r1.dead, .slice ka1 r1.keys.length kc1, .slice va1 r1.vals.length vc1, .slice ga1 r1.gone.length gc1, .slice ta1 r1.table.length tc1] 92 rfl)
    clear B2 x0 x1 x12 xf0 xf1 xf12 xs
    generalize W2.heap.size = br at *
    generalize W2.alloc (.cells #[.int .i64 r1.version, .int .i64 r1.rate, .string r1.span.lo, .string r1.span.hi, .bool r1.span.all, .bool r1.dead, .slice ka1 r1.keys.length kc1, .slice va1 r1.vals.length vc1, .slice ga1 r1.gone.length gc1, .slice ta1 r1.table.length tc1] 92) = W3 at *
    have HQ := Lib.hid (show ∀ W' : World, W'.heap[bp]? = some (.cells #[.pointer (some ⟨L.p, 0, none⟩)] 39 (0, 0)) → W'.heap[bx]? = some (.cells #[.int .i64 xc, .int .i64 xh, .int .i64 r.version, .int .i64 r.rate, .string r.span.lo, .string r.span.hi, .bool r.span.all, .bool r.dead, .slice ka r.keys.length kc, .slice va r.vals.length vc, .slice ga r.gone.length gc, .slice ta r.table.length tc, .slice ea es.length ec] 94 (0, 0)) → W'.heap[br]? = some (.cells #[.int .i64 r1.version, .int .i64 r1.rate, .string r1.span.lo, .string r1.span.hi, .bool r1.span.all, .bool r1.dead, .slice ka1 r1.keys.length kc1, .slice va1 r1.vals.length vc1, .slice ga1 r1.gone.length gc1, .slice ta1 r1.table.length tc1] 92 (0, 0)) → W'.cell? ⟨bp, 0, none⟩ = some (.pointer (some ⟨L.p, 0, none⟩)) ∧ W'.cell? ⟨bx, 1, none⟩ = some (.int .i64 xh) ∧ W'.cell? ⟨br, 0, none⟩ = some (.int .i64 r1.version) ∧ W'.cell? ⟨br, 1, none⟩ = some (.int .i64 r1.rate) ∧ W'.cell? ⟨br, 2, none⟩ = some (.string r1.span.lo) ∧ W'.cell? ⟨br, 3, none⟩ = some (.string r1.span.hi) ∧ W'.cell? ⟨br, 4, none⟩ = some (.bool r1.span.all) ∧ W'.cell? ⟨br, 5, none⟩ = some (.bool r1.dead) ∧ W'.cell? ⟨br, 6, none⟩ = some (.slice ka1 r1.keys.length kc1) ∧ W'.cell? ⟨br, 7, none⟩ = some (.slice va1 r1.vals.length vc1) ∧ W'.cell? ⟨br, 8, none⟩ = some (.slice ga1 r1.gone.length gc1) ∧ W'.cell? ⟨br, 9, none⟩ = some (.slice ta1 r1.table.length tc1) from fun W' h1 h2 h3 => ⟨cell_blk h1 0, cell_blk h2 1, cell_blk h3 0, cell_blk h3 1, cell_blk h3 2, cell_blk h3 3, cell_blk h3 4, cell_blk h3 5, cell_blk h3 6, cell_blk h3 7, cell_blk h3 8, cell_blk h3 9⟩)
    have B4 := Lib.hid B3.out.drew
    clear B3
    refine wp_region_held_drew (S := fun W' => W'.cell? ⟨bp, 0, none⟩ = some (.pointer (some ⟨L.p, 0, none⟩)) ∧ W'.cell? ⟨bx, 1, none⟩ = some (.int .i64 xh) ∧ W'.cell? ⟨br, 0, none⟩ = some (.int .i64 r1.version) ∧ W'.cell? ⟨br, 1, none⟩ = some (.int .i64 r1.rate) ∧ W'.cell? ⟨br, 2, none⟩ = some (.string r1.span.lo) ∧ W'.cell? ⟨br, 3, none⟩ = some (.string r1.span.hi) ∧ W'.cell? ⟨br, 4, none⟩ = some (.bool r1.span.all) ∧ W'.cell? ⟨br, 5, none⟩ = some (.bool r1.dead) ∧ W'.cell? ⟨br, 6, none⟩ = some (.slice ka1 r1.keys.length kc1) ∧ W'.cell? ⟨br, 7, none⟩ = some (.slice va1 r1.vals.length vc1) ∧ W'.cell? ⟨br, 8, none⟩ = some (.slice ga1 r1.gone.length gc1) ∧ W'.cell? ⟨br, 9, none⟩ = some (.slice ta1 r1.table.length tc1)) (by kernel_rfl) (HQ.out _ B4.out.o4.at_ B4.out.o1.at_ B4.out.o0.at_) (fun hS0 => ?_)
    refine wpAnyH_takeD 0 (some 37) (v := ?_) rfl rfl (by kernel_rfl) (by kernel_rfl) (by kernel_rfl) (fun _ _ _ h => h) (Or.inl ⟨by rfl, ?_⟩) (by assumption) ?_
    rotate_left
    · (intro _w hSw; (try dsimp only at hSw); go_simp; try with_reducible rfl)
    try simp only [Act.put, List.setIfInBounds_toArray, List.set_cons_zero, List.set_cons_succ]
    refine wpAnyH_takeD 1 (some 38) (v := ?_) rfl rfl (by kernel_rfl) (by kernel_rfl) (by kernel_rfl) (fun _ _ _ h => h) (Or.inl ⟨by rfl, ?_⟩) (by assumption) ?_
    rotate_left
    · (intro _w hSw; (try dsimp only at hSw); go_simp; try with_reducible rfl)
    try simp only [Act.put, List.setIfInBounds_toArray, List.set_cons_zero, List.set_cons_succ]
    refine wpAnyH_takeD 3 (some 40) (v := ?_) rfl rfl (by kernel_rfl) (by kernel_rfl) (by kernel_rfl) (fun _ _ _ h => h) (Or.inl ⟨by rfl, ?_⟩) (by assumption) ?_
    rotate_left
    · (intro _w hSw; (try dsimp only at hSw); go_simp; try with_reducible rfl)
    try simp only [Act.put, List.setIfInBounds_toArray, List.set_cons_zero, List.set_cons_succ]
    refine wpAnyH_takeD 4 (some 41) (v := ?_) rfl rfl (by kernel_rfl) (by kernel_rfl) (by kernel_rfl) (fun _ _ _ h => h) (Or.inl ⟨by rfl, ?_⟩) (by assumption) ?_
    rotate_left
    · (intro _w hSw; (try dsimp only at hSw); go_simp; try with_reducible rfl)
    try simp only [Act.put, List.setIfInBounds_toArray, List.set_cons_zero, List.set_cons_succ]
    generalize W3.drew = W4 at *
    refine wpAnyH_ready (rs := [2, 9]) (by kernel_rfl) (by simp) ?_
    refine AllReadyH.cons rfl (fun K hK => ?_) (AllReadyH.cons rfl (fun K hK => ?_) AllReadyH.nil)
    · skip
      go_simp
      go_wp2_with (go_at_call 152; refine (rev_Clean _ K2 B4.out.m.st.held r1 _ HV.out hk).mono ?_; rintro e2 W5 ⟨J5, v5, rfl, hP, hV5⟩; obtain ⟨ka2, kc2, va2, vc2, ga2, gc2, ta2, tc2, rfl, _⟩ := hV5.form; have B5 := Lib.hid (B4.out.pure hP); have HJ5 := Lib.hid (HJ2.out.trans hP.grow.le); have HV5 := Lib.hid hV5; clear hP hV5)
      refine hK.out _ _ (HQ.out _ B5.out.o4.at_ B5.out.o1.at_ B5.out.o0.at_) ?_
      clear hK K
      intro hSS
      try simp only [Act.put, List.setIfInBounds_toArray, List.set_cons_zero, List.set_cons_succ]
      refine wpAnyH_ready (rs := [5, 9]) (by kernel_rfl) (by simp) ?_
      refine AllReadyH.cons rfl (fun K hK => ?_) (AllReadyH.cons rfl (fun K hK => ?_) AllReadyH.nil)
      · skip
        go_simp
        go_wp2_with (
          go_at_call 120
          refine (node_Lay _ L _ _ (B5.out).m.st (rClean r1) _ HV5.out xh (ok_of HN.out X3.out)).mono ?_
          intro e W7 hP
          rcases (B5.out).call hP with ⟨⟨h7, e7⟩, s7, J7, v7, hr, rfl, rfl, hg, hB⟩ | ⟨s', J', hr, rfl, hM⟩
          rotate_left
          · exact post_panic rfl (by rw [x_paused X3.out hr]; exact hM.paused)
          have B7 := Lib.hid hB
          have G7 := Lib.hid hg
          have X7 := Ex.mk (x_ret X3.out hr)
          clear hP hr hg hB
          skip)
        by_cases he : e7 = 0
        rotate_left
        · exact (stuck_not HN.out (x_else X7.out he)).elim
        subst he
        have X8 := Ex.mk (x_if X7.out rfl)
        have HJ7 := Lib.hid (HJ5.out.trans G7.out.le)
        clear X7 G7
        refine hK.out _ _ (HQ.out _ B7.out.o4.at_ B7.out.o1.at_ B7.out.o0.at_) ?_
        clear hK K
        intro hSS
        try simp only [Act.put, List.setIfInBounds_toArray, List.set_cons_zero, List.set_cons_succ]
        refine wpAnyH_takeD 6 (some 36) (v := ?_) rfl rfl (by kernel_rfl) (by kernel_rfl) (by kernel_rfl) (fun _ _ _ h => h) (Or.inl ⟨by rfl, ?_⟩) (by assumption) ?_
        rotate_left
        · (intro _w hSw; (try dsimp only at hSw); go_simp; try with_reducible rfl)
        try simp only [Act.put, List.setIfInBounds_toArray, List.set_cons_zero, List.set_cons_succ]
        refine wpAnyH_takeD 7 (some 43) (v := ?_) rfl rfl (by kernel_rfl) (by kernel_rfl) (by kernel_rfl) (fun _ _ _ h => h) (Or.inl ⟨by rfl, ?_⟩) (by assumption) ?_
        rotate_left
        · (intro _w hSw; (try dsimp only at hSw); go_simp; try with_reducible rfl)
        try simp only [Act.put, List.setIfInBounds_toArray, List.set_cons_zero, List.set_cons_succ]
        refine wpAnyH_takeD 8 (some 44) (v := ?_) rfl rfl (by kernel_rfl) (by kernel_rfl) (by kernel_rfl) (fun _ _ _ h => h) (Or.inl ⟨by rfl, ?_⟩) (by assumption) ?_
        rotate_left
        · (intro _w hSw; (try dsimp only at hSw); go_simp; try with_reducible rfl)
        try simp only [Act.put, List.setIfInBounds_toArray, List.set_cons_zero, List.set_cons_succ]
        refine wpAnyH_ready (rs := [9]) (by kernel_rfl) (by simp) ?_
        refine AllReadyH.cons rfl (fun K hK => ?_) AllReadyH.nil
        have B9 := Lib.hid (B7.out.fresh #[.int .i64 0] 3 rfl)
        go_simp
        refine hK.out _ _ (HQ.out _ B9.out.o5.at_ B9.out.o2.at_ B9.out.o1.at_) ?_
        clear hK K
        intro hSS
        try simp only [Act.put, List.setIfInBounds_toArray, List.set_cons_zero, List.set_cons_succ]
        generalize W7.heap.size = bz at *
        generalize W7.alloc (.cells #[.int .i64 0] 3) = W9 at *
        have zat := B9.out.o0.at_
        have z0 := cell_blk zat 0
        have zf0 := free_blk zat 0
        have zs := lt_of_block zat
        clear zat
        refine wpAnyH_ready (rs := [10]) (by kernel_rfl) (by simp) ?_
        refine AllReadyH.cons rfl (fun K hK => ?_) AllReadyH.nil
        go_simp
        have B10 := Lib.hid (B9.out.setT (by simp [It.other]) 0 (.int .i64 h7))
        refine hK.out _ _ (HQ.out _ B10.out.o5.at_ B10.out.o2.at_ B10.out.o1.at_) ?_
        clear hK K
        intro hSS
        try simp only [Act.put, List.setIfInBounds_toArray, List.set_cons_zero, List.set_cons_succ]
        refine wpAnyH_takeD 11 (some 14) (v := ?_) rfl rfl (by kernel_rfl) (by kernel_rfl) (by kernel_rfl) (fun _ _ _ h => h) (Or.inl ⟨by rfl, ?_⟩) (by assumption) ?_
        rotate_left
        · (intro _w hSw; (try dsimp only at hSw); go_simp; try with_reducible rfl)
        try simp only [Act.put, List.setIfInBounds_toArray, List.set_cons_zero, List.set_cons_succ]
        refine wpAnyH_done (by kernel_rfl) ?_ _
        clear hSS hS0 HQ B9 z0 zf0 zs
        simp only [List.setIfInBounds_toArray, List.set_cons_zero] at B10
        go_wp2_with (at_builtin; refine wp_app_fn rfl _ _ rfl _ us ⟨153, #[.pointer (some ⟨bp, 0, none⟩), .pointer (some ⟨bz, 0, none⟩)]⟩ _ _ _ _ _ rfl rfl (alloc_at (by simp [World.setCell])) rfl (OR.alloc B10.out.r3 _) (B10.out.m.alloc _) (by omega) ?_)
        intro v11 W11 hO hM hg
        have B11 := Lib.hid ((B10.out.alloc _).up3.app (by simp [It.other]) hM hO hg)
        clear hO hM hg B10
        have zat := B11.out.o1.at_
        have z0 := cell_blk zat 0
        have zf0 := free_blk zat 0
        have zs := lt_of_block zat
        clear zat
        have xat := B11.out.o3.at_
        have x0 := cell_blk xat 0
        have x1 := cell_blk xat 1
        have xf0 := free_blk xat 0
        have xf1 := free_blk xat 1
        have xs := lt_of_block xat
        clear xat
        go_wp2_with (at_builtin; refine wp_app_swap rfl _ _ rfl _ out ⟨xc, xh, h7⟩ _ _ _ _ _ rfl rfl (alloc_new _ _) rfl (OR.alloc B11.out.r4 _) (B11.out.m.alloc _) (by omega) ?_)
        intro v12 W12 hO hM hg
        have B12 := Lib.hid ((B11.out.alloc _).up4.app (by simp [It.other]) hM hO hg)
        clear hO hM hg B11 z0 zf0 zs x0 x1 xf0 xf1 xs
        go_wp2
        go_roundg (gk - 1)
        case measure => omega
        case rel => exact ⟨J7, s7, i + 1, out ++ [⟨xc, xh, h7⟩], us ++ [⟨153, #[.pointer (some ⟨bp, 0, none⟩), .pointer (some ⟨bz, 0, none⟩)]⟩], by simp, by omega, by simp [ho], by simp [hu], HJ7, Lib.hid (B12.out.sub (by simp)), X8⟩
      · skip
        have B6 := Lib.hid (B5.out.fresh #[.int .i64 0] 3 rfl)
        go_simp
        refine hK.out _ _ (HQ.out _ B6.out.o5.at_ B6.out.o2.at_ B6.out.o1.at_) ?_
        clear hK K
        intro hSS
        try simp only [Act.put, List.setIfInBounds_toArray, List.set_cons_zero, List.set_cons_succ]
        generalize W5.heap.size = bz at *
        generalize W5.alloc (.cells #[.int .i64 0] 3) = W9 at *
        refine wpAnyH_ready (rs := [5]) (by kernel_rfl) (by simp) ?_
        refine AllReadyH.cons rfl (fun K hK => ?_) AllReadyH.nil
        go_simp
        go_wp2_with (
          go_at_call 120
          refine (node_Lay _ L _ _ (B6.out).m.st (rClean r1) _ HV5.out xh (ok_of HN.out X3.out)).mono ?_
          intro e W7 hP
          rcases (B6.out).call hP with ⟨⟨h7, e7⟩, s7, J7, v7, hr, rfl, rfl, hg, hB⟩ | ⟨s', J', hr, rfl, hM⟩
          rotate_left
          · exact post_panic rfl (by rw [x_paused X3.out hr]; exact hM.paused)
          have B7 := Lib.hid hB
          have G7 := Lib.hid hg
          have X7 := Ex.mk (x_ret X3.out hr)
          clear hP hr hg hB
          skip)
        by_cases he : e7 = 0
        rotate_left
        · exact (stuck_not HN.out (x_else X7.out he)).elim
        subst he
        have X8 := Ex.mk (x_if X7.out rfl)
        have HJ7 := Lib.hid (HJ5.out.trans G7.out.le)
        clear X7 G7
        refine hK.out _ _ (HQ.out _ B7.out.o5.at_ B7.out.o2.at_ B7.out.o1.at_) ?_
        clear hK K
        intro hSS
        try simp only [Act.put, List.setIfInBounds_toArray, List.set_cons_zero, List.set_cons_succ]
        refine wpAnyH_takeD 6 (some 36) (v := ?_) rfl rfl (by kernel_rfl) (by kernel_rfl) (by kernel_rfl) (fun _ _ _ h => h) (Or.inl ⟨by rfl, ?_⟩) (by assumption) ?_
        rotate_left
        · (intro _w hSw; (try dsimp only at hSw); go_simp; try with_reducible rfl)
        try simp only [Act.put, List.setIfInBounds_toArray, List.set_cons_zero, List.set_cons_succ]
        refine wpAnyH_takeD 7 (some 43) (v := ?_) rfl rfl (by kernel_rfl) (by kernel_rfl) (by kernel_rfl) (fun _ _ _ h => h) (Or.inl ⟨by rfl, ?_⟩) (by assumption) ?_
        rotate_left
        · (intro _w hSw; (try dsimp only at hSw); go_simp; try with_reducible rfl)
        try simp only [Act.put, List.setIfInBounds_toArray, List.set_cons_zero, List.set_cons_succ]
        refine wpAnyH_takeD 8 (some 44) (v := ?_) rfl rfl (by kernel_rfl) (by kernel_rfl) (by kernel_rfl) (fun _ _ _ h => h) (Or.inl ⟨by rfl, ?_⟩) (by assumption) ?_
        rotate_left
        · (intro _w hSw; (try dsimp only at hSw); go_simp; try with_reducible rfl)
        try simp only [Act.put, List.setIfInBounds_toArray, List.set_cons_zero, List.set_cons_succ]
        have B9 := B7
        have zat := B9.out.o0.at_
        have z0 := cell_blk zat 0
        have zf0 := free_blk zat 0
        have zs := lt_of_block zat
        clear zat
        refine wpAnyH_ready (rs := [10]) (by kernel_rfl) (by simp) ?_
        refine AllReadyH.cons rfl (fun K hK => ?_) AllReadyH.nil
        go_simp
        have B10 := Lib.hid (B9.out.setT (by simp [It.other]) 0 (.int .i64 h7))
        refine hK.out _ _ (HQ.out _ B10.out.o5.at_ B10.out.o2.at_ B10.out.o1.at_) ?_
        clear hK K
        intro hSS
        try simp only [Act.put, List.setIfInBounds_toArray, List.set_cons_zero, List.set_cons_succ]
        refine wpAnyH_takeD 11 (some 14) (v := ?_) rfl rfl (by kernel_rfl) (by kernel_rfl) (by kernel_rfl) (fun _ _ _ h => h) (Or.inl ⟨by rfl, ?_⟩) (by assumption) ?_
        rotate_left
        · (intro _w hSw; (try dsimp only at hSw); go_simp; try with_reducible rfl)
        try simp only [Act.put, List.setIfInBounds_toArray, List.set_cons_zero, List.set_cons_succ]
        refine wpAnyH_done (by kernel_rfl) ?_ _
        clear hSS hS0 HQ B9 z0 zf0 zs
        simp only [List.setIfInBounds_toArray, List.set_cons_zero] at B10
        go_wp2_with (at_builtin; refine wp_app_fn rfl _ _ rfl _ us ⟨153, #[.pointer (some ⟨bp, 0, none⟩), .pointer (some ⟨bz, 0, none⟩)]⟩ _ _ _ _ _ rfl rfl (alloc_at (by simp [World.setCell])) rfl (OR.alloc B10.out.r3 _) (B10.out.m.alloc _) (by omega) ?_)
        intro v11 W11 hO hM hg
        have B11 := Lib.hid ((B10.out.alloc _).up3.app (by simp [It.other]) hM hO hg)
        clear hO hM hg B10
        have zat := B11.out.o1.at_
        have z0 := cell_blk zat 0
        have zf0 := free_blk zat 0
        have zs := lt_of_block zat
        clear zat
        have xat := B11.out.o3.at_
        have x0 := cell_blk xat 0
        have x1 := cell_blk xat 1
        have xf0 := free_blk xat 0
        have xf1 := free_blk xat 1
        have xs := lt_of_block xat
        clear xat
        go_wp2_with (at_builtin; refine wp_app_swap rfl _ _ rfl _ out ⟨xc, xh, h7⟩ _ _ _ _ _ rfl rfl (alloc_new _ _) rfl (OR.alloc B11.out.r4 _) (B11.out.m.alloc _) (by omega) ?_)
        intro v12 W12 hO hM hg
        have B12 := Lib.hid ((B11.out.alloc _).up4.app (by simp [It.other]) hM hO hg)
        clear hO hM hg B11 z0 zf0 zs x0 x1 xf0 xf1 xs
        go_wp2
        go_roundg (gk - 1)
        case measure => omega
        case rel => exact ⟨J7, s7, i + 1, out ++ [⟨xc, xh, h7⟩], us ++ [⟨153, #[.pointer (some ⟨bp, 0, none⟩), .pointer (some ⟨bz, 0, none⟩)]⟩], by simp, by omega, by simp [ho], by simp [hu], HJ7, Lib.hid (B12.out.sub (by simp)), X8⟩
    · skip
      have B44 := Lib.hid (B4.out.fresh #[.int .i64 0] 3 rfl)
      go_simp
      refine hK.out _ _ (HQ.out _ B44.out.o5.at_ B44.out.o2.at_ B44.out.o1.at_) ?_
      clear hK K
      intro hSS
      try simp only [Act.put, List.setIfInBounds_toArray, List.set_cons_zero, List.set_cons_succ]
      generalize W4.heap.size = bz at *
      generalize W4.alloc (.cells #[.int .i64 0] 3) = W9 at *
      refine wpAnyH_ready (rs := [2]) (by kernel_rfl) (by simp) ?_
      refine AllReadyH.cons rfl (fun K hK => ?_) AllReadyH.nil
      go_simp
      go_wp2_with (go_at_call 152; refine (rev_Clean _ K2 B44.out.m.st.held r1 _ HV.out hk).mono ?_; rintro e2 W5 ⟨J5, v5, rfl, hP, hV5⟩; obtain ⟨ka2, kc2, va2, vc2, ga2, gc2, ta2, tc2, rfl, _⟩ := hV5.form; have B5 := Lib.hid (B44.out.pure hP); have HJ5 := Lib.hid (HJ2.out.trans hP.grow.le); have HV5 := Lib.hid hV5; clear hP hV5)
      refine hK.out _ _ (HQ.out _ B5.out.o5.at_ B5.out.o2.at_ B5.out.o1.at_) ?_
      clear hK K
      intro hSS
      try simp only [Act.put, List.setIfInBounds_toArray, List.set_cons_zero, List.set_cons_succ]
      refine wpAnyH_ready (rs := [5]) (by kernel_rfl) (by simp) ?_
      refine AllReadyH.cons rfl (fun K hK => ?_) AllReadyH.nil
      go_simp
      go_wp2_with (
        go_at_call 120
        refine (node_Lay _ L _ _ (B5.out).m.st (rClean r1) _ HV5.out xh (ok_of HN.out X3.out)).mono ?_
        intro e W7 hP
        rcases (B5.out).call hP with ⟨⟨h7, e7⟩, s7, J7, v7, hr, rfl, rfl, hg, hB⟩ | ⟨s', J', hr, rfl, hM⟩
        rotate_left
        · exact post_panic rfl (by rw [x_paused X3.out hr]; exact hM.paused)
        have B7 := Lib.hid hB
        have G7 := Lib.hid hg
        have X7 := Ex.mk (x_ret X3.out hr)
        clear hP hr hg hB
        skip)
      by_cases he : e7 = 0
      rotate_left
      · exact (stuck_not HN.out (x_else X7.out he)).elim
      subst he
      have X8 := Ex.mk (x_if X7.out rfl)
      have HJ7 := Lib.hid (HJ5.out.trans G7.out.le)
      clear X7 G7
      refine hK.out _ _ (HQ.out _ B7.out.o5.at_ B7.out.o2.at_ B7.out.o1.at_) ?_
      clear hK K
      intro hSS
      try simp only [Act.put, List.setIfInBounds_toArray, List.set_cons_zero, List.set_cons_succ]
      refine wpAnyH_takeD 6 (some 36) (v := ?_) rfl rfl (by kernel_rfl) (by kernel_rfl) (by kernel_rfl) (fun _ _ _ h => h) (Or.inl ⟨by rfl, ?_⟩) (by assumption) ?_
      rotate_left
      · (intro _w hSw; (try dsimp only at hSw); go_simp; try with_reducible rfl)
      try simp only [Act.put, List.setIfInBounds_toArray, List.set_cons_zero, List.set_cons_succ]
      refine wpAnyH_takeD 7 (some 43) (v := ?_) rfl rfl (by kernel_rfl) (by kernel_rfl) (by kernel_rfl) (fun _ _ _ h => h) (Or.inl ⟨by rfl, ?_⟩) (by assumption) ?_
      rotate_left
      · (intro _w hSw; (try dsimp only at hSw); go_simp; try with_reducible rfl)
      try simp only [Act.put, List.setIfInBounds_toArray, List.set_cons_zero, List.set_cons_succ]
      refine wpAnyH_takeD 8 (some 44) (v := ?_) rfl rfl (by kernel_rfl) (by kernel_rfl) (by kernel_rfl) (fun _ _ _ h => h) (Or.inl ⟨by rfl, ?_⟩) (by assumption) ?_
      rotate_left
      · (intro _w hSw; (try dsimp only at hSw); go_simp; try with_reducible rfl)
      try simp only [Act.put, List.setIfInBounds_toArray, List.set_cons_zero, List.set_cons_succ]
      have B9 := B7
      have zat := B9.out.o0.at_
      have z0 := cell_blk zat 0
      have zf0 := free_blk zat 0
      have zs := lt_of_block zat
      clear zat
      refine wpAnyH_ready (rs := [10]) (by kernel_rfl) (by simp) ?_
      refine AllReadyH.cons rfl (fun K hK => ?_) AllReadyH.nil
      go_simp
      have B10 := Lib.hid (B9.out.setT (by simp [It.other]) 0 (.int .i64 h7))
      refine hK.out _ _ (HQ.out _ B10.out.o5.at_ B10.out.o2.at_ B10.out.o1.at_) ?_
      clear hK K
      intro hSS
      try simp only [Act.put, List.setIfInBounds_toArray, List.set_cons_zero, List.set_cons_succ]
      refine wpAnyH_takeD 11 (some 14) (v := ?_) rfl rfl (by kernel_rfl) (by kernel_rfl) (by kernel_rfl) (fun _ _ _ h => h) (Or.inl ⟨by rfl, ?_⟩) (by assumption) ?_
      rotate_left
      · (intro _w hSw; (try dsimp only at hSw); go_simp; try with_reducible rfl)
      try simp only [Act.put, List.setIfInBounds_toArray, List.set_cons_zero, List.set_cons_succ]
      refine wpAnyH_done (by kernel_rfl) ?_ _
      clear hSS hS0 HQ B9 z0 zf0 zs
      simp only [List.setIfInBounds_toArray, List.set_cons_zero] at B10
      go_wp2_with (at_builtin; refine wp_app_fn rfl _ _ rfl _ us ⟨153, #[.pointer (some ⟨bp, 0, none⟩), .pointer (some ⟨bz, 0, none⟩)]⟩ _ _ _ _ _ rfl rfl (alloc_at (by simp [World.setCell])) rfl (OR.alloc B10.out.r3 _) (B10.out.m.alloc _) (by omega) ?_)
      intro v11 W11 hO hM hg
      have B11 := Lib.hid ((B10.out.alloc _).up3.app (by simp [It.other]) hM hO hg)
      clear hO hM hg B10
      have zat := B11.out.o1.at_
      have z0 := cell_blk zat 0
      have zf0 := free_blk zat 0
      have zs := lt_of_block zat
      clear zat
      have xat := B11.out.o3.at_
      have x0 := cell_blk xat 0
      have x1 := cell_blk xat 1
      have xf0 := free_blk xat 0
      have xf1 := free_blk xat 1
      have xs := lt_of_block xat
      clear xat
      go_wp2_with (at_builtin; refine wp_app_swap rfl _ _ rfl _ out ⟨xc, xh, h7⟩ _ _ _ _ _ rfl rfl (alloc_new _ _) rfl (OR.alloc B11.out.r4 _) (B11.out.m.alloc _) (by omega) ?_)
      intro v12 W12 hO hM hg
      have B12 := Lib.hid ((B11.out.alloc _).up4.app (by simp [It.other]) hM hO hg)
      clear hO hM hg B11 z0 zf0 zs x0 x1 xf0 xf1 xs
      go_wp2
      go_roundg (gk - 1)
      case measure => omega
      case rel => exact ⟨J7, s7, i + 1, out ++ [⟨xc, xh, h7⟩], us ++ [⟨153, #[.pointer (some ⟨bp, 0, none⟩), .pointer (some ⟨bz, 0, none⟩)]⟩], by simp, by omega, by simp [ho], by simp [hu], HJ7, Lib.hid (B12.out.sub (by simp)), X8⟩
  · have h0 : List.drop i cs = [] := List.drop_eq_nil_of_le (by omega)
    rw [h0, List.map_nil, wLay_nil] at X0
    obtain ⟨K, B2, hle, hR⟩ := (B0.out.sub (jts := [.row 44 3 u9 out.length (out.flatMap encSwap)]) (by simp)).done (by simp)
    have HR := Lib.hid (show Swaps K u9 out from hR)
    obtain ⟨ua, un, uc, hu10⟩ := B0.out.r0.slice
    clear B0
    have B2 := Lib.hid B2
    subst hu10
    go_wp2
    try go_region
    all_goals
      try go_wp2
      refine bodyPost_ret (v := .tuple #[u9, .slice ua un uc, .int .i64 0]) (by simp [results, Tryz.results102, go_sem]) rfl ?_
      rw [x_done X0.out]
      exact Mg.post (J := K) (by repeat (first | with_reducible exact B2.out.m | with_reducible refine Mg.drewN ?_ _ | with_reducible refine Mg.drew ?_ | with_reducible refine Mg.alloc ?_ _ | refine Mg.seto ?_ (by repeat (first | with_reducible refine OwnOk.set ?_ _ _ | with_reducible refine OwnOk.alloc ?_ _ | with_reducible refine OwnOk.drew ?_ | with_reducible refine OwnOk.drewN ?_ _)) _)) ⟨_, _, _, _, rfl, HR.out⟩
end Go.Proofs.YtadaiihoclknmaaGreat
/- Write: rising. -/
namespace Go.Proofs.YtadaiihoclknmaaGreat
open Go.RowKit
set_option maxHeartbeats 4000000
set_option maxRecDepth 100000
set_option linter.unusedVariables false
set_option linter.unusedSimpArgs false
def eRisesL : List Entry → Bool
  | [] => true
  | [_] => true
  | x :: y :: t => if Op.bytesLess x.key.toList y.key.toList = true then eRisesL (y :: t) else false
def eRising (l s : List Entry) : Bool := eRisesL l && decide (eCheck l s = 0)
theorem eRisesL_at (l : List Entry) (j : Nat) (h : j + 1 < l.length) : eRisesL (l.drop j) = if Op.bytesLess l[j].key.toList l[j + 1].key.toList = true then eRisesL (l.drop (j + 1)) else false := by
  rw [List.drop_eq_getElem_cons (by omega : j < l.length), List.drop_eq_getElem_cons h]; rfl
theorem eRisesL_end (l : List Entry) (j : Nat) (h : l.length ≤ j + 1) : eRisesL (l.drop j) = true := by
  have hl : (l.drop j).length ≤ 1 := by rw [List.length_drop]; omega
  match l.drop j, hl with
  | [], _ => rfl
  | [_], _ => rfl
  | _ :: _ :: _, h => simp at h
theorem write_rising (w : World) (I : IHeap) (hI : Held I w) (l : List Entry) (lv : Value) (hl : Entries I lv l) (hb : l.length ≤ 1) :
    Calls Tryz.prog 101 #[lv] w (PPost w I fun J v => ∃ s, SortOf l s ∧ v = .bool (eRising l s)) := by
  obtain ⟨la, lc, rfl, hc1, hc2, _⟩ := hl.form
  have M0 := Lib.hid (Pg.start hI)
  have HK := fun w hI => Lib.hid (batch_Check w I hI l _ hl hb)
  have HL := Lib.hid hl
  have hlm : l.length ≤ maxLen := Nat.le_trans hc1 hc2
  unfold maxLen at hlm
  obtain ⟨G, hG⟩ : ∃ G, G = eRisesL l := ⟨_, rfl⟩
  have HR := Lib.hid (show ∀ s, eRising l s = (G && decide (eCheck l s = 0)) from fun s => by rw [hG]; rfl)
  have X0 := Lib.hid (show G = eRisesL (l.drop 0) from hG)
  clear hl hI hG hb
  go_enter Tryz.func101, Tryz.ntmps101
  go_wp2_with fail
  go_loopg [3] l.length (fun g iv W => ∃ (j : Nat), iv = .int .i64 (j + 1 : Nat) ∧ l.length ≤ j + g ∧ j ≤ l.length ∧ Hid (Pg w I I W) ∧ Hid (G = eRisesL (l.drop j)))
  case atStart => exact ⟨0, rfl, by omega, by omega, M0, X0⟩
  case round =>
  clear M0 X0
  obtain ⟨j, rfl, hj, hj2, M0, X0⟩ := hrel
  by_cases hlt : j + 1 < l.length
  · have hd1 : decide (((j + 1 : Nat) : Int) < l.length) = true := decide_eq_true (by omega)
    obtain ⟨kb, koff, rfl, _, c0, _, _, s0⟩ := entries_at M0.out.held HL.out (show j < l.length by omega)
    obtain ⟨kb', koff', hkb, _, d0, _⟩ := entries_at M0.out.held HL.out hlt
    injection hkb with hkb
    injection hkb with hb1 hb2
    subst hb1 hb2
    have X1 := Lib.hid (X0.out.trans (eRisesL_at l j hlt))
    generalize l[j].key = x at c0 X1
    generalize l[j + 1].key = y at d0 X1
    have hw3 : IntKind.i64.wrap (j : Int) = j := by rw [IntKind.wrap_i64]; omega
    have hj0 : (0 : Int) ≤ j := by omega
    have hj2 : (0 : Int) ≤ (j : Int) + 1 := by omega
    have hj1 : (j : Int) < l.length := by omega
    go_wp2_with fail
    refine wp_region_held_drew (S := fun W' => W'.cell? ⟨kb, koff + j * 3, none⟩ = some (.string x) ∧ W'.cell? ⟨kb, koff + (j + 1) * 3, none⟩ = some (.string y)) (by kernel_rfl) ⟨c0, d0⟩ (fun hS0 => ?_)
    refine wpAnyH_takeD 0 (some 10) (v := ?_) rfl rfl (by kernel_rfl) (by kernel_rfl) (by kernel_rfl) (fun _ _ _ h => h) (Or.inl ⟨by rfl, ?_⟩) (by assumption) ?_
    rotate_left
    · (intro _w hSw; (try dsimp only at hSw); go_simp; try with_reducible rfl)
    try simp only [Act.put, List.setIfInBounds_toArray, List.set_cons_zero, List.set_cons_succ]
    refine wpAnyH_takeD 1 (some 11) (v := ?_) rfl rfl (by kernel_rfl) (by kernel_rfl) (by kernel_rfl) (fun _ _ _ h => h) (Or.inl ⟨by rfl, ?_⟩) (by assumption) ?_
    rotate_left
    · (intro _w hSw; (try dsimp only at hSw); go_simp; try with_reducible rfl)
    try simp only [Act.put, List.setIfInBounds_toArray, List.set_cons_zero, List.set_cons_succ]
    refine wpAnyH_takeD 2 (some 12) (v := ?_) rfl rfl (by kernel_rfl) (by kernel_rfl) (by kernel_rfl) (fun _ _ _ h => h) (Or.inl ⟨by rfl, ?_⟩) (by assumption) ?_
    rotate_left
    · (intro _w hSw; (try dsimp only at hSw); go_simp; try with_reducible rfl)
    try simp only [Act.put, List.setIfInBounds_toArray, List.set_cons_zero, List.set_cons_succ]
    refine wpAnyH_takeD 3 (some 13) (v := ?_) rfl rfl (by kernel_rfl) (by kernel_rfl) (by kernel_rfl) (fun _ _ _ h => h) (Or.inl ⟨by rfl, ?_⟩) (by assumption) ?_
    rotate_left
    · (intro _w hSw; (try dsimp only at hSw); go_simp; try with_reducible rfl)
    try simp only [Act.put, List.setIfInBounds_toArray, List.set_cons_zero, List.set_cons_succ]
    refine wpAnyH_takeD 4 (some 14) (v := ?_) rfl rfl (by kernel_rfl) (by kernel_rfl) (by kernel_rfl) (fun _ _ _ h => h) (Or.inl ⟨by rfl, ?_⟩) (by assumption) ?_
    rotate_left
    · (intro _w hSw; (try dsimp only at hSw); go_simp; try with_reducible rfl)
    try simp only [Act.put, List.setIfInBounds_toArray, List.set_cons_zero, List.set_cons_succ]
    refine wpAnyH_takeD 5 (some 15) (v := ?_) rfl rfl (by kernel_rfl) (by kernel_rfl) (by kernel_rfl) (fun _ _ _ h => h) (Or.inl ⟨by rfl, ?_⟩) (by assumption) ?_
    rotate_left
    · (intro _w hSw; (try dsimp only at hSw); go_simp; try with_reducible rfl)
    try simp only [Act.put, List.setIfInBounds_toArray, List.set_cons_zero, List.set_cons_succ]
    refine wpAnyH_takeD 6 (some 16) (v := ?_) rfl rfl (by kernel_rfl) (by kernel_rfl) (by kernel_rfl) (fun _ _ _ h => h) (Or.inl ⟨by rfl, ?_⟩) (by assumption) ?_
    rotate_left
    · (intro _w hSw; (try dsimp only at hSw); go_simp; try with_reducible rfl)
    try simp only [Act.put, List.setIfInBounds_toArray, List.set_cons_zero, List.set_cons_succ]
    refine wpAnyH_takeD 7 (some 17) (v := ?_) rfl rfl (by kernel_rfl) (by kernel_rfl) (by kernel_rfl) (fun _ _ _ h => h) (Or.inl ⟨by rfl, ?_⟩) (by assumption) ?_
    rotate_left
    · (intro _w hSw; (try dsimp only at hSw); go_simp; try with_reducible rfl)
    try simp only [Act.put, List.setIfInBounds_toArray, List.set_cons_zero, List.set_cons_succ]
    refine wpAnyH_takeD 8 (some 18) (v := ?_) rfl rfl (by kernel_rfl) (by kernel_rfl) (by kernel_rfl) (fun _ _ _ h => h) (Or.inl ⟨by rfl, ?_⟩) (by assumption) ?_
    rotate_left
    · (intro _w hSw; (try dsimp only at hSw); go_simp; try with_reducible rfl)
    try simp only [Act.put, List.setIfInBounds_toArray, List.set_cons_zero, List.set_cons_succ]
    refine wpAnyH_takeD 9 (some 19) (v := ?_) rfl rfl (by kernel_rfl) (by kernel_rfl) (by kernel_rfl) (fun _ _ _ h => h) (Or.inl ⟨by rfl, ?_⟩) (by assumption) ?_
    rotate_left
    · (intro _w hSw; (try dsimp only at hSw); go_simp; try with_reducible rfl)
    try simp only [Act.put, List.setIfInBounds_toArray, List.set_cons_zero, List.set_cons_succ]
    refine wpAnyH_takeD 10 (some 20) (v := ?_) rfl rfl (by kernel_rfl) (by kernel_rfl) (by kernel_rfl) (fun _ _ _ h => h) (Or.inl ⟨by rfl, ?_⟩) (by assumption) ?_
    rotate_left
    · (intro _w hSw; (try dsimp only at hSw); go_simp; try with_reducible rfl)
    try simp only [Act.put, List.setIfInBounds_toArray, List.set_cons_zero, List.set_cons_succ]
    refine wpAnyH_takeD 11 (some 21) (v := ?_) rfl rfl (by kernel_rfl) (by kernel_rfl) (by kernel_rfl) (fun _ _ _ h => h) (Or.inl ⟨by rfl, ?_⟩) (by assumption) ?_
    rotate_left
    · (intro _w hSw; (try dsimp only at hSw); go_simp; try with_reducible rfl)
    try simp only [Act.put, List.setIfInBounds_toArray, List.set_cons_zero, List.set_cons_succ]
    refine wpAnyH_done (by kernel_rfl) ?_ _
    clear hS0 c0 d0
    cases hq : Op.bytesLess x.toList y.toList with
    | true =>
      have X2 := Lib.hid (X1.out.trans (if_pos hq))
      go_wp2
      go_roundg (gk - 1)
      case measure => omega
      case rel => exact ⟨j + 1, by simp, by omega, by omega, Lib.hid M0.out.drew, X2⟩
    | false =>
      have X2 := Lib.hid (X1.out.trans (if_neg (by rw [hq]; decide)))
      go_wp2
      go_ret
      exact ⟨I, _, rfl, M0.out.drew, l, ⟨rfl, fun _ => rfl⟩, by rw [HR.out, X2.out]; rfl⟩
  · have hd1 : decide (((j + 1 : Nat) : Int) < l.length) = false := decide_eq_false (by omega)
    have X2 := Lib.hid (X0.out.trans (eRisesL_end l j (by omega)))
    go_wp2_with (go_at_call 99; refine (HK _ M0.out.held).out.mono ?_; rintro e W1 ⟨J, v, rfl, hM, s, hs, rfl⟩)
    go_ret
    refine ⟨J, _, rfl, M0.out.trans hM, s, hs, ?_⟩
    rw [HR.out, X2.out]
    show Value.bool (eCheck l s == 0) = _
    rw [Bool.true_and]
    congr 1
end Go.Proofs.YtadaiihoclknmaaGreat
