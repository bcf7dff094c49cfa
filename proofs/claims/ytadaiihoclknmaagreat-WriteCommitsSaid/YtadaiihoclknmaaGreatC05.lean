/- Part 5 of the proof: Port2, Port3. -/
import Derived.Test.YtadaiihoclknmaaGreatC04
import Derived.Deep.RegionHeld3
/- The port: ask, in a machine: what memory answers is logged. -/
namespace Go.Proofs.YtadaiihoclknmaaGreat
open Go.RowKit
set_option maxHeartbeats 2000000
set_option maxRecDepth 100000
set_option linter.unusedVariables false
set_option linter.unusedSimpArgs false

section
variable {P : Program} {ops : Array Oper} {o : Oper} {a : Act} {Q : Exit → Act → World → Prop} {K : Act → World → Prop}
/-- Elements are appended to a row of the call's own, as one step of a region that draws its order. -/
theorem step_append1 {W : World} {E : Prop} (hg : o.guard = none) (s x : Operand) (t e : TypeId) (z : Value) (size bytes base : Nat)
    (ho : o.op = .call { callee := .builtin .append, args := #[s, x], argTypes := #[t, t] })
    (ht : P.underlying t = some (.slice e)) (hinfo : (P.info? e).map (fun i => (i.zero, i.size, i.bytes)) = some (some z, size, bytes)) (hz : z.cells.size = size) (hs0 : 0 < size) (hb0 : 0 < bytes)
    (v : Value) (n m c : Nat) (ad : Addr) (xs ys : List Value) (hs : a.eval s = v) (hx : a.eval x = .slice (some ad) m c) (hys : ys.length = m * size) (hnews : ∀ j u, ys[j]? = some u → W.cell? (ad.add j) = some u) (h1 : ∀ u ∈ ys, u.oneCell' = true)
    (HO : W.ownsRow base e size v n xs) (hbase : base ≤ W.heap.size) (hl : (n + m) * bytes ≤ 140737488355328)
    (h : ∀ v1 w1, w1.ownsRow base e size v1 (n + m) (xs ++ ys) → W.grownBy w1 v.ownBlock → (v1.ownBlock = v.ownBlock ∨ ∃ b, v1.ownBlock = some b ∧ W.heap.size ≤ b) → K (a.put o.dst v1) w1) :
    if Region.wanted o (yielded ops a.tmps) = true then Oper.wp P o a W K Q else E := by
  obtain ⟨i0, hi, hzz⟩ := Option.map_eq_some_iff.1 hinfo
  simp only [Prod.mk.injEq] at hzz
  obtain ⟨hz0, hz1, hz2⟩ := hzz
  have hw : Region.wanted o (yielded ops a.tmps) = true := by simp [Region.wanted, hg]
  have hlen : n + m ≤ 140737488355328 := Nat.le_trans (Nat.le_mul_of_pos_right _ hb0) hl
  rw [if_pos hw]
  obtain ⟨v1, w1, hr, hown, hgr, _, hat⟩ := run_append_own_at (P := P) W base t o.type e i0 z size bytes ht hi hz0 hz1 hz2 hz hs0 v n xs HO ad m c ys hys hnews h1 (by simp only [maxLen]; omega) hl hbase
  unfold Oper.wp execOp
  simp only [ho, resolve, invoke, builtin, Sem.run_bind, Sem.run_pure, Result.andThen_ok, List.map_toArray, List.map_cons, List.map_nil, hs, hx, hr]
  refine h v1 w1 hown hgr ?_
  rcases hat with hat | hat
  · exact .inl hat
  · exact .inr ⟨_, hat, Nat.le_refl _⟩
end
theorem news_blk {w : World} {b : Nat} {cs : List Value} {t : TypeId} {fr : Nat × Nat} (h : w.heap[b]? = some (.cells cs.toArray t fr)) : ∀ j u, cs[j]? = some u → w.cell? ((⟨b, 0, none⟩ : Addr).add j) = some u := by
  intro j u hu
  have : (⟨b, 0, none⟩ : Addr).add j = ⟨b, j, none⟩ := by unfold Addr.add; split <;> simp_all
  rw [this, cell_blk h]
  simpa using hu
theorem info_ans : (Tryz.prog.info? 154).map (fun i => (i.zero, i.size, i.bytes)) = some (some (.agg #[.nilIface, .int .i64 0, .bool false, .int .i64 0]), 4, 40) := by kernel_rfl

/-- In the midst of a call whose answer has been logged. -/
structure MidL (w : World) (L : Loc) (I : IHeap) (s : PS) (W : World) (B : Nat) : Prop where
  st : St W L I s
  kept : Kept (SS L w) w W
  ss : ∀ k, SS L W k → SS L w k ∨ B ≤ k
  lo : ∀ k, SS L w k → k < w.heap.size
  lI : ∀ k, I k ≠ none → k < w.heap.size
  lt : w.heap.size ≤ B
theorem MidL.set {w W : World} {L : Loc} {I : IHeap} {s : PS} {B : Nat} (h : MidL w L I s W B) {a : Addr} (ha : w.heap.size ≤ a.block) (hb : a.block < B) (u : Value) : MidL w L I s (W.setCell a u) B := by
  have hk : Kept (fun k => k = a.block) W (W.setCell a u) := Kept.setCell (S := fun k => k = a.block) (Kept.refl _ _) (fun _ => rfl) u
  have h1 : ∀ k, SS L W k → ¬ k = a.block := fun k x e => by
    subst e
    rcases h.ss _ x with y | y
    · have := h.lo _ y; omega
    · omega
  refine ⟨h.st.kept hk h1 (fun k o hI e => ?_), h.kept.setCell (fun hl => by omega) u, fun k x => ?_, h.lo, h.lI, h.lt⟩
  · have := h.lI k (by rw [hI]; simp); omega
  · refine h.ss k ?_
    obtain ⟨lv, hp, _⟩ := h.st.port
    have e : logBlk (W.setCell a u) L.p = logBlk W L.p := by
      unfold logBlk; rw [cell_blk hp, cell_blk (hk.obj hp (h1 _ (.inl rfl)))]
    unfold SS at x ⊢
    rw [e] at x
    exact x
theorem MidL.drew {w W : World} {L : Loc} {I : IHeap} {s : PS} {B : Nat} (h : MidL w L I s W B) : MidL w L I s W.drew B :=
  ⟨h.st.drew, h.kept.drew, fun k x => h.ss k ((New.ss h.st ((Kept.refl _ _).drew) k).1 x), h.lo, h.lI, h.lt⟩
theorem MidL.port {w W : World} {L : Loc} {I : IHeap} {s s' : PS} {B : Nat} (h : MidL w L I s W B) (j : Nat) (hj : j ≠ 1) (u : Value) (hm : s'.mem = s.mem) (hl : s'.log = s.log) (hle : s'.at_ ≤ s'.log.length)
    (hu : ∀ lv, (#[.pointer (some ⟨L.m, 0, none⟩), lv, .int .i64 s.at_, .int .i64 s.left, .int .i64 s.note] : Array Value).setIfInBounds j u = #[.pointer (some ⟨L.m, 0, none⟩), lv, .int .i64 s'.at_, .int .i64 s'.left, .int .i64 s'.note]) :
    MidL w L I s' (W.setCell ⟨L.p, j, none⟩ u) B := by
  refine ⟨h.st.setPort j u hm hl hle hu, h.kept.setCell (p := ⟨L.p, j, none⟩) (fun _ => .inl rfl) u, fun q x => ?_, h.lo, h.lI, h.lt⟩
  obtain ⟨lv, hp⟩ := h.st.port
  refine h.ss q ?_
  unfold SS at x ⊢
  rw [logBlk_set hp j hj] at x
  exact x
theorem MidL.post {α : Type} {w W : World} {L : Loc} {I : IHeap} {s : PS} {B : Nat} (h : MidL w L I s W B) {R : IHeap → Value → α → Prop} {v : Value} {a : α} (hR : R I v a) : Post L w I (.ret a, s) R (.returned v) W :=
  ⟨I, Grow.refl _ _, ⟨h.kept, fun k x => (h.ss k x).imp id (fun y => Nat.le_trans h.lt y)⟩, h.st, .inl ⟨a, v, rfl, rfl, hR⟩⟩
/-- An answer is logged. -/
theorem Mid.logged {w W W1 : World} {L : Loc} {I : IHeap} {s : PS} (h : Mid w L I s W) {lv v1 : Value} {xs ys : List Value} {a : Ans} (hlv : W.cell? ⟨L.p, 1, none⟩ = some lv)
    (hR : ∀ i x, s.log[i]? = some x → AnsR I ((xs.drop (i * 4)).take 4) x) (hxs : xs.length = s.log.length * 4) (hys : AnsR I ys a) (hown : W1.ownsRow 0 154 4 v1 (s.log.length + 1) (xs ++ ys)) (hg : W.grownBy W1 lv.ownBlock)
    (hat : v1.ownBlock = lv.ownBlock ∨ ∃ b, v1.ownBlock = some b ∧ W.heap.size ≤ b) :
    MidL w L I { s with log := s.log ++ [a] } (W1.setCell ⟨L.p, 1, none⟩ v1) W.heap.size := by
  obtain ⟨lv', hp, hl, hle⟩ := h.st.port
  obtain rfl : lv' = lv := by rw [cell_blk hp] at hlv; simpa using hlv
  have hlb : logBlk W L.p = lv'.ownBlock := by unfold logBlk; rw [cell_blk hp]; rfl
  obtain ⟨cur, hc, _⟩ := h.st.mem.arr
  -- the log's block is none of the others
  have hne : ∀ k o t cs fr, W.heap[k]? = some o → o = .cells cs t fr → t ≠ 154 → lv'.ownBlock ≠ some k := by
    intro k o t cs fr hk ho ht e
    obtain ⟨xs', hown', _⟩ := hl
    rcases hown'.2 with ⟨rfl, _⟩ | ⟨g, cap, cur', rfl, _, hh, _⟩
    · simp [Value.ownBlock] at e
    · simp [Value.ownBlock] at e; subst e; rw [hh] at hk; injection hk with hk; rw [← hk] at ho; injection ho with _ ho; exact ht ho.symm
  have hpn := hne _ _ _ _ _ hp rfl (by decide)
  have hmn := hne _ _ _ _ _ h.st.mem.hd rfl (by decide)
  have hcn := hne _ _ _ _ _ hc rfl (by decide)
  have hk1 : Kept (fun k => lv'.ownBlock = some k) W W1 := Kept.grown (S := fun k => lv'.ownBlock = some k) (Kept.refl _ _) hg (fun k e _ => e)
  have hp1 := hk1.obj hp hpn
  have hIn : ∀ k o, I k = some o → ¬ lv'.ownBlock = some k := fun k o hI e => h.st.imm_not hI (.inr (.inr (.inr (hlb.trans e))))
  have hm1 := h.st.mem.kept hk1 hmn hcn
  have npm : L.m ≠ L.p := by intro e; have := h.st.mem.hd; rw [e, hp] at this; simp at this
  have npc : L.cb ≠ L.p := by intro e; rw [e, hp] at hc; simp at hc
  have hlb1 : logBlk (W1.setCell ⟨L.p, 1, none⟩ v1) L.p = v1.ownBlock := by
    unfold logBlk; rw [cell_blk (set_blk hp1 1 v1)]; simp
  have v1p : v1.ownBlock ≠ some L.p := by
    intro e
    rcases hown.2 with ⟨rfl, _⟩ | ⟨g, cap, cur', rfl, _, hh, _⟩
    · simp [Value.ownBlock] at e
    · simp [Value.ownBlock] at e; subst e; rw [hh] at hp1; simp at hp1
  refine ⟨⟨⟨fun k o hI => set_far (hk1.obj (h.st.held.at_ _ _ hI) (hIn k o hI)) (fun e => h.st.imm_not hI (.inl e)) _, h.st.held.imm⟩, hm1.far npm npc _, v1, ?_, ⟨xs ++ ys, ?_, ?_⟩, ?_⟩, ?_, ?_, h.lo, h.lI, h.kept.size⟩
  · rw [set_blk hp1]; rfl
  · simpa using ownsRow_setCell_other hown v1p v1
  · intro i x hx
    rcases Nat.lt_or_ge i s.log.length with hi | hi
    · rw [List.getElem?_append_left hi] at hx
      have := hR i x hx
      rw [List.drop_append_of_le_length (by omega), List.take_append_of_le_length (by rw [List.length_drop]; omega)]
      exact this
    · rw [List.getElem?_append_right hi] at hx
      have e0 : i = s.log.length := by
        have := (List.getElem?_eq_some_iff.1 hx).1; simp at this; omega
      subst e0
      simp at hx
      subst hx
      rw [← hxs, List.drop_left]
      obtain ⟨b, hb, hv⟩ := hys
      exact ⟨b, by rw [hb]; rfl, hv⟩
  · show s.at_ ≤ (s.log ++ [a]).length
    simp; omega
  · refine (h.kept.trans (hk1.mono fun k _ e => h.ss k (.inr (.inr (.inr (hlb.trans e)))))).setCell (fun _ => .inl rfl) _
  · intro k x
    rcases x with x | x | x | x
    · exact .inl (.inl x)
    · exact .inl (.inr (.inl x))
    · exact .inl (.inr (.inr (.inl x)))
    · rw [hlb1] at x
      rcases hat with e | ⟨b, e, hb⟩
      · exact .inl (h.ss k (.inr (.inr (.inr (by rw [hlb, ← e, x])))))
      · rw [e] at x; injection x with x; exact .inr (x ▸ hb)

theorem ask_logs (w : World) (L : Loc) (I : IHeap) (s : PS) (hst : St w L I s) (q : Q) (fd : FuncId) (caps : Array Value) (hf : ∀ W, (callFunc fd caps).run Tryz.prog W = .ok (.enter fd caps) W) (hdo : Asks L q fd caps w I s) (ha : s.log[s.at_]? = none) (h0 : 0 < s.left) (hlim : s.log.length < logLim) :
    Calls Tryz.prog 84 #[.pointer (some ⟨L.p, 0, none⟩), .func (.func fd) #[] caps] w (Post L w I (.ret (s.mem.ask q).1, { s with mem := (s.mem.ask q).2, left := wrap64 (s.left - 1), log := s.log ++ [(s.mem.ask q).1], at_ := s.at_ + 1 }) AnsV) := by
  have hle : s.log.length ≤ s.at_ := by simpa using ha
  obtain ⟨lv, hp⟩ := hst.port
  obtain ⟨c0, c1, c2, c3, c4⟩ := port_hd hp
  obtain ⟨A, cap, rfl⟩ := log_form hp.log
  have t1 : decide (s.at_ < s.log.length) = false := by simp; omega
  have hmax : s.at_ < 9223372036854775807 := by have := hp.le; unfold logLim at hlim; omega
  have t2 : (s.left == 0) = false := by simp; omega
  have t3 : decide (0 < s.left) = true := by simp; omega
  have hlp : L.p < w.heap.size := lt_of_block hp.hd
  have H1 := Lib.hid hst
  have HD := Lib.hid hdo
  clear hst hp ha h0 hle hdo
  go_enter Tryz.func84, Tryz.ntmps84
  go_wp2
  go_quiet (fail)
  go_wp2_with fail
  refine (HD.out _ (((Kept.refl _ _).alloc _).drewN _)).mono ?_
  rintro e w2 ⟨b, hb, rfl, hM, hK⟩
  have H2 := Lib.hid ((((Mid.start H1.out).alloc _).drewN _).mem hM hK)
  have HB := Lib.hid hb
  have HE := Lib.hid (blk_one hb)
  obtain ⟨lv2, hp2⟩ := H2.out.st.port
  obtain ⟨A2, cap2, rfl⟩ := log_form hp2.log
  obtain ⟨e0, e1, e2, e3, e4⟩ := port_hd hp2
  have p1 := port_free hp2 1
  have p2 := port_free hp2 2
  have p3 := port_free hp2 3
  have hle2 := hp2.le
  obtain ⟨xs, hown, hR⟩ := hp2.log
  have HO := Lib.hid hown
  have HR := Lib.hid hR
  clear hown hR
  have hres : w2.heap[w.heap.size]? = some (.cells #[.nilIface, .int .i64 0, .bool false, .int .i64 0] 154 (0, 0)) :=
    (hK.obj (alloc_new w _) (by
      have h1 := H1.out.lo _ (.inr (.inl rfl)); have h2 := H1.out.lo _ (.inr (.inr (.inl rfl)))
      rintro (e | e) <;> omega))
  have hs : w.heap.size < w2.heap.size := lt_of_block hres
  have hs2 : L.p < w2.heap.size := by omega
  have r0 := cell_blk hres 0
  have r1 := cell_blk hres 1
  have r2 := cell_blk hres 2
  have r3 := cell_blk hres 3
  have q0 := free_blk hres 0
  have q1 := free_blk hres 1
  have q2 := free_blk hres 2
  have q3 := free_blk hres 3
  clear hb hM hK
  have HL := Lib.hid hlim
  have HP2 := Lib.hid hp2.hd
  have HLE := Lib.hid hp2.le
  have HRS := Lib.hid hres
  clear hlim hp2 hres
  have hmw : ∀ (y : Value) (hy : BlkV I y (s.mem.ask q).1.b) (v1 : Value) (w1 : World),
      w1.ownsRow 0 154 4 v1 (s.log.length + 1) (xs ++ [y, .int .i64 (s.mem.ask q).1.n, .bool (s.mem.ask q).1.ok, .int .i64 (s.mem.ask q).1.e]) →
      (((w2.setCell ⟨L.p, 3, none⟩ (.int .i64 (wrap64 (s.left - 1)))).alloc (.cells #[y, .int .i64 (s.mem.ask q).1.n, .bool (s.mem.ask q).1.ok, .int .i64 (s.mem.ask q).1.e] 154)).alloc (.cells #[y, .int .i64 (s.mem.ask q).1.n, .bool (s.mem.ask q).1.ok, .int .i64 (s.mem.ask q).1.e] 154)).drew.grownBy w1 (Value.slice A2 s.log.length cap2).ownBlock →
      (v1.ownBlock = (Value.slice A2 s.log.length cap2).ownBlock ∨ ∃ b, v1.ownBlock = some b ∧ w2.heap.size + 1 + 1 ≤ b) →
      Hid (MidL w L I { s with mem := (s.mem.ask q).2, left := wrap64 (s.left - 1), log := s.log ++ [(s.mem.ask q).1] } (w1.setCell ⟨L.p, 1, none⟩ v1) (w2.heap.size + 1 + 1)) ∧
      (∃ A3 c3, v1 = .slice A3 (s.log.length + 1) c3) ∧ w2.heap.size + 1 + 1 ≤ w1.heap.size ∧
      w1.heap[L.p]? = some (.cells #[.pointer (some ⟨L.m, 0, none⟩), .slice A2 s.log.length cap2, .int .i64 s.at_, .int .i64 (wrap64 (s.left - 1)), .int .i64 s.note] 152 (0, 0)) ∧
      w1.heap[w2.heap.size]? = some (.cells #[y, .int .i64 (s.mem.ask q).1.n, .bool (s.mem.ask q).1.ok, .int .i64 (s.mem.ask q).1.e] 154 (0, 0)) ∧
      w1.heap[w.heap.size]? = some (.cells #[.nilIface, .int .i64 0, .bool false, .int .i64 0] 154 (0, 0)) := by
    intro y hy v1 w1 hown hg hat
    have hpt := H2.out.port (s' := { s with mem := (s.mem.ask q).2, left := wrap64 (s.left - 1) }) 3 (by decide) (.int .i64 (wrap64 (s.left - 1))) rfl rfl HLE.out (fun lv => rfl)
    have hM := ((hpt.alloc (.cells #[y, .int .i64 (s.mem.ask q).1.n, .bool (s.mem.ask q).1.ok, .int .i64 (s.mem.ask q).1.e] 154)).alloc (.cells #[y, .int .i64 (s.mem.ask q).1.n, .bool (s.mem.ask q).1.ok, .int .i64 (s.mem.ask q).1.e] 154)).drew
    have hpW : (((w2.setCell ⟨L.p, 3, none⟩ (.int .i64 (wrap64 (s.left - 1)))).alloc (.cells #[y, .int .i64 (s.mem.ask q).1.n, .bool (s.mem.ask q).1.ok, .int .i64 (s.mem.ask q).1.e] 154)).alloc (.cells #[y, .int .i64 (s.mem.ask q).1.n, .bool (s.mem.ask q).1.ok, .int .i64 (s.mem.ask q).1.e] 154)).drew.heap[L.p]? = some (.cells #[.pointer (some ⟨L.m, 0, none⟩), .slice A2 s.log.length cap2, .int .i64 s.at_, .int .i64 (wrap64 (s.left - 1)), .int .i64 s.note] 152 (0, 0)) :=
      alloc_old (alloc_old (by rw [set_blk HP2.out]; rfl))
    have hxs : xs.length = s.log.length * 4 := HO.out.1
    have hlg := hM.logged (by rw [cell_blk hpW]; rfl) HR.out hxs ⟨y, rfl, hy⟩ hown hg (by
      rcases hat with h | ⟨b, h1, h2⟩
      · exact .inl h
      · exact .inr ⟨b, h1, by simpa using h2⟩)
    have hneq : ∀ k, k < w2.heap.size + 1 + 1 → w2.heap.size ≤ k ∨ k = L.p ∨ k = w.heap.size → some k ≠ (Value.slice A2 s.log.length cap2).ownBlock := by
      intro k _ hk e
      have hlb : logBlk w2 L.p = some k := by unfold logBlk; rw [cell_blk HP2.out]; exact e.symm
      have h1 := H2.out.ss k (.inr (.inr (.inr hlb)))
      have h2 := H1.out.lo k h1
      rcases hk with hk | hk | hk
      · omega
      · subst hk
        obtain ⟨cs, t, fr, h3, h4⟩ := H2.out.st.ss_type (.inr (.inr (.inr hlb)))
        rcases HO.out.2 with ⟨h5, _⟩ | ⟨g, cap, cur', h5, _, hh, _⟩
        · rw [h5] at e; simp [Value.ownBlock] at e
        · rw [h5] at e; simp [Value.ownBlock] at e; subst e; have := HP2.out; rw [hh] at this; simp at this
      · omega
    refine ⟨by simpa [Hid] using hlg, ?_, by simpa using hg.size, ?_, ?_, ?_⟩
    · rcases hown.2 with ⟨h, h0⟩ | ⟨g, cap, cur, h, _⟩
      · omega
      · exact ⟨_, _, h⟩
    · rw [hg.block L.p (by simp; omega) (hneq _ (by omega) (.inr (.inl rfl)))]; exact hpW
    · rw [hg.block w2.heap.size (by simp; omega) (hneq _ (by omega) (.inl (Nat.le_refl _)))]
      have h1 := alloc_new (w2.setCell ⟨L.p, 3, none⟩ (.int .i64 (wrap64 (s.left - 1)))) (.cells #[y, .int .i64 (s.mem.ask q).1.n, .bool (s.mem.ask q).1.ok, .int .i64 (s.mem.ask q).1.e] 154)
      exact alloc_old (by simpa using h1)
    · rw [hg.block w.heap.size (by simp; omega) (hneq _ (by omega) (.inr (.inr rfl)))]
      exact alloc_old (alloc_old (set_far HRS.out (by intro e; have := H1.out.lo _ (.inl e); omega) _))
  have HNE : Hid ((Value.slice A2 s.log.length cap2).ownBlock ≠ some L.p) := by
    intro e
    rcases HO.out.2 with ⟨h5, _⟩ | ⟨g, cap, cur', h5, _, hh, _⟩
    · rw [h5] at e; simp [Value.ownBlock] at e
    · rw [h5] at e; simp [Value.ownBlock] at e; subst e; have := HP2.out; rw [hh] at this; simp at this
  have HNW : Hid (∀ y : Value, (((w2.setCell ⟨L.p, 3, none⟩ (.int .i64 (wrap64 (s.left - 1)))).alloc (.cells #[y, .int .i64 (s.mem.ask q).1.n, .bool (s.mem.ask q).1.ok, .int .i64 (s.mem.ask q).1.e] 154)).alloc (.cells #[y, .int .i64 (s.mem.ask q).1.n, .bool (s.mem.ask q).1.ok, .int .i64 (s.mem.ask q).1.e] 154)).drew.heap[w2.heap.size + 1]? = some (.cells [y, .int .i64 (s.mem.ask q).1.n, .bool (s.mem.ask q).1.ok, .int .i64 (s.mem.ask q).1.e].toArray 154 (0, 0))) := by
    intro y
    have h1 := alloc_new ((w2.setCell ⟨L.p, 3, none⟩ (.int .i64 (wrap64 (s.left - 1)))).alloc (.cells #[y, .int .i64 (s.mem.ask q).1.n, .bool (s.mem.ask q).1.ok, .int .i64 (s.mem.ask q).1.e] 154)) (.cells #[y, .int .i64 (s.mem.ask q).1.n, .bool (s.mem.ask q).1.ok, .int .i64 (s.mem.ask q).1.e] 154)
    rw [show ((w2.setCell ⟨L.p, 3, none⟩ (.int .i64 (wrap64 (s.left - 1)))).alloc (.cells #[y, .int .i64 (s.mem.ask q).1.n, .bool (s.mem.ask q).1.ok, .int .i64 (s.mem.ask q).1.e] 154)).heap.size = w2.heap.size + 1 by simp] at h1
    exact h1
  have HMW := Lib.hid hmw
  clear hmw
  rcases HE.out with ⟨u, x, rfl⟩ | rfl
  · clear HE
    go_wp2
    go_region_law (refine step_append1 rfl (.tmp 59) (.tmp 61) 150 154 (.agg #[.nilIface, .int .i64 0, .bool false, .int .i64 0]) 4 40 0 rfl Tryz.underlying150 info_ans rfl (by decide) (by decide) (.slice A2 s.log.length cap2) s.log.length 1 1 ⟨w2.heap.size + 1, 0, none⟩ xs [.iface u x, .int .i64 (s.mem.ask q).1.n, .bool (s.mem.ask q).1.ok, .int .i64 (s.mem.ask q).1.e] rfl ?hx rfl ?hn ?h1 ?HO (Nat.zero_le _) ?hl ?_; (case hx => simp [Act.eval, Act.put]); (case h1 => intro y hy; simp at hy; rcases hy with rfl | rfl | rfl | rfl <;> rfl); (case HO => exact ((ownsRow_setCell_other HO.out HNE.out _).alloc _).alloc _); (case hl => have := HL.out; unfold logLim at this; omega); (case hn => exact news_blk (HNW.out _)); intro v1 w1 hown1 hgr1 hat1; obtain ⟨HG, ⟨A3, c9, rfl⟩, hsz, z1, z2, z3⟩ := HMW.out _ HB.out v1 w1 hown1 hgr1 (by simpa using hat1); have y1 := cell_blk z1 1; have y2 := cell_blk z1 2; have v0 := free_blk z1 1; have v2 := free_blk z1 2; have u0 := cell_blk z2 0; have u1 := cell_blk z2 1; have u2 := cell_blk z2 2; have u3 := cell_blk z2 3; have s0 := free_blk z3 0; have s1 := free_blk z3 1; have s2 := free_blk z3 2; have s3 := free_blk z3 3; have j0 := cell_blk z3 0; have j1 := cell_blk z3 1; have j2 := cell_blk z3 2; have j3 := cell_blk z3 3; clear hown1 hgr1 hat1 z1 z2 z3)
    all_goals
      go_wp2
      refine bodyPost_ret (v := .agg #[.iface u x, .int .i64 (s.mem.ask q).1.n, .bool (s.mem.ask q).1.ok, .int .i64 (s.mem.ask q).1.e]) (by simp [results, Tryz.results84, go_sem, j0, j1, j2, j3]) rfl ?_
      refine MidL.post (B := w2.heap.size + 1 + 1) ?_ ⟨_, rfl, HB.out⟩
      repeat (refine MidL.set ?_ (Nat.le_refl _) (by show w.heap.size < _; omega) _)
      exact HG.out.port (s' := { s with mem := (s.mem.ask q).2, left := wrap64 (s.left - 1), log := s.log ++ [(s.mem.ask q).1], at_ := s.at_ + 1 }) 2 (by decide) _ rfl rfl (by have := HLE.out; simp at this ⊢; omega) (fun lv => rfl)
  · clear HE
    go_wp2
    go_region_law (refine step_append1 rfl (.tmp 59) (.tmp 61) 150 154 (.agg #[.nilIface, .int .i64 0, .bool false, .int .i64 0]) 4 40 0 rfl Tryz.underlying150 info_ans rfl (by decide) (by decide) (.slice A2 s.log.length cap2) s.log.length 1 1 ⟨w2.heap.size + 1, 0, none⟩ xs [.nilIface, .int .i64 (s.mem.ask q).1.n, .bool (s.mem.ask q).1.ok, .int .i64 (s.mem.ask q).1.e] rfl ?hx rfl ?hn ?h1 ?HO (Nat.zero_le _) ?hl ?_; (case hx => simp [Act.eval, Act.put]); (case h1 => intro y hy; simp at hy; rcases hy with rfl | rfl | rfl | rfl <;> rfl); (case HO => exact ((ownsRow_setCell_other HO.out HNE.out _).alloc _).alloc _); (case hl => have := HL.out; unfold logLim at this; omega); (case hn => exact news_blk (HNW.out _)); intro v1 w1 hown1 hgr1 hat1; obtain ⟨HG, ⟨A3, c9, rfl⟩, hsz, z1, z2, z3⟩ := HMW.out _ HB.out v1 w1 hown1 hgr1 (by simpa using hat1); have y1 := cell_blk z1 1; have y2 := cell_blk z1 2; have v0 := free_blk z1 1; have v2 := free_blk z1 2; have u0 := cell_blk z2 0; have u1 := cell_blk z2 1; have u2 := cell_blk z2 2; have u3 := cell_blk z2 3; have s0 := free_blk z3 0; have s1 := free_blk z3 1; have s2 := free_blk z3 2; have s3 := free_blk z3 3; have j0 := cell_blk z3 0; have j1 := cell_blk z3 1; have j2 := cell_blk z3 2; have j3 := cell_blk z3 3; clear hown1 hgr1 hat1 z1 z2 z3)
    all_goals
      go_wp2
      refine bodyPost_ret (v := .agg #[.nilIface, .int .i64 (s.mem.ask q).1.n, .bool (s.mem.ask q).1.ok, .int .i64 (s.mem.ask q).1.e]) (by simp [results, Tryz.results84, go_sem, j0, j1, j2, j3]) rfl ?_
      refine MidL.post (B := w2.heap.size + 1 + 1) ?_ ⟨_, rfl, HB.out⟩
      repeat (refine MidL.set ?_ (Nat.le_refl _) (by show w.heap.size < _; omega) _)
      exact HG.out.port (s' := { s with mem := (s.mem.ask q).2, left := wrap64 (s.left - 1), log := s.log ++ [(s.mem.ask q).1], at_ := s.at_ + 1 }) 2 (by decide) _ rfl rfl (by have := HLE.out; simp at this ⊢; omega) (fun lv => rfl)
/-- A call that isn't stuck. -/
def Out.ok {α : Type} : Out α → Prop
  | .stuck => False
  | _ => True
theorem ask_any (w : World) (L : Loc) (I : IHeap) (s : PS) (hst : St w L I s) (q : Q) (fd : FuncId) (caps : Array Value) (hf : ∀ W, (callFunc fd caps).run Tryz.prog W = .ok (.enter fd caps) W) (hdo : Asks L q fd caps w I s) (hn : (ask1 q s).1.ok) :
    Calls Tryz.prog 84 #[.pointer (some ⟨L.p, 0, none⟩), .func (.func fd) #[] caps] w (Post L w I (ask1 q s) AnsV) := by
  cases hl : s.log[s.at_]? with
  | some a =>
    have e : ask1 q s = (.ret a, { s with at_ := s.at_ + 1 }) := by simp [ask1, hl]
    rw [e]; exact ask_log w L I s hst _ a hl
  | none =>
    by_cases h0 : s.left = 0
    · have e : ask1 q s = (.paused, s) := by simp [ask1, hl, h0]
      rw [e]; exact ask_paused w L I s hst _ hl h0
    · by_cases h1 : 0 < s.left
      · by_cases h2 : s.log.length < logLim
        · have e : ask1 q s = (.ret (s.mem.ask q).1, { s with mem := (s.mem.ask q).2, left := wrap64 (s.left - 1), log := s.log ++ [(s.mem.ask q).1], at_ := s.at_ + 1 }) := by simp [ask1, hl, h0, h1, h2]
          rw [e]; exact ask_logs w L I s hst q fd caps hf hdo hl h1 h2
        · have e : (ask1 q s).1 = .stuck := by simp [ask1, hl, h0, h1, h2]
          rw [e] at hn; exact hn.elim
      · have e : ask1 q s = (.ret (s.mem.ask q).1, { s with mem := (s.mem.ask q).2 }) := by simp [ask1, hl, h0, h1]
        rw [e]; exact ask_anew w L I s hst q fd caps hf hdo hl (by omega)
end Go.Proofs.YtadaiihoclknmaaGreat
/- The port's calls. -/
namespace Go.Proofs.YtadaiihoclknmaaGreat
open Go.RowKit
set_option maxHeartbeats 4000000
set_option maxRecDepth 100000
set_option linter.unusedVariables false
set_option linter.unusedSimpArgs false

/-- A block that only a call itself knows; it lies there still. -/
theorem closure_res {w w2 : World} {m cb : Nat} {o : Obj} (hk : Kept (fun k => k = m ∨ k = cb) (w.alloc o).drew w2) (h1 : m < w.heap.size) (h2 : cb < w.heap.size) : w2.heap[w.heap.size]? = some o :=
  hk.obj (alloc_new w o) (by rintro (e | e) <;> omega)
theorem enters {f : FuncId} {fn : Func} {c : Code} (hf : Tryz.prog.funcs[f]? = some fn) (hname : (fn.name == "runtime.NumGoroutine") = false) (hb : fn.body = some c) (args : Array Value) (W : World) : (callFunc f args).run Tryz.prog W = .ok (.enter f args) W := by
  have h1 : fn.name ≠ "runtime.NumGoroutine" := by simpa using hname
  simp [callFunc, hf, h1, hb, mark]
/-- Which parts of an answer are plain. -/
theorem opLoad_n (M : Mem) (h : Int) : (M.opLoad h).1.n = 0 ∧ (M.opLoad h).1.ok = false := by unfold Mem.opLoad; split <;> (try split) <;> exact ⟨rfl, rfl⟩
theorem opWord_b (M : Mem) (h : Int) : (M.opWord h).1.b = none ∧ (M.opWord h).1.ok = false := by unfold Mem.opWord; split <;> (try split) <;> exact ⟨rfl, rfl⟩
theorem opAlloc_b (M : Mem) (b : Blk) : (M.opAlloc b).1.b = none ∧ (M.opAlloc b).1.ok = false := by unfold Mem.opAlloc Mem.put; split <;> exact ⟨rfl, rfl⟩
theorem opStore_b (M : Mem) (h n : Int) : (M.opStore h n).1.b = none ∧ (M.opStore h n).1.n = 0 ∧ (M.opStore h n).1.ok = false := by unfold Mem.opStore; split <;> (try split) <;> exact ⟨rfl, rfl, rfl⟩
theorem opFree_b (M : Mem) (h : Int) : (M.opFree h).1.b = none ∧ (M.opFree h).1.n = 0 ∧ (M.opFree h).1.ok = false := by unfold Mem.opFree; split <;> (try split) <;> exact ⟨rfl, rfl, rfl⟩
theorem opRetire_b (M : Mem) (h n : Int) : (M.opRetire h n).1.b = none ∧ (M.opRetire h n).1.n = 0 ∧ (M.opRetire h n).1.ok = false := by unfold Mem.opRetire; split <;> (try split) <;> exact ⟨rfl, rfl, rfl⟩
theorem opSwap_b (M : Mem) (h o n : Int) : (M.opSwap h o n).1.b = none ∧ (M.opSwap h o n).1.n = 0 := by unfold Mem.opSwap; split <;> (try split) <;> (try split) <;> exact ⟨rfl, rfl⟩
theorem opReap_b (M : Mem) (h n : Int) : (M.opReap h n).1.b = none ∧ (M.opReap h n).1.n = 0 := by unfold Mem.opReap; split <;> (try split) <;> exact ⟨rfl, rfl⟩
theorem MemAt.cbLt {w : World} {m cb : Nat} {I : IHeap} {M : Mem} (h : MemAt w m cb I M) : cb < w.heap.size := by obtain ⟨cur, hc, _⟩ := h.arr; exact lt_of_block hc
theorem box_ne {w : World} {m cb : Nat} {I : IHeap} {M : Mem} (hM : MemAt w m cb I M) {b : Nat} {cs : Array Value} {t : TypeId} {fr : Nat × Nat} (hb : w.heap[b]? = some (.cells cs t fr)) (h1 : t ≠ 169) (h2 : t ≠ 239) : b ≠ m ∧ b ≠ cb := by
  obtain ⟨cur, hc, _⟩ := hM.arr
  refine ⟨fun e => ?_, fun e => ?_⟩
  · rw [e, hM.hd] at hb; injection hb with hb; injection hb with _ hb; exact h1 hb.symm
  · rw [e, hc] at hb; injection hb with hb; injection hb with _ hb; exact h2 hb.symm
theorem cell_far {w : World} {a : Addr} {v : Value} (h : w.cell? a = some v) (b : Addr) (hn : a.block ≠ b.block) (u : Value) : (w.setCell b u).cell? a = some v :=
  (World.cell?_of_block (Below.heap_setCell _ _ _ _ hn)).trans h
theorem kept_cell {w w2 : World} {m cb : Nat} {o : Obj} (hk : Kept (fun k => k = m ∨ k = cb) (w.alloc o).drew w2) {a : Addr} {v : Value} (hc : w.cell? a = some v) (hn : a.block ≠ m ∧ a.block ≠ cb) : w2.cell? a = some v :=
  hk.cell (New.cell (((Kept.refl _ _).alloc _).drew) hc) (by rintro (e | e); exact hn.1 e; exact hn.2 e)
theorem St.pne {w : World} {L : Loc} {I : IHeap} {s : PS} (h : St w L I s) : L.p ≠ L.m ∧ L.p ≠ L.cb := by
  obtain ⟨lv, hp⟩ := h.port
  exact box_ne h.mem hp.hd (by decide) (by decide)
theorem Kept.under {w w2 : World} {m cb : Nat} {o : Obj} (hk : Kept (fun k => k = m ∨ k = cb) (w.alloc o).drew w2) : Kept (fun k => k = m ∨ k = cb) w w2 := ((Kept.refl _ _).alloc _).drew.trans hk
theorem Load_do (w : World) (L : Loc) (I : IHeap) (M : Mem) (hM : MemAt w L.m L.cb I M) (bp : Nat) (hp : w.heap[bp]? = some (.cells #[.pointer (some ⟨L.p, 0, none⟩)] 39 (0, 0))) (bh : Nat) (h : Int) (hh : w.heap[bh]? = some (.cells #[.int .i64 h] 3 (0, 0)))
    (hpm : w.cell? ⟨L.p, 0, none⟩ = some (.pointer (some ⟨L.m, 0, none⟩))) (hpn : L.p ≠ L.m ∧ L.p ≠ L.cb) :
    Calls Tryz.prog 192 #[.pointer (some ⟨bp, 0, none⟩), .pointer (some ⟨bh, 0, none⟩)] w fun e w' => ∃ b, BlkV I b (M.ask (.load h)).1.b ∧ e = .returned (.agg #[b, .int .i64 (M.ask (.load h)).1.n, .bool (M.ask (.load h)).1.ok, .int .i64 (M.ask (.load h)).1.e]) ∧
    MemAt w' L.m L.cb I (M.ask (.load h)).2 ∧ Kept (fun k => k = L.m ∨ k = L.cb) w w' := by
  have c0 := cell_blk hp 0
  have c_h := cell_blk hh 0
  have l0 := lt_of_block hp
  have l_h := lt_of_block hh
  have l1 := World.block_lt_of_cell? w _ hpm
  have hm1 := lt_of_block hM.hd
  have hm2 := hM.cbLt
  have HF := Lib.hid (opLoad_n M h)
  have HM := Lib.hid hM
  have HS := Lib.hid (show ∀ o1 w', Kept (fun k => k = L.m ∨ k = L.cb) (w.alloc o1).drew w' → w'.cell? ⟨bp, 0, none⟩ = some (.pointer (some ⟨L.p, 0, none⟩)) ∧ w'.cell? ⟨L.p, 0, none⟩ = some (.pointer (some ⟨L.m, 0, none⟩)) ∧ w'.cell? ⟨bh, 0, none⟩ = some (.int .i64 h) from fun o1 w' hk => ⟨kept_cell hk c0 (box_ne hM hp (by decide) (by decide)), kept_cell hk hpm hpn, kept_cell hk c_h (box_ne hM hh (by decide) (by decide))⟩)
  clear hpn
  clear hM hp hh
  go_enter Tryz.func192, Tryz.ntmps192
  go_wp2
  go_region_held3 (fun w' => w'.cell? ⟨bp, 0, none⟩ = some (.pointer (some ⟨L.p, 0, none⟩)) ∧ w'.cell? ⟨L.p, 0, none⟩ = some (.pointer (some ⟨L.m, 0, none⟩)) ∧ w'.cell? ⟨bh, 0, none⟩ = some (.int .i64 h))
    (first | go_keep | exact HQ.out)
    ((go_at_call 193; refine (mem_Load _ L.m L.cb I M h ((HM.out.new ((Kept.refl _ _).alloc _)).drew)).mono ?_; rintro e w2 ⟨b, hb, rfl, hM2, hK2⟩; have HQ := Lib.hid (HS.out _ _ hK2); have hres := closure_res hK2 hm1 hm2; have g0 := cell_blk hres 0; have g1 := cell_blk hres 1; have g2 := cell_blk hres 2; have g3 := cell_blk hres 3; have f0 := free_blk hres 0; have f1 := free_blk hres 1; have f2 := free_blk hres 2; have f3 := free_blk hres 3; have hsz := lt_of_block hres; clear hres; have HZ := Lib.hid (Kept.under hK2); have H2 := Lib.hid hM2; clear hM2 hK2; have HB := Lib.hid hb; clear hb))
  all_goals
    rcases blk_one HB.out with ⟨u, x, rfl⟩ | rfl
    ·
      go_wp2
      refine bodyPost_ret (v := .agg #[.iface u x, .int .i64 0, .bool false, .int .i64 (M.opLoad h).1.e]) (by simp [results, Tryz.results192, go_sem, g0, g1, g2, g3, hsz]) rfl ?_
      refine ⟨_, HB.out, by simp [Mem.ask, HF.out], ?_, ?_⟩
      · repeat (first | exact H2.out | (refine MemAt.far ?_ (by show _ ≠ w.heap.size; omega) (by show _ ≠ w.heap.size; omega) _) | refine MemAt.drew ?_)
      · repeat (first | exact HZ.out | (refine Kept.setCell ?_ (fun hl => absurd hl (Nat.lt_irrefl _)) _) | refine Kept.drew ?_)
    ·
      go_wp2
      refine bodyPost_ret (v := .agg #[.nilIface, .int .i64 0, .bool false, .int .i64 (M.opLoad h).1.e]) (by simp [results, Tryz.results192, go_sem, g0, g1, g2, g3, hsz]) rfl ?_
      refine ⟨_, HB.out, by simp [Mem.ask, HF.out], ?_, ?_⟩
      · repeat (first | exact H2.out | (refine MemAt.far ?_ (by show _ ≠ w.heap.size; omega) (by show _ ≠ w.heap.size; omega) _) | refine MemAt.drew ?_)
      · repeat (first | exact HZ.out | (refine Kept.setCell ?_ (fun hl => absurd hl (Nat.lt_irrefl _)) _) | refine Kept.drew ?_)
theorem Word_do (w : World) (L : Loc) (I : IHeap) (M : Mem) (hM : MemAt w L.m L.cb I M) (bp : Nat) (hp : w.heap[bp]? = some (.cells #[.pointer (some ⟨L.p, 0, none⟩)] 39 (0, 0))) (bh : Nat) (h : Int) (hh : w.heap[bh]? = some (.cells #[.int .i64 h] 3 (0, 0)))
    (hpm : w.cell? ⟨L.p, 0, none⟩ = some (.pointer (some ⟨L.m, 0, none⟩))) (hpn : L.p ≠ L.m ∧ L.p ≠ L.cb) :
    Calls Tryz.prog 95 #[.pointer (some ⟨bp, 0, none⟩), .pointer (some ⟨bh, 0, none⟩)] w fun e w' => ∃ b, BlkV I b (M.ask (.word h)).1.b ∧ e = .returned (.agg #[b, .int .i64 (M.ask (.word h)).1.n, .bool (M.ask (.word h)).1.ok, .int .i64 (M.ask (.word h)).1.e]) ∧
    MemAt w' L.m L.cb I (M.ask (.word h)).2 ∧ Kept (fun k => k = L.m ∨ k = L.cb) w w' := by
  have c0 := cell_blk hp 0
  have c_h := cell_blk hh 0
  have l0 := lt_of_block hp
  have l_h := lt_of_block hh
  have l1 := World.block_lt_of_cell? w _ hpm
  have hm1 := lt_of_block hM.hd
  have hm2 := hM.cbLt
  have HF := Lib.hid (opWord_b M h)
  have HM := Lib.hid hM
  have HS := Lib.hid (show ∀ o1 w', Kept (fun k => k = L.m ∨ k = L.cb) (w.alloc o1).drew w' → w'.cell? ⟨bp, 0, none⟩ = some (.pointer (some ⟨L.p, 0, none⟩)) ∧ w'.cell? ⟨L.p, 0, none⟩ = some (.pointer (some ⟨L.m, 0, none⟩)) ∧ w'.cell? ⟨bh, 0, none⟩ = some (.int .i64 h) from fun o1 w' hk => ⟨kept_cell hk c0 (box_ne hM hp (by decide) (by decide)), kept_cell hk hpm hpn, kept_cell hk c_h (box_ne hM hh (by decide) (by decide))⟩)
  clear hpn
  clear hM hp hh
  go_enter Tryz.func95, Tryz.ntmps95
  go_wp2
  go_region_held3 (fun w' => w'.cell? ⟨bp, 0, none⟩ = some (.pointer (some ⟨L.p, 0, none⟩)) ∧ w'.cell? ⟨L.p, 0, none⟩ = some (.pointer (some ⟨L.m, 0, none⟩)) ∧ w'.cell? ⟨bh, 0, none⟩ = some (.int .i64 h))
    (first | go_keep | exact HQ.out)
    ((go_at_call 96; refine (mem_Word _ L.m L.cb I M h ((HM.out.new ((Kept.refl _ _).alloc _)).drew)).mono ?_; rintro e w2 ⟨rfl, hM2, hK2⟩; have HQ := Lib.hid (HS.out _ _ hK2); have hres := closure_res hK2 hm1 hm2; have g0 := cell_blk hres 0; have g1 := cell_blk hres 1; have g2 := cell_blk hres 2; have g3 := cell_blk hres 3; have f0 := free_blk hres 0; have f1 := free_blk hres 1; have f2 := free_blk hres 2; have f3 := free_blk hres 3; have hsz := lt_of_block hres; clear hres; have HZ := Lib.hid (Kept.under hK2); have H2 := Lib.hid hM2; clear hM2 hK2))
  all_goals
    ·
      go_wp2
      refine bodyPost_ret (v := .agg #[.nilIface, .int .i64 (M.opWord h).1.n, .bool false, .int .i64 (M.opWord h).1.e]) (by simp [results, Tryz.results95, go_sem, g0, g1, g2, g3, hsz]) rfl ?_
      refine ⟨_, by show BlkV I _ (M.opWord h).1.b; rw [HF.out.1]; rfl, by simp [Mem.ask, HF.out], ?_, ?_⟩
      · repeat (first | exact H2.out | (refine MemAt.far ?_ (by show _ ≠ w.heap.size; omega) (by show _ ≠ w.heap.size; omega) _) | refine MemAt.drew ?_)
      · repeat (first | exact HZ.out | (refine Kept.setCell ?_ (fun hl => absurd hl (Nat.lt_irrefl _)) _) | refine Kept.drew ?_)
theorem AllocWord_do (w : World) (L : Loc) (I : IHeap) (M : Mem) (hM : MemAt w L.m L.cb I M) (bp : Nat) (hp : w.heap[bp]? = some (.cells #[.pointer (some ⟨L.p, 0, none⟩)] 39 (0, 0))) (bn : Nat) (n : Int) (hn : w.heap[bn]? = some (.cells #[.int .i64 n] 3 (0, 0)))
    (hpm : w.cell? ⟨L.p, 0, none⟩ = some (.pointer (some ⟨L.m, 0, none⟩))) (hpn : L.p ≠ L.m ∧ L.p ≠ L.cb) :
    Calls Tryz.prog 85 #[.pointer (some ⟨bp, 0, none⟩), .pointer (some ⟨bn, 0, none⟩)] w fun e w' => ∃ b, BlkV I b (M.ask (.alloc (.word n))).1.b ∧ e = .returned (.agg #[b, .int .i64 (M.ask (.alloc (.word n))).1.n, .bool (M.ask (.alloc (.word n))).1.ok, .int .i64 (M.ask (.alloc (.word n))).1.e]) ∧
    MemAt w' L.m L.cb I (M.ask (.alloc (.word n))).2 ∧ Kept (fun k => k = L.m ∨ k = L.cb) w w' := by
  have c0 := cell_blk hp 0
  have c_n := cell_blk hn 0
  have l0 := lt_of_block hp
  have l_n := lt_of_block hn
  have l1 := World.block_lt_of_cell? w _ hpm
  have hm1 := lt_of_block hM.hd
  have hm2 := hM.cbLt
  have HF := Lib.hid (opAlloc_b M (.word n))
  have HM := Lib.hid hM
  have HS := Lib.hid (show ∀ o1 w', Kept (fun k => k = L.m ∨ k = L.cb) (w.alloc o1).drew w' → w'.cell? ⟨bp, 0, none⟩ = some (.pointer (some ⟨L.p, 0, none⟩)) ∧ w'.cell? ⟨L.p, 0, none⟩ = some (.pointer (some ⟨L.m, 0, none⟩)) ∧ w'.cell? ⟨bn, 0, none⟩ = some (.int .i64 n) from fun o1 w' hk => ⟨kept_cell hk c0 (box_ne hM hp (by decide) (by decide)), kept_cell hk hpm hpn, kept_cell hk c_n (box_ne hM hn (by decide) (by decide))⟩)
  clear hpn
  clear hM hp hn
  go_enter Tryz.func85, Tryz.ntmps85
  go_wp2
  go_region_held3 (fun w' => w'.cell? ⟨bp, 0, none⟩ = some (.pointer (some ⟨L.p, 0, none⟩)) ∧ w'.cell? ⟨L.p, 0, none⟩ = some (.pointer (some ⟨L.m, 0, none⟩)) ∧ w'.cell? ⟨bn, 0, none⟩ = some (.int .i64 n))
    (first | go_keep | exact HQ.out)
    ((go_at_call 86; refine (mem_AllocWord _ L.m L.cb I M ((HM.out.new ((Kept.refl _ _).alloc _)).drew) n).mono ?_; rintro e w2 ⟨rfl, hM2, hK2⟩; have HQ := Lib.hid (HS.out _ _ hK2); have hres := closure_res hK2 hm1 hm2; have g0 := cell_blk hres 0; have g1 := cell_blk hres 1; have g2 := cell_blk hres 2; have g3 := cell_blk hres 3; have f0 := free_blk hres 0; have f1 := free_blk hres 1; have f2 := free_blk hres 2; have f3 := free_blk hres 3; have hsz := lt_of_block hres; clear hres; have HZ := Lib.hid (Kept.under hK2); have H2 := Lib.hid hM2; clear hM2 hK2))
  all_goals
    ·
      go_wp2
      refine bodyPost_ret (v := .agg #[.nilIface, .int .i64 (M.opAlloc (.word n)).1.n, .bool false, .int .i64 (M.opAlloc (.word n)).1.e]) (by simp [results, Tryz.results85, go_sem, g0, g1, g2, g3, hsz]) rfl ?_
      refine ⟨_, by show BlkV I _ (M.opAlloc (.word n)).1.b; rw [HF.out.1]; rfl, by simp [Mem.ask, HF.out], ?_, ?_⟩
      · repeat (first | exact H2.out | (refine MemAt.far ?_ (by show _ ≠ w.heap.size; omega) (by show _ ≠ w.heap.size; omega) _) | refine MemAt.drew ?_)
      · repeat (first | exact HZ.out | (refine Kept.setCell ?_ (fun hl => absurd hl (Nat.lt_irrefl _)) _) | refine Kept.drew ?_)
theorem Alloc_do (w : World) (L : Loc) (I : IHeap) (M : Mem) (hM : MemAt w L.m L.cb I M) (bp : Nat) (hp : w.heap[bp]? = some (.cells #[.pointer (some ⟨L.p, 0, none⟩)] 39 (0, 0))) (bb : Nat) (bu : TypeId) (bx : Value) (blk : Blk) (hbk : BlkV I (.iface bu bx) (some blk)) (hb : w.heap[bb]? = some (.cells #[.iface bu bx] 20 (0, 0)))
    (hpm : w.cell? ⟨L.p, 0, none⟩ = some (.pointer (some ⟨L.m, 0, none⟩))) (hpn : L.p ≠ L.m ∧ L.p ≠ L.cb) :
    Calls Tryz.prog 217 #[.pointer (some ⟨bp, 0, none⟩), .pointer (some ⟨bb, 0, none⟩)] w fun e w' => ∃ b, BlkV I b (M.ask (.alloc blk)).1.b ∧ e = .returned (.agg #[b, .int .i64 (M.ask (.alloc blk)).1.n, .bool (M.ask (.alloc blk)).1.ok, .int .i64 (M.ask (.alloc blk)).1.e]) ∧
    MemAt w' L.m L.cb I (M.ask (.alloc blk)).2 ∧ Kept (fun k => k = L.m ∨ k = L.cb) w w' := by
  have c0 := cell_blk hp 0
  have c_b := cell_blk hb 0
  have l0 := lt_of_block hp
  have l_b := lt_of_block hb
  have l1 := World.block_lt_of_cell? w _ hpm
  have hm1 := lt_of_block hM.hd
  have hm2 := hM.cbLt
  have HF := Lib.hid (opAlloc_b M blk)
  have HM := Lib.hid hM
  have HBK := Lib.hid hbk
  clear hbk
  have HS := Lib.hid (show ∀ o1 w', Kept (fun k => k = L.m ∨ k = L.cb) (w.alloc o1).drew w' → w'.cell? ⟨bp, 0, none⟩ = some (.pointer (some ⟨L.p, 0, none⟩)) ∧ w'.cell? ⟨L.p, 0, none⟩ = some (.pointer (some ⟨L.m, 0, none⟩)) ∧ w'.cell? ⟨bb, 0, none⟩ = some (.iface bu bx) from fun o1 w' hk => ⟨kept_cell hk c0 (box_ne hM hp (by decide) (by decide)), kept_cell hk hpm hpn, kept_cell hk c_b (box_ne hM hb (by decide) (by decide))⟩)
  clear hpn
  clear hM hp hb
  go_enter Tryz.func217, Tryz.ntmps217
  go_wp2
  go_region_held3 (fun w' => w'.cell? ⟨bp, 0, none⟩ = some (.pointer (some ⟨L.p, 0, none⟩)) ∧ w'.cell? ⟨L.p, 0, none⟩ = some (.pointer (some ⟨L.m, 0, none⟩)) ∧ w'.cell? ⟨bb, 0, none⟩ = some (.iface bu bx))
    (first | go_keep | exact HQ.out)
    ((go_at_call 218; refine (mem_Alloc _ L.m L.cb I M ((HM.out.new ((Kept.refl _ _).alloc _)).drew) _ blk HBK.out).mono ?_; rintro e w2 ⟨rfl, hM2, hK2⟩; have HQ := Lib.hid (HS.out _ _ hK2); have hres := closure_res hK2 hm1 hm2; have g0 := cell_blk hres 0; have g1 := cell_blk hres 1; have g2 := cell_blk hres 2; have g3 := cell_blk hres 3; have f0 := free_blk hres 0; have f1 := free_blk hres 1; have f2 := free_blk hres 2; have f3 := free_blk hres 3; have hsz := lt_of_block hres; clear hres; have HZ := Lib.hid (Kept.under hK2); have H2 := Lib.hid hM2; clear hM2 hK2))
  all_goals
    ·
      go_wp2
      refine bodyPost_ret (v := .agg #[.nilIface, .int .i64 (M.opAlloc blk).1.n, .bool false, .int .i64 (M.opAlloc blk).1.e]) (by simp [results, Tryz.results217, go_sem, g0, g1, g2, g3, hsz]) rfl ?_
      refine ⟨_, by show BlkV I _ (M.opAlloc blk).1.b; rw [HF.out.1]; rfl, by simp [Mem.ask, HF.out], ?_, ?_⟩
      · repeat (first | exact H2.out | (refine MemAt.far ?_ (by show _ ≠ w.heap.size; omega) (by show _ ≠ w.heap.size; omega) _) | refine MemAt.drew ?_)
      · repeat (first | exact HZ.out | (refine Kept.setCell ?_ (fun hl => absurd hl (Nat.lt_irrefl _)) _) | refine Kept.drew ?_)
end Go.Proofs.YtadaiihoclknmaaGreat
