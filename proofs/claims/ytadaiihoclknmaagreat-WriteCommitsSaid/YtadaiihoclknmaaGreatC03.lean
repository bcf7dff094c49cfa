/- Part 3 of the proof: Mem3, Mem4. -/
import Derived.Test.YtadaiihoclknmaaGreatC02
/- Memory's methods: blocks; cells are freed, retired, reaped, and allocated. -/
namespace Go.Proofs.YtadaiihoclknmaaGreat
open Go.RowKit
set_option maxHeartbeats 1000000
set_option maxRecDepth 100000
set_option linter.unusedVariables false
set_option linter.unusedSimpArgs false

def Mem.opLoad (M : Mem) (h : Int) : Ans × Mem :=
  match M.find h with
  | none => (⟨none, 0, false, 5⟩, M.miss)
  | some i => match M.blk i with
    | some (.word _) => (⟨none, 0, false, 6⟩, M.tick)
    | b => (⟨b, 0, false, 0⟩, M.tick)
theorem opLoad_none {M : Mem} {h : Int} (hf : M.find h = none) : M.opLoad h = (⟨none, 0, false, 5⟩, M.miss) := by simp [Mem.opLoad, hf]
theorem opLoad_word {M : Mem} {h n : Int} {i : Nat} (hf : M.find h = some i) (hb : M.blk i = some (.word n)) : M.opLoad h = (⟨none, 0, false, 6⟩, M.tick) := by simp [Mem.opLoad, hf, hb]
theorem opLoad_some {M : Mem} {h : Int} {i : Nat} (hf : M.find h = some i) (hb : ∀ n, M.blk i ≠ some (.word n)) : M.opLoad h = (⟨M.blk i, 0, false, 0⟩, M.tick) := by
  rcases hq : M.blk i with _ | (n | d | a | n) <;> first | exact absurd hq (hb n) | simp [Mem.opLoad, hf, hq]
theorem mem_Load (w : World) (m cb : Nat) (I : IHeap) (M : Mem) (h : Int) (hM : MemAt w m cb I M) :
    Calls Tryz.prog 193 #[.pointer (some ⟨m, 0, none⟩), .int .i64 h] w fun e w' => ∃ b, BlkV I b (M.opLoad h).1.b ∧ MPost w m cb I (M.opLoad h).2 (.tuple #[b, .int .i64 (M.opLoad h).1.e]) e w' := by
  go_enter Tryz.func193, Tryz.ntmps193
  go_wp2_with fail
  rcases word_cases M h with hf | ⟨i, hf, hb⟩ | ⟨i, x, hf, hb⟩
  · have E := Lib.hid (opLoad_none hf)
    refine (mem_cell_none w m cb I M h hM hf).mono ?_
    rintro e w1 ⟨rfl, hM1, hk⟩
    have H1 := Lib.hid hM1
    have H2 := Lib.hid hk
    clear hM1 hk hM hf
    go_wp2
    go_ret2
    rw [E.out]
    exact ⟨_, rfl, rfl, H1.out, H2.out⟩
  · have E := Lib.hid (opLoad_some hf hb)
    obtain ⟨_, c, hc, hv, _⟩ := find_some hf
    have ec := Lib.hid (blk_of hc)
    refine (mem_cell_some w m cb I M h hM i hf).mono ?_
    rintro e w1 ⟨rfl, hM1, hk⟩
    obtain ⟨b, hb1, d0, d1, d2, d3⟩ := mem_cel hM1 (show M.tick.cells[i]? = some c from hc)
    have hx : ∃ x, b = .iface 46 x ∨ b = .iface 211 x ∨ b = .iface 117 x := by
      rw [blk_of hc] at hb
      rcases hcv : c.v with _ | q
      · rw [hcv] at hv; cases hv
      · rw [hcv] at hb1 hb
        cases q with
        | word n => exact absurd rfl (hb n)
        | desc d => obtain ⟨x, hx, _⟩ := hb1; exact ⟨_, .inl hx⟩
        | age d => obtain ⟨x, hx, _⟩ := hb1; exact ⟨_, .inr (.inl hx)⟩
        | node d => obtain ⟨x, hx, _⟩ := hb1; exact ⟨_, .inr (.inr hx)⟩
    have H1 := Lib.hid hM1
    have H2 := Lib.hid hk
    have H3 := Lib.hid hb1
    clear hM1 hk hM hf hb hb1 hc hv d1 d2 d3
    obtain ⟨x, rfl | rfl | rfl⟩ := hx
    all_goals
      go_wp2
      go_ret2
      rw [E.out, ec.out]
      exact ⟨_, H3.out, rfl, H1.out, H2.out⟩
  · have E := Lib.hid (opLoad_word hf hb)
    obtain ⟨_, c, hc, hv, _⟩ := find_some hf
    refine (mem_cell_some w m cb I M h hM i hf).mono ?_
    rintro e w1 ⟨rfl, hM1, hk⟩
    obtain ⟨b, hb1, d0, d1, d2, d3⟩ := mem_cel hM1 (show M.tick.cells[i]? = some c from hc)
    rw [blk_of hc] at hb
    rw [hb] at hb1
    obtain rfl : b = .iface 227 (.int .i64 x) := hb1
    have H1 := Lib.hid hM1
    have H2 := Lib.hid hk
    clear hM1 hk hM hf hb hc hv d1 d2 d3
    go_wp2
    go_ret2
    rw [E.out]
    exact ⟨_, rfl, rfl, H1.out, H2.out⟩

theorem MemAt.field' {w : World} {m cb : Nat} {I : IHeap} {M : Mem} (h : MemAt w m cb I M) {i : Nat} {c c' : Cel} (hc : M.cells[i]? = some c) (j : Nat) (hj : j < 4) (u : Value)
    (hu : ∀ cs, CelR I cs c → CelR I (cs.set j u) c') : MemAt (w.setCell ⟨cb, i * 4 + j, none⟩ u) m cb I (M.upd i c') ∧ (M.upd i c').cells[i]? = some c' :=
  ⟨h.field hc j hj u hu, by simp [Mem.upd, List.getElem?_set_self (List.getElem?_eq_some_iff.1 hc).1]⟩
theorem upd_upd (M : Mem) (i : Nat) (a b : Cel) : (M.upd i a).upd i b = M.upd i b := by simp [Mem.upd]
/-- A cell that holds nothing any more. -/
def Cel.freed (c : Cel) : Cel := ⟨none, wrap64 (c.gen + 1), 0, false⟩
def Mem.freed (M : Mem) (i : Nat) : Mem := { M.upd i (M.cel i).freed with live := wrap64 (M.live - 1) }
theorem mem_free_any (w : World) (m cb : Nat) (I : IHeap) (M : Mem) (hM : MemAt w m cb I M) (i : Nat) (c : Cel) (hc : M.cells[i]? = some c) :
    Calls Tryz.prog 148 #[.pointer (some ⟨m, 0, none⟩), .pointer (some ⟨cb, i * 4, none⟩)] w (MPost w m cb I (M.freed i) (.tuple #[])) := by
  obtain ⟨b, hb, d0, d1, d2, d3⟩ := mem_cel hM hc
  obtain ⟨c0, c1, c2, c3⟩ := mem_hd hM
  have f1 := mem_free hM 2
  have hne := mem_ne hM
  have g0 := mem_cfree hM (i * 4)
  have g1 := mem_cfree hM (i * 4 + 1)
  have g2 := mem_cfree hM (i * 4 + 2)
  have g3 := mem_cfree hM (i * 4 + 3)
  obtain ⟨k0, e0⟩ := hM.field' (c' := ⟨none, c.gen, c.stamp, c.retired⟩) hc 0 (by decide) .nilIface (by rintro cs ⟨b, rfl, hb⟩; exact ⟨_, rfl, rfl⟩)
  obtain ⟨k1, e1⟩ := k0.field' (c' := ⟨none, wrap64 (c.gen + 1), c.stamp, c.retired⟩) e0 1 (by decide) (.int .i64 (wrap64 (c.gen + 1))) (by rintro cs ⟨b, rfl, hb⟩; exact ⟨_, rfl, hb⟩)
  obtain ⟨k2, e2⟩ := k1.field' (c' := ⟨none, wrap64 (c.gen + 1), 0, c.retired⟩) e1 2 (by decide) (.int .i64 0) (by rintro cs ⟨b, rfl, hb⟩; exact ⟨_, rfl, hb⟩)
  obtain ⟨k3, e3⟩ := k2.field' (c' := c.freed) e2 3 (by decide) (.bool false) (by rintro cs ⟨b, rfl, hb⟩; exact ⟨_, rfl, hb⟩)
  rw [upd_upd, upd_upd, upd_upd] at k3
  have H := Lib.hid (k3.live (wrap64 (M.live - 1)))
  have ec := Lib.hid (cel_of hc)
  clear hM hb k0 k1 k2 k3 e0 e1 e2 e3 hc
  go_enter Tryz.func148, Tryz.ntmps148
  go_wp2
  go_end0
  refine ⟨rfl, ?_, ?_⟩
  · unfold Mem.freed; rw [ec.out]; exact H.out
  · exact ((((MPost.kept2 _ _).trans (MPost.kept2 _ _)).trans (MPost.kept2 _ _)).trans (MPost.kept2 _ _)).trans (MPost.kept1 _ _)

def Mem.opFree (M : Mem) (h : Int) : Ans × Mem :=
  match M.find h with
  | none => (⟨none, 0, false, 5⟩, M.miss)
  | some i => (⟨none, 0, false, 0⟩, M.tick.freed i)
theorem mem_Free (w : World) (m cb : Nat) (I : IHeap) (M : Mem) (h : Int) (hM : MemAt w m cb I M) :
    Calls Tryz.prog 161 #[.pointer (some ⟨m, 0, none⟩), .int .i64 h] w (MPost w m cb I (M.opFree h).2 (.int .i64 (M.opFree h).1.e)) := by
  go_enter Tryz.func161, Tryz.ntmps161
  go_wp2_with fail
  cases hf : M.find h with
  | none =>
    have E := Lib.hid (show M.opFree h = _ by unfold Mem.opFree; rw [hf])
    refine (mem_cell_none w m cb I M h hM hf).mono ?_
    rintro e w1 ⟨rfl, hM1, hk⟩
    have H1 := Lib.hid hM1
    have H2 := Lib.hid hk
    clear hM1 hk hM hf
    go_wp2
    go_ret
    rw [E.out]
    exact ⟨rfl, H1.out, H2.out⟩
  | some i =>
    have E := Lib.hid (show M.opFree h = _ by unfold Mem.opFree; rw [hf])
    obtain ⟨_, c, hc, hv, _⟩ := find_some hf
    refine (mem_cell_some w m cb I M h hM i hf).mono ?_
    rintro e w1 ⟨rfl, hM1, hk⟩
    have H2 := Lib.hid hk
    have Hc := Lib.hid hc
    have H1 := Lib.hid hM1
    clear hM1 hk hM hf hc
    go_wp2_with fail
    refine (mem_free_any w1 m cb I M.tick H1.out i c Hc.out).mono ?_
    rintro e w2 ⟨rfl, hM2, hk2⟩
    have H3 := Lib.hid hM2
    have H4 := Lib.hid hk2
    clear hM2 hk2
    go_wp2
    go_ret
    rw [E.out]
    exact ⟨rfl, H3.out, H2.out.trans H4.out⟩
def Mem.opRetire (M : Mem) (h stamp : Int) : Ans × Mem :=
  match M.find h with
  | none => (⟨none, 0, false, 5⟩, M.miss)
  | some i => (⟨none, 0, false, 0⟩, M.tick.upd i { M.cel i with stamp := if (M.cel i).retired = false ∨ (M.cel i).stamp < stamp then stamp else (M.cel i).stamp, retired := true })
theorem mem_Retire (w : World) (m cb : Nat) (I : IHeap) (M : Mem) (h s : Int) (hM : MemAt w m cb I M) :
    Calls Tryz.prog 195 #[.pointer (some ⟨m, 0, none⟩), .int .i64 h, .int .i64 s] w (MPost w m cb I (M.opRetire h s).2 (.int .i64 (M.opRetire h s).1.e)) := by
  go_enter Tryz.func195, Tryz.ntmps195
  go_wp2_with fail
  cases hf : M.find h with
  | none =>
    have E := Lib.hid (show M.opRetire h s = _ by unfold Mem.opRetire; rw [hf])
    refine (mem_cell_none w m cb I M h hM hf).mono ?_
    rintro e w1 ⟨rfl, hM1, hk⟩
    have H1 := Lib.hid hM1
    have H2 := Lib.hid hk
    clear hM1 hk hM hf
    go_wp2
    go_ret
    rw [E.out]
    exact ⟨rfl, H1.out, H2.out⟩
  | some i =>
    have E := Lib.hid (show M.opRetire h s = _ by unfold Mem.opRetire; rw [hf])
    obtain ⟨_, c, hc, hv, _⟩ := find_some hf
    refine (mem_cell_some w m cb I M h hM i hf).mono ?_
    rintro e w1 ⟨rfl, hM1, hk⟩
    obtain ⟨b, hb1, d0, d1, d2, d3⟩ := mem_cel hM1 (show M.tick.cells[i]? = some c from hc)
    have g2 := mem_cfree hM1 (i * 4 + 2)
    have g3 := mem_cfree hM1 (i * 4 + 3)
    obtain ⟨k2, e2⟩ := hM1.field' (c' := { c with stamp := s }) (show M.tick.cells[i]? = some c from hc) 2 (by decide) (.int .i64 s) (by rintro cs ⟨b, rfl, hb⟩; exact ⟨_, rfl, hb⟩)
    obtain ⟨k3, e3⟩ := k2.field' (c' := { c with stamp := s, retired := true }) e2 3 (by decide) (.bool true) (by rintro cs ⟨b, rfl, hb⟩; exact ⟨_, rfl, hb⟩)
    obtain ⟨k4, e4⟩ := hM1.field' (c' := { c with retired := true }) (show M.tick.cells[i]? = some c from hc) 3 (by decide) (.bool true) (by rintro cs ⟨b, rfl, hb⟩; exact ⟨_, rfl, hb⟩)
    rw [upd_upd] at k3
    have H2 := Lib.hid hk
    have ec := Lib.hid (cel_of hc)
    have H3 := Lib.hid k3
    have H4 := Lib.hid k4
    clear hM1 hk hM hf hc hb1 k2 k3 k4 e2 e3 e4 hv
    by_cases hr1 : c.retired = false
    · have HT := Lib.hid (show (if c.retired = false ∨ c.stamp < s then s else c.stamp) = s from if_pos (.inl hr1))
      rw [hr1] at d3
      clear hr1
      go_wp2
      go_ret
      rw [E.out, ec.out, HT.out]
      exact ⟨rfl, H3.out, (H2.out.trans ((MPost.kept2 _ _).trans (MPost.kept2 _ _)))⟩
    · have hr1' : c.retired = true := by simpa using hr1
      rw [hr1'] at d3
      by_cases hr2 : c.stamp < s
      · have HT := Lib.hid (show (if c.retired = false ∨ c.stamp < s then s else c.stamp) = s from if_pos (.inr hr2))
        have ht : decide (c.stamp < s) = true := by simpa using hr2
        clear hr1 hr1' hr2
        go_wp2
        go_ret
        rw [E.out, ec.out, HT.out]
        exact ⟨rfl, H3.out, (H2.out.trans ((MPost.kept2 _ _).trans (MPost.kept2 _ _)))⟩
      · have HT := Lib.hid (show (if c.retired = false ∨ c.stamp < s then s else c.stamp) = c.stamp from if_neg (by simp [hr1', hr2]))
        have ht : decide (c.stamp < s) = false := by simpa using hr2
        clear hr1 hr1' hr2
        go_wp2
        go_ret
        rw [E.out, ec.out, HT.out]
        exact ⟨rfl, H4.out, (H2.out.trans (MPost.kept2 _ _))⟩

def Mem.opReap (M : Mem) (place below : Int) : Ans × Mem :=
  if place < 0 ∨ M.cells.length ≤ place then (⟨none, 0, false, 10⟩, M.tick)
  else if (M.cel place.toNat).v = none ∨ (M.cel place.toNat).retired = false ∨ below ≤ (M.cel place.toNat).stamp then (⟨none, 0, false, 0⟩, M.tick)
  else (⟨none, 0, true, 0⟩, M.tick.freed place.toNat)
theorem mem_Reap (w : World) (m cb : Nat) (I : IHeap) (M : Mem) (place below : Int) (hM : MemAt w m cb I M) :
    Calls Tryz.prog 98 #[.pointer (some ⟨m, 0, none⟩), .int .i64 place, .int .i64 below] w (MPost w m cb I (M.opReap place below).2 (.tuple #[.bool (M.opReap place below).1.ok, .int .i64 (M.opReap place below).1.e])) := by
  obtain ⟨c0, c1, c2, c3⟩ := mem_hd hM
  have f1 := mem_free hM 1
  have hne := mem_ne hM
  have HM := Lib.hid hM
  by_cases h1 : place < 0
  · have E := Lib.hid (show M.opReap place below = _ from if_pos (.inl h1))
    have t1 : decide (place < 0) = true := by simpa using h1
    clear hM
    go_enter Tryz.func98, Tryz.ntmps98
    go_wp2
    go_ret2
    rw [E.out]
    exact ⟨rfl, HM.out.count _, MPost.kept1 _ _⟩
  · obtain ⟨i, rfl⟩ := Int.eq_ofNat_of_zero_le (show 0 ≤ place by omega)
    have t1 : decide ((i : Int) < 0) = false := by simp
    by_cases h2 : M.cells.length ≤ i
    · have E := Lib.hid (show M.opReap i below = _ from if_pos (.inr (by omega)))
      have t2 : decide (M.cells.length ≤ i) = true := by simpa using h2
      clear hM h1
      go_enter Tryz.func98, Tryz.ntmps98
      go_wp2
      go_ret2
      rw [E.out]
      exact ⟨rfl, HM.out.count _, MPost.kept1 _ _⟩
    · have t2 : decide (M.cells.length ≤ i) = false := by simp; omega
      have hlt : i < M.cells.length := by omega
      obtain ⟨c, hc⟩ : ∃ c, M.cells[i]? = some c := ⟨_, List.getElem?_eq_getElem hlt⟩
      have ec := cel_of hc
      obtain ⟨b, hb1, d0, d1, d2, d3⟩ := mem_cel hM hc
      have hE : M.opReap i below = if c.v = none ∨ c.retired = false ∨ below ≤ c.stamp then (⟨none, 0, false, 0⟩, M.tick) else (⟨none, 0, true, 0⟩, M.tick.freed i) := by
        unfold Mem.opReap
        rw [if_neg (by omega), Int.toNat_natCast, ec]
      clear hM h1 h2 ec
      by_cases hv : c.v = none
      · have E := Lib.hid (hE.trans (if_pos (.inl hv)))
        rw [hv] at hb1
        obtain rfl : b = .nilIface := hb1
        clear hE hv hc
        go_enter Tryz.func98, Tryz.ntmps98
        go_wp2
        go_ret2
        rw [E.out]
        exact ⟨rfl, HM.out.count _, MPost.kept1 _ _⟩
      · obtain ⟨u, x, rfl⟩ := blk_held hb1 (by cases h : c.v <;> simp_all)
        by_cases hr : c.retired = false
        · have E := Lib.hid (hE.trans (if_pos (.inr (.inl hr))))
          rw [hr] at d3
          clear hE hv hc hb1 hr
          go_enter Tryz.func98, Tryz.ntmps98
          go_wp2
          go_ret2
          rw [E.out]
          exact ⟨rfl, HM.out.count _, MPost.kept1 _ _⟩
        · rw [show c.retired = true by simpa using hr] at d3
          by_cases hs : below ≤ c.stamp
          · have E := Lib.hid (hE.trans (if_pos (.inr (.inr hs))))
            have t4 : decide (below ≤ c.stamp) = true := by simpa using hs
            clear hE hv hc hb1 hr hs
            go_enter Tryz.func98, Tryz.ntmps98
            go_wp2
            go_ret2
            rw [E.out]
            exact ⟨rfl, HM.out.count _, MPost.kept1 _ _⟩
          · have E := Lib.hid (hE.trans (if_neg (by simp [hv, hr, hs])))
            have t4 : decide (below ≤ c.stamp) = false := by simpa using hs
            have Hc := Lib.hid hc
            clear hE hv hc hb1 hr hs
            go_enter Tryz.func98, Tryz.ntmps98
            go_wp2_with fail
            refine (mem_free_any _ m cb I M.tick (HM.out.count _) i c Hc.out).mono ?_
            rintro e w2 ⟨rfl, hM2, hk2⟩
            have H3 := Lib.hid hM2
            have H4 := Lib.hid hk2
            clear hM2 hk2
            go_wp2
            go_ret2
            rw [E.out]
            exact ⟨rfl, H3.out, (MPost.kept1 _ _).trans H4.out⟩
end Go.Proofs.YtadaiihoclknmaaGreat
/- Memory's methods: cells are allocated; a memory is made. -/
namespace Go.Proofs.YtadaiihoclknmaaGreat
open Go.RowKit
set_option maxHeartbeats 1000000
set_option maxRecDepth 100000
set_option linter.unusedVariables false
set_option linter.unusedSimpArgs false

def Cel.isFree (c : Cel) : Bool := c.v.isNone && decide (c.gen ≤ 16383)
/-- The first free cell. -/
def Mem.free? (M : Mem) : Option Nat := M.cells.findIdx? Cel.isFree
def Mem.put (M : Mem) (b : Blk) : Ans × Mem :=
  match M.free? with
  | none => (⟨none, 0, false, 3⟩, M)
  | some i => (⟨none, tHandle i (M.cel i).gen, false, 0⟩, { M.upd i { M.cel i with v := some b } with live := wrap64 (M.live + 1) })
theorem free_none {M : Mem} (h : M.free? = none) (i : Nat) (c : Cel) (hc : M.cells[i]? = some c) : c.isFree = false := by
  have := List.findIdx?_eq_none_iff.1 h
  exact this c (List.mem_of_getElem? hc)
theorem free_some {M : Mem} {i : Nat} (h : M.free? = some i) : ∃ c, M.cells[i]? = some c ∧ c.isFree = true ∧ ∀ j x, j < i → M.cells[j]? = some x → x.isFree = false := by
  obtain ⟨hlt, hp, hj⟩ := List.findIdx?_eq_some_iff_getElem.1 h
  refine ⟨_, List.getElem?_eq_getElem hlt, hp, fun j x hji hx => ?_⟩
  obtain ⟨hjl, e⟩ := List.getElem?_eq_some_iff.1 hx
  have := hj j hji
  rw [← e]
  simpa using this

theorem mem_put (w : World) (m cb : Nat) (I : IHeap) (M : Mem) (hM : MemAt w m cb I M) (bv : Value) (b : Blk) (hb : BlkV I bv (some b)) :
    Calls Tryz.prog 140 #[.pointer (some ⟨m, 0, none⟩), bv] w (MPost w m cb I (M.put b).2 (.tuple #[.int .i64 (M.put b).1.n, .int .i64 (M.put b).1.e])) := by
  obtain ⟨c0, c1, c2, c3⟩ := mem_hd hM
  have f2 := mem_free hM 2
  have hsm := hM.small
  have hne := mem_ne hM
  have HM := Lib.hid hM
  obtain ⟨bu, bx, rfl⟩ := blk_held hb rfl
  have Hb := Lib.hid hb
  clear hM hb
  go_enter Tryz.func140, Tryz.ntmps140
  go_wp2
  go_loop [13] (fun v => ∃ k : Nat, v = .int .i64 k ∧ k ≤ M.cells.length ∧ Hid (∀ j x, j < k → M.cells[j]? = some x → x.isFree = false)) (fun v => M.cells.length - (intOf v).toNat)
  case atStart => exact ⟨0, rfl, Nat.zero_le _, fun j x h => absurd h (by omega)⟩
  case round =>
    obtain ⟨k, rfl, hk, hj⟩ := hrel
    by_cases hlt : k < M.cells.length
    · obtain ⟨c, hc⟩ : ∃ c, M.cells[k]? = some c := ⟨_, List.getElem?_eq_getElem hlt⟩
      obtain ⟨b0, hb0, d0, d1, d2, d3⟩ := mem_cel HM.out hc
      have g0 := mem_cfree HM.out (k * 4)
      by_cases hv : c.v = none
      · rw [hv] at hb0
        obtain rfl : b0 = .nilIface := hb0
        by_cases hg : c.gen ≤ 16383
        · have t1 : decide (c.gen ≤ 16383) = true := by simpa using hg
          have E : M.put b = (⟨none, tHandle k c.gen, false, 0⟩, { M.upd k { c with v := some b } with live := wrap64 (M.live + 1) }) := by
            have hf : M.free? = some k := by
              unfold Mem.free?
              rw [List.findIdx?_eq_some_iff_getElem]
              refine ⟨hlt, ?_, fun j hjk => ?_⟩
              · have := (List.getElem?_eq_some_iff.1 hc).2; rw [this]; simp [Cel.isFree, hv, hg]
              · have := hj.out j _ hjk (List.getElem?_eq_getElem (by omega)); simpa using this
            unfold Mem.put
            rw [hf]
            simp only [cel_of hc]
          have HE := Lib.hid E
          have H1 := Lib.hid ((HM.out.field (c' := { c with v := some b }) hc 0 (by decide) (.iface bu bx) (by rintro cs ⟨b, rfl, _⟩; exact ⟨_, rfl, Hb.out⟩)).live (wrap64 (M.live + 1)))
          clear E hv hg hc
          go_wp2_with (go_at_call 189; refine (handle_any _ _ _).mono ?_; rintro e w' ⟨rfl, rfl⟩)
          go_ret2
          rw [HE.out]
          exact ⟨rfl, H1.out, (MPost.kept2 _ _).trans (MPost.kept1 _ _)⟩
        · have t1 : decide (c.gen ≤ 16383) = false := by simpa using hg
          clear hg hv
          go_wp2
          go_round
          case rel => exact ⟨k + 1, by go_num, by omega, fun j x hjk hx => by
            rcases Nat.lt_or_eq_of_le (Nat.le_of_lt_succ hjk) with h | rfl
            · exact hj.out j x h hx
            · rw [hc] at hx; injection hx with hx; subst hx; simp [Cel.isFree]; intro _; simpa using t1⟩
          case measure => simp [intOf]; omega
      · obtain ⟨u, x, rfl⟩ := blk_held hb0 (by cases h : c.v <;> simp_all)
        have HV := Lib.hid hv
        clear hv hb0
        go_wp2
        go_round
        case rel => exact ⟨k + 1, by go_num, by omega, fun j x hjk hx => by
            rcases Nat.lt_or_eq_of_le (Nat.le_of_lt_succ hjk) with h | rfl
            · exact hj.out j x h hx
            · rw [hc] at hx; injection hx with hx; subst hx; cases hq : c.v with
              | none => exact absurd hq HV.out
              | some b => simp [Cel.isFree, hq]⟩
        case measure => simp [intOf]; omega
    · have E : M.put b = (⟨none, 0, false, 3⟩, M) := by
        have hf : M.free? = none := by
          unfold Mem.free?
          rw [List.findIdx?_eq_none_iff]
          intro x hx
          obtain ⟨j, hjl, hjx⟩ := List.getElem_of_mem hx
          exact hj.out j x (by omega) (by rw [List.getElem?_eq_getElem hjl, hjx])
        unfold Mem.put
        rw [hf]
      have HE := Lib.hid E
      clear E
      go_wp2
      go_ret2
      rw [HE.out]
      exact ⟨rfl, HM.out, Kept.refl _ _⟩
def Mem.opAlloc (M : Mem) (b : Blk) : Ans × Mem := M.tick.put b
theorem mem_Alloc (w : World) (m cb : Nat) (I : IHeap) (M : Mem) (hM : MemAt w m cb I M) (bv : Value) (b : Blk) (hb : BlkV I bv (some b)) :
    Calls Tryz.prog 218 #[.pointer (some ⟨m, 0, none⟩), bv] w (MPost w m cb I (M.opAlloc b).2 (.tuple #[.int .i64 (M.opAlloc b).1.n, .int .i64 (M.opAlloc b).1.e])) := by
  obtain ⟨c0, c1, c2, c3⟩ := mem_hd hM
  have f1 := mem_free hM 1
  obtain ⟨bu, bx, rfl⟩ := blk_held hb rfl
  have Hb := Lib.hid hb
  have H1 := Lib.hid (hM.count (wrap64 (M.count + 1)))
  clear hM hb
  go_enter Tryz.func218, Tryz.ntmps218
  go_wp2_with fail
  refine (mem_put _ m cb I M.tick H1.out _ b Hb.out).mono ?_
  rintro e w2 ⟨rfl, hM2, hk2⟩
  have H3 := Lib.hid hM2
  have H4 := Lib.hid hk2
  clear hM2 hk2
  go_wp2
  go_ret2
  exact ⟨rfl, H3.out, (MPost.kept1 _ _).trans H4.out⟩
theorem mem_AllocWord (w : World) (m cb : Nat) (I : IHeap) (M : Mem) (hM : MemAt w m cb I M) (n : Int) :
    Calls Tryz.prog 86 #[.pointer (some ⟨m, 0, none⟩), .int .i64 n] w (MPost w m cb I (M.opAlloc (.word n)).2 (.tuple #[.int .i64 (M.opAlloc (.word n)).1.n, .int .i64 (M.opAlloc (.word n)).1.e])) := by
  obtain ⟨c0, c1, c2, c3⟩ := mem_hd hM
  have f1 := mem_free hM 1
  have H1 := Lib.hid (hM.count (wrap64 (M.count + 1)))
  clear hM
  go_enter Tryz.func86, Tryz.ntmps86
  go_wp2_with fail
  refine (mem_put _ m cb I M.tick H1.out _ (.word n) rfl).mono ?_
  rintro e w2 ⟨rfl, hM2, hk2⟩
  have H3 := Lib.hid hM2
  have H4 := Lib.hid hk2
  clear hM2 hk2
  go_wp2
  go_ret2
  exact ⟨rfl, H3.out, (MPost.kept1 _ _).trans H4.out⟩
theorem mem_Live (w : World) (m cb : Nat) (I : IHeap) (M : Mem) (hM : MemAt w m cb I M) :
    Calls Tryz.prog 22 #[.pointer (some ⟨m, 0, none⟩)] w fun e w' => e = .returned (.int .i64 M.live) ∧ w = w' := by
  obtain ⟨c0, c1, c2, c3⟩ := mem_hd hM
  clear hM
  go_enter Tryz.func22, Tryz.ntmps22
  go_wp2
  go_ret
  exact ⟨rfl, rfl⟩
theorem mem_Cells (w : World) (m cb : Nat) (I : IHeap) (M : Mem) (hM : MemAt w m cb I M) :
    Calls Tryz.prog 51 #[.pointer (some ⟨m, 0, none⟩)] w fun e w' => e = .returned (.int .i64 M.cells.length) ∧ w = w' := by
  obtain ⟨c0, c1, c2, c3⟩ := mem_hd hM
  clear hM
  go_enter Tryz.func51, Tryz.ntmps51
  go_wp2
  go_ret
  exact ⟨rfl, rfl⟩
def Mem.fresh (n : Nat) : Mem := ⟨List.replicate n ⟨none, 0, 0, false⟩, 0, 0, 0⟩
theorem mem_New_no (w : World) (n : Int) (h : n < 1 ∨ 65535 < n) :
    Calls Tryz.prog 47 #[.int .i64 n] w fun e w' => e = .returned (.tuple #[.pointer none, .int .i64 10]) ∧ w = w' := by
  by_cases h1 : n < 1
  · have t1 : decide (n < 1) = true := by simpa using h1
    clear h
    go_enter Tryz.func47, Tryz.ntmps47
    go_wp2
    go_ret2
    exact ⟨rfl, rfl⟩
  · have t1 : decide (n < 1) = false := by simpa using h1
    have t2 : decide (65535 < n) = true := by simp; omega
    clear h
    go_enter Tryz.func47, Tryz.ntmps47
    go_wp2
    go_ret2
    exact ⟨rfl, rfl⟩
theorem info_cell : (Tryz.prog.info? 239).map (fun i => (i.zero, i.size, i.bytes)) = some (some (.agg #[.nilIface, .int .i64 0, .int .i64 0, .bool false]), 4, 40) := by kernel_rfl
theorem made4 (z : List Value) (hz : z.length = 4) (n i : Nat) (h : i < n) : (((madeCells z.toArray (n * 4)).toList.drop (i * 4)).take 4) = z := by
  apply List.ext_getElem?
  intro q
  rw [List.getElem?_take, List.getElem?_drop]
  split
  · rename_i hq
    have hlt : i * 4 + q < n * 4 := by omega
    simp only [madeCells, Array.toList_map, List.getElem?_map, Array.toList_range, List.getElem?_range hlt, Option.map_some, List.size_toArray, hz]
    rw [show (i * 4 + q) % 4 = q by omega, List.getElem?_eq_getElem (by omega), List.getElem!_toArray, getElem!_pos z q (by omega)]
  · rw [List.getElem?_eq_none (by omega)]
theorem mem_New (w : World) (n : Nat) (I : IHeap) (h1 : 1 ≤ n) (h2 : n ≤ 65535) :
    Calls Tryz.prog 47 #[.int .i64 n] w fun e w' => ∃ m cb, e = .returned (.tuple #[.pointer (some ⟨m, 0, none⟩), .int .i64 0]) ∧ MemAt w' m cb I (Mem.fresh n) ∧ New w w' ∧ w.heap.size ≤ m ∧ w.heap.size ≤ cb := by
  have t1 : decide ((n : Int) < 1) = false := by simp; omega
  have t2 : decide (65535 < (n : Int)) = false := by simp; omega
  obtain ⟨i, hi, hz0, hz1, hz2⟩ := info_parts info_cell
  obtain ⟨w1, hr, hown, hg⟩ := run_make_full (P := Tryz.prog) w w.heap.size 167 239 i (.agg #[.nilIface, .int .i64 0, .int .i64 0, .bool false]) 4 Tryz.underlying167 hi hz0 hz1 .i64 .i64 n (by rw [hz2]; omega) (by unfold maxLen; omega) (Nat.le_refl _)
  have HO := Lib.hid hown
  have HG := Lib.hid hg
  clear hown hg hi hz0 hz1 hz2
  go_enter Tryz.func47, Tryz.ntmps47
  go_wp2
  go_ret2
  refine ⟨w1.heap.size, w.heap.size, rfl, ?_, ?_, HG.out.size, Nat.le_refl _⟩
  · obtain ⟨hl, hx | ⟨g, cap, cur, hv, hbase, hh, hnc, hcm, hcs, htake⟩⟩ := HO.out
    · simp at hx
    · simp only [Value.slice.injEq, Option.some.injEq, Addr.mk.injEq, and_true, true_and] at hv
      obtain ⟨rfl, rfl⟩ := hv
      refine ⟨?_, by simpa [Mem.fresh] using h2, cur, alloc_old hh, by simpa [Mem.fresh] using hcs, fun j c hc => ?_⟩
      · rw [alloc_new]; simp [Mem.fresh]
      · have hj : j < n := by have := (List.getElem?_eq_some_iff.1 hc).1; simpa [Mem.fresh] using this
        obtain rfl : c = ⟨none, 0, 0, false⟩ := by simp [Mem.fresh, List.getElem?_replicate] at hc; exact hc.2.symm
        rw [← List.take_of_length_le (l := cur.toList) (i := n * 4) (by simp [hcs]), htake, show (Value.agg #[.nilIface, .int .i64 0, .int .i64 0, .bool false]).cells = [Value.nilIface, .int .i64 0, .int .i64 0, .bool false].toArray from rfl, made4 [.nilIface, .int .i64 0, .int .i64 0, .bool false] rfl n j hj]
        exact ⟨_, rfl, rfl⟩
  · exact Kept.alloc ((Kept.refl _ _).grown HG.out (by simp)) _
end Go.Proofs.YtadaiihoclknmaaGreat
