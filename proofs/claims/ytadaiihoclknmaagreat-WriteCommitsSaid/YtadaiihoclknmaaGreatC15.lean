/- Part 15 of the proof: Node6. -/
import Derived.Sort.LoopGhostIn
import Derived.Stop.RegionWithIn
import Derived.Test.YtadaiihoclknmaaGreatC14
/- Ages: the iterator of node.At. -/
namespace Go.Proofs.YtadaiihoclknmaaGreat
open Go.RowKit
set_option maxHeartbeats 4000000
set_option maxRecDepth 100000
set_option linter.unusedVariables false
set_option linter.unusedSimpArgs false
attribute [local go_sem] Oper.semAt_some
def nChain (v : Int) : Nat → Int → Prog (Option Age × Int)
  | 0, _ => .stuck
  | f + 1, h => if h = 0 then return (none, 0) else do
    let x ← nTake h
    if x.2 = 0 then
      if x.1.rev.version ≤ v then return (some x.1, 0) else do
        let y ← pWord x.1.prev
        if y.2 = 0 then nChain v f y.1 else return (none, y.2)
    else return (none, x.2)
theorem nChain_succ (v : Int) (f : Nat) (h : Int) : nChain v (f + 1) h = if h = 0 then return (none, 0) else do
    let x ← nTake h
    if x.2 = 0 then
      if x.1.rev.version ≤ v then return (some x.1, 0) else do
        let y ← pWord x.1.prev
        if y.2 = 0 then nChain v f y.1 else return (none, y.2)
    else return (none, x.2) := rfl
/-- What the iterator leaves. -/
def AtPost (w : World) (L : Loc) (I : IHeap) (t : AtT) (l D b10 : Nat) (rr : Loop) (r : Out (Option Age × Int) × PS) (e : Ending) (W' : World) : Prop :=
  ∃ J' s', Mg w L I J' s' W' ∧ NB w J' W' D (.deferred (some [])) ∧
    ((∃ (x : Value) (a : Age) (ka : Option Addr) (kc : Nat) (va : Option Addr) (vc : Nat) (ga : Option Addr) (gc : Nat) (ta : Option Addr) (tc : Nat), e = .returned x ∧ r = (.ret (some a, 0), s') ∧ AgeV J' (.agg #[.int .i64 a.rev.version, .int .i64 a.rev.rate, .string a.rev.span.lo, .string a.rev.span.hi, .bool a.rev.span.all, .bool a.rev.dead, .slice ka a.rev.keys.length kc, .slice va a.rev.vals.length vc, .slice ga a.rev.gone.length gc, .slice ta a.rev.table.length tc, .int .i64 a.prev]) a ∧ NB w J' W' l (.loop { rr with state := .done, pending := some .ret }) ∧
        OB w J' W' t.b6 #[.int .i64 a.rev.version, .int .i64 a.rev.rate, .string a.rev.span.lo, .string a.rev.span.hi, .bool a.rev.span.all, .bool a.rev.dead, .slice ka a.rev.keys.length kc, .slice va a.rev.vals.length vc, .slice ga a.rev.gone.length gc, .slice ta a.rev.table.length tc, .int .i64 a.prev] 211 ∧ OB w J' W' t.b7 #[.bool true] 4 ∧ OB w J' W' t.b8 #[.int .i64 0] 32) ∨
     (∃ x er, e = .returned x ∧ r = (.ret (none, er), s') ∧ NB w J' W' l (.loop rr) ∧ OB w J' W' b10 #[.int .i64 er] 32 ∧
        OB w J' W' t.b6 #[.int .i64 0, .int .i64 0, .string ⟨#[]⟩, .string ⟨#[]⟩, .bool false, .bool false, .slice none 0 0, .slice none 0 0, .slice none 0 0, .slice none 0 0, .int .i64 0] 211 ∧ OB w J' W' t.b7 #[.bool false] 4 ∧ OB w J' W' t.b8 #[.int .i64 0] 32) ∨
     (e = .panicked [pzEntry] ∧ r = (.paused, s')))
theorem OB.kept {w W W1 : World} {J : IHeap} {b : Nat} {cs : Array Value} {t : TypeId} {S : Nat → Prop} (ho : OB w J W b cs t) (hk : Kept S W W1) (hs : ¬ S b) : OB w J W1 b cs t := ⟨hk.obj ho.at_ hs, ho.ty, ho.ge, ho.no⟩
theorem NB.kept {w W W1 : World} {J : IHeap} {b : Nat} {o : Obj} {S : Nat → Prop} (ho : NB w J W b o) (hk : Kept S W W1) (hs : ¬ S b) : NB w J W1 b o := ⟨hk.obj ho.at_ hs, ho.nc, ho.ge, ho.no⟩
theorem or4 {p : Nat → Prop} {a b c d : Nat} (h1 : p a) (h2 : p b) (h3 : p c) (h4 : p d) (k : Nat) (h : k = a ∨ k = b ∨ k = c ∨ k = d) : p k := by
  rcases h with rfl | rfl | rfl | rfl <;> assumption
theorem Mg.call2 {α : Type} {w W W1 : World} {L : Loc} {I J : IHeap} {s : PS} (h : Mg w L I J s W) {r : Out α × PS} {R : IHeap → Value → α → Prop} {e : Ending} (hp : Post L W J r R e W1) :
    (∃ a s1 K v, r = (.ret a, s1) ∧ e = .returned v ∧ R K v a ∧ Grow J W K ∧ Keeps L W W1 ∧ Mg w L I K s1 W1) ∨ (∃ s1 K, r = (.paused, s1) ∧ e = .panicked [pzEntry] ∧ Grow J W K ∧ Keeps L W W1 ∧ Mg w L I K s1 W1) := by
  obtain ⟨K, hg, hk, hs, hr | hr⟩ := hp
  · obtain ⟨a, v, h1, h2, h3⟩ := hr
    exact .inl ⟨a, r.2, K, v, by rw [← h1], h2, h3, hg, hk, ⟨h.grow.trans hg h.size, h.keeps.trans hk, hs⟩⟩
  · exact .inr ⟨r.2, K, by rw [← hr.1], hr.2, hg, hk, ⟨h.grow.trans hg h.size, h.keeps.trans hk, hs⟩⟩
theorem AtT.put (t : AtT) (x y : Value) : ((#[27, 28] : Array Tmp).zip #[x, y]).foldl (fun tmps (t, a) => tmps.setIfInBounds t a) (t.tmps undef undef) = t.tmps x y := by
  simp [AtT.tmps]
theorem node_ages1 (w : World) (L : Loc) (I : IHeap) (t : AtT) (c : Code × Code) (hc : c = atLoop Tryz.f132) (l D bh bp be b10 : Nat) (v h : Int) (rr : Loop)
    (hr1 : rr.state = .ready) (hr2 : rr.pending = none) (hr4 : rr.tmps = t.tmps undef undef) (hr5 : rr.params = #[27, 28]) (hr6 : rr.assign = c.1) (hr7 : rr.body = c.2)
    (F : Nat) (s : PS) (J : IHeap) (W : World) (M0 : Mg w L I J s W) (hn : ((nChain v F h).exec s).1.ok)
    (h5 : OB w J W t.b5 #[.int .i64 v] 3) (h6 : OB w J W t.b6 #[.int .i64 0, .int .i64 0, .string ⟨#[]⟩, .string ⟨#[]⟩, .bool false, .bool false, .slice none 0 0, .slice none 0 0, .slice none 0 0, .slice none 0 0, .int .i64 0] 211) (h7 : OB w J W t.b7 #[.bool false] 4) (h8 : OB w J W t.b8 #[.int .i64 0] 32)
    (h10 : OB w J W b10 #[.int .i64 0] 32) (hh : OB w J W bh #[.int .i64 h] 3) (hp : OB w J W bp #[.pointer (some ⟨L.p, 0, none⟩)] 39) (he : OB w J W be #[.pointer (some ⟨b10, 0, none⟩)] 266)
    (hL : NB w J W l (.loop rr)) (hD : NB w J W D (.deferred (some []))) (hDl : D ≠ l)
    (n67 : t.b6 ≠ t.b7) (n68 : t.b6 ≠ t.b8) (n78 : t.b7 ≠ t.b8) (n610 : t.b6 ≠ b10) (n710 : t.b7 ≠ b10) (n810 : t.b8 ≠ b10) :
    CallsIn Fence.wide 0 Tryz.prog 222 #[.func (.yield l) #[] #[], .pointer (some ⟨bh, 0, none⟩), .pointer (some ⟨bp, 0, none⟩), .pointer (some ⟨be, 0, none⟩)] W
      (AtPost w L I t l D b10 rr ((nChain v F h).exec s)) := by
  refine callsIn_of_wp Tryz.func222 rfl trivial ?_ rfl
  simp only [Tryz.ntmps222, List.size_toArray, List.length_cons, List.length_nil, Nat.reduceAdd, Nat.reduceSub, Array.replicate_succ, Array.replicate_zero, List.push_toArray, List.append_toArray, List.nil_append, List.cons_append]
  have HC := Lib.hid hc
  have HR6 := Lib.hid hr6
  have HR7 := Lib.hid hr7
  have HR5 := Lib.hid hr5
  have HR4 := Lib.hid hr4
  clear hc hr4 hr5 hr6 hr7
  have HN := Lib.hid hn
  obtain ⟨R0, hR0⟩ : ∃ R0, R0 = (nChain v F h).exec s := ⟨_, rfl⟩
  have X0 := Ex.mk hR0
  rw [← hR0] at HN ⊢
  clear hR0 hn
  have HH := Lib.hid hh
  have MM := Lib.hid M0
  have BA5 := Lib.hid h5
  have BA6 := Lib.hid h6
  have BA7 := Lib.hid h7
  have BA8 := Lib.hid h8
  have BA10 := Lib.hid h10
  have BAP := Lib.hid hp
  have BAE := Lib.hid he
  have BAL := Lib.hid hL
  have BAD := Lib.hid hD
  clear M0 hh h5 h6 h7 h8 h10 hp he hL hD
  have h0 := cell_blk HH.out.at_ 0
  have hf0 := free_blk HH.out.at_ 0
  have hs := lt_of_block HH.out.at_
  gi_wp2_with fail
  gi_loopg [5] F (fun m o W => ∃ (h : Int) (J : IHeap) (s' : PS), o = .int .i64 h ∧ Hid (Mg w L I J s' W) ∧ Hid (OB w J W t.b5 #[.int .i64 v] 3) ∧ Hid (OB w J W t.b6 #[.int .i64 0, .int .i64 0, .string ⟨#[]⟩, .string ⟨#[]⟩, .bool false, .bool false, .slice none 0 0, .slice none 0 0, .slice none 0 0, .slice none 0 0, .int .i64 0] 211) ∧ Hid (OB w J W t.b7 #[.bool false] 4) ∧ Hid (OB w J W t.b8 #[.int .i64 0] 32) ∧
    Hid (OB w J W b10 #[.int .i64 0] 32) ∧ Hid (OB w J W bp #[.pointer (some ⟨L.p, 0, none⟩)] 39) ∧ Hid (OB w J W be #[.pointer (some ⟨b10, 0, none⟩)] 266) ∧ Hid (NB w J W l (.loop rr)) ∧ Hid (NB w J W D (.deferred (some []))) ∧ Ex R0 ((nChain v m h).exec s'))
  case atStart => exact ⟨h, J, s, rfl, MM, BA5, BA6, BA7, BA8, BA10, BAP, BAE, BAL, BAD, X0⟩
  case round =>
  obtain ⟨h1, J1, s1, rfl, M1, A5, A6, A7, A8, A10, AP, AE, AL, AD, X1⟩ := hrel
  clear MM HH h0 hf0 hs X0 BA5 BA6 BA7 BA8 BA10 BAP BAE BAL BAD
  cases gk with
  | zero => exact (show R0.1.ok → False by rw [X1.out]; exact id) HN.out |>.elim
  | succ m =>
  rw [nChain_succ] at X1
  by_cases hz : h1 = 0
  · subst hz
    have X2 := Ex.mk (x_if X1.out rfl)
    clear X1
    gi_wp2_with fail
    refine bodyPost_ret (results_none rfl _ _ _) rfl ?_
    exact ⟨J1, s1, M1.out, AD.out, .inr (.inl ⟨_, 0, rfl, by rw [X2.out]; rfl, AL.out, A10.out, A6.out, A7.out, A8.out⟩)⟩
  · have X2 := Ex.mk (x_else X1.out hz)
    have hz' := ne_true hz
    clear X1
    have p0 := cell_blk AP.out.at_ 0
    have pf0 := free_blk AP.out.at_ 0
    have ps := lt_of_block AP.out.at_
    gi_wp2_with fail
    refine ⟨trivial, rfl, callsIn_wide.2 ?_⟩
    refine (node_Take _ L _ _ M1.out.st h1 (ok_of HN.out X2.out)).mono ?_
    intro e W3 hP
    rcases M1.out.call2 hP with ⟨⟨a, e3⟩, s3, J3, v3, hr, rfl, ⟨x, rfl, hx⟩, hg, hk, hM⟩ | ⟨s', J', hr, rfl, hg, hk, hM⟩
    rotate_left
    · exact ⟨rfl, _, _, hM, NB.call M1.out hk hg AD.out, .inr (.inr ⟨rfl, x_paused X2.out hr⟩)⟩
    have M3 := Lib.hid hM
    have K3 := Lib.hid hk
    have G3 := Lib.hid hg
    have X3 := Ex.mk (x_ret X2.out hr)
    have C5 := Lib.hid (OB.call M1.out hk hg A5.out)
    have C6 := Lib.hid (OB.call M1.out hk hg A6.out)
    have C7 := Lib.hid (OB.call M1.out hk hg A7.out)
    have C8 := Lib.hid (OB.call M1.out hk hg A8.out)
    have C10 := Lib.hid (OB.call M1.out hk hg A10.out)
    have CP := Lib.hid (OB.call M1.out hk hg AP.out)
    have CE := Lib.hid (OB.call M1.out hk hg AE.out)
    have CL := Lib.hid (NB.call M1.out hk hg AL.out)
    have CD := Lib.hid (NB.call M1.out hk hg AD.out)
    obtain ⟨ka, kc, va, vc, ga, gc, ta, tc, rfl, _⟩ := hx.form
    have HX := Lib.hid hx
    clear hP hr hg hk hM M1 X2 A5 A6 A7 A8 A10 AP AE AL AD p0 pf0 ps hx K3 G3
    dsimp only at HX X3 ⊢
    by_cases he : e3 = 0
    · subst he
      have X4 := Ex.mk (x_if X3.out rfl)
      clear X3
      have hy : (Instr.yield l #[.int .i64 h1, .agg #[.int .i64 a.rev.version, .int .i64 a.rev.rate, .string a.rev.span.lo, .string a.rev.span.hi, .bool a.rev.span.all, .bool a.rev.dead, .slice ka a.rev.keys.length kc, .slice va a.rev.vals.length vc, .slice ga a.rev.gone.length gc, .slice ta a.rev.table.length tc, .int .i64 a.prev]]).run Tryz.prog (W3.alloc (.cells #[.int .i64 a.rev.version, .int .i64 a.rev.rate, .string a.rev.span.lo, .string a.rev.span.hi, .bool a.rev.span.all, .bool a.rev.dead, .slice ka a.rev.keys.length kc, .slice va a.rev.vals.length vc, .slice ga a.rev.gone.length gc, .slice ta a.rev.table.length tc, .int .i64 a.prev] 211)) = .ok (.round l rr.fn (t.tmps (.int .i64 h1) (.agg #[.int .i64 a.rev.version, .int .i64 a.rev.rate, .string a.rev.span.lo, .string a.rev.span.hi, .bool a.rev.span.all, .bool a.rev.dead, .slice ka a.rev.keys.length kc, .slice va a.rev.vals.length vc, .slice ga a.rev.gone.length gc, .slice ta a.rev.table.length tc, .int .i64 a.prev])) c.1 c.2) (W3.alloc (.cells #[.int .i64 a.rev.version, .int .i64 a.rev.rate, .string a.rev.span.lo, .string a.rev.span.hi, .bool a.rev.span.all, .bool a.rev.dead, .slice ka a.rev.keys.length kc, .slice va a.rev.vals.length vc, .slice ga a.rev.gone.length gc, .slice ta a.rev.table.length tc, .int .i64 a.prev] 211)) := by
        have := run_yield (P := Tryz.prog) (args := #[.int .i64 h1, .agg #[.int .i64 a.rev.version, .int .i64 a.rev.rate, .string a.rev.span.lo, .string a.rev.span.hi, .bool a.rev.span.all, .bool a.rev.dead, .slice ka a.rev.keys.length kc, .slice va a.rev.vals.length vc, .slice ga a.rev.gone.length gc, .slice ta a.rev.table.length tc, .int .i64 a.prev]]) (CL.out.alloc (.cells #[.int .i64 a.rev.version, .int .i64 a.rev.rate, .string a.rev.span.lo, .string a.rev.span.hi, .bool a.rev.span.all, .bool a.rev.dead, .slice ka a.rev.keys.length kc, .slice va a.rev.vals.length vc, .slice ga a.rev.gone.length gc, .slice ta a.rev.table.length tc, .int .i64 a.prev] 211)).at_ (by rw [HR5.out]; rfl)
        rw [HR4.out, HR5.out, HR6.out, HR7.out, AtT.put] at this
        exact this
      gi_wp2_with fail
      refine ⟨rfl, ?_⟩
      clear hy
      have D5 := Lib.hid (C5.out.alloc (.cells #[.int .i64 a.rev.version, .int .i64 a.rev.rate, .string a.rev.span.lo, .string a.rev.span.hi, .bool a.rev.span.all, .bool a.rev.dead, .slice ka a.rev.keys.length kc, .slice va a.rev.vals.length vc, .slice ga a.rev.gone.length gc, .slice ta a.rev.table.length tc, .int .i64 a.prev] 211))
      have D6 := Lib.hid (C6.out.alloc (.cells #[.int .i64 a.rev.version, .int .i64 a.rev.rate, .string a.rev.span.lo, .string a.rev.span.hi, .bool a.rev.span.all, .bool a.rev.dead, .slice ka a.rev.keys.length kc, .slice va a.rev.vals.length vc, .slice ga a.rev.gone.length gc, .slice ta a.rev.table.length tc, .int .i64 a.prev] 211))
      have D7 := Lib.hid (C7.out.alloc (.cells #[.int .i64 a.rev.version, .int .i64 a.rev.rate, .string a.rev.span.lo, .string a.rev.span.hi, .bool a.rev.span.all, .bool a.rev.dead, .slice ka a.rev.keys.length kc, .slice va a.rev.vals.length vc, .slice ga a.rev.gone.length gc, .slice ta a.rev.table.length tc, .int .i64 a.prev] 211))
      have D8 := Lib.hid (C8.out.alloc (.cells #[.int .i64 a.rev.version, .int .i64 a.rev.rate, .string a.rev.span.lo, .string a.rev.span.hi, .bool a.rev.span.all, .bool a.rev.dead, .slice ka a.rev.keys.length kc, .slice va a.rev.vals.length vc, .slice ga a.rev.gone.length gc, .slice ta a.rev.table.length tc, .int .i64 a.prev] 211))
      have D10 := Lib.hid (C10.out.alloc (.cells #[.int .i64 a.rev.version, .int .i64 a.rev.rate, .string a.rev.span.lo, .string a.rev.span.hi, .bool a.rev.span.all, .bool a.rev.dead, .slice ka a.rev.keys.length kc, .slice va a.rev.vals.length vc, .slice ga a.rev.gone.length gc, .slice ta a.rev.table.length tc, .int .i64 a.prev] 211))
      have DP := Lib.hid (CP.out.alloc (.cells #[.int .i64 a.rev.version, .int .i64 a.rev.rate, .string a.rev.span.lo, .string a.rev.span.hi, .bool a.rev.span.all, .bool a.rev.dead, .slice ka a.rev.keys.length kc, .slice va a.rev.vals.length vc, .slice ga a.rev.gone.length gc, .slice ta a.rev.table.length tc, .int .i64 a.prev] 211))
      have DE := Lib.hid (CE.out.alloc (.cells #[.int .i64 a.rev.version, .int .i64 a.rev.rate, .string a.rev.span.lo, .string a.rev.span.hi, .bool a.rev.span.all, .bool a.rev.dead, .slice ka a.rev.keys.length kc, .slice va a.rev.vals.length vc, .slice ga a.rev.gone.length gc, .slice ta a.rev.table.length tc, .int .i64 a.prev] 211))
      have DL := Lib.hid (CL.out.alloc (.cells #[.int .i64 a.rev.version, .int .i64 a.rev.rate, .string a.rev.span.lo, .string a.rev.span.hi, .bool a.rev.span.all, .bool a.rev.dead, .slice ka a.rev.keys.length kc, .slice va a.rev.vals.length vc, .slice ga a.rev.gone.length gc, .slice ta a.rev.table.length tc, .int .i64 a.prev] 211))
      have DD := Lib.hid (CD.out.alloc (.cells #[.int .i64 a.rev.version, .int .i64 a.rev.rate, .string a.rev.span.lo, .string a.rev.span.hi, .bool a.rev.span.all, .bool a.rev.dead, .slice ka a.rev.keys.length kc, .slice va a.rev.vals.length vc, .slice ga a.rev.gone.length gc, .slice ta a.rev.table.length tc, .int .i64 a.prev] 211))
      have DA := Lib.hid (OB.fresh M3.out #[.int .i64 a.rev.version, .int .i64 a.rev.rate, .string a.rev.span.lo, .string a.rev.span.hi, .bool a.rev.span.all, .bool a.rev.dead, .slice ka a.rev.keys.length kc, .slice va a.rev.vals.length vc, .slice ga a.rev.gone.length gc, .slice ta a.rev.table.length tc, .int .i64 a.prev] 211 rfl)
      have M4 := Lib.hid (M3.out.alloc (.cells #[.int .i64 a.rev.version, .int .i64 a.rev.rate, .string a.rev.span.lo, .string a.rev.span.hi, .bool a.rev.span.all, .bool a.rev.dead, .slice ka a.rev.keys.length kc, .slice va a.rev.vals.length vc, .slice ga a.rev.gone.length gc, .slice ta a.rev.table.length tc, .int .i64 a.prev] 211))
      clear C5 C6 C7 C8 C10 CP CE CL CD M3
      generalize W3.alloc (.cells #[.int .i64 a.rev.version, .int .i64 a.rev.rate, .string a.rev.span.lo, .string a.rev.span.hi, .bool a.rev.span.all, .bool a.rev.dead, .slice ka a.rev.keys.length kc, .slice va a.rev.vals.length vc, .slice ga a.rev.gone.length gc, .slice ta a.rev.table.length tc, .int .i64 a.prev] 211) = W4 at *
      generalize W3.heap.size = b6 at *
      refine at_round t c HC.out _ l rr.fn rr W4 v a ka va ga ta kc vc gc tc h1 D5.out.at_ D6.out.at_ D7.out.at_ D8.out.at_ DL.out.at_ hr1 n67 n68 n78 _ ?_
      rintro e W5 (⟨rfl, hv, hk, hl⟩ | ⟨rfl, hv, hk, hl, g6, g7, g8⟩)
      · have X5 := Ex.mk (x_else X4.out hv)
        have hrr : ({ rr with state := .ready, pending := none } : Loop) = rr := by cases rr; simp at hr1 hr2; subst hr1; subst hr2; rfl
        rw [hrr] at hl
        have M5 := Lib.hid (M4.out.own hk (fun k e => e ▸ DL.out.ge) (fun k e => e ▸ DL.out.not_ss M4.out) (fun k e => e ▸ DL.out.no))
        have E5 := Lib.hid (D5.out.kept hk (fun e => DL.out.ne D5.out e.symm))
        have E6 := Lib.hid (D6.out.kept hk (fun e => DL.out.ne D6.out e.symm))
        have E7 := Lib.hid (D7.out.kept hk (fun e => DL.out.ne D7.out e.symm))
        have E8 := Lib.hid (D8.out.kept hk (fun e => DL.out.ne D8.out e.symm))
        have E10 := Lib.hid (D10.out.kept hk (fun e => DL.out.ne D10.out e.symm))
        have EP := Lib.hid (DP.out.kept hk (fun e => DL.out.ne DP.out e.symm))
        have EE := Lib.hid (DE.out.kept hk (fun e => DL.out.ne DE.out e.symm))
        have EA := Lib.hid (DA.out.kept hk (fun e => DL.out.ne DA.out e.symm))
        have ED := Lib.hid (DD.out.kept hk hDl)
        have EL := Lib.hid (show NB w J3 W5 l (.loop rr) from ⟨hl, rfl, DL.out.ge, DL.out.no⟩)
        clear hk hl hrr hv D5 D6 D7 D8 D10 DP DE DA DD DL M4 X4
        have g0 := cell_blk EA.out.at_ 0
        have g1 := cell_blk EA.out.at_ 1
        have g2 := cell_blk EA.out.at_ 2
        have g3 := cell_blk EA.out.at_ 3
        have g4 := cell_blk EA.out.at_ 4
        have g5 := cell_blk EA.out.at_ 5
        have g6 := cell_blk EA.out.at_ 6
        have g7 := cell_blk EA.out.at_ 7
        have g8 := cell_blk EA.out.at_ 8
        have g9 := cell_blk EA.out.at_ 9
        have g10 := cell_blk EA.out.at_ 10
        have gf0 := free_blk EA.out.at_ 0
        have gf1 := free_blk EA.out.at_ 1
        have gf2 := free_blk EA.out.at_ 2
        have gf3 := free_blk EA.out.at_ 3
        have gf4 := free_blk EA.out.at_ 4
        have gf5 := free_blk EA.out.at_ 5
        have gf6 := free_blk EA.out.at_ 6
        have gf7 := free_blk EA.out.at_ 7
        have gf8 := free_blk EA.out.at_ 8
        have gf9 := free_blk EA.out.at_ 9
        have gf10 := free_blk EA.out.at_ 10
        have gs := lt_of_block EA.out.at_
        have p0 := cell_blk EP.out.at_ 0
        have pf0 := free_blk EP.out.at_ 0
        have ps := lt_of_block EP.out.at_
        dsimp only
        gi_wp2_with fail
        refine ⟨trivial, rfl, callsIn_wide.2 ?_⟩
        refine (port_Word _ L _ _ M5.out.st a.prev (ok_of HN.out X5.out)).mono ?_
        intro e W6 hP
        rcases M5.out.call2 hP with ⟨⟨a6, e6⟩, s6, J6, v6, hr, rfl, rfl, hg, hk, hM⟩ | ⟨s', J', hr, rfl, hg, hk, hM⟩
        rotate_left
        · exact ⟨rfl, _, _, hM, NB.call M5.out hk hg ED.out, .inr (.inr ⟨rfl, x_paused X5.out hr⟩)⟩
        have M6 := Lib.hid hM
        have X6 := Ex.mk (x_ret X5.out hr)
        have C5 := Lib.hid (OB.call M5.out hk hg E5.out)
        have C6 := Lib.hid (OB.call M5.out hk hg E6.out)
        have C7 := Lib.hid (OB.call M5.out hk hg E7.out)
        have C8 := Lib.hid (OB.call M5.out hk hg E8.out)
        have C10 := Lib.hid (OB.call M5.out hk hg E10.out)
        have CP := Lib.hid (OB.call M5.out hk hg EP.out)
        have CE := Lib.hid (OB.call M5.out hk hg EE.out)
        have CL := Lib.hid (NB.call M5.out hk hg EL.out)
        have CD := Lib.hid (NB.call M5.out hk hg ED.out)
        clear hP hr hg hk hM M5 X5 E5 E6 E7 E8 E10 EP EE EL ED EA g0 g1 g2 g3 g4 g5 g6 g7 g8 g9 g10 gf0 gf1 gf2 gf3 gf4 gf5 gf6 gf7 gf8 gf9 gf10 gs p0 pf0 ps
        by_cases he : e6 = 0
        · subst he
          have X7 := Ex.mk (x_if X6.out rfl)
          clear X6
          gi_wp2
          gi_roundg m
          case measure => omega
          case rel => exact ⟨a6, J6, s6, rfl, M6, C5, C6, C7, C8, C10, CP, CE, CL, CD, X7⟩
        · have t1 := ne_true he
          have X7 := Ex.mk (x_else X6.out he)
          clear he X6
          have q0 := cell_blk CE.out.at_ 0
          have qf0 := free_blk CE.out.at_ 0
          have qs := lt_of_block CE.out.at_
          have r0 := cell_blk C10.out.at_ 0
          have rf0 := free_blk C10.out.at_ 0
          have rs := lt_of_block C10.out.at_
          gi_wp2_with fail
          refine bodyPost_ret (results_none rfl _ _ _) rfl ?_
          exact ⟨J6, s6, M6.out.seto (a := ⟨b10, 0, none⟩) C10.out.ok _, CD.out.far (CD.out.ne C10.out) _, .inr (.inl ⟨_, e6, rfl, by rw [X7.out]; rfl, CL.out.far (CL.out.ne C10.out) _, C10.out.set 0 _, C6.out.far n610 _, C7.out.far n710 _, C8.out.far n810 _⟩)⟩
      · have X5 := Ex.mk (x_if X4.out hv)
        have hmg := M4.out.own hk (or4 DL.out.ge D6.out.ge D7.out.ge D8.out.ge) (or4 (p := fun k => ¬ SS L W4 k) (DL.out.not_ss M4.out) (M4.out.st.not_ss D6.out.at_ D6.out.ty) (M4.out.st.not_ss D7.out.at_ D7.out.ty) (M4.out.st.not_ss D8.out.at_ D8.out.ty)) (or4 (p := fun k => J3 k = none) DL.out.no D6.out.no D7.out.no D8.out.no)
        dsimp only
        gi_wp2_with fail
        refine bodyPost_ret (results_none rfl _ _ _) rfl ?_
        exact ⟨J3, s3, hmg, DD.out.kept hk (fun e => or4 (p := fun k => D = k → False) hDl (DD.out.ne D6.out) (DD.out.ne D7.out) (DD.out.ne D8.out) D e rfl), .inl ⟨_, a, _, _, _, _, _, _, _, _, rfl, by rw [X5.out]; rfl, HX.out, ⟨hl, rfl, DL.out.ge, DL.out.no⟩, ⟨g6, rfl, D6.out.ge, D6.out.no⟩, ⟨g7, rfl, D7.out.ge, D7.out.no⟩, ⟨g8, rfl, D8.out.ge, D8.out.no⟩⟩⟩
    · have t1 := ne_true he
      have t2 : (e3 == 0) = false := by simpa using he
      have X4 := Ex.mk (x_else X3.out he)
      clear he X3
      have q0 := cell_blk CE.out.at_ 0
      have qf0 := free_blk CE.out.at_ 0
      have qs := lt_of_block CE.out.at_
      have r0 := cell_blk C10.out.at_ 0
      have rf0 := free_blk C10.out.at_ 0
      have rs := lt_of_block C10.out.at_
      gi_wp2_with fail
      refine ⟨fun _ h => (by cases h), ?_⟩
      gi_wp2_with fail
      refine bodyPost_ret (results_none rfl _ _ _) rfl ?_
      exact ⟨J3, s3, (M3.out.seto (a := ⟨b10, 0, none⟩) C10.out.ok _).alloc _, (CD.out.far (CD.out.ne C10.out) _).alloc _, .inr (.inl ⟨_, e3, rfl, by rw [X4.out]; rfl, (CL.out.far (CL.out.ne C10.out) _).alloc _, (C10.out.set 0 _).alloc _, (C6.out.far n610 _).alloc _, (C7.out.far n710 _).alloc _, (C8.out.far n810 _).alloc _⟩)⟩
end Go.Proofs.YtadaiihoclknmaaGreat
