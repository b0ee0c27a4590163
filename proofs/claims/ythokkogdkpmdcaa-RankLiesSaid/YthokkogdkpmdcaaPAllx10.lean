/- The Go functions that the laws reach, as Lean functions, and that each call comes to what its function says. Written by a program of this session (a turned copy of the kit's print). No condition beyond those that each theorem states. -/
import Derived.Test.YthokkogdkpmdcaaPAllx0
import Derived.Test.YthokkogdkpmdcaaPAllx2
import Derived.Test.YthokkogdkpmdcaaPAllx3
import Derived.Test.YthokkogdkpmdcaaPAllx4
import Derived.Test.YthokkogdkpmdcaaPAllx5
import Derived.Test.YthokkogdkpmdcaaPAllx8
import Derived.Test.YthokkogdkpmdcaaPAllx9
namespace Go.Proofs.Ythokkogdkpmdcaa.PAll
open Go.RowKit Go.Proofs.YthokkogdkpmdcaaW.PrintWords Go.Proofs.YthokkogdkpmdcaaW.PrintLast Go.Proofs.YthokkogdkpmdcaaW.PrintMore
attribute [local go_sem] max2_int min2_int max_two min_two max_three min_three max_four min_four   -- for this text's walks alone
set_option linter.unusedVariables false
set_option linter.unusedSimpArgs false

/-! ### offertorylaw28_RankLies: function 5 -/
/-! ### RankLies -/
theorem cells4P {w : World} {g : Nat} {t : TypeId} {a b c d : Value} (h : w.heap[g]? = some (.cells #[a, b, c, d] t (0, 0))) :
    w.cell? ⟨g, 0, none⟩ = some a ∧ w.cell? ⟨g, 1, none⟩ = some b ∧ w.cell? ⟨g, 2, none⟩ = some c ∧ w.cell? ⟨g, 3, none⟩ = some d :=
  ⟨(blk_cell h 0).trans rfl, (blk_cell h 1).trans rfl, (blk_cell h 2).trans rfl, (blk_cell h 3).trans rfl⟩
theorem cells7P {w : World} {g : Nat} {t : TypeId} {a b c d e f i : Value} (h : w.heap[g]? = some (.cells #[a, b, c, d, e, f, i] t (0, 0))) :
    w.cell? ⟨g, 0, none⟩ = some a ∧ w.cell? ⟨g, 1, none⟩ = some b ∧ w.cell? ⟨g, 2, none⟩ = some c ∧ w.cell? ⟨g, 3, none⟩ = some d ∧ w.cell? ⟨g, 4, none⟩ = some e ∧ w.cell? ⟨g, 5, none⟩ = some f ∧ w.cell? ⟨g, 6, none⟩ = some i :=
  ⟨(blk_cell h 0).trans rfl, (blk_cell h 1).trans rfl, (blk_cell h 2).trans rfl, (blk_cell h 3).trans rfl, (blk_cell h 4).trans rfl, (blk_cell h 5).trans rfl, (blk_cell h 6).trans rfl⟩
theorem info_int : (Try.prog.info? 3).map (fun i => (i.zero, i.size, i.bytes)) = some (some (.int .i64 0), 1, 8) := by kernel_rfl
theorem row_blk {W : World} {k : IntKind} {e g base : Nat} {xs : List Int} (hb : W.heap[g]? = some (.cells (xs.map (Value.int k)).toArray e (0, 0))) (hg : base ≤ g) (hl : xs.length ≤ 1000) : (Kd.int k).R e W base (fun _ => True) (.slice (some ⟨g, 0, none⟩) xs.length xs.length) xs :=
  Kd.R_of_own ⟨by simp [encs], Or.inr ⟨g, xs.length, _, rfl, hg, hb, Nat.le_refl _, by simp only [maxLen]; omega, by simp, by simp [encs, List.take_of_length_le]⟩⟩ (fun _ _ => trivial)
/-- append to a literal's row, which has no room: nothing that stood is written. -/
theorem app_lit_run {P : Program} {W : World} {k : IntKind} (t ty e : TypeId) (z : Value) (bytes : Nat) (ht : P.underlying t = some (.slice e)) (hinfo : (P.info? e).map (fun i => (i.zero, i.size, i.bytes)) = some (some z, 1, bytes)) (hz : z.cells.size = 1) (hb0 : 0 < bytes)
    {g base : Nat} {xs ys : List Int} {A : Option Addr} {m c : Nat} (hg : base ≤ g) (hW : base ≤ W.heap.size) (hx : xs.length ≤ 1000) (hb : W.heap[g]? = some (.cells (xs.map (Value.int k)).toArray e (0, 0))) (HR : (Kd.int k).C W A m ys) (hl : (xs.length + m) * bytes ≤ 140737488355328) :
    ∃ v1 w1, (Builtin.append_ #[t, t] ty #[.slice (some ⟨g, 0, none⟩) xs.length xs.length, .slice A m c]).run P W = .ok v1 w1 ∧ (Kd.int k).R e w1 base (fun _ => True) v1 (xs ++ ys) ∧ Below W.heap.size W w1 := by
  obtain ⟨i0, hi, hzz⟩ := Option.map_eq_some_iff.1 hinfo
  simp only [Prod.mk.injEq] at hzz
  obtain ⟨hz0, hz1, hz2⟩ := hzz
  have hm : ys.length = m := HR.1
  have hlen : xs.length + m ≤ 140737488355328 := Nat.le_trans (Nat.le_mul_of_pos_right _ hb0) hl
  have hcell : ∀ j u, (xs.map (Value.int k))[j]? = some u → W.cell? ⟨g, j, none⟩ = some u := fun j u hu => by
    rw [blk_cell hb j]
    simpa using hu
  have hR0 := row_blk hb hg hx
  by_cases h0 : m = 0
  · subst h0
    obtain rfl : ys = [] := List.eq_nil_of_length_eq_zero hm
    rw [List.append_nil]
    refine ⟨.slice (some ⟨g, 0, none⟩) xs.length xs.length, W, ?_, hR0, Below.refl _ _⟩
    rcases A with _ | ad
    · simp [Builtin.append_, run_underlying ht, sizeOf, typeInfo, hi, Builtin.lenOf, Builtin.firstCells, storeCells]
    · exact run_append_room_cells (P := P) W t ty e i0 ht hi g 0 xs.length xs.length ad 0 c [] (by simp) (fun j u h => by simp at h) (fun u h => by cases h) (Nat.le_refl _) (fun j h => by simp at h) (fun j h => by simp at h)
  · obtain ⟨ad, rfl, hc⟩ := HR.2.2 (by omega)
    have hnews : ∀ j u, (ys.map (Value.int k))[j]? = some u → W.cell? (ad.add j) = some u := fun j u hu => by
      rw [List.getElem?_map] at hu
      obtain ⟨p, hp, rfl⟩ := Option.map_eq_some_iff.1 hu
      obtain ⟨cs, h1, h2, h3⟩ := hc j p hp
      have h4 : cs = [.int k p] := h2
      subst h4
      have := h3 0 (.int k p) rfl
      rw [show j * (Kd.int k).sz + 0 = j from by show j * 1 + 0 = j; omega] at this
      exact this
    obtain ⟨v1, w1, hrun, hown, hg⟩ := run_append_arg_grows (P := P) W t ty e i0 z 1 bytes ht hi hz0 hz1 hz2 hz (by decide) ⟨g, 0, none⟩ xs.length xs.length (xs.map (Value.int k)) (by simp) (fun j u hu => by rw [add_plain]; exact hcell j u hu) ad m c (ys.map (Value.int k)) (by rw [List.length_map, hm, Nat.mul_one]) hnews (by omega) (by simp only [maxLen]; omega) hl
    have hR : (Kd.int k).R e w1 W.heap.size (fun _ => True) v1 (xs ++ ys) := Kd.R_of_own (by
      have := hown
      rw [← List.map_append] at this
      rw [List.length_append, hm]
      exact this) (fun _ _ => trivial)
    exact ⟨_, w1, hrun, Kd.R_lower hR hW, ⟨hg.os, hg.tape, hg.output, hg.size, fun q hq => hg.block q hq (by simp)⟩⟩
theorem app_lit_step {P : Program} {ops : Array Oper} {Q : Exit → Act → World → Prop} {o : Oper} {a : Act} {W : World} {Kc : Act → World → Prop} {k : IntKind} (hw : Region.wanted o (yielded ops a.tmps) = true) (s x : Operand) (t e : TypeId) (z : Value) (bytes : Nat)
    (ho : o.op = .call { callee := .builtin .append, args := #[s, x], argTypes := #[t, t] }) (ht : P.underlying t = some (.slice e)) (hinfo : (P.info? e).map (fun i => (i.zero, i.size, i.bytes)) = some (some z, 1, bytes)) (hz : z.cells.size = 1) (hb0 : 0 < bytes)
    (g base : Nat) (xs ys : List Int) (A : Option Addr) (m c : Nat) (hs : a.eval s = .slice (some ⟨g, 0, none⟩) xs.length xs.length) (hx : a.eval x = .slice A m c) (hg : base ≤ g) (hW : base ≤ W.heap.size) (hxl : xs.length ≤ 1000) (hb : W.heap[g]? = some (.cells (xs.map (Value.int k)).toArray e (0, 0))) (HR : (Kd.int k).C W A m ys) (hl : (xs.length + m) * bytes ≤ 140737488355328)
    (h : ∀ v1 w1, (Kd.int k).R e w1 base (fun _ => True) v1 (xs ++ ys) → Below W.heap.size W w1 → Kc (a.put o.dst v1) w1) :
    if Region.wanted o (yielded ops a.tmps) = true then Oper.wp P o a W Kc Q else Kc (a.put o.dst undef) W := by
  obtain ⟨v1, w1, hrun, h1, h2⟩ := app_lit_run (P := P) t o.type e z bytes ht hinfo hz hb0 (c := c) hg hW hxl hb HR hl
  rw [if_pos hw]
  unfold Oper.wp
  simp [execOp, ho, resolve, invoke, builtin, hs, hx, hrun, Result.andThen]
  exact h v1 w1 h1 h2
/-- Where a number comes to stand in a list; the list with it; all of them in order. -/
def atL (x : Int) : List Int → Nat → Nat → Nat
  | [], _, a => a
  | y :: r, j, a => atL x r (j + 1) (if y ≤ x then j + 1 else a)
theorem atL_le (x : Int) : ∀ (o : List Int) (j a : Nat), a ≤ j → atL x o j a ≤ j + o.length
  | [], j, a, h => by simpa [atL] using h
  | y :: r, j, a, h => by
    unfold atL
    have := atL_le x r (j + 1) (if y ≤ x then j + 1 else a) (by split <;> omega)
    rw [List.length_cons]
    omega
def insA (x : Int) (o : List Int) : List Int := (o.take (atL x o 0 0) ++ [x]) ++ o.drop (atL x o 0 0)
theorem insA_len (x : Int) (o : List Int) : (insA x o).length = o.length + 1 := by
  have := atL_le x o 0 0 (Nat.le_refl _)
  unfold insA
  simp only [List.length_append, List.length_take, List.length_drop, List.length_cons, List.length_nil]
  omega
def ordF (lo hi most : Int) (es : List Int) : List Int → List Int → Option (List Int)
  | [], o => some o
  | y :: r, o => (offertoryref09_Clamp.f lo hi most es y).bind fun x => ordF lo hi most es r (insA x o)
theorem ordF_len {lo hi most : Int} {es : List Int} : ∀ (l o q : List Int), ordF lo hi most es l o = some q → q.length = o.length + l.length
  | [], o, q, h => by
    obtain rfl := Option.some.inj h
    rfl
  | y :: r, o, q, h => by
    obtain ⟨x, _, h2⟩ := Option.bind_eq_some_iff.mp h
    have := ordF_len r (insA x o) q h2
    rw [insA_len] at this
    rw [List.length_cons]
    omega
def offertorylaw28_RankLies.f (k : Nat) (lo hi most : Int) (es : List Int) (l : List Int) (kk : Int) : Option Bool :=
  (offertoryref09_Sound.f k lo hi most es).bind fun s => if s = 0 ∧ 0 < l.length then
    (offertoryref09_Stats.f k lo hi most es (l.take 50)).bind fun t => (ordF lo hi most es (l.take 50) []).bind fun o =>
    (rank_Rank.f k t.1 t.2.1 t.2.2.1 t.2.2.2.1 t.2.2.2.2.1 t.2.2.2.2.2.1 t.2.2.2.2.2.2 (kk % ((l.take 50).length : Int))).bind fun b => (rank_Bounds.f k lo hi most es b.1).bind fun u => (rank_Mean.f k t.1 t.2.1 t.2.2.1 t.2.2.2.1 t.2.2.2.2.1 t.2.2.2.2.2.1 t.2.2.2.2.2.2).bind fun m => (offertorylaw28_awake.f k).bind fun z =>
    if (0 ≤ kk ∧ kk ≤ 255) ∧ z = true ∧ b.2 = 0 ∧ u.2.2 = 0 ∧ m.2 = 0 ∧ u.1 ≤ rd o (kk % ((l.take 50).length : Int)) ∧ rd o (kk % ((l.take 50).length : Int)) ≤ u.2.1 ∧ rd o 0 ≤ m.1 ∧ m.1 ≤ rd o ((o.length : Int) - 1) then some true else none
  else offertorylaw28_awake.f k
theorem offertorylaw28_RankLies.mono : ∀ a0 a1 a2 a3 a4 a5 k, LeO (offertorylaw28_RankLies.f k a0 a1 a2 a3 a4 a5) (offertorylaw28_RankLies.f (k + 1) a0 a1 a2 a3 a4 a5) := by
  intro a0 a1 a2 a3 a4 a5 k
  unfold offertorylaw28_RankLies.f
  refine LeO.bind (offertoryref09_Sound.mono _ _ _ _ _) fun s => LeO.ite ?_ (offertorylaw28_awake.mono _)
  exact LeO.bind (offertoryref09_Stats.mono _ _ _ _ _ _) fun t => LeO.bind (LeO.refl _) fun o => LeO.bind (rank_Rank.mono _ _ _ _ _ _ _ _ _) fun b => LeO.bind (rank_Bounds.mono _ _ _ _ _ _) fun u => LeO.bind (rank_Mean.mono _ _ _ _ _ _ _ _) fun m => LeO.bind (offertorylaw28_awake.mono _) fun z => LeO.refl _
/-- What stands: the plan's box, the stats' box, the rows. -/
structure Li (w : World) (gp gs : Nat) (cp cs : Array Value) (A0 : Option Addr) (es : List Int) (A1 : Option Addr) (L : List Int) (Ap : Option Addr) (p1 : List Int) (w' : World) : Prop where
  hp : w'.heap[gp]? = some (.cells cp 24 (0, 0))
  hs : w'.heap[gs]? = some (.cells cs 36 (0, 0))
  r0 : Kd.C (Kd.int .i64) w' A0 es.length es
  r1 : Kd.C (Kd.int .i64) w' A1 L.length L
  rp : Kd.C (Kd.int .i64) w' Ap p1.length p1
  hb : Below w.heap.size w w'
theorem Li.below {w w1 w2 : World} {gp gs : Nat} {cp cs : Array Value} {A0 A1 Ap : Option Addr} {es L p1 : List Int} (h : Li w gp gs cp cs A0 es A1 L Ap p1 w1) (hb : Below w1.heap.size w1 w2) : Li w gp gs cp cs A0 es A1 L Ap p1 w2 :=
  ⟨blk_below h.hp hb, blk_below h.hs hb, Kd.C_below h.r0 hb, Kd.C_below h.r1 hb, Kd.C_below h.rp hb, below_step h.hb hb⟩
theorem drew_below (w : World) : Below w.heap.size w w.drew := below_drew1 (Below.refl _ _)
set_option maxHeartbeats 16000000 in
set_option maxRecDepth 100000 in
theorem lies_walk (k : Nat) (lo hi most : Int) (A0 : Option Addr) (c0 : Nat) (es : List Int) (A1 : Option Addr) (c1 : Nat) (l L : List Int) (kk : Int) (w : World) (p1 : List Int) (p2 p3 p4 p5 p6 : Int) (p7 : Bool) (o : List Int) (n bi t1 t2 m1 : Int)
    (hr0 : Kd.C (Kd.int .i64) w A0 es.length es) (hc0 : es.length ≤ c0) (hr1 : Kd.C (Kd.int .i64) w A1 l.length l) (hc1 : l.length ≤ c1) (hL : L = l.take 50) (hpos : 0 < l.length)
    (as_ : offertoryref09_Sound.f k lo hi most es = some 0) (ap : offertoryref09_Stats.f k lo hi most es L = some (p1, p2, p3, p4, p5, p6, p7)) (ao : ordF lo hi most es L [] = some o) (hkk : 0 ≤ kk ∧ kk ≤ 255) (hn : n = kk % (L.length : Int))
    (ab : rank_Rank.f k p1 p2 p3 p4 p5 p6 p7 n = some (bi, 0)) (at_ : rank_Bounds.f k lo hi most es bi = some (t1, t2, 0)) (am : rank_Mean.f k p1 p2 p3 p4 p5 p6 p7 = some (m1, 0)) (aw : offertorylaw28_awake.f k = some true)
    (h1 : t1 ≤ rd o n) (h2 : rd o n ≤ t2) (h3 : rd o 0 ≤ m1) (h4 : m1 ≤ rd o ((o.length : Int) - 1)) :
    Calls Try.prog 5 #[.agg #[.int .i64 lo, .int .i64 hi, .int .i64 most, .slice A0 es.length c0], .slice A1 l.length c1, .int .u8 kk] w fun e w' => e = .returned (.bool true) ∧ Below w.heap.size w w' := by
  have hu24 := Try.underlying24
  have hu36 := Try.underlying36
  have HR0 := Aside0.mk hr0
  have HC0 := Aside0.mk hc0
  have HR1 := Aside0.mk hr1
  have HC1 := Aside0.mk hc1
  have ASo := Aside0.mk as_
  have AP := Aside0.mk ap
  have AO := Aside0.mk ao
  have AB := Aside0.mk ab
  have AT := Aside0.mk at_
  have AM := Aside0.mk am
  have AW := Aside0.mk aw
  have IN := Aside0.mk (⟨h1, h2, h3, h4⟩ : t1 ≤ rd o n ∧ rd o n ≤ t2 ∧ rd o 0 ≤ m1 ∧ m1 ≤ rd o ((o.length : Int) - 1))
  have HN := Aside0.mk hn
  have HK := Aside0.mk hkk
  have HLE := Aside0.mk hL
  have LP := Aside0.mk hpos
  clear hr0 hc0 hr1 hc1 as_ ap ao ab at_ am aw h1 h2 h3 h4 hn hkk hL hpos
  go_enter Try.func5, Try.ntmps5
  go_upto_if 23 with (fail)
  go_cut [1] (fun v1 wc => v1 = .slice A1 L.length c1 ∧ Aside0 (Kd.C (Kd.int .i64) wc A1 L.length L) ∧ Aside0 (wc.heap[w.heap.size]? = some (.cells #[.int .i64 lo, .int .i64 hi, .int .i64 most, .slice A0 es.length c0] 24 (0, 0))) ∧ Aside0 (Below w.heap.size w wc))
  case first =>
    have hb0 := below_alloc (Below.refl w.heap.size w) (.cells #[.int .i64 lo, .int .i64 hi, .int .i64 most, .slice A0 es.length c0] 24)
    by_cases c4 : l.length > 50
    · have c4b0 : decide (50 < (l.length : Int)) = true := decide_eq_true (by omega)
      have c4b1 : decide (50 < l.length) = true := decide_eq_true (by omega)
      (first | rw [c4b0] | (simp only [i64_w, i32_w]; rw [c4b0]) | skip)
      have q6 : (50 : Int) ≤ ((l.length : Int) : Int) := by omega
      obtain ⟨i06, hi06, _, hsz6, _⟩ := info_parts info3
      have hcut6 := cut_to (P := Try.prog) 22 3 .i64 Try.underlying22 hi06 A1 l.length c1 50 (by omega) q6 HC1.out
      have hlen : L.length = 50 := by rw [HLE.out, List.length_take]; omega
      have hr6 := Kd.C_take (m := 50) HR1.out (by omega)
      rw [← HLE.out] at hr6
      have hr7 := Kd.C_below hr6 hb0
      have H6 := Aside0.mk hr7
      have HBB := Aside0.mk hb0
      have HL50 := Aside0.mk hlen
      clear hr6 hr7 hb0 hlen hi06 hsz6 c4
      replace q6 := eq_true q6
      go_wp2
      go_meet
      case rel => exact ⟨by rw [HL50.out], H6, ⟨blk_new w _⟩, HBB⟩
    · have c4b0 : decide (50 < (l.length : Int)) = false := decide_eq_false (by omega)
      have c4b1 : decide (50 < l.length) = false := decide_eq_false (by omega)
      (first | rw [c4b0] | (simp only [i64_w, i32_w]; rw [c4b0]) | skip)
      have hl : L = l := by rw [HLE.out, List.take_of_length_le (by omega)]
      have H6 := Aside0.mk (Kd.C_below HR1.out hb0)
      have HBB := Aside0.mk hb0
      have HL50 := Aside0.mk hl
      clear hb0 hl c4
      go_wp2
      go_meet
      case rel => exact ⟨by rw [HL50.out], by rw [HL50.out]; exact H6, ⟨blk_new w _⟩, HBB⟩
  case rest =>
    obtain ⟨rfl, HR1c, HPc, HBc⟩ := hcut
    have HC1' : Aside0 (L.length ≤ c1) := ⟨by have := HC1.out; rw [HLE.out, List.length_take]; omega⟩
    have LN0 : Aside0 (0 < L.length ∧ L.length ≤ 50) := ⟨by have := LP.out; rw [HLE.out, List.length_take]; omega⟩
    have HR0c := Aside0.mk (Kd.C_below HR0.out HBc.out)
    clear HR0 HR1 HC1
    obtain ⟨gp, egp⟩ : ∃ g, g = w.heap.size := ⟨_, rfl⟩
    rw [← egp] at HPc ⊢
    have EGP := Aside0.mk egp
    clear egp
    obtain ⟨hp0, hp1, hp2, hp3⟩ := cells4P HPc.out
    have e1 : ((L.length : Int) == 0) = false := by have := LN0.out; rw [beq_eq_false_iff_ne]; omega
    have e2 : (L.length == 0) = false := by have := LN0.out; rw [beq_eq_false_iff_ne]; omega
    go_wp2_with fail
    go_at_call 7
    refine (offertoryref09_Sound.calls k lo hi most A0 c0 es 0 _ HR0c.out HC0.out ASo.out).mono ?_
    rintro e w2 ⟨rfl, hb⟩
    have HP2 := Aside0.mk (blk_below HPc.out hb)
    have HR02 := Aside0.mk (Kd.C_below HR0c.out hb)
    have HR12 := Aside0.mk (Kd.C_below HR1c.out hb)
    have HB2 := Aside0.mk (below_step HBc.out hb)
    clear hb hp0 hp1 hp2 hp3 HPc HR0c HR1c HBc
    obtain ⟨hp0, hp1, hp2, hp3⟩ := cells4P HP2.out
    go_wp2_with fail
    go_at_call 18
    refine (offertoryref09_Stats.calls k lo hi most A0 c0 es A1 c1 L p1 p2 p3 p4 p5 p6 p7 _ HR02.out HC0.out HR12.out HC1'.out AP.out).mono ?_
    rintro e w3 ⟨v0_, rfl, hR, hb⟩
    obtain ⟨Ap, kp, rfl⟩ := Kd.R_slice hR
    have HKP := Aside0.mk (Kd.R_reads' hR).2.1
    have hO := below_alloc (Below.refl w3.heap.size w3) (.cells #[.slice Ap p1.length kp, .int .i64 p2, .int .u64 p3, .int .u64 p4, .int .u64 p5, .int .u64 p6, .bool p7] 36)
    have EE : Aside0 (Li w gp w3.heap.size #[.int .i64 lo, .int .i64 hi, .int .i64 most, .slice A0 es.length c0] #[.slice Ap p1.length kp, .int .i64 p2, .int .u64 p3, .int .u64 p4, .int .u64 p5, .int .u64 p6, .bool p7] A0 es A1 L Ap p1 (w3.alloc (.cells #[.slice Ap p1.length kp, .int .i64 p2, .int .u64 p3, .int .u64 p4, .int .u64 p5, .int .u64 p6, .bool p7] 36))) := ⟨(Li.mk (blk_below HP2.out (below_step hb hO)) (blk_new w3 _) (Kd.C_below HR02.out (below_step hb hO)) (Kd.C_below HR12.out (below_step hb hO)) (Kd.C_below (Kd.R_reads' hR).2.2 hO) (below_step HB2.out (below_step hb hO)))⟩
    clear hb hR hO hp0 hp1 hp2 hp3 HP2 HR02 HR12 HB2 e1 e2
    go_wp2_with (first | ((with_reducible refine gate_dst (N := 38) rfl ?_); refine Kd.R_lit (Kd.int .i64) _ 3 ?hg (N := 38) ?hd (xs := ([] : List Int)) (inner := []) (ok := fun _ => True) (okp := fun _ => True) ?hr ?hp (fun _ hk => hk) trivial (Below.refl _ _) (Nat.le_refl _) (by simp) ?_; (case hd => rfl); (case hg => rfl); (case hr => first | (go_simp; done) | (go_simp; rfl)); (case hp => exact (Reps.none _ _)); intro v38 w7 ho8 hb hg_ hnew_; have OO := Aside0.mk (Kd.R_lower ho8 EE.out.hb.size); have EF := Aside0.mk (EE.out.below hb); clear hg_ hnew_ hb ho8))
    obtain ⟨gs, egs⟩ : ∃ g, g = w3.heap.size := ⟨_, rfl⟩
    rw [← egs] at EF ⊢
    clear EE egs
    go_loopg [8, 9] L.length (fun kq v8 v9 w' => ∃ (i : Nat) (ord : List Int), v9 = .int .i64 (i : Int) ∧ Aside0 (i + kq = L.length) ∧ Aside0 (ordF lo hi most es (L.drop i) ord = some o) ∧ Aside0 (ord.length = i) ∧ Aside0 ((Kd.int .i64).R 3 w' w.heap.size (fun _ => True) v8 ord) ∧ Aside0 (Li w gp gs #[.int .i64 lo, .int .i64 hi, .int .i64 most, .slice A0 es.length c0] #[.slice Ap p1.length kp, .int .i64 p2, .int .u64 p3, .int .u64 p4, .int .u64 p5, .int .u64 p6, .bool p7] A0 es A1 L Ap p1 w'))
    case atStart => exact ⟨0, [], rfl, ⟨Nat.zero_add _⟩, by rw [List.drop_zero]; exact AO, ⟨rfl⟩, OO, EF⟩
    case round =>
      clear OO EF AO
      obtain ⟨i, ord, rfl, HI, HO, HQ, OW, E⟩ := hrel
      obtain ⟨Ao, ko, rfl⟩ := Kd.R_slice OW.out
      cases gk with
      | succ k1 =>
        have hi := HI.out
        have hl := LN0.out
        have hlt : i < L.length := by omega
        have d1 : decide ((i : Int) < (L.length : Int)) = true := decide_eq_true (by omega)
        have d2 : decide (i < L.length) = true := decide_eq_true hlt
        have ew : wrap64 ((i : Int) + 1) = ((i + 1 : Nat) : Int) := by unfold wrap64; omega
        have EW := Aside0.mk ew
        have p1' : 0 ≤ (i : Int) := by omega
        have q1' : (i : Int) < (L.length : Int) := by omega
        have ho := HO.out
        rw [List.drop_eq_getElem_cons hlt] at ho
        obtain ⟨yi, hy, ho2⟩ := Option.bind_eq_some_iff.mp ho
        have eg : rd L (i : Int) = L[i] := by unfold rd; simp [List.getD, List.getElem?_eq_getElem hlt]
        have E1 := Aside0.mk (E.out.below (drew_below wr))
        have O1 := Aside0.mk (Kd.R_below OW.out (drew_below wr))
        obtain ⟨ad1, e1, hx1⟩ := Kd.at_int E1.out.r1 (i : Int) p1' q1'
        cases e1
        rw [eg, Int.toNat_natCast] at hx1
        generalize L[i] = xi at *
        have HY := Aside0.mk hy
        have HO2 := Aside0.mk ho2
        clear hy ho2 ho eg hi hl HO E OW ew
        replace p1' := eq_true p1'
        replace q1' := eq_true q1'
        obtain ⟨wd, ewd⟩ : ∃ x, x = wr.drew := ⟨_, rfl⟩
        rw [← ewd] at E1 O1 hx1
        have ED := Aside0.mk E1.out
        have OD := Aside0.mk O1.out
        have HX := Aside0.mk hx1
        clear E1 O1 hx1
        go_wp2_with fail
        refine start_ (n := 7) (S := fun w' => w'.cell? ⟨gp, 0, none⟩ = some (.int .i64 lo) ∧ w'.cell? ⟨gp, 1, none⟩ = some (.int .i64 hi) ∧ w'.cell? ⟨gp, 2, none⟩ = some (.int .i64 most) ∧ w'.cell? ⟨gp, 3, none⟩ = some (.slice A0 es.length c0) ∧ w'.cell? (ad1.add i) = some (.int .i64 xi)) (ds := [5]) #[false, false, false, false, false, false, false] (by kernel_rfl) rfl rfl (by rw [← ewd]; exact ⟨(cells4P ED.out.hp).1, (cells4P ED.out.hp).2.1, (cells4P ED.out.hp).2.2.1, (cells4P ED.out.hp).2.2.2, HX.out⟩) (fun hHeld => ?_)
        rw [← ewd] at hHeld ⊢
        clear ewd
        refine pure_ (i := 1) (N := some 46) (v := ?_) (a' := ?_) #[false, true, false, false, false, false, false] rfl rfl (by kernel_rfl) (fun _ _ _ h => h) (Or.inl ⟨by rfl, ?_⟩) ?_ ?_
        rotate_left
        · intro w'
          go_simp
          with_reducible rfl
        rotate_left
        · simp only [Act.put, List.setIfInBounds_toArray, List.set_cons_zero, List.set_cons_succ, i64_w, i32_w]
          rfl
        refine pure_ (i := 2) (N := some 47) (v := ?_) (a' := ?_) #[false, true, true, false, false, false, false] rfl rfl (by kernel_rfl) (fun _ _ _ h => h) (Or.inl ⟨by rfl, ?_⟩) ?_ ?_
        rotate_left
        · intro w'
          go_simp
          with_reducible rfl
        rotate_left
        · simp only [Act.put, List.setIfInBounds_toArray, List.set_cons_zero, List.set_cons_succ, i64_w, i32_w]
          rfl
        refine pure_ (i := 3) (N := some 48) (v := ?_) (a' := ?_) #[false, true, true, true, false, false, false] rfl rfl (by kernel_rfl) (fun _ _ _ h => h) (Or.inl ⟨by rfl, ?_⟩) ?_ ?_
        rotate_left
        · intro w'
          go_simp
          with_reducible rfl
        rotate_left
        · simp only [Act.put, List.setIfInBounds_toArray, List.set_cons_zero, List.set_cons_succ, i64_w, i32_w]
          rfl
        refine take_ (i := 0) (N := some 45) (v := ?_) (a' := ?_) #[true, true, true, true, false, false, false] rfl rfl (by kernel_rfl) (fun _ _ _ h => h) (Or.inl ⟨by rfl, ?_⟩) hHeld ?_ ?_
        rotate_left
        · rintro w' ⟨s0, s1, s2, s3, s4⟩
          go_simp
          with_reducible rfl
        rotate_left
        · simp only [Act.put, List.setIfInBounds_toArray, List.set_cons_zero, List.set_cons_succ, i64_w, i32_w]
          rfl
        refine take_ (i := 4) (N := some 49) (v := ?_) (a' := ?_) #[true, true, true, true, true, false, false] rfl rfl (by kernel_rfl) (fun _ _ _ h => h) (Or.inl ⟨by rfl, ?_⟩) hHeld ?_ ?_
        rotate_left
        · rintro w' ⟨s0, s1, s2, s3, s4⟩
          go_simp
          with_reducible rfl
        rotate_left
        · simp only [Act.put, List.setIfInBounds_toArray, List.set_cons_zero, List.set_cons_succ, i64_w, i32_w]
          rfl
        refine last_ (i := 5) (N := some 50) #[true, true, true, true, true, true, false] rfl rfl (by kernel_rfl) (by decide) (fun K hK => ?_)
        refine goes_ Try.func19 (by kernel_rfl) rfl #[.agg #[.int .i64 lo, .int .i64 hi, .int .i64 most, .slice A0 es.length c0], .int .i64 xi] (by rfl) rfl rfl (by (try simp only [List.map_toArray, List.map_cons, List.map_nil]); first | done | rfl) ?_
        with_reducible refine (offertoryref09_Clamp.calls lo hi most A0 c0 es xi yi _ ED.out.r0 HC0.out HY.out).mono ?_
        rintro e wc ⟨rfl, hb⟩
        refine ⟨_, rfl, ?_⟩
        have EC := Aside0.mk (ED.out.below hb)
        have OC := Aside0.mk (Kd.R_below OD.out hb)
        clear hb
        refine hK.out _ _ ?_
        clear hK K
        refine norm_ (a' := ?_) ?_ ?_
        rotate_left
        · show Act.put _ (some 50) _ = _
          simp only [Act.put, List.setIfInBounds_toArray, List.set_cons_zero, List.set_cons_succ, i64_w, i32_w]
          rfl
        refine pure_ (i := 6) (N := some 10) (v := ?_) (a' := ?_) #[true, true, true, true, true, true, true] rfl rfl (by kernel_rfl) (fun _ _ _ h => h) (Or.inl ⟨by rfl, ?_⟩) ?_ ?_
        rotate_left
        · intro w'
          go_simp
          with_reducible rfl
        rotate_left
        · simp only [Act.put, List.setIfInBounds_toArray, List.set_cons_zero, List.set_cons_succ, i64_w, i32_w]
          rfl
        refine done_ (by kernel_rfl) ?_
        clear ED OD HX
        go_wp2_with fail
        obtain ⟨AT_, eat⟩ : ∃ x, x = atL yi ord 0 0 := ⟨_, rfl⟩
        have EAT := Aside0.mk eat
        clear eat
        go_loopg [11, 12] ord.length (fun kq v11 v12 w' => ∃ (j at_ : Nat), v11 = .int .i64 (at_ : Int) ∧ v12 = .int .i64 (j : Int) ∧ Aside0 (j + kq = ord.length) ∧ Aside0 (at_ ≤ j) ∧ Aside0 (atL yi (ord.drop j) j at_ = AT_) ∧ w' = wc)
        case atStart => exact ⟨0, 0, rfl, rfl, ⟨Nat.zero_add _⟩, ⟨Nat.le_refl _⟩, ⟨by rw [List.drop_zero]; exact EAT.out.symm⟩, rfl⟩
        case round =>
          obtain ⟨j, at_, rfl, rfl, HJ, HA, HT, rfl⟩ := hrel
          cases gk with
          | succ k2 =>
            have hj := HJ.out
            have hl := LN0.out
            have hq := HQ.out
            have hlj : j < ord.length := by omega
            have dj1 : decide ((j : Int) < (ord.length : Int)) = true := decide_eq_true (by omega)
            have dj2 : decide (j < ord.length) = true := decide_eq_true hlj
            have pj : 0 ≤ (j : Int) := by omega
            have qj : (j : Int) < (ord.length : Int) := by omega
            have ewj : wrap64 ((j : Int) + 1) = ((j + 1 : Nat) : Int) := by unfold wrap64; omega
            have eg : rd ord (j : Int) = ord[j] := by unfold rd; simp [List.getD, List.getElem?_eq_getElem hlj]
            obtain ⟨ad2, e2, hx2⟩ := Kd.at_int (Kd.R_reads' OC.out).2.2 (j : Int) pj qj
            cases e2
            rw [eg, Int.toNat_natCast] at hx2
            have ht := HT.out
            rw [List.drop_eq_getElem_cons hlj] at ht
            unfold atL at ht
            generalize ord[j] = yj at *
            clear hj hl hq eg HT
            replace pj := eq_true pj
            replace qj := eq_true qj
            by_cases hle : yj ≤ yi
            · have dle : decide (yj ≤ yi) = true := decide_eq_true hle
              rw [if_pos hle] at ht
              have HT2 := Aside0.mk ht
              clear ht hle
              go_wp2_with fail
              go_roundg k2
              case measure => omega
              case rel => exact ⟨j + 1, j + 1, by first | rfl | (rw [ewj]) | (rw [← ewj]), by first | rfl | (rw [ewj]) | (rw [← ewj]), ⟨by have := HJ.out; omega⟩, ⟨Nat.le_refl _⟩, HT2, rfl⟩
            · have dle : decide (yj ≤ yi) = false := decide_eq_false hle
              rw [if_neg hle] at ht
              have HT2 := Aside0.mk ht
              clear ht hle
              go_wp2_with fail
              go_roundg k2
              case measure => omega
              case rel => exact ⟨j + 1, at_, rfl, by first | rfl | (rw [ewj]) | (rw [← ewj]), ⟨by have := HJ.out; omega⟩, ⟨by have := HA.out; omega⟩, HT2, rfl⟩
          | zero =>
            have hj := HJ.out
            have hq := HQ.out
            have ht := HT.out
            rw [List.drop_eq_nil_of_le (by omega)] at ht
            unfold atL at ht
            have dj1 : decide ((j : Int) < (ord.length : Int)) = false := decide_eq_false (by omega)
            have dj2 : decide (j < ord.length) = false := decide_eq_false (by omega)
            have hle : at_ ≤ ord.length := by have := HA.out; omega
            have LN : Aside0 (ord.length ≤ 50 ∧ at_ ≤ ord.length) := ⟨by have := LN0.out; have := HI.out; omega⟩
            have HAT : Aside0 (at_ = atL yi ord 0 0) := ⟨by rw [ht]; exact EAT.out⟩
            clear hj hq ht HT HA
            go_wp2_with fail
            have EQ0 := EC.out.below (drew_below wr)
            have OQ := Kd.R_below OC.out (drew_below wr)
            have hld := LN.out
            obtain ⟨wd, ewd⟩ : ∃ x, x = wr.drew := ⟨_, rfl⟩
            rw [← ewd] at EQ0 OQ
            obtain ⟨i06, hi06, _, hsz6, _⟩ := info_parts info3
            have hcut3 := cut_to (P := Try.prog) 22 3 .i64 Try.underlying22 hi06 Ao ord.length ko (at_ : Int) (by omega) (by omega) (Kd.R_reads' OQ).2.1
            have hcut10 := cut_from (P := Try.prog) 22 3 .i64 Try.underlying22 hi06 1 hsz6 Ao ord.length ko (at_ : Int) (by omega) (by omega)
            have ct := Kd.C_take (m := at_) (Kd.R_reads' OQ).2.2 hld.2
            have cd := Kd.C_drop (c := ko) (m := at_) (Kd.R_reads' OQ).2.2 hld.2 (Kd.R_reads' OQ).2.1
            rw [show (ord.take at_).length = at_ by rw [List.length_take]; omega] at ct
            rw [List.length_drop] at cd
            rw [Int.toNat_natCast] at hcut3 hcut10
            obtain ⟨B, eB⟩ : ∃ B, B = (if ko = at_ then Ao else Ao.map (·.add (at_ * 1))) := ⟨_, rfl⟩
            rw [← eB] at hcut10
            have cd2 : Kd.C (Kd.int .i64) wd B (ord.length - at_) (ord.drop at_) := by rw [eB]; exact cd
            have CT := Aside0.mk ct
            have CD := Aside0.mk cd2
            have EQ := Aside0.mk EQ0
            clear ct cd cd2 eB EQ0 OQ hld EC OC hi06 hsz6
            refine start_ (n := 13) (S := fun w' => True) (ds := []) #[false, false, false, false, false, false, false, false, false, false, false, false, false] (by kernel_rfl) rfl rfl trivial (fun hHeld => ?_)
            rw [← ewd]
            clear ewd
            refine pure_ (i := 1) (N := some 66) (v := ?_) (a' := ?_) #[false, true, false, false, false, false, false, false, false, false, false, false, false] rfl rfl (by kernel_rfl) (fun _ _ _ h => h) (Or.inl ⟨by rfl, ?_⟩) ?_ ?_
            rotate_left
            · intro w'
              go_simp
              with_reducible rfl
            rotate_left
            · simp only [Act.put, List.setIfInBounds_toArray, List.set_cons_zero, List.set_cons_succ, i64_w, i32_w]
              rfl
            refine pure_ (i := 2) (N := some 67) (v := ?_) (a' := ?_) #[false, true, true, false, false, false, false, false, false, false, false, false, false] rfl rfl (by kernel_rfl) (fun _ _ _ h => h) (Or.inl ⟨by rfl, ?_⟩) ?_ ?_
            rotate_left
            · intro w'
              go_simp
              with_reducible rfl
            rotate_left
            · simp only [Act.put, List.setIfInBounds_toArray, List.set_cons_zero, List.set_cons_succ, i64_w, i32_w]
              rfl
            refine pure_ (i := 3) (N := some 68) (v := ?_) (a' := ?_) #[false, true, true, true, false, false, false, false, false, false, false, false, false] rfl rfl (by kernel_rfl) (fun _ _ _ h => h) (Or.inl ⟨by rfl, ?_⟩) ?_ ?_
            rotate_left
            · intro w'
              go_simp
              with_reducible rfl
            rotate_left
            · simp only [Act.put, List.setIfInBounds_toArray, List.set_cons_zero, List.set_cons_succ, i64_w, i32_w]
              rfl
            refine pure_ (i := 5) (N := some 70) (v := ?_) (a' := ?_) #[false, true, true, true, false, true, false, false, false, false, false, false, false] rfl rfl (by kernel_rfl) (fun _ _ _ h => h) (Or.inl ⟨by rfl, ?_⟩) ?_ ?_
            rotate_left
            · intro w'
              go_simp
              with_reducible rfl
            rotate_left
            · simp only [Act.put, List.setIfInBounds_toArray, List.set_cons_zero, List.set_cons_succ, i64_w, i32_w]
              rfl
            refine pure_ (i := 8) (N := some 73) (v := ?_) (a' := ?_) #[false, true, true, true, false, true, false, false, true, false, false, false, false] rfl rfl (by kernel_rfl) (fun _ _ _ h => h) (Or.inl ⟨by rfl, ?_⟩) ?_ ?_
            rotate_left
            · intro w'
              go_simp
              with_reducible rfl
            rotate_left
            · simp only [Act.put, List.setIfInBounds_toArray, List.set_cons_zero, List.set_cons_succ, i64_w, i32_w]
              rfl
            refine pure_ (i := 9) (N := some 74) (v := ?_) (a' := ?_) #[false, true, true, true, false, true, false, false, true, true, false, false, false] rfl rfl (by kernel_rfl) (fun _ _ _ h => h) (Or.inl ⟨by rfl, ?_⟩) ?_ ?_
            rotate_left
            · intro w'
              go_simp
              with_reducible rfl
            rotate_left
            · simp only [Act.put, List.setIfInBounds_toArray, List.set_cons_zero, List.set_cons_succ, i64_w, i32_w]
              rfl
            refine pure_ (i := 10) (N := some 75) (v := ?_) (a' := ?_) #[false, true, true, true, false, true, false, false, true, true, true, false, false] rfl rfl (by kernel_rfl) (fun _ _ _ h => h) (Or.inl ⟨by rfl, ?_⟩) ?_ ?_
            rotate_left
            · intro w'
              go_simp
              with_reducible rfl
            rotate_left
            · simp only [Act.put, List.setIfInBounds_toArray, List.set_cons_zero, List.set_cons_succ, i64_w, i32_w]
              rfl
            refine span_ (fuel' := 1) #[true, true, true, true, true, true, true, true, true, true, true, true, false] [0, 4, 6, 7, 11] [] (fun _ => 0) [[], [], [], [1, 2], [0, 1, 2, 3], [], [5], [0, 1, 2, 3, 4, 5, 6], [], [], [8, 9], [0, 1, 2, 3, 4, 5, 6, 7, 8, 9, 10], [0, 1, 2, 3, 4, 5, 6, 7, 8, 9, 10, 11]] [[7, 11], [], [], [], [7, 11], [], [7, 11], [11], [], [], [], [], []] [65, 69, 71, 72, 76] [[65], [], [], [], [69], [], [71], [72], [], [], [], [76], []] (fun j vs w' => match j with | 0 => (∃ g : Nat, (vs.getD 0 undef) = .slice (some ⟨g, 0, none⟩) 0 0 ∧ w'.heap[g]? = some (.cells (([] : List Int).map (Value.int .i64)).toArray 3 (0, 0)) ∧ wd.heap.size ≤ g) | 4 => ((Kd.int .i64).R 3 w' wd.heap.size (fun _ => True) (vs.getD 0 undef) (ord.take at_)) | 6 => (∃ g : Nat, (vs.getD 0 undef) = .slice (some ⟨g, 0, none⟩) 1 1 ∧ w'.heap[g]? = some (.cells (([yi] : List Int).map (Value.int .i64)).toArray 3 (0, 0)) ∧ wd.heap.size ≤ g) | 7 => ((Kd.int .i64).R 3 w' wd.heap.size (fun _ => True) (vs.getD 0 undef) (ord.take at_ ++ [yi])) | 11 => ((Kd.int .i64).R 3 w' wd.heap.size (fun _ => True) (vs.getD 0 undef) ((ord.take at_ ++ [yi]) ++ ord.drop at_)) | _ => True) rfl (by kernel_rfl) (by kernel_rfl) ?_ (fun _ _ => trivial) ?_ ?_
            · refine pers_cons (fun _ _ _ hb ⟨g, h1, h2, h3⟩ => ⟨g, h1, blk_below h2 hb, h3⟩) ?_; refine pers_cons (fun _ _ _ hb h => Kd.R_below h hb) ?_; refine pers_cons (fun _ _ _ hb ⟨g, h1, h2, h3⟩ => ⟨g, h1, blk_below h2 hb, h3⟩) ?_; refine pers_cons (fun _ _ _ hb h => Kd.R_below h hb) ?_; refine pers_cons (fun _ _ _ hb h => Kd.R_below h hb) ?_; exact pers_nil
            rotate_left
            · skip
              refine spans_cons (some 65) rfl rfl (fun s a1 w1 ha hB hF hA K hK => ?_) ?_
              · simp only [putS, List.map_cons, List.map_nil, putAll, Act.put, List.setIfInBounds_toArray, List.set_cons_zero, List.set_cons_succ] at ha
                subst ha
                refine value_ (w1 := ?_) (v := ?_) (by rfl) rfl ?_ ?_
                rotate_left 2
                · go_simp
                  constructor
                  · rfl
                  · rfl
                exact hK.out _ _ (Or.inl (below_alloc (Below.refl _ _) _)) (fun h => absurd h (by decide)) ⟨w1.heap.size, rfl, blk_new w1 _, hB.size⟩
              refine spans_cons (some 69) rfl rfl (fun s a1 w1 ha hB hF hA K hK => ?_) ?_
              · simp only [putS, List.map_cons, List.map_nil, putAll, Act.put, List.setIfInBounds_toArray, List.set_cons_zero, List.set_cons_succ] at ha
                subst ha
                have f0 : ∃ g : Nat, (s 65) = .slice (some ⟨g, 0, none⟩) 0 0 ∧ w1.heap[g]? = some (.cells (([] : List Int).map (Value.int .i64)).toArray 3 (0, 0)) ∧ wd.heap.size ≤ g := hF 0 (by decide) (by decide) (by decide)
                obtain ⟨g, eg, hbg, hgg⟩ := f0
                rw [eg] at hK ⊢
                refine app_lit_step (k := .i64) (W := w1) (by rfl) (.tmp 65) (.tmp 68) 22 3 (.int .i64 0) 8 (by rfl) Try.underlying22 info_int rfl (by decide) g wd.heap.size [] (ord.take at_) Ao at_ ko (by rfl) (by rfl) hgg hB.size (by decide) hbg (Kd.C_below CT.out hB) (by have := LN.out; simp only [List.length_nil]; omega) ?_
                intro v1 w2 hv hb
                exact hK.out _ w2 (Or.inl hb) (fun h => absurd h (by decide)) hv
              refine spans_cons (some 71) rfl rfl (fun s a1 w1 ha hB hF hA K hK => ?_) ?_
              · simp only [putS, List.map_cons, List.map_nil, putAll, Act.put, List.setIfInBounds_toArray, List.set_cons_zero, List.set_cons_succ] at ha
                subst ha
                refine value_ (w1 := ?_) (v := ?_) (by rfl) rfl ?_ ?_
                rotate_left 2
                · go_simp
                  constructor
                  · rfl
                  · rfl
                exact hK.out _ _ (Or.inl (below_alloc (Below.refl _ _) _)) (fun h => absurd h (by decide)) ⟨w1.heap.size, rfl, blk_new w1 _, hB.size⟩
              refine spans_cons (some 72) rfl rfl (fun s a1 w1 ha hB hF hA K hK => ?_) ?_
              · simp only [putS, List.map_cons, List.map_nil, putAll, Act.put, List.setIfInBounds_toArray, List.set_cons_zero, List.set_cons_succ] at ha
                subst ha
                have f4 : (Kd.int .i64).R 3 w1 wd.heap.size (fun _ => True) (s 69) (ord.take at_) := hF 4 (by decide) (by decide) (by decide)
                have f6 : ∃ g : Nat, (s 71) = .slice (some ⟨g, 0, none⟩) 1 1 ∧ w1.heap[g]? = some (.cells (([yi] : List Int).map (Value.int .i64)).toArray 3 (0, 0)) ∧ wd.heap.size ≤ g := hF 6 (by decide) (by decide) (by decide)
                obtain ⟨g, eg, hbg, hgg⟩ := f6
                rw [eg] at hK ⊢
                have hC6 := (Kd.R_reads' (row_blk hbg hgg (by simp))).2.2
                refine Kd.R_append_rows_step (Kd.int .i64) (w0 := wd) (W := w1) wd.heap.size (by rfl) (.tmp 69) (.tmp 71) 22 3 (.int .i64 0) 8 (by rfl) Try.underlying22 info_int rfl (by decide) (by omega) (s 69) (ord.take at_) ([yi]) _ _ _ (fun _ => True) (fun _ => False) (by rfl) (by rfl) f4 hC6 (fun _ _ h => h) (fun _ h => h.elim) ?aF hB hB.size (by have := LN.out; simp only [List.length_append, List.length_take, List.length_drop, List.length_cons, List.length_nil]; omega) ?_
                (case aF => exact fun k hk => trivial)
                intro v2 w2 ho hb hg hat
                exact hK.out _ w2 (Or.inr ⟨hb, hg.size, pers_cons (fun _ _ h => absurd (by decide) h) (pers_cons (fun _ _ h => absurd (by decide) h) (pers_cons (fun _ _ h => absurd (by decide) h) (pers_cons (fun h => absurd rfl h) (pers_cons (fun _ h => absurd (by decide) h) (pers_nil)))))⟩) (fun h => absurd h (by decide)) ho
              refine spans_cons (some 76) rfl rfl (fun s a1 w1 ha hB hF hA K hK => ?_) ?_
              · simp only [putS, List.map_cons, List.map_nil, putAll, Act.put, List.setIfInBounds_toArray, List.set_cons_zero, List.set_cons_succ] at ha
                subst ha
                have f7 : (Kd.int .i64).R 3 w1 wd.heap.size (fun _ => True) (s 72) (ord.take at_ ++ [yi]) := hF 7 (by decide) (by decide) (by decide)
                refine Kd.R_append_rows_step (Kd.int .i64) (w0 := wd) (W := w1) wd.heap.size (by rfl) (.tmp 72) (.tmp 75) 22 3 (.int .i64 0) 8 (by rfl) Try.underlying22 info_int rfl (by decide) (by omega) (s 72) (ord.take at_ ++ [yi]) (ord.drop at_) _ _ _ (fun _ => True) (fun _ => False) (by rfl) (by rfl) f7 (Kd.C_below CD.out hB) (fun _ _ h => h) (fun _ h => h.elim) ?aF hB hB.size (by have := LN.out; simp only [List.length_append, List.length_take, List.length_drop, List.length_cons, List.length_nil]; omega) ?_
                (case aF => exact fun k hk => trivial)
                intro v2 w2 ho hb hg hat
                exact hK.out _ w2 (Or.inr ⟨hb, hg.size, pers_cons (fun _ _ h => absurd (by decide) h) (pers_cons (fun _ _ h => absurd (by decide) h) (pers_cons (fun _ _ h => absurd (by decide) h) (pers_cons (fun _ _ h => absurd (by decide) h) (pers_cons (fun h => absurd rfl h) (pers_nil)))))⟩) (fun h => absurd h (by decide)) ho
              exact spans_nil
            intro s w9 hB hF hA
            have hHeld : True := ((fun _ _ => trivial) : ∀ w' : World, _ → True) _ hB
            have f11 : (Kd.int .i64).R 3 w9 wd.heap.size (fun _ => True) (s 76) ((ord.take at_ ++ [yi]) ++ ord.drop at_) := hF 11 (by decide) rfl
            clear hF hA
            simp only [putS, List.map_cons, List.map_nil, putAll, Act.put, List.setIfInBounds_toArray, List.set_cons_zero, List.set_cons_succ]
            have E9 := Aside0.mk (EQ.out.below hB)
            have O9 := Aside0.mk (Kd.R_lower f11 EQ.out.hb.size)
            clear hB f11
            generalize s 65 = x65
            generalize s 69 = x69
            generalize s 71 = x71
            generalize s 72 = x72
            generalize s 76 = x76 at O9 ⊢
            refine pure_ (i := 12) (N := some 8) (v := ?_) (a' := ?_) #[true, true, true, true, true, true, true, true, true, true, true, true, true] rfl rfl (by kernel_rfl) (fun _ _ _ h => h) (Or.inl ⟨by rfl, ?_⟩) ?_ ?_
            rotate_left
            · intro w'
              go_simp
              with_reducible rfl
            rotate_left
            · simp only [Act.put, List.setIfInBounds_toArray, List.set_cons_zero, List.set_cons_succ, i64_w, i32_w]
              rfl
            refine done_ (by kernel_rfl) ?_
            go_wp2_with fail
            go_roundg k1
            case measure => omega
            case rel => exact ⟨i + 1, insA yi ord, by first | rfl | (rw [EW.out]) | (rw [← EW.out]), ⟨by have := HI.out; omega⟩, HO2, ⟨by rw [insA_len]; have := HQ.out; omega⟩, ⟨by have h := O9.out; rw [HAT.out] at h; exact h⟩, E9⟩
      | zero =>
        have hi := HI.out
        have ho := HO.out
        rw [List.drop_eq_nil_of_le (by omega)] at ho
        have hoo : ord = o := Option.some.inj ho
        have hq := HQ.out
        have hl := LN0.out
        have hk := HK.out
        have d1 : decide ((i : Int) < (L.length : Int)) = false := decide_eq_false (by omega)
        have d2 : decide (i < L.length) = false := decide_eq_false (by omega)
        have hnz : ((L.length : Int) == 0) = false := by rw [beq_eq_false_iff_ne]; omega
        have hnz2 : (L.length == 0) = false := by rw [beq_eq_false_iff_ne]; omega
        have hnz3 : ¬ ((L.length : Int) = 0) := by omega
        have hnz4 : ¬ (L.length = 0) := by omega
        have hkw : wrap64 kk = kk := by unfold wrap64; omega
        have hmod : Int.tmod kk (L.length : Int) = n := by rw [HN.out, Int.tmod_eq_emod_of_nonneg hk.1]
        have hnn : 0 ≤ n ∧ n < (L.length : Int) := by rw [HN.out]; exact ⟨Int.emod_nonneg _ (by omega), Int.emod_lt_of_pos _ (by omega)⟩
        have hnw : wrap64 n = n := by unfold wrap64; omega
        have LO : Aside0 (o.length = L.length) := ⟨by rw [← hoo]; omega⟩
        subst hoo
        have HNN := Aside0.mk hnn
        clear hi ho hq hl hk HO hnn
        obtain ⟨cp0, cp1, cp2, cp3⟩ := cells4P E.out.hp
        obtain ⟨cs0, cs1, cs2, cs3, cs4, cs5, cs6⟩ := cells7P E.out.hs
        go_wp2_with fail
        go_at_call 20
        refine (rank_Rank.calls k Ap kp p1 p2 p3 p4 p5 p6 p7 n bi 0 _ E.out.rp HKP.out AB.out).mono ?_
        rintro e v4 ⟨rfl, hb⟩
        have E4 := Aside0.mk (E.out.below hb)
        have O4 := Aside0.mk (Kd.R_below OW.out hb)
        clear hb cp0 cp1 cp2 cp3 cs0 cs1 cs2 cs3 cs4 cs5 cs6
        obtain ⟨cp0, cp1, cp2, cp3⟩ := cells4P E4.out.hp
        obtain ⟨cs0, cs1, cs2, cs3, cs4, cs5, cs6⟩ := cells7P E4.out.hs
        go_wp2_with fail
        go_at_call 6
        refine (rank_Bounds.calls k lo hi most A0 c0 es bi t1 t2 0 _ E4.out.r0 HC0.out AT.out).mono ?_
        rintro e v5 ⟨rfl, hb⟩
        have E5 := Aside0.mk (E4.out.below hb)
        have O5 := Aside0.mk (Kd.R_below O4.out hb)
        clear hb cp0 cp1 cp2 cp3 cs0 cs1 cs2 cs3 cs4 cs5 cs6
        obtain ⟨cp0, cp1, cp2, cp3⟩ := cells4P E5.out.hp
        obtain ⟨cs0, cs1, cs2, cs3, cs4, cs5, cs6⟩ := cells7P E5.out.hs
        go_wp2_with fail
        go_at_call 10
        refine (rank_Mean.calls k Ap kp p1 p2 p3 p4 p5 p6 p7 m1 0 _ E5.out.rp HKP.out AM.out).mono ?_
        rintro e v6 ⟨rfl, hb⟩
        have E6 := Aside0.mk (E5.out.below hb)
        have O6 := Aside0.mk (Kd.R_below O5.out hb)
        clear hb cp0 cp1 cp2 cp3 cs0 cs1 cs2 cs3 cs4 cs5 cs6
        obtain ⟨cp0, cp1, cp2, cp3⟩ := cells4P E6.out.hp
        obtain ⟨cs0, cs1, cs2, cs3, cs4, cs5, cs6⟩ := cells7P E6.out.hs
        go_wp2_with fail
        go_at_call 8
        refine (offertorylaw28_awake.calls k true _ AW.out).mono ?_
        rintro e v7 ⟨rfl, hb⟩
        have E7 := Aside0.mk (E6.out.below hb)
        have O7 := Aside0.mk (Kd.R_below O6.out hb)
        clear hb cp0 cp1 cp2 cp3 cs0 cs1 cs2 cs3 cs4 cs5 cs6
        obtain ⟨cp0, cp1, cp2, cp3⟩ := cells4P E7.out.hp
        obtain ⟨cs0, cs1, cs2, cs3, cs4, cs5, cs6⟩ := cells7P E7.out.hs
        have hlo := LO.out
        have hnn := HNN.out
        have hl := LN0.out
        obtain ⟨q, eq⟩ : ∃ q, q = (ord.length : Int) - 1 := ⟨_, rfl⟩
        have hin := IN.out
        rw [← eq] at hin
        have pn : 0 ≤ n := hnn.1
        have qn : n < (ord.length : Int) := by omega
        have pq : 0 ≤ q := by omega
        have qq : q < (ord.length : Int) := by omega
        have q0 : (0 : Int) < (ord.length : Int) := by omega
        have q0a : 0 < ord.length := by omega
        have q0b : ord ≠ [] := by intro e; rw [e] at q0a; exact absurd q0a (by decide)
        have q0c := eq_false q0b
        have q0e : (ord.length = 0) = False := eq_false (by omega)
        have hC := (Kd.R_reads' O7.out).2.2
        obtain ⟨ad3, e3, hxn⟩ := Kd.at_int hC n pn qn
        cases e3
        obtain ⟨ad4, e4, hx0⟩ := Kd.at_int hC 0 (by omega) q0
        cases e4
        obtain ⟨ad5, e5, hxq⟩ := Kd.at_int hC q pq qq
        cases e5
        have hx00 : v7.cell? ad3 = some (.int .i64 (rd ord 0)) := hx0
        have hqw : wrap64 q = q := by unfold wrap64; omega
        have hql : wrap64 ((ord.length : Int) - 1) = q := by rw [← eq]; exact hqw
        have hq2 : (ord.length : Int) - 1 = q := eq.symm
        generalize rd ord n = xn at *
        generalize rd ord 0 = x0 at *
        generalize rd ord q = xq at *
        have b1 : decide (t1 ≤ xn) = true := decide_eq_true hin.1
        have b2 : decide (xn ≤ t2) = true := decide_eq_true hin.2.1
        have b3 : decide (x0 ≤ m1) = true := decide_eq_true hin.2.2.1
        have b4 : decide (m1 ≤ xq) = true := decide_eq_true hin.2.2.2
        have HB7 := Aside0.mk E7.out.hb
        clear hin hC eq hlo hnn hl IN E7 O7 E4 E5 E6 O4 O5 O6 OW E
        replace pn := eq_true pn
        replace qn := eq_true qn
        replace pq := eq_true pq
        replace qq := eq_true qq
        replace q0 := eq_true q0
        go_wp2_with fail
        go_ret
        exact ⟨by first | rfl | (simp; done), HB7.out⟩
set_option maxHeartbeats 16000000 in
set_option maxRecDepth 100000 in
theorem lies_no (k : Nat) (lo hi most : Int) (A0 : Option Addr) (c0 : Nat) (es : List Int) (A1 : Option Addr) (c1 : Nat) (l L : List Int) (kk : Int) (w : World) (s : Int) (r : Bool)
    (hr0 : Kd.C (Kd.int .i64) w A0 es.length es) (hc0 : es.length ≤ c0) (hr1 : Kd.C (Kd.int .i64) w A1 l.length l) (hc1 : l.length ≤ c1) (hL : L = l.take 50)
    (as_ : offertoryref09_Sound.f k lo hi most es = some s) (hno : s = 0 → ¬ 0 < l.length) (aw : offertorylaw28_awake.f k = some r) :
    Calls Try.prog 5 #[.agg #[.int .i64 lo, .int .i64 hi, .int .i64 most, .slice A0 es.length c0], .slice A1 l.length c1, .int .u8 kk] w fun e w' => e = .returned (.bool r) ∧ Below w.heap.size w w' := by
  have hu24 := Try.underlying24
  have HR0 := Aside0.mk hr0
  have HC0 := Aside0.mk hc0
  have HR1 := Aside0.mk hr1
  have HC1 := Aside0.mk hc1
  have ASo := Aside0.mk as_
  have AW := Aside0.mk aw
  have HLE := Aside0.mk hL
  have HNO := Aside0.mk hno
  clear hr0 hc0 hr1 hc1 as_ aw hL hno
  go_enter Try.func5, Try.ntmps5
  go_upto_if 23 with (fail)
  go_cut [1] (fun v1 wc => v1 = .slice A1 L.length c1 ∧ Aside0 (Kd.C (Kd.int .i64) wc A1 L.length L) ∧ Aside0 (wc.heap[w.heap.size]? = some (.cells #[.int .i64 lo, .int .i64 hi, .int .i64 most, .slice A0 es.length c0] 24 (0, 0))) ∧ Aside0 (Below w.heap.size w wc))
  case first =>
    have hb0 := below_alloc (Below.refl w.heap.size w) (.cells #[.int .i64 lo, .int .i64 hi, .int .i64 most, .slice A0 es.length c0] 24)
    by_cases c4 : l.length > 50
    · have c4b0 : decide (50 < (l.length : Int)) = true := decide_eq_true (by omega)
      have c4b1 : decide (50 < l.length) = true := decide_eq_true (by omega)
      (first | rw [c4b0] | (simp only [i64_w, i32_w]; rw [c4b0]) | skip)
      have q6 : (50 : Int) ≤ ((l.length : Int) : Int) := by omega
      obtain ⟨i06, hi06, _, hsz6, _⟩ := info_parts info3
      have hcut6 := cut_to (P := Try.prog) 22 3 .i64 Try.underlying22 hi06 A1 l.length c1 50 (by omega) q6 HC1.out
      have hlen : L.length = 50 := by rw [HLE.out, List.length_take]; omega
      have hr6 := Kd.C_take (m := 50) HR1.out (by omega)
      rw [← HLE.out] at hr6
      have hr7 := Kd.C_below hr6 hb0
      have H6 := Aside0.mk hr7
      have HBB := Aside0.mk hb0
      have HL50 := Aside0.mk hlen
      clear hr6 hr7 hb0 hlen hi06 hsz6 c4
      replace q6 := eq_true q6
      go_wp2
      go_meet
      case rel => exact ⟨by rw [HL50.out], H6, ⟨blk_new w _⟩, HBB⟩
    · have c4b0 : decide (50 < (l.length : Int)) = false := decide_eq_false (by omega)
      have c4b1 : decide (50 < l.length) = false := decide_eq_false (by omega)
      (first | rw [c4b0] | (simp only [i64_w, i32_w]; rw [c4b0]) | skip)
      have hl : L = l := by rw [HLE.out, List.take_of_length_le (by omega)]
      have H6 := Aside0.mk (Kd.C_below HR1.out hb0)
      have HBB := Aside0.mk hb0
      have HL50 := Aside0.mk hl
      clear hb0 hl c4
      go_wp2
      go_meet
      case rel => exact ⟨by rw [HL50.out], by rw [HL50.out]; exact H6, ⟨blk_new w _⟩, HBB⟩
  case rest =>
    obtain ⟨rfl, HR1c, HPc, HBc⟩ := hcut
    have HC1' : Aside0 (L.length ≤ c1) := ⟨by have := HC1.out; rw [HLE.out, List.length_take]; omega⟩
    have HR0c := Aside0.mk (Kd.C_below HR0.out HBc.out)
    have HR0c := Aside0.mk (Kd.C_below HR0.out HBc.out)
    have HLL : Aside0 (s = 0 → L.length = 0) := ⟨fun h => by have := HNO.out h; rw [HLE.out, List.length_take]; omega⟩
    clear HR0 HR1 HC1
    obtain ⟨gp, egp⟩ : ∃ g, g = w.heap.size := ⟨_, rfl⟩
    rw [← egp] at HPc ⊢
    have EGP := Aside0.mk egp
    clear egp
    obtain ⟨hp0, hp1, hp2, hp3⟩ := cells4P HPc.out
    by_cases h0 : s = 0
    · subst h0
      have hl := HLL.out rfl
      have e0 : (L.length : Int) = 0 := by omega
      have e1 : ((L.length : Int) == 0) = true := by rw [beq_iff_eq]; omega
      have e2 : (L.length == 0) = true := by rw [beq_iff_eq]; omega
      clear HLL
      go_wp2_with fail
      go_at_call 7
      refine (offertoryref09_Sound.calls k lo hi most A0 c0 es 0 _ HR0c.out HC0.out ASo.out).mono ?_
      rintro e w2 ⟨rfl, hb⟩
      have HB2 := Aside0.mk (below_step HBc.out hb)
      clear hb hp0 hp1 hp2 hp3
      go_wp2_with fail
      go_at_call 8
      refine (offertorylaw28_awake.calls k r _ AW.out).mono ?_
      rintro e w3 ⟨rfl, hb⟩
      have HB3 := Aside0.mk (below_step HB2.out hb)
      clear hb
      go_wp2
      go_ret
      exact ⟨by first | rfl | (simp; done), HB3.out⟩
    · have d0 : (s == 0) = false := beq_eq_false_iff_ne.2 h0
      have d0' : (s != 0) = true := bne_iff_ne.2 h0
      clear h0 HLL
      go_wp2_with fail
      go_at_call 7
      refine (offertoryref09_Sound.calls k lo hi most A0 c0 es s _ HR0c.out HC0.out ASo.out).mono ?_
      rintro e w2 ⟨rfl, hb⟩
      have HB2 := Aside0.mk (below_step HBc.out hb)
      clear hb hp0 hp1 hp2 hp3
      go_wp2_with fail
      go_at_call 8
      refine (offertorylaw28_awake.calls k r _ AW.out).mono ?_
      rintro e w3 ⟨rfl, hb⟩
      have HB3 := Aside0.mk (below_step HB2.out hb)
      clear hb
      go_wp2
      go_ret
      exact ⟨by first | rfl | (simp; done), HB3.out⟩
theorem offertorylaw28_RankLies.calls (k : Nat) (a0_0 : Int) (a0_1 : Int) (a0_2 : Int) (A0_3 : Option Addr) (c0_3 : Nat) (l0_3 : List Int) (A1 : Option Addr) (c1 : Nat) (l1 : List Int) (a2 : Int) (r : Bool) (w : World) (hr0_3 : Kd.C (Kd.int .i64) w A0_3 l0_3.length l0_3) (hc0_3 : l0_3.length ≤ c0_3) (hr1 : Kd.C (Kd.int .i64) w A1 l1.length l1) (hc1 : l1.length ≤ c1) (h : offertorylaw28_RankLies.f k a0_0 a0_1 a0_2 l0_3 l1 a2 = some r) :
    Calls Try.prog 5 #[.agg #[.int .i64 a0_0, .int .i64 a0_1, .int .i64 a0_2, .slice A0_3 l0_3.length c0_3], .slice A1 l1.length c1, .int .u8 a2] w fun e w' => e = .returned (.bool r) ∧ Below w.heap.size w w' := by
  unfold offertorylaw28_RankLies.f at h
  obtain ⟨s, AS, h⟩ := Option.bind_eq_some_iff.mp h
  split at h
  · rename_i hc
    obtain ⟨rfl, hp⟩ := hc
    obtain ⟨⟨p1, p2, p3, p4, p5, p6, p7⟩, AP, h⟩ := Option.bind_eq_some_iff.mp h
    obtain ⟨o, AO, h⟩ := Option.bind_eq_some_iff.mp h
    obtain ⟨⟨bi, be⟩, AB, h⟩ := Option.bind_eq_some_iff.mp h
    obtain ⟨⟨t1, t2, te⟩, AT, h⟩ := Option.bind_eq_some_iff.mp h
    obtain ⟨⟨m1, me⟩, AM, h⟩ := Option.bind_eq_some_iff.mp h
    obtain ⟨z, AW, h⟩ := Option.bind_eq_some_iff.mp h
    split at h
    case isFalse => cases h
    rename_i hc
    obtain rfl := Option.some.inj h
    obtain ⟨hk, rfl, rfl, rfl, rfl, g1, g2, g3, g4⟩ := hc
    exact lies_walk k a0_0 a0_1 a0_2 A0_3 c0_3 l0_3 A1 c1 l1 (l1.take 50) a2 w p1 p2 p3 p4 p5 p6 p7 o _ bi t1 t2 m1 hr0_3 hc0_3 hr1 hc1 rfl hp AS AP AO hk rfl AB AT AM AW g1 g2 g3 g4
  · rename_i hc
    exact lies_no k a0_0 a0_1 a0_2 A0_3 c0_3 l0_3 A1 c1 l1 (l1.take 50) a2 w s r hr0_3 hc0_3 hr1 hc1 rfl AS (fun hs hp => hc ⟨hs, hp⟩) h

end Go.Proofs.Ythokkogdkpmdcaa.PAll
