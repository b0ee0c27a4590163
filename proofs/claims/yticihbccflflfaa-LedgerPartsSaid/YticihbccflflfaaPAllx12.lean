/- The Go functions that the laws reach, as Lean functions, and that each call comes to what its function says. Written by a program of this session (a turned copy of the kit's print). No condition beyond those that each theorem states. -/
import Derived.Test.YticihbccflflfaaPAllx0
import Derived.Test.YticihbccflflfaaPAllx4
import Derived.Test.YticihbccflflfaaPAllx6
import Derived.Test.YticihbccflflfaaPAllx7
import Derived.Test.YticihbccflflfaaPAllx10
import Derived.Test.YticihbccflflfaaPAllx11
namespace Go.Proofs.Yticihbccflflfaa.PAll
open Go.RowKit Go.Proofs.YticihbccflflfaaW.PrintWords Go.Proofs.YticihbccflflfaaW.PrintLast Go.Proofs.YticihbccflflfaaW.PrintMore
attribute [local go_sem] max2_int min2_int max_two min_two max_three min_three max_four min_four   -- for this text's walks alone
set_option linter.unusedVariables false
set_option linter.unusedSimpArgs false

/-! ### offertorylaw29_LedgerParts: function 6 -/
/-! ### LedgerParts -/
theorem cells4P {w : World} {g : Nat} {t : TypeId} {a b c d : Value} (h : w.heap[g]? = some (.cells #[a, b, c, d] t (0, 0))) :
    w.cell? ⟨g, 0, none⟩ = some a ∧ w.cell? ⟨g, 1, none⟩ = some b ∧ w.cell? ⟨g, 2, none⟩ = some c ∧ w.cell? ⟨g, 3, none⟩ = some d :=
  ⟨(blk_cell h 0).trans rfl, (blk_cell h 1).trans rfl, (blk_cell h 2).trans rfl, (blk_cell h 3).trans rfl⟩
theorem info_int : (Try.prog.info? 3).map (fun i => (i.zero, i.size, i.bytes)) = some (some (.int .i64 0), 1, 8) := by kernel_rfl
theorem set_size (w : World) (a : Addr) (v : Value) : (w.setCell a v).heap.size = w.heap.size := by simp [World.setCell]
theorem R_setB {w : World} {base g : Nat} {v : Value} {l : List Int} {cs : Array Value} (h : (Kd.int .i64).R 3 w base (fun _ => True) v l) (hg : w.heap[g]? = some (.cells cs 27 (0, 0))) (a b c d e f i : Value) : (Kd.int .i64).R 3 (setB w g a b c d e f i) base (fun _ => True) v l := by
  have hne := own_ne (Kd.own_of_R h) hg (by decide)
  exact Kd.R_of_own (own_setCell (own_setCell (own_setCell (own_setCell (own_setCell (own_setCell (own_setCell (Kd.own_of_R h) (p := ⟨g, 0, none⟩) hne _) (p := ⟨g, 1, none⟩) hne _) (p := ⟨g, 2, none⟩) hne _) (p := ⟨g, 3, none⟩) hne _) (p := ⟨g, 4, none⟩) hne _) (p := ⟨g, 5, none⟩) hne _) (p := ⟨g, 6, none⟩) hne _) (fun _ _ => trivial)
theorem farB {w : World} {g g' : Nat} {t : TypeId} {cs : Array Value} (h : w.heap[g']? = some (.cells cs t (0, 0))) (hne : g' ≠ g) (a b c d e f i : Value) : (setB w g a b c d e f i).heap[g']? = some (.cells cs t (0, 0)) :=
  blk_far (blk_far (blk_far (blk_far (blk_far (blk_far (blk_far h hne _) hne _) hne _) hne _) hne _) hne _) hne _
/-- What stands behind the calls: three boxes, three rows. -/
structure Lp (w0 : World) (g1 g2 g3 : Nat) (c1 c2 c3 : Array Value) (v1 v2 v3 : Value) (l1 l2 l3 : List Int) (w : World) : Prop where
  h1 : w.heap[g1]? = some (.cells c1 27 (0, 0))
  h2 : w.heap[g2]? = some (.cells c2 27 (0, 0))
  h3 : w.heap[g3]? = some (.cells c3 27 (0, 0))
  r1 : (Kd.int .i64).R 3 w w0.heap.size (fun _ => True) v1 l1
  r2 : (Kd.int .i64).R 3 w w0.heap.size (fun _ => True) v2 l2
  r3 : (Kd.int .i64).R 3 w w0.heap.size (fun _ => True) v3 l3
  hb : Below w0.heap.size w0 w
  b1 : w0.heap.size ≤ g1
  b2 : w0.heap.size ≤ g2
  b3 : w0.heap.size ≤ g3
  n12 : g1 ≠ g2
  n13 : g1 ≠ g3
  n23 : g2 ≠ g3
theorem Lp.put1 {w0 w : World} {g1 g2 g3 : Nat} {c2 c3 : Array Value} {a0 a1 a2 a3 a4 a5 a6 : Value} {v1 v2 v3 : Value} {l1 l2 l3 : List Int} (h : Lp w0 g1 g2 g3 #[a0, a1, a2, a3, a4, a5, a6] c2 c3 v1 v2 v3 l1 l2 l3 w) (a b c d e f i : Value) : Lp w0 g1 g2 g3 #[a, b, c, d, e, f, i] c2 c3 v1 v2 v3 l1 l2 l3 (setB w g1 a b c d e f i) :=
  ⟨putB h.h1 a b c d e f i, farB h.h2 (fun e => h.n12 e.symm) a b c d e f i, farB h.h3 (fun e => h.n13 e.symm) a b c d e f i, R_setB h.r1 h.h1 a b c d e f i, R_setB h.r2 h.h1 a b c d e f i, R_setB h.r3 h.h1 a b c d e f i, setB_below h.hb h.b1 a b c d e f i, h.b1, h.b2, h.b3, h.n12, h.n13, h.n23⟩
theorem Lp.put2 {w0 w : World} {g1 g2 g3 : Nat} {c1 c3 : Array Value} {a0 a1 a2 a3 a4 a5 a6 : Value} {v1 v2 v3 : Value} {l1 l2 l3 : List Int} (h : Lp w0 g1 g2 g3 c1 #[a0, a1, a2, a3, a4, a5, a6] c3 v1 v2 v3 l1 l2 l3 w) (a b c d e f i : Value) : Lp w0 g1 g2 g3 c1 #[a, b, c, d, e, f, i] c3 v1 v2 v3 l1 l2 l3 (setB w g2 a b c d e f i) :=
  ⟨farB h.h1 h.n12 a b c d e f i, putB h.h2 a b c d e f i, farB h.h3 (fun e => h.n23 e.symm) a b c d e f i, R_setB h.r1 h.h2 a b c d e f i, R_setB h.r2 h.h2 a b c d e f i, R_setB h.r3 h.h2 a b c d e f i, setB_below h.hb h.b2 a b c d e f i, h.b1, h.b2, h.b3, h.n12, h.n13, h.n23⟩
theorem Lp.put3 {w0 w : World} {g1 g2 g3 : Nat} {c1 c2 : Array Value} {a0 a1 a2 a3 a4 a5 a6 : Value} {v1 v2 v3 : Value} {l1 l2 l3 : List Int} (h : Lp w0 g1 g2 g3 c1 c2 #[a0, a1, a2, a3, a4, a5, a6] v1 v2 v3 l1 l2 l3 w) (a b c d e f i : Value) : Lp w0 g1 g2 g3 c1 c2 #[a, b, c, d, e, f, i] v1 v2 v3 l1 l2 l3 (setB w g3 a b c d e f i) :=
  ⟨farB h.h1 h.n13 a b c d e f i, farB h.h2 h.n23 a b c d e f i, putB h.h3 a b c d e f i, R_setB h.r1 h.h3 a b c d e f i, R_setB h.r2 h.h3 a b c d e f i, R_setB h.r3 h.h3 a b c d e f i, setB_below h.hb h.b3 a b c d e f i, h.b1, h.b2, h.b3, h.n12, h.n13, h.n23⟩
theorem Lp.box1 {w0 w : World} {g1 g2 g3 : Nat} {c2 c3 : Array Value} {v1 v2 v3 : Value} {l1 l2 l3 : List Int} {n s t q r : Int} {b : Bool} (h : Lp w0 g1 g2 g3 #[v1, .int .i64 n, .int .u64 s, .int .u64 t, .int .u64 q, .int .u64 r, .bool b] c2 c3 v1 v2 v3 l1 l2 l3 w) : ∃ A k, Bx w g1 A k l1 n s t q r b := by
  obtain ⟨A, k, e⟩ := Kd.R_slice h.r1
  have hr := h.r1
  have hg := h.h1
  subst e
  exact ⟨A, k, hg, (Kd.R_reads' hr).2.1, (Kd.R_reads' hr).2.2⟩
theorem Lp.turn {w0 w : World} {g1 g2 g3 : Nat} {c1 c2 c3 : Array Value} {v1 v2 v3 : Value} {l1 l2 l3 : List Int} (h : Lp w0 g1 g2 g3 c1 c2 c3 v1 v2 v3 l1 l2 l3 w) : Lp w0 g2 g3 g1 c2 c3 c1 v2 v3 v1 l2 l3 l1 w :=
  ⟨h.h2, h.h3, h.h1, h.r2, h.r3, h.r1, h.hb, h.b2, h.b3, h.b1, h.n23, fun e => h.n12 e.symm, fun e => h.n13 e.symm⟩
def offertorylaw29_LedgerParts.f (k : Nat) (a0_0 : Int) (a0_1 : Int) (a0_2 : Int) (l0_3 : List Int) (l1 : List Int) (l2 : List Int) : Option Bool :=
  (offertoryref09_Sound.f k a0_0 a0_1 a0_2 l0_3).bind fun s => if s = 0 ∧ l1.length ≤ 100 ∧ l2.length ≤ 100 then
    (offertoryref09_Stats.f k a0_0 a0_1 a0_2 l0_3 l1).bind fun p => (offertoryref09_Stats.f k a0_0 a0_1 a0_2 l0_3 l2).bind fun q => (offertoryref09_Stats.f k a0_0 a0_1 a0_2 l0_3 (l1 ++ l2)).bind fun m =>
    (ledger_Add.f k p.1 p.2.1 p.2.2.1 p.2.2.2.1 p.2.2.2.2.1 p.2.2.2.2.2.1 p.2.2.2.2.2.2 q.1 q.2.1 q.2.2.1 q.2.2.2.1 q.2.2.2.2.1 q.2.2.2.2.2.1 q.2.2.2.2.2.2).bind fun x => (ledger_Sub.f k m.1 m.2.1 m.2.2.1 m.2.2.2.1 m.2.2.2.2.1 m.2.2.2.2.2.1 m.2.2.2.2.2.2 p.1 p.2.1 p.2.2.1 p.2.2.2.1 p.2.2.2.2.1 p.2.2.2.2.2.1 p.2.2.2.2.2.2).bind fun y => (offertorylaw29_awake.f k).bind fun t =>
    (offertoryref09_Same.f k x.1 x.2.1 x.2.2.1 x.2.2.2.1 x.2.2.2.2.1 x.2.2.2.2.2.1 x.2.2.2.2.2.2.1 m.1 m.2.1 m.2.2.1 m.2.2.2.1 m.2.2.2.2.1 m.2.2.2.2.2.1 m.2.2.2.2.2.2).bind fun s1 => (offertoryref09_Same.f k y.1 y.2.1 y.2.2.1 y.2.2.2.1 y.2.2.2.2.1 y.2.2.2.2.2.1 y.2.2.2.2.2.2.1 q.1 q.2.1 q.2.2.1 q.2.2.2.1 q.2.2.2.2.1 q.2.2.2.2.2.1 q.2.2.2.2.2.2).bind fun s2 =>
    if t = true ∧ x.2.2.2.2.2.2.2 = 0 ∧ y.2.2.2.2.2.2.2 = 0 ∧ s1 = true ∧ s2 = true then some true else none
  else offertorylaw29_awake.f k
theorem offertorylaw29_LedgerParts.mono : ∀ a0 a1 a2 a3 a4 a5 k, LeO (offertorylaw29_LedgerParts.f k a0 a1 a2 a3 a4 a5) (offertorylaw29_LedgerParts.f (k + 1) a0 a1 a2 a3 a4 a5) := by
  intro a0 a1 a2 a3 a4 a5 k
  unfold offertorylaw29_LedgerParts.f
  refine LeO.bind (offertoryref09_Sound.mono _ _ _ _ _) fun s => LeO.ite ?_ (offertorylaw29_awake.mono _)
  exact LeO.bind (offertoryref09_Stats.mono _ _ _ _ _ _) fun p => LeO.bind (offertoryref09_Stats.mono _ _ _ _ _ _) fun q => LeO.bind (offertoryref09_Stats.mono _ _ _ _ _ _) fun m => LeO.bind (ledger_Add.mono _ _ _ _ _ _ _ _ _ _ _ _ _ _ _) fun x => LeO.bind (ledger_Sub.mono _ _ _ _ _ _ _ _ _ _ _ _ _ _ _) fun y => LeO.bind (offertorylaw29_awake.mono _) fun t => LeO.bind (offertoryref09_Same.mono _ _ _ _ _ _ _ _ _ _ _ _ _ _ _) fun s1 => LeO.bind (offertoryref09_Same.mono _ _ _ _ _ _ _ _ _ _ _ _ _ _ _) fun s2 => LeO.refl _
set_option maxHeartbeats 16000000 in
set_option maxRecDepth 100000 in
theorem parts_walk (k : Nat) (a0_0 a0_1 a0_2 : Int) (A0_3 : Option Addr) (c0_3 : Nat) (l0_3 : List Int) (A1 : Option Addr) (c1 : Nat) (l1 : List Int) (A2 : Option Addr) (c2 : Nat) (l2 : List Int) (w : World)
    (p1 : List Int) (p2 p3 p4 p5 p6 : Int) (p7 : Bool) (q1 : List Int) (q2 q3 q4 q5 q6 : Int) (q7 : Bool) (m1 : List Int) (m2 m3 m4 m5 m6 : Int) (m7 : Bool) (x1 : List Int) (x2 x3 x4 x5 x6 : Int) (x7 : Bool) (y1 : List Int) (y2 y3 y4 y5 y6 : Int) (y7 : Bool)
    (hr0 : Kd.C (Kd.int .i64) w A0_3 l0_3.length l0_3) (hc0 : l0_3.length ≤ c0_3) (hr1 : Kd.C (Kd.int .i64) w A1 l1.length l1) (hc1 : l1.length ≤ c1) (hr2 : Kd.C (Kd.int .i64) w A2 l2.length l2) (hc2 : l2.length ≤ c2) (le1 : l1.length ≤ 100) (le2 : l2.length ≤ 100)
    (as_ : offertoryref09_Sound.f k a0_0 a0_1 a0_2 l0_3 = some 0) (ap : offertoryref09_Stats.f k a0_0 a0_1 a0_2 l0_3 l1 = some (p1, p2, p3, p4, p5, p6, p7)) (aq : offertoryref09_Stats.f k a0_0 a0_1 a0_2 l0_3 l2 = some (q1, q2, q3, q4, q5, q6, q7)) (am : offertoryref09_Stats.f k a0_0 a0_1 a0_2 l0_3 (l1 ++ l2) = some (m1, m2, m3, m4, m5, m6, m7))
    (ax : ledger_Add.f k p1 p2 p3 p4 p5 p6 p7 q1 q2 q3 q4 q5 q6 q7 = some (x1, x2, x3, x4, x5, x6, x7, 0)) (ay : ledger_Sub.f k m1 m2 m3 m4 m5 m6 m7 p1 p2 p3 p4 p5 p6 p7 = some (y1, y2, y3, y4, y5, y6, y7, 0)) (aw : offertorylaw29_awake.f k = some true) (s1 : offertoryref09_Same.f k x1 x2 x3 x4 x5 x6 x7 m1 m2 m3 m4 m5 m6 m7 = some true) (s2 : offertoryref09_Same.f k y1 y2 y3 y4 y5 y6 y7 q1 q2 q3 q4 q5 q6 q7 = some true) :
    Calls Try.prog 6 #[.agg #[.int .i64 a0_0, .int .i64 a0_1, .int .i64 a0_2, .slice A0_3 l0_3.length c0_3], .slice A1 l1.length c1, .slice A2 l2.length c2] w fun e w' => e = .returned (.bool true) ∧ Below w.heap.size w w' := by
  have hu27 := Try.underlying27
  have hu38 := Try.underlying38
  have HR0w := Aside0.mk hr0
  have HC0 := Aside0.mk hc0
  have HR1w := Aside0.mk hr1
  have HC1 := Aside0.mk hc1
  have HR2w := Aside0.mk hr2
  have HC2 := Aside0.mk hc2
  have LE := Aside0.mk (⟨le1, le2⟩ : l1.length ≤ 100 ∧ l2.length ≤ 100)
  have ASo := Aside0.mk as_
  have APP := Aside0.mk ap
  have AQ := Aside0.mk aq
  have AM := Aside0.mk am
  have AX := Aside0.mk ax
  have AY := Aside0.mk ay
  have AW := Aside0.mk aw
  have AS1 := Aside0.mk s1
  have AS2 := Aside0.mk s2
  have d1 : decide ((l1.length : Int) > 100) = false := decide_eq_false (by omega)
  have d2 : decide ((l2.length : Int) > 100) = false := decide_eq_false (by omega)
  have d1' : decide (100 < (l1.length : Int)) = false := decide_eq_false (by omega)
  have d2' : decide (100 < (l2.length : Int)) = false := decide_eq_false (by omega)
  have d1n : decide (100 < l1.length) = false := decide_eq_false (by omega)
  have d2n : decide (100 < l2.length) = false := decide_eq_false (by omega)
  clear hr0 hc0 hr1 hc1 hr2 hc2 le1 le2 as_ ap aq am ax ay aw s1 s2
  go_enter Try.func6, Try.ntmps6
  go_wp2_with fail
  go_at_call 13
  refine (offertoryref09_Sound.calls k a0_0 a0_1 a0_2 A0_3 c0_3 l0_3 0 _ (Kd.C_below HR0w.out (below_alloc (Below.refl _ _) _)) HC0.out ASo.out).mono ?_
  rintro e w2 ⟨rfl, hb⟩
  have HPw : Aside0 (w2.heap[w.heap.size]? = some (.cells #[.int .i64 a0_0, .int .i64 a0_1, .int .i64 a0_2, .slice A0_3 l0_3.length c0_3] 38 (0, 0))) := ⟨blk_below (blk_new w _) hb⟩
  have HBw := Aside0.mk (below_step (below_alloc (Below.refl _ _) _) hb)
  clear hb
  go_wp2_with fail
  refine code_gen (fun W => Below w.heap.size w W ∧ W.heap[w.heap.size]? = some (.cells #[.int .i64 a0_0, .int .i64 a0_1, .int .i64 a0_2, .slice A0_3 l0_3.length c0_3] 38 (0, 0))) ⟨HBw.out, HPw.out⟩ ?_
  clear HPw HBw
  rintro w3 ⟨hb, hp⟩
  have HBW := Aside0.mk hb
  have HPW := Aside0.mk hp
  clear hb hp
  obtain ⟨gp, egp⟩ : ∃ g, g = w.heap.size := ⟨_, rfl⟩
  rw [← egp] at HPW ⊢
  have EGP := Aside0.mk egp
  clear egp
  obtain ⟨wd, ewd⟩ : ∃ x, x = w3.drew := ⟨_, rfl⟩
  have HP : Aside0 (wd.heap[gp]? = some (.cells #[.int .i64 a0_0, .int .i64 a0_1, .int .i64 a0_2, .slice A0_3 l0_3.length c0_3] 38 (0, 0))) := ⟨by rw [ewd]; exact blk_drew HPW.out⟩
  have HBd : Aside0 (Below w.heap.size w wd) := ⟨by rw [ewd]; exact below_drew1 HBW.out⟩
  have HR0 := Aside0.mk (Kd.C_below HR0w.out HBd.out)
  have HR1 := Aside0.mk (Kd.C_below HR1w.out HBd.out)
  have HR2 := Aside0.mk (Kd.C_below HR2w.out HBd.out)
  clear HPW HBW HR0w HR1w HR2w
  refine start_ (n := 19) (S := fun w' => w'.cell? ⟨gp, 0, none⟩ = some (.int .i64 a0_0) ∧ w'.cell? ⟨gp, 1, none⟩ = some (.int .i64 a0_1) ∧ w'.cell? ⟨gp, 2, none⟩ = some (.int .i64 a0_2) ∧ w'.cell? ⟨gp, 3, none⟩ = some (.slice A0_3 l0_3.length c0_3)) (ds := [16, 17, 18]) #[false, false, false, false, false, false, false, false, false, false, false, false, false, false, false, false, false, false, false] (by kernel_rfl) rfl rfl (by rw [← ewd]; exact cells4P HP.out) (fun hHeld => ?_)
  rw [← ewd] at hHeld ⊢
  clear ewd
  refine pure_ (i := 1) (N := some 29) (v := ?_) (a' := ?_) #[false, true, false, false, false, false, false, false, false, false, false, false, false, false, false, false, false, false, false] rfl rfl (by kernel_rfl) (fun _ _ _ h => h) (Or.inl ⟨by rfl, ?_⟩) ?_ ?_
  rotate_left
  · intro w'
    go_simp
    with_reducible rfl
  rotate_left
  · simp only [Act.put, List.setIfInBounds_toArray, List.set_cons_zero, List.set_cons_succ, i64_w, i32_w]
    rfl
  refine pure_ (i := 4) (N := some 32) (v := ?_) (a' := ?_) #[false, true, false, false, true, false, false, false, false, false, false, false, false, false, false, false, false, false, false] rfl rfl (by kernel_rfl) (fun _ _ _ h => h) (Or.inl ⟨by rfl, ?_⟩) ?_ ?_
  rotate_left
  · intro w'
    go_simp
    with_reducible rfl
  rotate_left
  · simp only [Act.put, List.setIfInBounds_toArray, List.set_cons_zero, List.set_cons_succ, i64_w, i32_w]
    rfl
  refine pure_ (i := 8) (N := some 36) (v := ?_) (a' := ?_) #[false, true, false, false, true, false, false, false, true, false, false, false, false, false, false, false, false, false, false] rfl rfl (by kernel_rfl) (fun _ _ _ h => h) (Or.inl ⟨by rfl, ?_⟩) ?_ ?_
  rotate_left
  · intro w'
    go_simp
    with_reducible rfl
  rotate_left
  · simp only [Act.put, List.setIfInBounds_toArray, List.set_cons_zero, List.set_cons_succ, i64_w, i32_w]
    rfl
  refine pure_ (i := 10) (N := some 38) (v := ?_) (a' := ?_) #[false, true, false, false, true, false, false, false, true, false, true, false, false, false, false, false, false, false, false] rfl rfl (by kernel_rfl) (fun _ _ _ h => h) (Or.inl ⟨by rfl, ?_⟩) ?_ ?_
  rotate_left
  · intro w'
    go_simp
    with_reducible rfl
  rotate_left
  · simp only [Act.put, List.setIfInBounds_toArray, List.set_cons_zero, List.set_cons_succ, i64_w, i32_w]
    rfl
  refine take_ (i := 0) (N := some 28) (v := ?_) (a' := ?_) #[true, true, false, false, true, false, false, false, true, false, true, false, false, false, false, false, false, false, false] rfl rfl (by kernel_rfl) (fun _ _ _ h => h) (Or.inl ⟨by rfl, ?_⟩) hHeld ?_ ?_
  rotate_left
  · rintro w' ⟨s0, s1, s2, s3⟩
    go_simp
    with_reducible rfl
  rotate_left
  · simp only [Act.put, List.setIfInBounds_toArray, List.set_cons_zero, List.set_cons_succ, i64_w, i32_w]
    rfl
  refine take_ (i := 3) (N := some 31) (v := ?_) (a' := ?_) #[true, true, false, true, true, false, false, false, true, false, true, false, false, false, false, false, false, false, false] rfl rfl (by kernel_rfl) (fun _ _ _ h => h) (Or.inl ⟨by rfl, ?_⟩) hHeld ?_ ?_
  rotate_left
  · rintro w' ⟨s0, s1, s2, s3⟩
    go_simp
    with_reducible rfl
  rotate_left
  · simp only [Act.put, List.setIfInBounds_toArray, List.set_cons_zero, List.set_cons_succ, i64_w, i32_w]
    rfl
  refine take_ (i := 6) (N := some 34) (v := ?_) (a' := ?_) #[true, true, false, true, true, false, true, false, true, false, true, false, false, false, false, false, false, false, false] rfl rfl (by kernel_rfl) (fun _ _ _ h => h) (Or.inl ⟨by rfl, ?_⟩) hHeld ?_ ?_
  rotate_left
  · rintro w' ⟨s0, s1, s2, s3⟩
    go_simp
    with_reducible rfl
  rotate_left
  · simp only [Act.put, List.setIfInBounds_toArray, List.set_cons_zero, List.set_cons_succ, i64_w, i32_w]
    rfl
  refine span_ (fuel' := 3) #[true, true, true, true, true, true, true, true, true, true, true, true, true, true, true, true, false, false, false] [2, 5, 7, 9, 11, 12, 13, 14, 15] [2, 5, 7, 13, 14, 15] (fun i => match i with | 2 => 30 | 5 => 33 | 7 => 35 | 13 => 7 | 14 => 8 | 15 => 9 | _ => 0) [[], [], [0, 1], [], [], [0, 1, 2, 3, 4], [], [], [], [0, 1, 2, 3, 4, 5, 7, 8], [], [0, 1, 2, 3, 4, 5, 7, 8, 9, 10], [0, 1, 2, 3, 4, 5, 6, 7, 8, 9, 10, 11], [], [], [], [0, 1, 2, 3, 4, 5, 6, 7, 8, 9, 10, 11, 12, 13, 14, 15], [0, 1, 2, 3, 4, 5, 6, 7, 8, 9, 10, 11, 12, 13, 14, 15, 16], [0, 1, 2, 3, 4, 5, 6, 7, 8, 9, 10, 11, 12, 13, 14, 15, 16, 17]] [[], [], [], [], [], [], [], [9, 11], [], [11], [], [], [], [], [], [], [], [], []] [30, 33, 35, 37, 39, 40, 7, 8, 9] [[], [], [30], [], [], [33], [], [35], [], [37, 30, 33], [], [39], [40], [7], [8], [9], [], [], []] (fun j vs w' => match j with | 2 => (∃ v0_ : Value, (vs.getD 0 undef) = .agg #[v0_, .int .i64 p2, .int .u64 p3, .int .u64 p4, .int .u64 p5, .int .u64 p6, .bool p7] ∧ (Kd.int .i64).R 3 w' wd.heap.size (fun _ => True) v0_ p1) | 5 => (∃ v0_ : Value, (vs.getD 0 undef) = .agg #[v0_, .int .i64 q2, .int .u64 q3, .int .u64 q4, .int .u64 q5, .int .u64 q6, .bool q7] ∧ (Kd.int .i64).R 3 w' wd.heap.size (fun _ => True) v0_ q1) | 7 => ((Kd.int .i64).R 3 w' wd.heap.size (fun _ => True) (vs.getD 0 undef) []) | 9 => ((Kd.int .i64).R 3 w' wd.heap.size (fun k => blkV (vs.getD 1 undef) ≠ some k ∧ blkV (vs.getD 2 undef) ≠ some k) (vs.getD 0 undef) l1) | 11 => (∃ A c, (vs.getD 0 undef) = .slice A (l1 ++ l2).length c ∧ (l1 ++ l2).length ≤ c ∧ Kd.C (Kd.int .i64) w' A (l1 ++ l2).length (l1 ++ l2)) | 12 => (∃ v0_ : Value, (vs.getD 0 undef) = .agg #[v0_, .int .i64 m2, .int .u64 m3, .int .u64 m4, .int .u64 m5, .int .u64 m6, .bool m7] ∧ (Kd.int .i64).R 3 w' wd.heap.size (fun _ => True) v0_ m1) | 13 => (∃ g : Nat, (vs.getD 0 undef) = .pointer (some ⟨g, 0, none⟩) ∧ w'.heap[g]? = some (.cells #[.slice none 0 0, .int .i64 0, .int .u64 0, .int .u64 0, .int .u64 0, .int .u64 0, .bool false] 27 (0, 0)) ∧ wd.heap.size ≤ g) | 14 => (∃ g : Nat, (vs.getD 0 undef) = .pointer (some ⟨g, 0, none⟩) ∧ w'.heap[g]? = some (.cells #[.slice none 0 0, .int .i64 0, .int .u64 0, .int .u64 0, .int .u64 0, .int .u64 0, .bool false] 27 (0, 0)) ∧ wd.heap.size ≤ g) | 15 => (∃ g : Nat, (vs.getD 0 undef) = .pointer (some ⟨g, 0, none⟩) ∧ w'.heap[g]? = some (.cells #[.slice none 0 0, .int .i64 0, .int .u64 0, .int .u64 0, .int .u64 0, .int .u64 0, .bool false] 27 (0, 0)) ∧ wd.heap.size ≤ g) | _ => True) rfl (by kernel_rfl) (by kernel_rfl) ?_ (fun w' hb => cells4P (blk_below HP.out hb)) ?_ ?_
  · refine pers_cons (fun _ _ _ hb ⟨v, h1, h2⟩ => ⟨v, h1, Kd.R_below h2 hb⟩) ?_; refine pers_cons (fun _ _ _ hb ⟨v, h1, h2⟩ => ⟨v, h1, Kd.R_below h2 hb⟩) ?_; refine pers_cons (fun _ _ _ hb h => Kd.R_below h hb) ?_; refine pers_cons (fun _ _ _ hb h => Kd.R_below h hb) ?_; refine pers_cons (fun _ _ _ hb ⟨A, c, h1, h2, h3⟩ => ⟨A, c, h1, h2, Kd.C_below h3 hb⟩) ?_; refine pers_cons (fun _ _ _ hb ⟨v, h1, h2⟩ => ⟨v, h1, Kd.R_below h2 hb⟩) ?_; refine pers_cons (fun _ _ _ hb ⟨g, h1, h2, h3⟩ => ⟨g, h1, blk_below h2 hb, h3⟩) ?_; refine pers_cons (fun _ _ _ hb ⟨g, h1, h2, h3⟩ => ⟨g, h1, blk_below h2 hb, h3⟩) ?_; refine pers_cons (fun _ _ _ hb ⟨g, h1, h2, h3⟩ => ⟨g, h1, blk_below h2 hb, h3⟩) ?_; exact pers_nil
  rotate_left
  · skip
    refine spans_cons (some 30) rfl rfl (fun s a1 w1 ha hB hF hA K hK => ?_) ?_
    · simp only [putS, List.map_cons, List.map_nil, putAll, Act.put, List.setIfInBounds_toArray, List.set_cons_zero, List.set_cons_succ] at ha
      subst ha
      refine goes_ Try.func14 (by kernel_rfl) rfl #[.agg #[.int .i64 a0_0, .int .i64 a0_1, .int .i64 a0_2, .slice A0_3 l0_3.length c0_3], .slice A1 l1.length c1] (by rfl) rfl rfl (by (try simp only [List.map_toArray, List.map_cons, List.map_nil]); first | done | rfl) ?_
      with_reducible refine (offertoryref09_Stats.calls k a0_0 a0_1 a0_2 A0_3 c0_3 l0_3 A1 c1 l1 p1 p2 p3 p4 p5 p6 p7 w1 (Kd.C_below HR0.out hB) HC0.out (Kd.C_below HR1.out hB) HC1.out APP.out).mono ?_
      rintro e w2 ⟨v0_, rfl, hR, hb⟩
      refine ⟨_, rfl, ?_⟩
      exact hK.out _ w2 (Or.inl hb) (fun _ => fun g hg => new_row hR g hg) ⟨v0_, rfl, Kd.R_lower hR hB.size⟩
    refine spans_cons (some 33) rfl rfl (fun s a1 w1 ha hB hF hA K hK => ?_) ?_
    · simp only [putS, List.map_cons, List.map_nil, putAll, Act.put, List.setIfInBounds_toArray, List.set_cons_zero, List.set_cons_succ] at ha
      subst ha
      refine goes_ Try.func14 (by kernel_rfl) rfl #[.agg #[.int .i64 a0_0, .int .i64 a0_1, .int .i64 a0_2, .slice A0_3 l0_3.length c0_3], .slice A2 l2.length c2] (by rfl) rfl rfl (by (try simp only [List.map_toArray, List.map_cons, List.map_nil]); first | done | rfl) ?_
      with_reducible refine (offertoryref09_Stats.calls k a0_0 a0_1 a0_2 A0_3 c0_3 l0_3 A2 c2 l2 q1 q2 q3 q4 q5 q6 q7 w1 (Kd.C_below HR0.out hB) HC0.out (Kd.C_below HR2.out hB) HC2.out AQ.out).mono ?_
      rintro e w2 ⟨v0_, rfl, hR, hb⟩
      refine ⟨_, rfl, ?_⟩
      exact hK.out _ w2 (Or.inl hb) (fun _ => fun g hg => new_row hR g hg) ⟨v0_, rfl, Kd.R_lower hR hB.size⟩
    refine spans_cons (some 35) rfl rfl (fun s a1 w1 ha hB hF hA K hK => ?_) ?_
    · simp only [putS, List.map_cons, List.map_nil, putAll, Act.put, List.setIfInBounds_toArray, List.set_cons_zero, List.set_cons_succ] at ha
      subst ha
      refine Kd.R_lit_step (Kd.int .i64) _ 3 ?hg (N := 35) ?hd (xs := ([] : List Int)) (inner := []) (ok := fun _ => True) (okp := fun _ => True) ?hr ?hp (fun _ hk => hk) trivial (Below.refl _ _) (Nat.le_refl _) (by simp) ?_; (case hd => rfl); (case hg => rfl); (case hr => first | (go_simp; done) | (go_simp; rfl)); (case hp => exact (Reps.none _ _))
      intro v35 w2 hR hb hg hbl
      exact hK.out _ w2 (Or.inl hb) (fun _ => fun g hg => new_row hR g (by cases v35 <;> first | exact hg | (obtain ⟨b, hb1, _⟩ := hbl; cases hb1))) (Kd.R_lower hR hB.size)
    refine spans_cons (some 37) rfl rfl (fun s a1 w1 ha hB hF hA K hK => ?_) ?_
    · simp only [putS, List.map_cons, List.map_nil, putAll, Act.put, List.setIfInBounds_toArray, List.set_cons_zero, List.set_cons_succ] at ha
      subst ha
      have f2 : ∃ v0_ : Value, (s 30) = .agg #[v0_, .int .i64 p2, .int .u64 p3, .int .u64 p4, .int .u64 p5, .int .u64 p6, .bool p7] ∧ (Kd.int .i64).R 3 w1 wd.heap.size (fun _ => True) v0_ p1 := hF 2 (by decide) (by decide) (by decide)
      have f5 : ∃ v0_ : Value, (s 33) = .agg #[v0_, .int .i64 q2, .int .u64 q3, .int .u64 q4, .int .u64 q5, .int .u64 q6, .bool q7] ∧ (Kd.int .i64).R 3 w1 wd.heap.size (fun _ => True) v0_ q1 := hF 5 (by decide) (by decide) (by decide)
      have f7 : (Kd.int .i64).R 3 w1 wd.heap.size (fun _ => True) (s 35) [] := hF 7 (by decide) (by decide) (by decide)
      have old2 := (hA 2 (by decide) (by decide)).1
      have old5 := (hA 5 (by decide) (by decide)).1
      have a72 := (hA 7 (by decide) (by decide)).2 2 (by decide) (by decide) (by decide)
      have a75 := (hA 7 (by decide) (by decide)).2 5 (by decide) (by decide) (by decide)
      obtain ⟨x35, hx⟩ : ∃ v, v = s 35 := ⟨_, rfl⟩
      obtain ⟨A35, c35, e35⟩ := Kd.R_slice f7
      have HO := own_r f7 (fun k => blkV (s 30) ≠ some k ∧ blkV (s 33) ≠ some k) (fun g hg => ⟨a72 g (by change blkV (s 35) = some g; rw [e35] at hg ⊢; exact hg), a75 g (by change blkV (s 35) = some g; rw [e35] at hg ⊢; exact hg)⟩)
      have hne2 : ∀ v, s 30 = .agg #[v, .int .i64 p2, .int .u64 p3, .int .u64 p4, .int .u64 p5, .int .u64 p6, .bool p7] → ∀ g, v.ownBlock = some g → some g ≠ (s 35).ownBlock := fun v h1 g hg e => (HO.1 g e.symm).1 (by rw [h1]; exact hg)
      have hne5 : ∀ v, s 33 = .agg #[v, .int .i64 q2, .int .u64 q3, .int .u64 q4, .int .u64 q5, .int .u64 q6, .bool q7] → ∀ g, v.ownBlock = some g → some g ≠ (s 35).ownBlock := fun v h1 g hg e => (HO.1 g e.symm).2 (by rw [h1]; exact hg)
      refine Kd.R_append_rows_step (Kd.int .i64) (w0 := wd) (W := w1) wd.heap.size (by rfl) (.tmp 35) (.tmp 36) 22 3 (.int .i64 0) 8 (by rfl) Try.underlying22 info_int rfl (by decide) (by omega) (s 35) [] l1 _ _ _ (fun k => blkV (s 30) ≠ some k ∧ blkV (s 33) ≠ some k) (fun _ => False) (by rfl) (by rfl) HO (Kd.C_below HR1.out hB) (fun _ _ h => h) (fun _ h => h.elim) ?aF hB hB.size (by have := LE.out; (try simp only [List.length_nil]); omega) ?_
      (case aF => exact fun k hk => ⟨fun e => by have := old2 k e; omega, fun e => by have := old5 k e; omega⟩)
      intro v37 w2 ho hb hg hat
      exact hK.out _ w2 (Or.inr ⟨hb, hg.size, pers_cons (fun _ _ _ ⟨v, h1, h2⟩ => ⟨v, h1, own_grown h2 hg (fun g hg2 => hne2 v h1 g hg2)⟩) (pers_cons (fun _ _ _ ⟨v, h1, h2⟩ => ⟨v, h1, own_grown h2 hg (fun g hg2 => hne5 v h1 g hg2)⟩) (pers_cons (fun _ _ h => absurd (by decide) h) (pers_cons (fun h => absurd rfl h) (pers_cons (fun _ h => absurd (by decide) h) (pers_cons (fun _ h => absurd (by decide) h) (pers_cons (fun _ _ _ ⟨g, h1, h2, h3⟩ => ⟨g, h1, blk_grown h2 hg (Kd.R_ne f7 h2 (by decide)), h3⟩) (pers_cons (fun _ _ _ ⟨g, h1, h2, h3⟩ => ⟨g, h1, blk_grown h2 hg (Kd.R_ne f7 h2 (by decide)), h3⟩) (pers_cons (fun _ _ _ ⟨g, h1, h2, h3⟩ => ⟨g, h1, blk_grown h2 hg (Kd.R_ne f7 h2 (by decide)), h3⟩) (pers_nil)))))))))⟩) (fun h => absurd h (by decide)) ho
    refine spans_cons (some 39) rfl rfl (fun s a1 w1 ha hB hF hA K hK => ?_) ?_
    · simp only [putS, List.map_cons, List.map_nil, putAll, Act.put, List.setIfInBounds_toArray, List.set_cons_zero, List.set_cons_succ] at ha
      subst ha
      have f2 : ∃ v0_ : Value, (s 30) = .agg #[v0_, .int .i64 p2, .int .u64 p3, .int .u64 p4, .int .u64 p5, .int .u64 p6, .bool p7] ∧ (Kd.int .i64).R 3 w1 wd.heap.size (fun _ => True) v0_ p1 := hF 2 (by decide) (by decide) (by decide)
      have f5 : ∃ v0_ : Value, (s 33) = .agg #[v0_, .int .i64 q2, .int .u64 q3, .int .u64 q4, .int .u64 q5, .int .u64 q6, .bool q7] ∧ (Kd.int .i64).R 3 w1 wd.heap.size (fun _ => True) v0_ q1 := hF 5 (by decide) (by decide) (by decide)
      have f9 : (Kd.int .i64).R 3 w1 wd.heap.size (fun k => blkV (s 30) ≠ some k ∧ blkV (s 33) ≠ some k) (s 37) l1 := hF 9 (by decide) (by decide) (by decide)
      have old2 := (hA 2 (by decide) (by decide)).1
      have old5 := (hA 5 (by decide) (by decide)).1
      have hne2 : ∀ v, s 30 = .agg #[v, .int .i64 p2, .int .u64 p3, .int .u64 p4, .int .u64 p5, .int .u64 p6, .bool p7] → ∀ g, v.ownBlock = some g → some g ≠ (s 37).ownBlock := fun v h1 g hg e => (f9.1 g e.symm).1 (by rw [h1]; exact hg)
      have hne5 : ∀ v, s 33 = .agg #[v, .int .i64 q2, .int .u64 q3, .int .u64 q4, .int .u64 q5, .int .u64 q6, .bool q7] → ∀ g, v.ownBlock = some g → some g ≠ (s 37).ownBlock := fun v h1 g hg e => (f9.1 g e.symm).2 (by rw [h1]; exact hg)
      refine Kd.R_append_rows_step (Kd.int .i64) (w0 := wd) (W := w1) wd.heap.size (by rfl) (.tmp 37) (.tmp 38) 22 3 (.int .i64 0) 8 (by rfl) Try.underlying22 info_int rfl (by decide) (by omega) (s 37) l1 l2 _ _ _ (fun k => blkV (s 30) ≠ some k ∧ blkV (s 33) ≠ some k) (fun _ => False) (by rfl) (by rfl) f9 (Kd.C_below HR2.out hB) (fun _ _ h => h) (fun _ h => h.elim) ?aF hB hB.size (by have := LE.out; (try simp only [List.length_nil]); omega) ?_
      (case aF => exact fun k hk => ⟨fun e => by have := old2 k e; omega, fun e => by have := old5 k e; omega⟩)
      intro v39 w2 ho hb hg hat
      obtain ⟨A39, c39, rfl⟩ := Kd.R_slice ho
      exact hK.out _ w2 (Or.inr ⟨hb, hg.size, pers_cons (fun _ _ _ ⟨v, h1, h2⟩ => ⟨v, h1, own_grown h2 hg (fun g hg2 => hne2 v h1 g hg2)⟩) (pers_cons (fun _ _ _ ⟨v, h1, h2⟩ => ⟨v, h1, own_grown h2 hg (fun g hg2 => hne5 v h1 g hg2)⟩) (pers_cons (fun _ _ h => absurd (by decide) h) (pers_cons (fun _ _ h => absurd (by decide) h) (pers_cons (fun h => absurd rfl h) (pers_cons (fun _ h => absurd (by decide) h) (pers_cons (fun _ _ _ ⟨g, h1, h2, h3⟩ => ⟨g, h1, blk_grown h2 hg (Kd.R_ne f9 h2 (by decide)), h3⟩) (pers_cons (fun _ _ _ ⟨g, h1, h2, h3⟩ => ⟨g, h1, blk_grown h2 hg (Kd.R_ne f9 h2 (by decide)), h3⟩) (pers_cons (fun _ _ _ ⟨g, h1, h2, h3⟩ => ⟨g, h1, blk_grown h2 hg (Kd.R_ne f9 h2 (by decide)), h3⟩) (pers_nil)))))))))⟩) (fun h => absurd h (by decide)) ⟨A39, c39, rfl, (Kd.R_reads' ho).2.1, (Kd.R_reads' ho).2.2⟩
    refine spans_cons (some 40) rfl rfl (fun s a1 w1 ha hB hF hA K hK => ?_) ?_
    · simp only [putS, List.map_cons, List.map_nil, putAll, Act.put, List.setIfInBounds_toArray, List.set_cons_zero, List.set_cons_succ] at ha
      subst ha
      have f11 : ∃ A c, (s 39) = .slice A (l1 ++ l2).length c ∧ (l1 ++ l2).length ≤ c ∧ Kd.C (Kd.int .i64) w1 A (l1 ++ l2).length (l1 ++ l2) := hF 11 (by decide) (by decide) (by decide)
      obtain ⟨A39, c39, e39, hc39, hr39⟩ := f11
      rw [e39] at hK ⊢
      refine goes_ Try.func14 (by kernel_rfl) rfl #[.agg #[.int .i64 a0_0, .int .i64 a0_1, .int .i64 a0_2, .slice A0_3 l0_3.length c0_3], .slice A39 (l1 ++ l2).length c39] (by rfl) rfl rfl (by (try simp only [List.map_toArray, List.map_cons, List.map_nil]); first | done | rfl) ?_
      with_reducible refine (offertoryref09_Stats.calls k a0_0 a0_1 a0_2 A0_3 c0_3 l0_3 A39 c39 (l1 ++ l2) m1 m2 m3 m4 m5 m6 m7 w1 (Kd.C_below HR0.out hB) HC0.out hr39 hc39 AM.out).mono ?_
      rintro e w2 ⟨v0_, rfl, hR, hb⟩
      refine ⟨_, rfl, ?_⟩
      exact hK.out _ w2 (Or.inl hb) (fun h => absurd h (by decide)) ⟨v0_, rfl, Kd.R_lower hR hB.size⟩
    refine spans_cons (some 7) rfl rfl (fun s a1 w1 ha hB hF hA K hK => ?_) ?_
    · simp only [putS, List.map_cons, List.map_nil, putAll, Act.put, List.setIfInBounds_toArray, List.set_cons_zero, List.set_cons_succ] at ha
      subst ha
      refine box_step ?hg (N := 7) ?hd (cs := #[.slice none 0 0, .int .i64 0, .int .u64 0, .int .u64 0, .int .u64 0, .int .u64 0, .bool false]) (t := 27) ?hr ?_; (case hd => rfl); (case hg => rfl); (case hr => first | (go_simp; done) | (go_simp; rfl))
      intro g hg w2 hbox hb
      subst hg
      exact hK.out _ w2 (Or.inl hb) (fun _ => new_pointer (Nat.le_refl _) (blk_lt hbox)) ⟨_, rfl, hbox, hB.size⟩
    refine spans_cons (some 8) rfl rfl (fun s a1 w1 ha hB hF hA K hK => ?_) ?_
    · simp only [putS, List.map_cons, List.map_nil, putAll, Act.put, List.setIfInBounds_toArray, List.set_cons_zero, List.set_cons_succ] at ha
      subst ha
      refine box_step ?hg (N := 8) ?hd (cs := #[.slice none 0 0, .int .i64 0, .int .u64 0, .int .u64 0, .int .u64 0, .int .u64 0, .bool false]) (t := 27) ?hr ?_; (case hd => rfl); (case hg => rfl); (case hr => first | (go_simp; done) | (go_simp; rfl))
      intro g hg w2 hbox hb
      subst hg
      exact hK.out _ w2 (Or.inl hb) (fun _ => new_pointer (Nat.le_refl _) (blk_lt hbox)) ⟨_, rfl, hbox, hB.size⟩
    refine spans_cons (some 9) rfl rfl (fun s a1 w1 ha hB hF hA K hK => ?_) ?_
    · simp only [putS, List.map_cons, List.map_nil, putAll, Act.put, List.setIfInBounds_toArray, List.set_cons_zero, List.set_cons_succ] at ha
      subst ha
      refine box_step ?hg (N := 9) ?hd (cs := #[.slice none 0 0, .int .i64 0, .int .u64 0, .int .u64 0, .int .u64 0, .int .u64 0, .bool false]) (t := 27) ?hr ?_; (case hd => rfl); (case hg => rfl); (case hr => first | (go_simp; done) | (go_simp; rfl))
      intro g hg w2 hbox hb
      subst hg
      exact hK.out _ w2 (Or.inl hb) (fun _ => new_pointer (Nat.le_refl _) (blk_lt hbox)) ⟨_, rfl, hbox, hB.size⟩
    exact spans_nil
  intro s w9 hB hF hA
  have hHeld : w9.cell? ⟨gp, 0, none⟩ = some (.int .i64 a0_0) ∧ w9.cell? ⟨gp, 1, none⟩ = some (.int .i64 a0_1) ∧ w9.cell? ⟨gp, 2, none⟩ = some (.int .i64 a0_2) ∧ w9.cell? ⟨gp, 3, none⟩ = some (.slice A0_3 l0_3.length c0_3) := ((fun w' hb => cells4P (blk_below HP.out hb)) : ∀ w' : World, _ → w'.cell? ⟨gp, 0, none⟩ = some (.int .i64 a0_0) ∧ w'.cell? ⟨gp, 1, none⟩ = some (.int .i64 a0_1) ∧ w'.cell? ⟨gp, 2, none⟩ = some (.int .i64 a0_2) ∧ w'.cell? ⟨gp, 3, none⟩ = some (.slice A0_3 l0_3.length c0_3)) _ hB
  have f2 : ∃ v0_ : Value, (s 30) = .agg #[v0_, .int .i64 p2, .int .u64 p3, .int .u64 p4, .int .u64 p5, .int .u64 p6, .bool p7] ∧ (Kd.int .i64).R 3 w9 wd.heap.size (fun _ => True) v0_ p1 := hF 2 (by decide) rfl
  have f5 : ∃ v0_ : Value, (s 33) = .agg #[v0_, .int .i64 q2, .int .u64 q3, .int .u64 q4, .int .u64 q5, .int .u64 q6, .bool q7] ∧ (Kd.int .i64).R 3 w9 wd.heap.size (fun _ => True) v0_ q1 := hF 5 (by decide) rfl
  have f11 : ∃ A c, (s 39) = .slice A (l1 ++ l2).length c ∧ (l1 ++ l2).length ≤ c ∧ Kd.C (Kd.int .i64) w9 A (l1 ++ l2).length (l1 ++ l2) := hF 11 (by decide) rfl
  have f12 : ∃ v0_ : Value, (s 40) = .agg #[v0_, .int .i64 m2, .int .u64 m3, .int .u64 m4, .int .u64 m5, .int .u64 m6, .bool m7] ∧ (Kd.int .i64).R 3 w9 wd.heap.size (fun _ => True) v0_ m1 := hF 12 (by decide) rfl
  have f13 : ∃ g : Nat, (s 7) = .pointer (some ⟨g, 0, none⟩) ∧ w9.heap[g]? = some (.cells #[.slice none 0 0, .int .i64 0, .int .u64 0, .int .u64 0, .int .u64 0, .int .u64 0, .bool false] 27 (0, 0)) ∧ wd.heap.size ≤ g := hF 13 (by decide) rfl
  have f14 : ∃ g : Nat, (s 8) = .pointer (some ⟨g, 0, none⟩) ∧ w9.heap[g]? = some (.cells #[.slice none 0 0, .int .i64 0, .int .u64 0, .int .u64 0, .int .u64 0, .int .u64 0, .bool false] 27 (0, 0)) ∧ wd.heap.size ≤ g := hF 14 (by decide) rfl
  have f15 : ∃ g : Nat, (s 9) = .pointer (some ⟨g, 0, none⟩) ∧ w9.heap[g]? = some (.cells #[.slice none 0 0, .int .i64 0, .int .u64 0, .int .u64 0, .int .u64 0, .int .u64 0, .bool false] 27 (0, 0)) ∧ wd.heap.size ≤ g := hF 15 (by decide) rfl
  have hap13_14 : apartV (s 7) (s 8) := hA 13 (by decide) 14 (by decide) (by decide)
  have hap13_15 : apartV (s 7) (s 9) := hA 13 (by decide) 15 (by decide) (by decide)
  have hap14_15 : apartV (s 8) (s 9) := hA 14 (by decide) 15 (by decide) (by decide)
  clear hF hA
  simp only [putS, List.map_cons, List.map_nil, putAll, Act.put, List.setIfInBounds_toArray, List.set_cons_zero, List.set_cons_succ]
  obtain ⟨vA, eA, rA⟩ := f2
  obtain ⟨vB, eB, rB⟩ := f5
  obtain ⟨vC, eC, rC⟩ := f12
  obtain ⟨g7, e7, hb7, l7⟩ := f13
  obtain ⟨g8, e8, hb8, l8⟩ := f14
  obtain ⟨g9, e9, hb9, l9⟩ := f15
  obtain ⟨A39, c39, e39, _, _⟩ := f11
  obtain ⟨Aa, ka, rfl⟩ := Kd.R_slice rA
  obtain ⟨Ab, kb, rfl⟩ := Kd.R_slice rB
  obtain ⟨Ac, kc, rfl⟩ := Kd.R_slice rC
  rw [e7, e8] at hap13_14
  rw [e7, e9] at hap13_15
  rw [e8, e9] at hap14_15
  have HL : Aside0 (Lp wd g7 g8 g9 #[.slice none 0 0, .int .i64 0, .int .u64 0, .int .u64 0, .int .u64 0, .int .u64 0, .bool false] #[.slice none 0 0, .int .i64 0, .int .u64 0, .int .u64 0, .int .u64 0, .int .u64 0, .bool false] #[.slice none 0 0, .int .i64 0, .int .u64 0, .int .u64 0, .int .u64 0, .int .u64 0, .bool false] (.slice Aa p1.length ka) (.slice Ab q1.length kb) (.slice Ac m1.length kc) p1 q1 m1 w9) := ⟨⟨hb7, hb8, hb9, rA, rB, rC, hB, l7, l8, l9, fun e => hap13_14 g7 rfl (by rw [e]; rfl), fun e => hap13_15 g7 rfl (by rw [e]; rfl), fun e => hap14_15 g8 rfl (by rw [e]; rfl)⟩⟩
  rw [eA, eB, eC, e7, e8, e9, e39]
  generalize s 35 = x35
  generalize s 37 = x37
  clear eA eB eC e7 e8 e9 e39 hap13_14 hap13_15 hap14_15 hb7 hb8 hb9 rA rB rC l7 l8 l9 hB s
  refine last_ (i := 16) (N := none) #[true, true, true, true, true, true, true, true, true, true, true, true, true, true, true, true, true, false, false] rfl rfl (by kernel_rfl) (by decide) (fun K hK => ?_)
  obtain ⟨hy0, hy1, hy2, hy3, hy4, hy5, hy6⟩ := cellsB HL.out.h1
  obtain ⟨hf0, hf1, hf2, hf3, hf4, hf5, hf6⟩ := freesB HL.out.h1
  refine skip_ (w1 := ?_) ?_ ?_ ?_ ?_
  rotate_left
  · rfl
  · rfl
  · go_simp
    rfl
  refine hK.out _ _ ?_
  clear hK K
  refine last_gen (fun W => Lp wd g7 g8 g9 #[.slice Aa p1.length ka, .int .i64 p2, .int .u64 p3, .int .u64 p4, .int .u64 p5, .int .u64 p6, .bool p7] #[.slice none 0 0, .int .i64 0, .int .u64 0, .int .u64 0, .int .u64 0, .int .u64 0, .bool false] #[.slice none 0 0, .int .i64 0, .int .u64 0, .int .u64 0, .int .u64 0, .int .u64 0, .bool false] (.slice Aa p1.length ka) (.slice Ab q1.length kb) (.slice Ac m1.length kc) p1 q1 m1 W) (HL.out.put1 (.slice Aa p1.length ka) (.int .i64 p2) (.int .u64 p3) (.int .u64 p4) (.int .u64 p5) (.int .u64 p6) (.bool p7)) ?_
  clear hy0 hy1 hy2 hy3 hy4 hy5 hy6 hf0 hf1 hf2 hf3 hf4 hf5 hf6 HL
  intro w21 hL
  have HL := Aside0.mk hL
  clear hL
  refine last_ (i := 17) (N := none) #[true, true, true, true, true, true, true, true, true, true, true, true, true, true, true, true, true, true, false] rfl rfl (by kernel_rfl) (by decide) (fun K hK => ?_)
  obtain ⟨hy0, hy1, hy2, hy3, hy4, hy5, hy6⟩ := cellsB HL.out.h2
  obtain ⟨hf0, hf1, hf2, hf3, hf4, hf5, hf6⟩ := freesB HL.out.h2
  refine skip_ (w1 := ?_) ?_ ?_ ?_ ?_
  rotate_left
  · rfl
  · rfl
  · go_simp
    rfl
  refine hK.out _ _ ?_
  clear hK K
  refine last_gen (fun W => Lp wd g7 g8 g9 #[.slice Aa p1.length ka, .int .i64 p2, .int .u64 p3, .int .u64 p4, .int .u64 p5, .int .u64 p6, .bool p7] #[.slice Ab q1.length kb, .int .i64 q2, .int .u64 q3, .int .u64 q4, .int .u64 q5, .int .u64 q6, .bool q7] #[.slice none 0 0, .int .i64 0, .int .u64 0, .int .u64 0, .int .u64 0, .int .u64 0, .bool false] (.slice Aa p1.length ka) (.slice Ab q1.length kb) (.slice Ac m1.length kc) p1 q1 m1 W) (HL.out.put2 (.slice Ab q1.length kb) (.int .i64 q2) (.int .u64 q3) (.int .u64 q4) (.int .u64 q5) (.int .u64 q6) (.bool q7)) ?_
  clear hy0 hy1 hy2 hy3 hy4 hy5 hy6 hf0 hf1 hf2 hf3 hf4 hf5 hf6 HL
  intro w22 hL
  have HL := Aside0.mk hL
  clear hL
  refine last_ (i := 18) (N := none) #[true, true, true, true, true, true, true, true, true, true, true, true, true, true, true, true, true, true, true] rfl rfl (by kernel_rfl) (by decide) (fun K hK => ?_)
  obtain ⟨hy0, hy1, hy2, hy3, hy4, hy5, hy6⟩ := cellsB HL.out.h3
  obtain ⟨hf0, hf1, hf2, hf3, hf4, hf5, hf6⟩ := freesB HL.out.h3
  refine skip_ (w1 := ?_) ?_ ?_ ?_ ?_
  rotate_left
  · rfl
  · rfl
  · go_simp
    rfl
  refine hK.out _ _ ?_
  clear hK K
  refine last_gen (fun W => Lp wd g7 g8 g9 #[.slice Aa p1.length ka, .int .i64 p2, .int .u64 p3, .int .u64 p4, .int .u64 p5, .int .u64 p6, .bool p7] #[.slice Ab q1.length kb, .int .i64 q2, .int .u64 q3, .int .u64 q4, .int .u64 q5, .int .u64 q6, .bool q7] #[.slice Ac m1.length kc, .int .i64 m2, .int .u64 m3, .int .u64 m4, .int .u64 m5, .int .u64 m6, .bool m7] (.slice Aa p1.length ka) (.slice Ab q1.length kb) (.slice Ac m1.length kc) p1 q1 m1 W) (HL.out.put3 (.slice Ac m1.length kc) (.int .i64 m2) (.int .u64 m3) (.int .u64 m4) (.int .u64 m5) (.int .u64 m6) (.bool m7)) ?_
  clear hy0 hy1 hy2 hy3 hy4 hy5 hy6 hf0 hf1 hf2 hf3 hf4 hf5 hf6 HL
  intro w23 hL
  have HL := Aside0.mk hL
  clear hL
  refine done_ (by kernel_rfl) ?_
  obtain ⟨A7, k7, hx7⟩ := HL.out.box1
  obtain ⟨A8, k8, hx8⟩ := HL.out.turn.box1
  obtain ⟨A9, k9, hx9⟩ := HL.out.turn.turn.box1
  have HB0 := Aside0.mk (below_step HBd.out HL.out.hb)
  have X7 := Aside0.mk hx7
  have X8 := Aside0.mk hx8
  have X9 := Aside0.mk hx9
  clear hx7 hx8 hx9 HL HP HBd
  obtain ⟨c7_0, c7_1, c7_2, c7_3, c7_4, c7_5, c7_6⟩ := cellsB X7.out.hg
  obtain ⟨c8_0, c8_1, c8_2, c8_3, c8_4, c8_5, c8_6⟩ := cellsB X8.out.hg
  go_wp2_with fail
  clear c7_0 c7_1 c7_2 c7_3 c7_4 c7_5 c7_6
  clear c8_0 c8_1 c8_2 c8_3 c8_4 c8_5 c8_6
  go_at_call 7
  refine (ledger_Add.calls k A7 k7 p1 p2 p3 p4 p5 p6 p7 A8 k8 q1 q2 q3 q4 q5 q6 q7 x1 x2 x3 x4 x5 x6 x7 0 _ X7.out.hr X7.out.hc X8.out.hr X8.out.hc AX.out).mono ?_
  rintro e yw1 ⟨v0_, rfl, hR, hb⟩
  obtain ⟨A10, k10, rfl⟩ := Kd.R_slice hR
  have HC := Aside0.mk (Kd.R_reads' hR).2
  have hN : Bx (yw1.alloc (.cells #[.slice A10 x1.length k10, .int .i64 x2, .int .u64 x3, .int .u64 x4, .int .u64 x5, .int .u64 x6, .bool x7] 27)) yw1.heap.size A10 k10 x1 x2 x3 x4 x5 x6 x7 := ⟨blk_new yw1 _, HC.out.1, Kd.C_below HC.out.2 (below_alloc (Below.refl _ _) _)⟩
  have hS := below_alloc hb (.cells #[.slice A10 x1.length k10, .int .i64 x2, .int .u64 x3, .int .u64 x4, .int .u64 x5, .int .u64 x6, .bool x7] 27)
  have Y7 := Aside0.mk (X7.out.below hS)
  clear X7
  have X7 := Aside0.mk Y7.out
  clear Y7
  have Y8 := Aside0.mk (X8.out.below hS)
  clear X8
  have X8 := Aside0.mk Y8.out
  clear Y8
  have Y9 := Aside0.mk (X9.out.below hS)
  clear X9
  have X9 := Aside0.mk Y9.out
  clear Y9
  have HB1 := Aside0.mk (below_step HB0.out hS)
  have X10 := Aside0.mk hN
  clear hN hS hb hR HC HB0
  obtain ⟨c9_0, c9_1, c9_2, c9_3, c9_4, c9_5, c9_6⟩ := cellsB X9.out.hg
  obtain ⟨c7_0, c7_1, c7_2, c7_3, c7_4, c7_5, c7_6⟩ := cellsB X7.out.hg
  go_wp2_with fail
  clear c9_0 c9_1 c9_2 c9_3 c9_4 c9_5 c9_6
  clear c7_0 c7_1 c7_2 c7_3 c7_4 c7_5 c7_6
  go_at_call 11
  refine (ledger_Sub.calls k A9 k9 m1 m2 m3 m4 m5 m6 m7 A7 k7 p1 p2 p3 p4 p5 p6 p7 y1 y2 y3 y4 y5 y6 y7 0 _ X9.out.hr X9.out.hc X7.out.hr X7.out.hc AY.out).mono ?_
  rintro e yw2 ⟨v0_, rfl, hR, hb⟩
  obtain ⟨A12, k12, rfl⟩ := Kd.R_slice hR
  have HC := Aside0.mk (Kd.R_reads' hR).2
  have hN : Bx (yw2.alloc (.cells #[.slice A12 y1.length k12, .int .i64 y2, .int .u64 y3, .int .u64 y4, .int .u64 y5, .int .u64 y6, .bool y7] 27)) yw2.heap.size A12 k12 y1 y2 y3 y4 y5 y6 y7 := ⟨blk_new yw2 _, HC.out.1, Kd.C_below HC.out.2 (below_alloc (Below.refl _ _) _)⟩
  have hS := below_alloc hb (.cells #[.slice A12 y1.length k12, .int .i64 y2, .int .u64 y3, .int .u64 y4, .int .u64 y5, .int .u64 y6, .bool y7] 27)
  have Y7 := Aside0.mk (X7.out.below hS)
  clear X7
  have X7 := Aside0.mk Y7.out
  clear Y7
  have Y8 := Aside0.mk (X8.out.below hS)
  clear X8
  have X8 := Aside0.mk Y8.out
  clear Y8
  have Y9 := Aside0.mk (X9.out.below hS)
  clear X9
  have X9 := Aside0.mk Y9.out
  clear Y9
  have Y10 := Aside0.mk (X10.out.below hS)
  clear X10
  have X10 := Aside0.mk Y10.out
  clear Y10
  have HB2 := Aside0.mk (below_step HB1.out hS)
  have X12 := Aside0.mk hN
  clear hN hS hb hR HC HB1
  go_wp2_with fail
  go_at_call 9
  refine (offertorylaw29_awake.calls k true _ AW.out).mono ?_
  rintro e z1 ⟨rfl, hb⟩
  have Y7 := Aside0.mk (X7.out.below hb)
  clear X7
  have X7 := Aside0.mk Y7.out
  clear Y7
  have Y8 := Aside0.mk (X8.out.below hb)
  clear X8
  have X8 := Aside0.mk Y8.out
  clear Y8
  have Y9 := Aside0.mk (X9.out.below hb)
  clear X9
  have X9 := Aside0.mk Y9.out
  clear Y9
  have Y10 := Aside0.mk (X10.out.below hb)
  clear X10
  have X10 := Aside0.mk Y10.out
  clear Y10
  have Y12 := Aside0.mk (X12.out.below hb)
  clear X12
  have X12 := Aside0.mk Y12.out
  clear Y12
  have HB3 := Aside0.mk (below_step HB2.out hb)
  clear hb HB2
  obtain ⟨c10_0, c10_1, c10_2, c10_3, c10_4, c10_5, c10_6⟩ := cellsB X10.out.hg
  obtain ⟨c9_0, c9_1, c9_2, c9_3, c9_4, c9_5, c9_6⟩ := cellsB X9.out.hg
  go_wp2_with fail
  clear c10_0 c10_1 c10_2 c10_3 c10_4 c10_5 c10_6
  clear c9_0 c9_1 c9_2 c9_3 c9_4 c9_5 c9_6
  go_at_call 10
  refine (offertoryref09_Same.calls k A10 k10 x1 x2 x3 x4 x5 x6 x7 A9 k9 m1 m2 m3 m4 m5 m6 m7 true _ X10.out.hr X10.out.hc X9.out.hr X9.out.hc AS1.out).mono ?_
  rintro e z2 ⟨rfl, hb⟩
  have Y7 := Aside0.mk (X7.out.below hb)
  clear X7
  have X7 := Aside0.mk Y7.out
  clear Y7
  have Y8 := Aside0.mk (X8.out.below hb)
  clear X8
  have X8 := Aside0.mk Y8.out
  clear Y8
  have Y9 := Aside0.mk (X9.out.below hb)
  clear X9
  have X9 := Aside0.mk Y9.out
  clear Y9
  have Y10 := Aside0.mk (X10.out.below hb)
  clear X10
  have X10 := Aside0.mk Y10.out
  clear Y10
  have Y12 := Aside0.mk (X12.out.below hb)
  clear X12
  have X12 := Aside0.mk Y12.out
  clear Y12
  have HB4 := Aside0.mk (below_step HB3.out hb)
  clear hb HB3
  obtain ⟨c12_0, c12_1, c12_2, c12_3, c12_4, c12_5, c12_6⟩ := cellsB X12.out.hg
  obtain ⟨c8_0, c8_1, c8_2, c8_3, c8_4, c8_5, c8_6⟩ := cellsB X8.out.hg
  go_wp2_with fail
  clear c12_0 c12_1 c12_2 c12_3 c12_4 c12_5 c12_6
  clear c8_0 c8_1 c8_2 c8_3 c8_4 c8_5 c8_6
  go_at_call 10
  refine (offertoryref09_Same.calls k A12 k12 y1 y2 y3 y4 y5 y6 y7 A8 k8 q1 q2 q3 q4 q5 q6 q7 true _ X12.out.hr X12.out.hc X8.out.hr X8.out.hc AS2.out).mono ?_
  rintro e z3 ⟨rfl, hb⟩
  have HB5 := Aside0.mk (below_step HB4.out hb)
  clear hb HB4
  go_wp2
  go_ret
  exact ⟨by first | rfl | (simp; done), HB5.out⟩
set_option maxHeartbeats 16000000 in
set_option maxRecDepth 100000 in
theorem parts_no (k : Nat) (a0_0 a0_1 a0_2 : Int) (A0_3 : Option Addr) (c0_3 : Nat) (l0_3 : List Int) (A1 : Option Addr) (c1 : Nat) (l1 : List Int) (A2 : Option Addr) (c2 : Nat) (l2 : List Int) (s : Int) (r : Bool) (w : World)
    (hr0 : Kd.C (Kd.int .i64) w A0_3 l0_3.length l0_3) (hc0 : l0_3.length ≤ c0_3) (as_ : offertoryref09_Sound.f k a0_0 a0_1 a0_2 l0_3 = some s) (hno : s = 0 → l1.length ≤ 100 → ¬ l2.length ≤ 100) (aw : offertorylaw29_awake.f k = some r) :
    Calls Try.prog 6 #[.agg #[.int .i64 a0_0, .int .i64 a0_1, .int .i64 a0_2, .slice A0_3 l0_3.length c0_3], .slice A1 l1.length c1, .slice A2 l2.length c2] w fun e w' => e = .returned (.bool r) ∧ Below w.heap.size w w' := by
  have hu38 := Try.underlying38
  have HR0w := Aside0.mk hr0
  have HC0 := Aside0.mk hc0
  have ASo := Aside0.mk as_
  have AW := Aside0.mk aw
  clear hr0 hc0 as_ aw
  have hcase : (s = 0 ∧ l1.length ≤ 100 ∧ 100 < l2.length) ∨ (s = 0 ∧ 100 < l1.length) ∨ s ≠ 0 := by
    by_cases h0 : s = 0
    · by_cases h1 : l1.length ≤ 100
      · exact Or.inl ⟨h0, h1, by have := hno h0 h1; omega⟩
      · exact Or.inr (Or.inl ⟨h0, by omega⟩)
    · exact Or.inr (Or.inr h0)
  clear hno
  rcases hcase with ⟨rfl, h1, h2⟩ | ⟨rfl, h1⟩ | h0
  ·
    have dl1 : decide ((l1.length : Int) > 100) = false := decide_eq_false (by omega)
    have dl1' : decide (100 < (l1.length : Int)) = false := decide_eq_false (by omega)
    have dl1n : decide (100 < l1.length) = false := decide_eq_false (by omega)
    have dl2 : decide ((l2.length : Int) > 100) = true := decide_eq_true (by omega)
    have dl2' : decide (100 < (l2.length : Int)) = true := decide_eq_true (by omega)
    have dl2n : decide (100 < l2.length) = true := decide_eq_true (by omega)
    clear h1 h2
    go_enter Try.func6, Try.ntmps6
    go_wp2_with fail
    go_at_call 13
    refine (offertoryref09_Sound.calls k a0_0 a0_1 a0_2 A0_3 c0_3 l0_3 0 _ (Kd.C_below HR0w.out (below_alloc (Below.refl _ _) _)) HC0.out ASo.out).mono ?_
    rintro e w2 ⟨rfl, hb⟩
    have HBw := Aside0.mk (below_step (below_alloc (Below.refl _ _) _) hb)
    clear hb
    go_wp2_with fail
    go_at_call 9
    refine (offertorylaw29_awake.calls k r _ AW.out).mono ?_
    rintro e z1 ⟨rfl, hb⟩
    have HB3 := Aside0.mk (below_step HBw.out hb)
    clear hb HBw
    go_wp2
    go_ret
    exact ⟨by first | rfl | (simp; done), HB3.out⟩
  ·
    have dl1 : decide ((l1.length : Int) > 100) = true := decide_eq_true (by omega)
    have dl1' : decide (100 < (l1.length : Int)) = true := decide_eq_true (by omega)
    have dl1n : decide (100 < l1.length) = true := decide_eq_true (by omega)
    clear h1
    go_enter Try.func6, Try.ntmps6
    go_wp2_with fail
    go_at_call 13
    refine (offertoryref09_Sound.calls k a0_0 a0_1 a0_2 A0_3 c0_3 l0_3 0 _ (Kd.C_below HR0w.out (below_alloc (Below.refl _ _) _)) HC0.out ASo.out).mono ?_
    rintro e w2 ⟨rfl, hb⟩
    have HBw := Aside0.mk (below_step (below_alloc (Below.refl _ _) _) hb)
    clear hb
    go_wp2_with fail
    go_at_call 9
    refine (offertorylaw29_awake.calls k r _ AW.out).mono ?_
    rintro e z1 ⟨rfl, hb⟩
    have HB3 := Aside0.mk (below_step HBw.out hb)
    clear hb HBw
    go_wp2
    go_ret
    exact ⟨by first | rfl | (simp; done), HB3.out⟩
  ·
    have d0 : (s == 0) = false := beq_eq_false_iff_ne.2 h0
    have d0' : (s != 0) = true := bne_iff_ne.2 h0
    clear h0
    go_enter Try.func6, Try.ntmps6
    go_wp2_with fail
    go_at_call 13
    refine (offertoryref09_Sound.calls k a0_0 a0_1 a0_2 A0_3 c0_3 l0_3 s _ (Kd.C_below HR0w.out (below_alloc (Below.refl _ _) _)) HC0.out ASo.out).mono ?_
    rintro e w2 ⟨rfl, hb⟩
    have HBw := Aside0.mk (below_step (below_alloc (Below.refl _ _) _) hb)
    clear hb
    go_wp2_with fail
    go_at_call 9
    refine (offertorylaw29_awake.calls k r _ AW.out).mono ?_
    rintro e z1 ⟨rfl, hb⟩
    have HB3 := Aside0.mk (below_step HBw.out hb)
    clear hb HBw
    go_wp2
    go_ret
    exact ⟨by first | rfl | (simp; done), HB3.out⟩
theorem offertorylaw29_LedgerParts.calls (k : Nat) (a0_0 : Int) (a0_1 : Int) (a0_2 : Int) (A0_3 : Option Addr) (c0_3 : Nat) (l0_3 : List Int) (A1 : Option Addr) (c1 : Nat) (l1 : List Int) (A2 : Option Addr) (c2 : Nat) (l2 : List Int) (r : Bool) (w : World) (hr0_3 : Kd.C (Kd.int .i64) w A0_3 l0_3.length l0_3) (hc0_3 : l0_3.length ≤ c0_3) (hr1 : Kd.C (Kd.int .i64) w A1 l1.length l1) (hc1 : l1.length ≤ c1) (hr2 : Kd.C (Kd.int .i64) w A2 l2.length l2) (hc2 : l2.length ≤ c2) (h : offertorylaw29_LedgerParts.f k a0_0 a0_1 a0_2 l0_3 l1 l2 = some r) :
    Calls Try.prog 6 #[.agg #[.int .i64 a0_0, .int .i64 a0_1, .int .i64 a0_2, .slice A0_3 l0_3.length c0_3], .slice A1 l1.length c1, .slice A2 l2.length c2] w fun e w' => e = .returned (.bool r) ∧ Below w.heap.size w w' := by
  unfold offertorylaw29_LedgerParts.f at h
  obtain ⟨s, AS, h⟩ := Option.bind_eq_some_iff.mp h
  split at h
  · rename_i hc
    obtain ⟨rfl, le1, le2⟩ := hc
    obtain ⟨⟨p1, p2, p3, p4, p5, p6, p7⟩, AP, h⟩ := Option.bind_eq_some_iff.mp h
    obtain ⟨⟨q1, q2, q3, q4, q5, q6, q7⟩, AQ, h⟩ := Option.bind_eq_some_iff.mp h
    obtain ⟨⟨m1, m2, m3, m4, m5, m6, m7⟩, AM, h⟩ := Option.bind_eq_some_iff.mp h
    obtain ⟨⟨x1, x2, x3, x4, x5, x6, x7, xe⟩, AX, h⟩ := Option.bind_eq_some_iff.mp h
    obtain ⟨⟨y1, y2, y3, y4, y5, y6, y7, ye⟩, AY, h⟩ := Option.bind_eq_some_iff.mp h
    obtain ⟨t, AW, h⟩ := Option.bind_eq_some_iff.mp h
    obtain ⟨s1, AS1, h⟩ := Option.bind_eq_some_iff.mp h
    obtain ⟨s2, AS2, h⟩ := Option.bind_eq_some_iff.mp h
    split at h
    case isFalse => cases h
    rename_i hc
    obtain rfl := Option.some.inj h
    obtain ⟨rfl, rfl, rfl, rfl, rfl⟩ := hc
    exact parts_walk k a0_0 a0_1 a0_2 A0_3 c0_3 l0_3 A1 c1 l1 A2 c2 l2 w _ _ _ _ _ _ _ _ _ _ _ _ _ _ _ _ _ _ _ _ _ _ _ _ _ _ _ _ _ _ _ _ _ _ _ hr0_3 hc0_3 hr1 hc1 hr2 hc2 le1 le2 AS AP AQ AM AX AY AW AS1 AS2
  · rename_i hc
    exact parts_no k a0_0 a0_1 a0_2 A0_3 c0_3 l0_3 A1 c1 l1 A2 c2 l2 s r w hr0_3 hc0_3 AS (fun hs h1 h2 => hc ⟨hs, h1, h2⟩) h

end Go.Proofs.Yticihbccflflfaa.PAll
