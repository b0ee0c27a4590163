/- The Go functions that the laws reach, as Lean functions, and that each call comes to what its function says. Written by a program of this session (a turned copy of the kit's print). No condition beyond those that each theorem states. -/
import Derived.Test.YticihbccflflfaaPAllx0
import Derived.Test.YticihbccflflfaaPAllx2
import Derived.Test.YticihbccflflfaaPAllx4
import Derived.Test.YticihbccflflfaaPAllx5
import Derived.Test.YticihbccflflfaaPAllx6
namespace Go.Proofs.Yticihbccflflfaa.PAll
open Go.RowKit Go.Proofs.YticihbccflflfaaW.PrintWords Go.Proofs.YticihbccflflfaaW.PrintLast Go.Proofs.YticihbccflflfaaW.PrintMore
attribute [local go_sem] max2_int min2_int max_two min_two max_three min_three max_four min_four   -- for this text's walks alone
set_option linter.unusedVariables false
set_option linter.unusedSimpArgs false

set_option maxHeartbeats 16000000 in
set_option maxRecDepth 100000 in
theorem both_false (A1 : Option Addr) (k1 : Nat) (l1 : List Int) (c1 s1 t1 q1 r1 : Int) (b1 : Bool) (A2 : Option Addr) (k2 : Nat) (l2 : List Int) (c2 s2 t2 q2 r2 : Int) (b2 : Bool) (z1 : List Int) (z2 z3 z4 z5 z6 : Int) (z7 : Bool) (z8 : Int) (w : World) (hr1 : Kd.C (Kd.int .i64) w A1 l1.length l1) (hc1 : l1.length ≤ k1) (hr2 : Kd.C (Kd.int .i64) w A2 l2.length l2) (hc2 : l2.length ≤ k2) (hl : l1.length = l2.length) (hm : l1.length ≤ 17592186044000)
  (h : (if chkB (c1 :: l1) (c2 :: l2) = true then (if bldB false (c1 :: l1) (c2 :: l2) = true then finB (List.zipWith (opB false) l1 l2) (opB false c1 c2) s1 t1 q1 r1 b1 s2 t2 q2 r2 b2 false else some ([], 0, 0, 0, 0, 0, false, 4)) else some ([], 0, 0, 0, 0, 0, false, 4)) = some (z1, z2, z3, z4, z5, z6, z7, z8)) :
  Calls Try.prog 8 #[.agg #[.slice A1 l1.length k1, .int .i64 c1, .int .u64 s1, .int .u64 t1, .int .u64 q1, .int .u64 r1, .bool b1], .agg #[.slice A2 l2.length k2, .int .i64 c2, .int .u64 s2, .int .u64 t2, .int .u64 q2, .int .u64 r2, .bool b2], .bool false] w fun e w' => ∃ v0_ : Value, e = .returned (.tuple #[.agg #[v0_, .int .i64 z2, .int .u64 z3, .int .u64 z4, .int .u64 z5, .int .u64 z6, .bool z7], .int .i64 z8]) ∧ Kd.R (Kd.int .i64) 3 w' w.heap.size (fun _ => True) v0_ z1 ∧ Below w.heap.size w w' := by
 have hu27 := Try.underlying27
 have hu25 := Try.underlying25
 have hu52 := Try.underlying52
 have e1 : ((l1.length : Int) != (l2.length : Int)) = false := bne_eq_false_iff_eq.2 (by omega)
 have e2 : (l1.length != l2.length) = false := bne_eq_false_iff_eq.2 hl
 have e3 : ((l1.length : Int) == (l2.length : Int)) = true := beq_iff_eq.2 (by omega)
 have e4 : (l1.length == l2.length) = true := beq_iff_eq.2 hl
 have HR1 := Aside0.mk hr1
 have HR2 := Aside0.mk hr2
 have HM : Aside0 (l1.length ≤ 17592186044000 ∧ l2.length ≤ 17592186044000) := ⟨⟨hm, by omega⟩⟩
 have HL := Aside0.mk hl
 obtain ⟨X, hX⟩ : ∃ X, X = c1 :: l1 := ⟨_, rfl⟩
 obtain ⟨Y, hY⟩ : ∃ Y, Y = c2 :: l2 := ⟨_, rfl⟩
 have EX : Aside0 (X = c1 :: l1 ∧ Y = c2 :: l2) := ⟨⟨hX, hY⟩⟩
 have EN : Aside0 (X.length = Y.length ∧ X.length ≤ 17592186044001 ∧ 0 < X.length ∧ 0 < Y.length) := ⟨by rw [hX, hY]; simp only [List.length_cons]; omega⟩
 rw [← hX, ← hY] at h
 have H := Aside0.mk h
 clear hX hY
 clear hl hr1 hc1 hr2 hc2 hm h
 go_enter Try.func8, Try.ntmps8
 go_wp2_with (first | ((with_reducible refine gate_dst (N := 3) rfl ?_); refine box_event ?hg (N := 3) ?hd (cs := #[.slice A1 l1.length k1, .int .i64 c1, .int .u64 s1, .int .u64 t1, .int .u64 q1, .int .u64 r1, .bool b1]) (t := 27) ?hr ?_; (case hd => rfl); (case hg => rfl); (case hr => first | (go_simp; done) | (go_simp; rfl)); intro ga hg wa1 hbox hb; have HBa := Aside0.mk hb; have BA := Aside0.mk hbox; clear hb hbox hg) | ((with_reducible refine gate_dst (N := 4) rfl ?_); refine box_event ?hg (N := 4) ?hd (cs := #[.slice A2 l2.length k2, .int .i64 c2, .int .u64 s2, .int .u64 t2, .int .u64 q2, .int .u64 r2, .bool b2]) (t := 27) ?hr ?_; (case hd => rfl); (case hg => rfl); (case hr => first | (go_simp; done) | (go_simp; rfl)); intro gb hg wa2 hbox hb; have HBb := Aside0.mk (below_step HBa.out hb); have BA2 := Aside0.mk (blk_below BA.out hb); have BB := Aside0.mk hbox; clear hb hbox hg) | ((with_reducible refine gate_dst (N := 6) rfl ?_); refine box_event ?hg (N := 6) ?hd (cs := #[.slice none 0 0, .int .i64 0, .int .u64 0, .int .u64 0, .int .u64 0, .int .u64 0, .bool false]) (t := 27) ?hr ?_; (case hd => rfl); (case hg => rfl); (case hr => first | (go_simp; done) | (go_simp; rfl)); intro g6 hg wa3 hbox hb; have HBc := Aside0.mk (below_step HBb.out hb); have BA3 := Aside0.mk (blk_below BA2.out hb); have BB3 := Aside0.mk (blk_below BB.out hb); have B6 := Aside0.mk hbox; have L6 := Aside0.mk (Nat.le_trans (below_size HBb.out) (Nat.le_of_eq hg.symm)); clear hb hbox hg; obtain ⟨ha0, ha1, ha2, ha3, ha4, ha5, ha6⟩ := cellsB BA3.out; obtain ⟨hb0, hb1, hb2, hb3, hb4, hb5, hb6⟩ := cellsB BB3.out; obtain ⟨h60, h61, h62, h63, h64, h65, h66⟩ := cellsB B6.out; obtain ⟨f60, f61, f62, f63, f64, f65, f66⟩ := freesB B6.out))
 clear ha0 ha1 ha2 ha3 ha4 ha5 ha6 hb0 hb1 hb2 hb3 hb4 hb5 hb6 h60 h61 h62 h63 h64 h65 h66 f60 f61 f62 f63 f64 f65 f66
 clear e1 e2 e3 e4
 obtain ⟨wd, ewd⟩ : ∃ x, x = wa3.drew := ⟨_, rfl⟩
 have BAd : Aside0 (wd.heap[ga]? = some (.cells #[.slice A1 l1.length k1, .int .i64 c1, .int .u64 s1, .int .u64 t1, .int .u64 q1, .int .u64 r1, .bool b1] 27 (0, 0))) := ⟨by rw [ewd]; exact blk_drew BA3.out⟩
 have BBd : Aside0 (wd.heap[gb]? = some (.cells #[.slice A2 l2.length k2, .int .i64 c2, .int .u64 s2, .int .u64 t2, .int .u64 q2, .int .u64 r2, .bool b2] 27 (0, 0))) := ⟨by rw [ewd]; exact blk_drew BB3.out⟩
 have B6d : Aside0 (wd.heap[g6]? = some (.cells #[.slice none 0 0, .int .i64 0, .int .u64 0, .int .u64 0, .int .u64 0, .int .u64 0, .bool false] 27 (0, 0))) := ⟨by rw [ewd]; exact blk_drew B6.out⟩
 have HBd : Aside0 (Below w.heap.size w wd) := ⟨by rw [ewd]; exact below_drew1 HBc.out⟩
 have HR1d := Aside0.mk (Kd.C_below HR1.out HBd.out)
 have HR2d := Aside0.mk (Kd.C_below HR2.out HBd.out)
 clear HBa HBb HBc BA BB BA2 BA3 BB3 B6 HR1 HR2
 refine start_ (n := 14) (S := fun w' => w'.cell? ⟨ga, 0, none⟩ = some (.slice A1 l1.length k1) ∧ w'.cell? ⟨ga, 1, none⟩ = some (.int .i64 c1) ∧ w'.cell? ⟨gb, 0, none⟩ = some (.slice A2 l2.length k2) ∧ w'.cell? ⟨gb, 1, none⟩ = some (.int .i64 c2)) (ds := []) #[false, false, false, false, false, false, false, false, false, false, false, false, false, false] (by kernel_rfl) rfl rfl (by rw [← ewd]; exact ⟨(cellsB BAd.out).1, (cellsB BAd.out).2.1, (cellsB BBd.out).1, (cellsB BBd.out).2.1⟩) (fun hHeld => ?_)
 rw [← ewd] at hHeld ⊢
 clear ewd
 refine pure_ (i := 0) (N := some 27) (v := ?_) (a' := ?_) #[true, false, false, false, false, false, false, false, false, false, false, false, false, false] rfl rfl (by kernel_rfl) (fun _ _ _ h => h) (Or.inl ⟨by rfl, ?_⟩) ?_ ?_
 rotate_left
 ·
  intro w'
  go_simp
  with_reducible rfl
 rotate_left
 ·
  simp only [Act.put, List.setIfInBounds_toArray, List.set_cons_zero, List.set_cons_succ, i64_w, i32_w]
  rfl
 refine pure_ (i := 3) (N := some 30) (v := ?_) (a' := ?_) #[true, false, false, true, false, false, false, false, false, false, false, false, false, false] rfl rfl (by kernel_rfl) (fun _ _ _ h => h) (Or.inl ⟨by rfl, ?_⟩) ?_ ?_
 rotate_left
 ·
  intro w'
  go_simp
  with_reducible rfl
 rotate_left
 ·
  simp only [Act.put, List.setIfInBounds_toArray, List.set_cons_zero, List.set_cons_succ, i64_w, i32_w]
  rfl
 refine pure_ (i := 6) (N := some 33) (v := ?_) (a' := ?_) #[true, false, false, true, false, false, true, false, false, false, false, false, false, false] rfl rfl (by kernel_rfl) (fun _ _ _ h => h) (Or.inl ⟨by rfl, ?_⟩) ?_ ?_
 rotate_left
 ·
  intro w'
  go_simp
  with_reducible rfl
 rotate_left
 ·
  simp only [Act.put, List.setIfInBounds_toArray, List.set_cons_zero, List.set_cons_succ, i64_w, i32_w]
  rfl
 refine pure_ (i := 9) (N := some 36) (v := ?_) (a' := ?_) #[true, false, false, true, false, false, true, false, false, true, false, false, false, false] rfl rfl (by kernel_rfl) (fun _ _ _ h => h) (Or.inl ⟨by rfl, ?_⟩) ?_ ?_
 rotate_left
 ·
  intro w'
  go_simp
  with_reducible rfl
 rotate_left
 ·
  simp only [Act.put, List.setIfInBounds_toArray, List.set_cons_zero, List.set_cons_succ, i64_w, i32_w]
  rfl
 refine take_ (i := 1) (N := some 28) (v := ?_) (a' := ?_) #[true, true, false, true, false, false, true, false, false, true, false, false, false, false] rfl rfl (by kernel_rfl) (fun _ _ _ h => h) (Or.inl ⟨by rfl, ?_⟩) hHeld ?_ ?_
 rotate_left
 ·
  rintro w' ⟨s0, s1, s2, s3⟩
  go_simp
  with_reducible rfl
 rotate_left
 ·
  simp only [Act.put, List.setIfInBounds_toArray, List.set_cons_zero, List.set_cons_succ, i64_w, i32_w]
  rfl
 refine take_ (i := 4) (N := some 31) (v := ?_) (a' := ?_) #[true, true, false, true, true, false, true, false, false, true, false, false, false, false] rfl rfl (by kernel_rfl) (fun _ _ _ h => h) (Or.inl ⟨by rfl, ?_⟩) hHeld ?_ ?_
 rotate_left
 ·
  rintro w' ⟨s0, s1, s2, s3⟩
  go_simp
  with_reducible rfl
 rotate_left
 ·
  simp only [Act.put, List.setIfInBounds_toArray, List.set_cons_zero, List.set_cons_succ, i64_w, i32_w]
  rfl
 refine take_ (i := 7) (N := some 34) (v := ?_) (a' := ?_) #[true, true, false, true, true, false, true, true, false, true, false, false, false, false] rfl rfl (by kernel_rfl) (fun _ _ _ h => h) (Or.inl ⟨by rfl, ?_⟩) hHeld ?_ ?_
 rotate_left
 ·
  rintro w' ⟨s0, s1, s2, s3⟩
  go_simp
  with_reducible rfl
 rotate_left
 ·
  simp only [Act.put, List.setIfInBounds_toArray, List.set_cons_zero, List.set_cons_succ, i64_w, i32_w]
  rfl
 refine take_ (i := 10) (N := some 37) (v := ?_) (a' := ?_) #[true, true, false, true, true, false, true, true, false, true, true, false, false, false] rfl rfl (by kernel_rfl) (fun _ _ _ h => h) (Or.inl ⟨by rfl, ?_⟩) hHeld ?_ ?_
 rotate_left
 ·
  rintro w' ⟨s0, s1, s2, s3⟩
  go_simp
  with_reducible rfl
 rotate_left
 ·
  simp only [Act.put, List.setIfInBounds_toArray, List.set_cons_zero, List.set_cons_succ, i64_w, i32_w]
  rfl
 refine span_ (fuel' := 2) #[true, true, true, true, true, true, true, true, true, true, true, true, false, false] [2, 5, 8, 11] [] (fun _ => 0) [[], [0], [0, 1], [], [3], [0, 1, 2, 3, 4], [], [6], [6, 7], [], [9], [0, 1, 2, 3, 4, 5, 6, 7, 8, 9, 10], [0, 1, 2, 3, 4, 5, 6, 7, 8, 9, 10, 11], [0, 1, 2, 3, 4, 5, 6, 7, 8, 9, 10, 11, 12]] [[], [], [], [], [], [], [], [], [], [], [], [], [], []] [29, 32, 35, 38] [[], [], [29], [], [], [32], [], [], [35], [], [], [38], [], []] (fun j vs w' => match j with | 2 => (∃ g : Nat, (vs.getD 0 undef) = .slice (some ⟨g, 0, none⟩) 1 1 ∧ w'.heap[g]? = some (.cells ([c1].map (Value.int .i64)).toArray 3 (0, 0))) | 5 => ((Kd.int .i64).R 3 w' 0 (fun _ => True) (vs.getD 0 undef) X) | 8 => (∃ g : Nat, (vs.getD 0 undef) = .slice (some ⟨g, 0, none⟩) 1 1 ∧ w'.heap[g]? = some (.cells ([c2].map (Value.int .i64)).toArray 3 (0, 0))) | 11 => ((Kd.int .i64).R 3 w' 0 (fun _ => True) (vs.getD 0 undef) Y) | _ => True) rfl (by kernel_rfl) (by kernel_rfl) ?_ (fun w' hb => ⟨(cellsB (blk_below BAd.out hb)).1, (cellsB (blk_below BAd.out hb)).2.1, (cellsB (blk_below BBd.out hb)).1, (cellsB (blk_below BBd.out hb)).2.1⟩) ?_ ?_
 ·
  refine pers_cons (fun _ _ _ hb ⟨g, h1, h2⟩ => ⟨g, h1, blk_below h2 hb⟩) ?_; refine pers_cons (fun _ _ _ hb h => Kd.R_below h hb) ?_; refine pers_cons (fun _ _ _ hb ⟨g, h1, h2⟩ => ⟨g, h1, blk_below h2 hb⟩) ?_; refine pers_cons (fun _ _ _ hb h => Kd.R_below h hb) ?_; exact pers_nil
 rotate_left
 ·
  skip
  refine spans_cons (some 29) rfl rfl (fun s a1 w1 ha hB hF hA K hK => ?_) ?_
  ·
   simp only [putS, List.map_cons, List.map_nil, putAll, Act.put, List.setIfInBounds_toArray, List.set_cons_zero, List.set_cons_succ] at ha
   subst ha
   refine value_ (w1 := ?_) (v := ?_) (by rfl) rfl ?_ ?_
   rotate_left 2
   ·
    go_simp
    constructor
    ·
     rfl
    ·
     rfl
   exact hK.out _ _ (Or.inl (below_alloc (Below.refl _ _) _)) (fun h => absurd h (by decide)) ⟨w1.heap.size, rfl, blk_new w1 _⟩
  refine spans_cons (some 32) rfl rfl (fun s a1 w1 ha hB hF hA K hK => ?_) ?_
  ·
   simp only [putS, List.map_cons, List.map_nil, putAll, Act.put, List.setIfInBounds_toArray, List.set_cons_zero, List.set_cons_succ] at ha
   subst ha
   have f2 : ∃ g : Nat, (s 29) = .slice (some ⟨g, 0, none⟩) 1 1 ∧ w1.heap[g]? = some (.cells ([c1].map (Value.int .i64)).toArray 3 (0, 0)) := hF 2 (by decide) (by decide) (by decide)
   obtain ⟨g, eg, hbg⟩ := f2
   rw [eg] at hK ⊢
   refine app_full_step (k := .i64) (W := w1) (by rfl) (.tmp 29) (.tmp 31) 22 3 (.int .i64 0) 8 (by rfl) Try.underlying22 info_intB rfl (by decide) g [c1] l1 A1 _ k1 (by rfl) (by rfl) hbg (Kd.C_below HR1d.out hB) (by have := HM.out; simp only [List.length_cons, List.length_nil]; omega) ?_
   intro v1 w2 hv hb
   exact hK.out _ w2 (Or.inl hb) (fun h => absurd h (by decide)) (by rw [EX.out.1]; exact hv)
  refine spans_cons (some 35) rfl rfl (fun s a1 w1 ha hB hF hA K hK => ?_) ?_
  ·
   simp only [putS, List.map_cons, List.map_nil, putAll, Act.put, List.setIfInBounds_toArray, List.set_cons_zero, List.set_cons_succ] at ha
   subst ha
   refine value_ (w1 := ?_) (v := ?_) (by rfl) rfl ?_ ?_
   rotate_left 2
   ·
    go_simp
    constructor
    ·
     rfl
    ·
     rfl
   exact hK.out _ _ (Or.inl (below_alloc (Below.refl _ _) _)) (fun h => absurd h (by decide)) ⟨w1.heap.size, rfl, blk_new w1 _⟩
  refine spans_cons (some 38) rfl rfl (fun s a1 w1 ha hB hF hA K hK => ?_) ?_
  ·
   simp only [putS, List.map_cons, List.map_nil, putAll, Act.put, List.setIfInBounds_toArray, List.set_cons_zero, List.set_cons_succ] at ha
   subst ha
   have f8 : ∃ g : Nat, (s 35) = .slice (some ⟨g, 0, none⟩) 1 1 ∧ w1.heap[g]? = some (.cells ([c2].map (Value.int .i64)).toArray 3 (0, 0)) := hF 8 (by decide) (by decide) (by decide)
   obtain ⟨g, eg, hbg⟩ := f8
   rw [eg] at hK ⊢
   refine app_full_step (k := .i64) (W := w1) (by rfl) (.tmp 35) (.tmp 37) 22 3 (.int .i64 0) 8 (by rfl) Try.underlying22 info_intB rfl (by decide) g [c2] l2 A2 _ k2 (by rfl) (by rfl) hbg (Kd.C_below HR2d.out hB) (by have := HM.out; simp only [List.length_cons, List.length_nil]; omega) ?_
   intro v1 w2 hv hb
   exact hK.out _ w2 (Or.inl hb) (fun h => absurd h (by decide)) (by rw [EX.out.2]; exact hv)
  exact spans_nil
 intro s w9 hB hF hA
 have hHeld : w9.cell? ⟨ga, 0, none⟩ = some (.slice A1 l1.length k1) ∧ w9.cell? ⟨ga, 1, none⟩ = some (.int .i64 c1) ∧ w9.cell? ⟨gb, 0, none⟩ = some (.slice A2 l2.length k2) ∧ w9.cell? ⟨gb, 1, none⟩ = some (.int .i64 c2) := ((fun w' hb => ⟨(cellsB (blk_below BAd.out hb)).1, (cellsB (blk_below BAd.out hb)).2.1, (cellsB (blk_below BBd.out hb)).1, (cellsB (blk_below BBd.out hb)).2.1⟩) : ∀ w' : World, _ → w'.cell? ⟨ga, 0, none⟩ = some (.slice A1 l1.length k1) ∧ w'.cell? ⟨ga, 1, none⟩ = some (.int .i64 c1) ∧ w'.cell? ⟨gb, 0, none⟩ = some (.slice A2 l2.length k2) ∧ w'.cell? ⟨gb, 1, none⟩ = some (.int .i64 c2)) _ hB
 have f2 : ∃ g : Nat, (s 29) = .slice (some ⟨g, 0, none⟩) 1 1 ∧ w9.heap[g]? = some (.cells ([c1].map (Value.int .i64)).toArray 3 (0, 0)) := hF 2 (by decide) rfl
 have f5 : (Kd.int .i64).R 3 w9 0 (fun _ => True) (s 32) X := hF 5 (by decide) rfl
 have f8 : ∃ g : Nat, (s 35) = .slice (some ⟨g, 0, none⟩) 1 1 ∧ w9.heap[g]? = some (.cells ([c2].map (Value.int .i64)).toArray 3 (0, 0)) := hF 8 (by decide) rfl
 have f11 : (Kd.int .i64).R 3 w9 0 (fun _ => True) (s 38) Y := hF 11 (by decide) rfl
 clear hF hA
 simp only [putS, List.map_cons, List.map_nil, putAll, Act.put, List.setIfInBounds_toArray, List.set_cons_zero, List.set_cons_succ]
 obtain ⟨g29, e29, _⟩ := f2
 obtain ⟨g35, e35, _⟩ := f8
 obtain ⟨gx, kx, ex, hkx, hX⟩ := Rw.of f5 EN.out.2.2.1
 obtain ⟨gy, ky, ey, hky, hY⟩ := Rw.of f11 EN.out.2.2.2
 rw [e29, e35, ex, ey]
 have E0 : Aside0 (Lb w ga gb g6 #[.slice A1 l1.length k1, .int .i64 c1, .int .u64 s1, .int .u64 t1, .int .u64 q1, .int .u64 r1, .bool b1] #[.slice A2 l2.length k2, .int .i64 c2, .int .u64 s2, .int .u64 t2, .int .u64 q2, .int .u64 r2, .bool b2] gx gy kx ky X Y w9) := ⟨⟨blk_below BAd.out hB, blk_below BBd.out hB, blk_below B6d.out hB, hX, hY, below_step HBd.out hB, L6.out⟩⟩
 clear e29 e35 ex ey hkx hky hX hY hB BAd BBd B6d HBd
 refine pure_ (i := 12) (N := some 8) (v := ?_) (a' := ?_) #[true, true, true, true, true, true, true, true, true, true, true, true, true, false] rfl rfl (by kernel_rfl) (fun _ _ _ h => h) (Or.inl ⟨by rfl, ?_⟩) ?_ ?_
 rotate_left
 ·
  intro w'
  go_simp
  with_reducible rfl
 rotate_left
 ·
  simp only [Act.put, List.setIfInBounds_toArray, List.set_cons_zero, List.set_cons_succ, i64_w, i32_w]
  rfl
 refine pure_ (i := 13) (N := some 9) (v := ?_) (a' := ?_) #[true, true, true, true, true, true, true, true, true, true, true, true, true, true] rfl rfl (by kernel_rfl) (fun _ _ _ h => h) (Or.inl ⟨by rfl, ?_⟩) ?_ ?_
 rotate_left
 ·
  intro w'
  go_simp
  with_reducible rfl
 rotate_left
 ·
  simp only [Act.put, List.setIfInBounds_toArray, List.set_cons_zero, List.set_cons_succ, i64_w, i32_w]
  rfl
 refine done_ (by kernel_rfl) ?_
 clear HL HM HR1d HR2d
 obtain ⟨B, hB⟩ : ∃ B, B = chkB X Y := ⟨_, rfl⟩
 rw [← hB] at H
 have HB := Aside0.mk hB
 clear hB
 go_wp2
 go_loopg [10] X.length (fun kq v10 w' => ∃ i : Nat, v10 = .int .i64 (i : Int) ∧ Aside0 (i + kq = X.length) ∧ Aside0 (chkB (X.drop i) (Y.drop i) = B) ∧ Aside0 (Lb w ga gb g6 #[.slice A1 l1.length k1, .int .i64 c1, .int .u64 s1, .int .u64 t1, .int .u64 q1, .int .u64 r1, .bool b1] #[.slice A2 l2.length k2, .int .i64 c2, .int .u64 s2, .int .u64 t2, .int .u64 q2, .int .u64 r2, .bool b2] gx gy kx ky X Y w'))
 case atStart => exact ⟨0, rfl, ⟨Nat.zero_add _⟩, ⟨HB.out.symm⟩, E0⟩
 case round =>
  clear E0 HB
  obtain ⟨i, rfl, HI, HC, E⟩ := hrel
  cases gk with
  | succ kk =>
   have hi := HI.out
   have hx : i < X.length := by omega
   have hy : i < Y.length := by have := EN.out; omega
   have d1 : decide ((i : Int) < (X.length : Int)) = true := decide_eq_true (by omega)
   have d2 : decide (i < X.length) = true := decide_eq_true hx
   have pI : 0 ≤ (i : Int) := by omega
   have qX : (i : Int) < (X.length : Int) := by omega
   have qY : (i : Int) < (Y.length : Int) := by omega
   have hs := chk_step X Y i hx hy
   rw [HC.out] at hs
   have hcx := E.out.hx.cell i hx
   have hcy := E.out.hy.cell i hy
   generalize X[i] = xi at *
   generalize Y[i] = yi at *
   have HS := Aside0.mk hs
   have HCY := Aside0.mk hcy
   have EI := Aside0.mk (w64n i (by have := EN.out; omega))
   clear hi hx hy hs hcy
   obtain ⟨h60, h61, h62, h63, h64, h65, h66⟩ := cellsB E.out.h6
   obtain ⟨f60, f61, f62, f63, f64, f65, f66⟩ := freesB E.out.h6
   cases hox : lwOk xi
   ·
    have hB : B = false := by rw [HS.out, hox]; rfl
    have h := H.out
    rw [hB] at h
    replace h : some (([] : List Int), (0 : Int), (0 : Int), (0 : Int), (0 : Int), (0 : Int), false, (4 : Int)) = some (z1, z2, z3, z4, z5, z6, z7, z8) := h
    simp only [Option.some.injEq, Prod.mk.injEq] at h
    obtain ⟨rfl, rfl, rfl, rfl, rfl, rfl, rfl, rfl⟩ := h
    have HOX := Aside0.mk hox
    clear hox hB
    go_wp2_with fail
    go_at_call 18
    refine (lawRight xi false _ HOX.out).mono ?_
    rintro e w1 ⟨rfl, hb⟩
    have E1 := Aside0.mk (E.out.below hb)
    clear hb h60 h61 h62 h63 h64 h65 h66 f60 f61 f62 f63 f64 f65 f66
    obtain ⟨h60, h61, h62, h63, h64, h65, h66⟩ := cellsB E1.out.h6
    obtain ⟨f60, f61, f62, f63, f64, f65, f66⟩ := freesB E1.out.h6
    go_wp2
    refine bodyPost_ret (results_ct rfl _ _ g6 27 #[.slice none 0 0, .int .i64 0, .int .u64 0, .int .u64 0, .int .u64 0, .int .u64 0, .bool false] (0, 0) _ rfl (putB E1.out.h6 _ _ _ _ _ _ _) Try.underlying27 rfl (by kernel_rfl)) rfl ?_
    exact ⟨_, by first | rfl | (simp; done), Kd.R_nil _ _ _ _ _, setB_below E1.out.hw E1.out.l6 _ _ _ _ _ _ _⟩
   ·
    have HOX := Aside0.mk hox
    clear hox
    go_wp2_with fail
    go_at_call 18
    refine (lawRight xi true _ HOX.out).mono ?_
    rintro e w1 ⟨rfl, hb⟩
    have E1 := Aside0.mk (E.out.below hb)
    have hcy1 := pw_cell_below hb HCY.out
    clear hb h60 h61 h62 h63 h64 h65 h66 f60 f61 f62 f63 f64 f65 f66
    cases hoy : lwOk yi
    ·
     have hB : B = false := by rw [HS.out, HOX.out, hoy]; rfl
     have h := H.out
     rw [hB] at h
     replace h : some (([] : List Int), (0 : Int), (0 : Int), (0 : Int), (0 : Int), (0 : Int), false, (4 : Int)) = some (z1, z2, z3, z4, z5, z6, z7, z8) := h
     simp only [Option.some.injEq, Prod.mk.injEq] at h
     obtain ⟨rfl, rfl, rfl, rfl, rfl, rfl, rfl, rfl⟩ := h
     have HOY := Aside0.mk hoy
     clear hoy hB
     go_wp2_with fail
     go_at_call 18
     refine (lawRight yi false _ HOY.out).mono ?_
     rintro e w2 ⟨rfl, hb⟩
     have E2 := Aside0.mk (E1.out.below hb)
     clear hb hcy1
     obtain ⟨h60, h61, h62, h63, h64, h65, h66⟩ := cellsB E2.out.h6
     obtain ⟨f60, f61, f62, f63, f64, f65, f66⟩ := freesB E2.out.h6
     go_wp2
     refine bodyPost_ret (results_ct rfl _ _ g6 27 #[.slice none 0 0, .int .i64 0, .int .u64 0, .int .u64 0, .int .u64 0, .int .u64 0, .bool false] (0, 0) _ rfl (putB E2.out.h6 _ _ _ _ _ _ _) Try.underlying27 rfl (by kernel_rfl)) rfl ?_
     exact ⟨_, by first | rfl | (simp; done), Kd.R_nil _ _ _ _ _, setB_below E2.out.hw E2.out.l6 _ _ _ _ _ _ _⟩
    ·
     have HOY := Aside0.mk hoy
     clear hoy
     go_wp2_with fail
     go_at_call 18
     refine (lawRight yi true _ HOY.out).mono ?_
     rintro e w2 ⟨rfl, hb⟩
     have E2 := Aside0.mk (E1.out.below hb)
     clear hb hcy1
     go_wp2
     go_roundg kk
     case measure => omega
     case rel => exact ⟨i + 1, by first | rfl | (rw [← EI.out]; done) | (rw [← EI.out]; rfl), ⟨by have := HI.out; omega⟩, ⟨by have := HS.out; rw [HOX.out, HOY.out, Bool.true_and, Bool.true_and] at this; exact this.symm⟩, E2⟩
  | zero =>
   have ei : i = X.length := by have := HI.out; omega
   have hB : B = true := by
    have h := HC.out
    rw [ei, List.drop_eq_nil_of_le (Nat.le_refl _)] at h
    exact h.symm
   subst hB
   have H2 := H.out
   replace H2 : (if bldB false X Y = true then finB (List.zipWith (opB false) l1 l2) (opB false c1 c2) s1 t1 q1 r1 b1 s2 t2 q2 r2 b2 false else some ([], 0, 0, 0, 0, 0, false, 4)) = some (z1, z2, z3, z4, z5, z6, z7, z8) := H2
   have H := Aside0.mk H2
   have d1 : decide ((i : Int) < (X.length : Int)) = false := decide_eq_false (by omega)
   have d2 : decide (i < X.length) = false := decide_eq_false (by omega)
   clear H2 HI HC ei
   go_wp2
   obtain ⟨hs1, hs2, hs3⟩ := E.out.start
   obtain ⟨g11, hg11⟩ : ∃ g, g = wr.heap.size := ⟨_, rfl⟩
   rw [← hg11] at hs1 ⊢
   have HS1 := Aside0.mk hs1
   have HS2 := Aside0.mk hs2
   have HS3 := Aside0.mk hs3
   have GX : Aside0 (gx < g11 ∧ gy < g11) := ⟨by rw [hg11]; exact ⟨((Kd.R_bound E.out.hx).1 gx rfl).2.2.1, ((Kd.R_bound E.out.hy).1 gy rfl).2.2.1⟩⟩
   clear hs1 hs2 hs3 hg11 d1 d2 E
   refine code_gen (fun W => Lt w ga gb g6 g11 #[.slice A1 l1.length k1, .int .i64 c1, .int .u64 s1, .int .u64 t1, .int .u64 q1, .int .u64 r1, .bool b1] #[.slice A2 l2.length k2, .int .i64 c2, .int .u64 s2, .int .u64 t2, .int .u64 q2, .int .u64 r2, .bool b2] #[.slice none 0 0, .int .i64 0, .int .u64 0, .int .u64 0, .int .u64 0, .int .u64 0, .bool false] (.slice none 0 0) [] W ∧ Rw W gx X kx ∧ Rw W gy Y ky) ⟨HS1.out, HS2.out, HS3.out⟩ ?_
   clear HS1 HS2 HS3
   rintro w10 ⟨hs1, hs2, hs3⟩
   have L0 := Aside0.mk hs1
   have X0 := Aside0.mk hs2
   have Y0 := Aside0.mk hs3
   clear hs1 hs2 hs3
   obtain ⟨B, hB⟩ : ∃ B, B = bldB false X Y := ⟨_, rfl⟩
   have H2 := H.out
   rw [← hB] at H2
   have HB := Aside0.mk hB
   have HH := Aside0.mk H2
   clear hB H2 H
   go_loopg [12] X.length (fun kq v12 w' => ∃ (i : Nat) (v : Value), v12 = .int .i64 (i : Int) ∧ Aside0 (i + kq = X.length) ∧ Aside0 (bldB false (X.drop i) (Y.drop i) = B) ∧ Aside0 (Lt w ga gb g6 g11 #[.slice A1 l1.length k1, .int .i64 c1, .int .u64 s1, .int .u64 t1, .int .u64 q1, .int .u64 r1, .bool b1] #[.slice A2 l2.length k2, .int .i64 c2, .int .u64 s2, .int .u64 t2, .int .u64 q2, .int .u64 r2, .bool b2] #[v, .int .i64 ((nsB false X Y (i)).headD 0), .int .u64 0, .int .u64 0, .int .u64 0, .int .u64 0, .bool false] v (nsB false X Y (i)).tail w') ∧ Aside0 (Rw w' gx X kx) ∧ Aside0 (Rw w' gy Y ky))
   case atStart => exact ⟨0, .slice none 0 0, rfl, ⟨Nat.zero_add _⟩, ⟨HB.out.symm⟩, L0, X0, Y0⟩
   case round =>
    clear L0 X0 Y0 HB
    obtain ⟨i, v, rfl, HI, HC, Lwr, RXwr, RYwr⟩ := hrel
    cases gk with
    | succ kk =>
     have hi := HI.out
     have hx : i < X.length := by omega
     have hy : i < Y.length := by have := EN.out; omega
     have d1 : decide ((i : Int) < (X.length : Int)) = true := decide_eq_true (by omega)
     have d2 : decide (i < X.length) = true := decide_eq_true hx
     have pI : 0 ≤ (i : Int) := by omega
     have qX : (i : Int) < (X.length : Int) := by omega
     have qY : (i : Int) < (Y.length : Int) := by omega
     have hs := bld_step false X Y i hx hy
     rw [HC.out] at hs
     have HNS := Aside0.mk (nsB_succ false X Y i hx hy)
     have HNL := Aside0.mk (nsB_length false X Y i (by omega) (by omega))
     have HRX : Aside0 (∀ W : World, Rw W gx X kx → W.cell? ⟨gx, i, none⟩ = some (.int .i64 X[i])) := ⟨fun W hW => hW.cell i hx⟩
     have HRY : Aside0 (∀ W : World, Rw W gy Y ky → W.cell? ⟨gy, i, none⟩ = some (.int .i64 Y[i])) := ⟨fun W hW => hW.cell i hy⟩
     generalize X[i] = xi at *
     generalize Y[i] = yi at *
     have HS := Aside0.mk hs
     have EI := Aside0.mk (w64n i (by have := EN.out; omega))
     clear hi hx hy hs
     go_wp2
     refine start_ (n := 10) (S := fun w' => w'.cell? ⟨gx, i, none⟩ = some (.int .i64 xi) ∧ w'.cell? ⟨gy, i, none⟩ = some (.int .i64 yi)) (ds := []) #[false, false, false, false, false, false, false, false, false, false] (by kernel_rfl) rfl rfl ⟨(HRX.out _ (RXwr.out.below (below_drew1 (Below.refl _ _)))), (HRY.out _ (RYwr.out.below (below_drew1 (Below.refl _ _))))⟩ (fun hHeld => ?_)
     refine pure_ (i := 0) (N := some 67) (v := ?_) (a' := ?_) #[true, false, false, false, false, false, false, false, false, false] rfl rfl (by kernel_rfl) (fun _ _ _ h => h) (Or.inl ⟨by rfl, ?_⟩) ?_ ?_
     rotate_left
     ·
      intro w'
      go_simp
      with_reducible rfl
     rotate_left
     ·
      simp only [Act.put, List.setIfInBounds_toArray, List.set_cons_zero, List.set_cons_succ, i64_w, i32_w]
      rfl
     refine pure_ (i := 1) (N := some 68) (v := ?_) (a' := ?_) #[true, true, false, false, false, false, false, false, false, false] rfl rfl (by kernel_rfl) (fun _ _ _ h => h) (Or.inl ⟨by rfl, ?_⟩) ?_ ?_
     rotate_left
     ·
      intro w'
      go_simp
      with_reducible rfl
     rotate_left
     ·
      simp only [Act.put, List.setIfInBounds_toArray, List.set_cons_zero, List.set_cons_succ, i64_w, i32_w]
      rfl
     refine pure_ (i := 2) (N := some 69) (v := ?_) (a' := ?_) #[true, true, true, false, false, false, false, false, false, false] rfl rfl (by kernel_rfl) (fun _ _ _ h => h) (Or.inl ⟨by rfl, ?_⟩) ?_ ?_
     rotate_left
     ·
      intro w'
      go_simp
      with_reducible rfl
     rotate_left
     ·
      simp only [Act.put, List.setIfInBounds_toArray, List.set_cons_zero, List.set_cons_succ, i64_w, i32_w]
      rfl
     refine pure_ (i := 4) (N := some 71) (v := ?_) (a' := ?_) #[true, true, true, false, true, false, false, false, false, false] rfl rfl (by kernel_rfl) (fun _ _ _ h => h) (Or.inl ⟨by rfl, ?_⟩) ?_ ?_
     rotate_left
     ·
      intro w'
      go_simp
      with_reducible rfl
     rotate_left
     ·
      simp only [Act.put, List.setIfInBounds_toArray, List.set_cons_zero, List.set_cons_succ, i64_w, i32_w]
      rfl
     refine pure_ (i := 5) (N := some 72) (v := ?_) (a' := ?_) #[true, true, true, false, true, true, false, false, false, false] rfl rfl (by kernel_rfl) (fun _ _ _ h => h) (Or.inl ⟨by rfl, ?_⟩) ?_ ?_
     rotate_left
     ·
      intro w'
      go_simp
      with_reducible rfl
     rotate_left
     ·
      simp only [Act.put, List.setIfInBounds_toArray, List.set_cons_zero, List.set_cons_succ, i64_w, i32_w]
      rfl
     refine pure_ (i := 6) (N := some 73) (v := ?_) (a' := ?_) #[true, true, true, false, true, true, true, false, false, false] rfl rfl (by kernel_rfl) (fun _ _ _ h => h) (Or.inl ⟨by rfl, ?_⟩) ?_ ?_
     rotate_left
     ·
      intro w'
      go_simp
      with_reducible rfl
     rotate_left
     ·
      simp only [Act.put, List.setIfInBounds_toArray, List.set_cons_zero, List.set_cons_succ, i64_w, i32_w]
      rfl
     refine take_ (i := 3) (N := some 70) (v := ?_) (a' := ?_) #[true, true, true, true, true, true, true, false, false, false] rfl rfl (by kernel_rfl) (fun _ _ _ h => h) (Or.inl ⟨by rfl, ?_⟩) hHeld ?_ ?_
     rotate_left
     ·
      rintro w' ⟨s0, s1⟩
      go_simp
      with_reducible rfl
     rotate_left
     ·
      simp only [Act.put, List.setIfInBounds_toArray, List.set_cons_zero, List.set_cons_succ, i64_w, i32_w]
      rfl
     refine take_ (i := 7) (N := some 74) (v := ?_) (a' := ?_) #[true, true, true, true, true, true, true, true, false, false] rfl rfl (by kernel_rfl) (fun _ _ _ h => h) (Or.inl ⟨by rfl, ?_⟩) hHeld ?_ ?_
     rotate_left
     ·
      rintro w' ⟨s0, s1⟩
      go_simp
      with_reducible rfl
     rotate_left
     ·
      simp only [Act.put, List.setIfInBounds_toArray, List.set_cons_zero, List.set_cons_succ, i64_w, i32_w]
      rfl
     refine pure_ (i := 8) (N := some 75) (v := ?_) (a' := ?_) #[true, true, true, true, true, true, true, true, true, false] rfl rfl (by kernel_rfl) (fun _ _ _ h => h) (Or.inl ⟨by rfl, ?_⟩) ?_ ?_
     rotate_left
     ·
      intro w'
      go_simp
      with_reducible rfl
     rotate_left
     ·
      simp only [Act.put, List.setIfInBounds_toArray, List.set_cons_zero, List.set_cons_succ, i64_w, i32_w]
      rfl
     refine pure_ (i := 9) (N := some 13) (v := ?_) (a' := ?_) #[true, true, true, true, true, true, true, true, true, true] rfl rfl (by kernel_rfl) (fun _ _ _ h => h) (Or.inl ⟨by rfl, ?_⟩) ?_ ?_
     rotate_left
     ·
      intro w'
      go_simp
      with_reducible rfl
     rotate_left
     ·
      simp only [Act.put, List.setIfInBounds_toArray, List.set_cons_zero, List.set_cons_succ, i64_w, i32_w]
      rfl
     refine done_ (by kernel_rfl) ?_
     refine exit_gen (fun W => Below wr.heap.size wr W) (below_drew1 (Below.refl _ _)) ?_
     intro w13 hbW
     have Lw13 := Aside0.mk (Lwr.out.below hbW)
     have RXw13 := Aside0.mk (RXwr.out.below hbW)
     have RYw13 := Aside0.mk (RYwr.out.below hbW)
     clear hbW
     go_wp2_with fail
     refine start_ (n := 13) (S := fun w' => w'.cell? ⟨gx, i, none⟩ = some (.int .i64 xi) ∧ w'.cell? ⟨gy, i, none⟩ = some (.int .i64 yi)) (ds := []) #[false, false, false, false, false, false, false, false, false, false, false, false, false] (by kernel_rfl) rfl rfl ⟨(HRX.out _ (RXw13.out.below (below_drew1 (Below.refl _ _)))), (HRY.out _ (RYw13.out.below (below_drew1 (Below.refl _ _))))⟩ (fun hHeld => ?_)
     refine pure_ (i := 0) (N := some 78) (v := ?_) (a' := ?_) #[true, false, false, false, false, false, false, false, false, false, false, false, false] rfl rfl (by kernel_rfl) (fun _ _ _ h => h) (Or.inl ⟨by rfl, ?_⟩) ?_ ?_
     rotate_left
     ·
      intro w'
      go_simp
      with_reducible rfl
     rotate_left
     ·
      simp only [Act.put, List.setIfInBounds_toArray, List.set_cons_zero, List.set_cons_succ, i64_w, i32_w]
      rfl
     refine pure_ (i := 1) (N := some 79) (v := ?_) (a' := ?_) #[true, true, false, false, false, false, false, false, false, false, false, false, false] rfl rfl (by kernel_rfl) (fun _ _ _ h => h) (Or.inl ⟨by rfl, ?_⟩) ?_ ?_
     rotate_left
     ·
      intro w'
      go_simp
      with_reducible rfl
     rotate_left
     ·
      simp only [Act.put, List.setIfInBounds_toArray, List.set_cons_zero, List.set_cons_succ, i64_w, i32_w]
      rfl
     refine pure_ (i := 2) (N := some 80) (v := ?_) (a' := ?_) #[true, true, true, false, false, false, false, false, false, false, false, false, false] rfl rfl (by kernel_rfl) (fun _ _ _ h => h) (Or.inl ⟨by rfl, ?_⟩) ?_ ?_
     rotate_left
     ·
      intro w'
      go_simp
      with_reducible rfl
     rotate_left
     ·
      simp only [Act.put, List.setIfInBounds_toArray, List.set_cons_zero, List.set_cons_succ, i64_w, i32_w]
      rfl
     refine pure_ (i := 5) (N := some 83) (v := ?_) (a' := ?_) #[true, true, true, false, false, true, false, false, false, false, false, false, false] rfl rfl (by kernel_rfl) (fun _ _ _ h => h) (Or.inl ⟨by rfl, ?_⟩) ?_ ?_
     rotate_left
     ·
      intro w'
      go_simp
      with_reducible rfl
     rotate_left
     ·
      simp only [Act.put, List.setIfInBounds_toArray, List.set_cons_zero, List.set_cons_succ, i64_w, i32_w]
      rfl
     refine pure_ (i := 6) (N := some 84) (v := ?_) (a' := ?_) #[true, true, true, false, false, true, true, false, false, false, false, false, false] rfl rfl (by kernel_rfl) (fun _ _ _ h => h) (Or.inl ⟨by rfl, ?_⟩) ?_ ?_
     rotate_left
     ·
      intro w'
      go_simp
      with_reducible rfl
     rotate_left
     ·
      simp only [Act.put, List.setIfInBounds_toArray, List.set_cons_zero, List.set_cons_succ, i64_w, i32_w]
      rfl
     refine pure_ (i := 7) (N := some 85) (v := ?_) (a' := ?_) #[true, true, true, false, false, true, true, true, false, false, false, false, false] rfl rfl (by kernel_rfl) (fun _ _ _ h => h) (Or.inl ⟨by rfl, ?_⟩) ?_ ?_
     rotate_left
     ·
      intro w'
      go_simp
      with_reducible rfl
     rotate_left
     ·
      simp only [Act.put, List.setIfInBounds_toArray, List.set_cons_zero, List.set_cons_succ, i64_w, i32_w]
      rfl
     refine take_ (i := 3) (N := some 81) (v := ?_) (a' := ?_) #[true, true, true, true, false, true, true, true, false, false, false, false, false] rfl rfl (by kernel_rfl) (fun _ _ _ h => h) (Or.inl ⟨by rfl, ?_⟩) hHeld ?_ ?_
     rotate_left
     ·
      rintro w' ⟨s0, s1⟩
      go_simp
      with_reducible rfl
     rotate_left
     ·
      simp only [Act.put, List.setIfInBounds_toArray, List.set_cons_zero, List.set_cons_succ, i64_w, i32_w]
      rfl
     refine pure_ (i := 4) (N := some 82) (v := ?_) (a' := ?_) #[true, true, true, true, true, true, true, true, false, false, false, false, false] rfl rfl (by kernel_rfl) (fun _ _ _ h => h) (Or.inl ⟨by rfl, ?_⟩) ?_ ?_
     rotate_left
     ·
      intro w'
      go_simp
      with_reducible rfl
     rotate_left
     ·
      simp only [Act.put, List.setIfInBounds_toArray, List.set_cons_zero, List.set_cons_succ, i64_w, i32_w]
      rfl
     refine take_ (i := 8) (N := some 86) (v := ?_) (a' := ?_) #[true, true, true, true, true, true, true, true, true, false, false, false, false] rfl rfl (by kernel_rfl) (fun _ _ _ h => h) (Or.inl ⟨by rfl, ?_⟩) hHeld ?_ ?_
     rotate_left
     ·
      rintro w' ⟨s0, s1⟩
      go_simp
      with_reducible rfl
     rotate_left
     ·
      simp only [Act.put, List.setIfInBounds_toArray, List.set_cons_zero, List.set_cons_succ, i64_w, i32_w]
      rfl
     refine pure_ (i := 9) (N := some 87) (v := ?_) (a' := ?_) #[true, true, true, true, true, true, true, true, true, true, false, false, false] rfl rfl (by kernel_rfl) (fun _ _ _ h => h) (Or.inl ⟨by rfl, ?_⟩) ?_ ?_
     rotate_left
     ·
      intro w'
      go_simp
      with_reducible rfl
     rotate_left
     ·
      simp only [Act.put, List.setIfInBounds_toArray, List.set_cons_zero, List.set_cons_succ, i64_w, i32_w]
      rfl
     refine pure_ (i := 10) (N := some 88) (v := ?_) (a' := ?_) #[true, true, true, true, true, true, true, true, true, true, true, false, false] rfl rfl (by kernel_rfl) (fun _ _ _ h => h) (Or.inl ⟨by rfl, ?_⟩) ?_ ?_
     rotate_left
     ·
      intro w'
      go_simp
      with_reducible rfl
     rotate_left
     ·
      simp only [Act.put, List.setIfInBounds_toArray, List.set_cons_zero, List.set_cons_succ, i64_w, i32_w]
      rfl
     refine pure_ (i := 11) (N := some 89) (v := ?_) (a' := ?_) #[true, true, true, true, true, true, true, true, true, true, true, true, false] rfl rfl (by kernel_rfl) (fun _ _ _ h => h) (Or.inl ⟨by rfl, ?_⟩) ?_ ?_
     rotate_left
     ·
      intro w'
      go_simp
      with_reducible rfl
     rotate_left
     ·
      simp only [Act.put, List.setIfInBounds_toArray, List.set_cons_zero, List.set_cons_succ, i64_w, i32_w]
      rfl
     refine pure_ (i := 12) (N := some 13) (v := ?_) (a' := ?_) #[true, true, true, true, true, true, true, true, true, true, true, true, true] rfl rfl (by kernel_rfl) (fun _ _ _ h => h) (Or.inl ⟨by rfl, ?_⟩) ?_ ?_
     rotate_left
     ·
      intro w'
      go_simp
      with_reducible rfl
     rotate_left
     ·
      simp only [Act.put, List.setIfInBounds_toArray, List.set_cons_zero, List.set_cons_succ, i64_w, i32_w]
      rfl
     refine done_ (by kernel_rfl) ?_
     refine exit_gen (fun W => Below w13.heap.size w13 W) (below_drew1 (Below.refl _ _)) ?_
     intro w15 hbW
     have Lw15 := Aside0.mk (Lw13.out.below hbW)
     have RXw15 := Aside0.mk (RXw13.out.below hbW)
     have RYw15 := Aside0.mk (RYw13.out.below hbW)
     clear hbW
     go_wp2_with fail
     go_at_call 18
     cases hok : lwOk (wrap64 (IntKind.u64.wrap (IntKind.u64.wrap xi + IntKind.u64.wrap yi)))
     ·
      have hB : B = false := by rw [HS.out]; show (lwOk (wrap64 (IntKind.u64.wrap (IntKind.u64.wrap xi + IntKind.u64.wrap yi))) && _) = false; rw [hok]; rfl
      have h := HH.out
      rw [hB] at h
      replace h : some (([] : List Int), (0 : Int), (0 : Int), (0 : Int), (0 : Int), (0 : Int), false, (4 : Int)) = some (z1, z2, z3, z4, z5, z6, z7, z8) := h
      simp only [Option.some.injEq, Prod.mk.injEq] at h
      obtain ⟨rfl, rfl, rfl, rfl, rfl, rfl, rfl, rfl⟩ := h
      refine (lawRight _ false _ hok).mono ?_
      rintro e w2 ⟨rfl, hb⟩
      have Lw2 := Aside0.mk (Lw15.out.below hb)
      clear hb hok hB
      obtain ⟨h60, h61, h62, h63, h64, h65, h66⟩ := cellsB Lw2.out.h6
      obtain ⟨f60, f61, f62, f63, f64, f65, f66⟩ := freesB Lw2.out.h6
      go_wp2
      refine bodyPost_ret (results_ct rfl _ _ g6 27 #[.slice none 0 0, .int .i64 0, .int .u64 0, .int .u64 0, .int .u64 0, .int .u64 0, .bool false] (0, 0) _ rfl (putB Lw2.out.h6 _ _ _ _ _ _ _) Try.underlying27 rfl (by kernel_rfl)) rfl ?_
      exact ⟨_, by first | rfl | (simp; done), Kd.R_nil _ _ _ _ _, setB_below Lw2.out.hw Lw2.out.l6 _ _ _ _ _ _ _⟩
     ·
      refine (lawRight _ true _ hok).mono ?_
      rintro e w2 ⟨rfl, hb⟩
      have Lw2 := Aside0.mk (Lw15.out.below hb)
      have RXw2 := Aside0.mk (RXw15.out.below hb)
      have RYw2 := Aside0.mk (RYw15.out.below hb)
      have HO : Aside0 (lwOk (wrap64 (IntKind.u64.wrap (IntKind.u64.wrap xi + IntKind.u64.wrap yi))) = true) := ⟨hok⟩
      clear hb hok
      obtain ⟨hc0, hc1, hc2, hc3, hc4, hc5, hc6⟩ := cellsB Lw2.out.h11
      obtain ⟨fc0, fc1, fc2, fc3, fc4, fc5, fc6⟩ := freesB Lw2.out.h11
      cases i with
      | zero =>
       go_wp2
       go_roundg kk
       case measure => omega
       case rel => exact ⟨1, v, by rfl, ⟨by have := HI.out; omega⟩, ⟨by have := HS.out; rw [show lwOk (opB false xi yi) = true from HO.out, Bool.true_and] at this; exact this.symm⟩, ⟨by rw [HNS.out]; exact Lw2.out.own 1 _ rfl⟩, ⟨RXw2.out.far Lw2.out.h11 (by decide) _ _⟩, ⟨RYw2.out.far Lw2.out.h11 (by decide) _ _⟩⟩
      | succ j =>
       have z1 : (((j + 1 : Nat) : Int) == 0) = false := beq_eq_false_iff_ne.2 (by omega)
       have z2 : ((j : Int) + 1 == 0) = false := beq_eq_false_iff_ne.2 (by omega)
       have z3 : ((j + 1 : Nat) == 0) = false := beq_eq_false_iff_ne.2 (by omega)
       obtain ⟨n, hn⟩ : ∃ n, n = nsB false X Y (j + 1) := ⟨_, rfl⟩
       rw [← hn] at HNS HNL hc1
       have Lw3 : Aside0 (Lt w ga gb g6 g11 #[.slice A1 l1.length k1, .int .i64 c1, .int .u64 s1, .int .u64 t1, .int .u64 q1, .int .u64 r1, .bool b1] #[.slice A2 l2.length k2, .int .i64 c2, .int .u64 s2, .int .u64 t2, .int .u64 q2, .int .u64 r2, .bool b2] #[v, .int .i64 (n.headD 0), .int .u64 0, .int .u64 0, .int .u64 0, .int .u64 0, .bool false] v n.tail w2) := ⟨by rw [hn]; exact Lw2.out⟩
       obtain ⟨n0, bins, rfl⟩ : ∃ a b, n = a :: b := by
        cases n with
        | nil => have := HNL.out; cases this
        | cons a b => exact ⟨a, b, rfl⟩
       have HBL : Aside0 (bins.length = j) := ⟨by have := HNL.out; simpa using this⟩
       have HOWN : Aside0 (w2.ownsRow g11 3 1 v bins.length (bins.map (Value.int .i64))) := ⟨Kd.own_of_R Lw3.out.row⟩
       clear Lw2 hn
       go_wp2_with (first | ((with_reducible refine gate_builtin (b := .append) (xs := #[.tmp 99, .tmp 101]) rfl ?_); at_builtin; refine print_append_cells (w0 := w2) g11 rfl (.tmp 99) (.tmp 101) 22 3 (.int .i64 0) 1 8 rfl Try.underlying22 info_intB rfl (by decide) (by decide) v bins.length (bins.map (Value.int .i64)) [.int .i64 (wrap64 (IntKind.u64.wrap (IntKind.u64.wrap xi + IntKind.u64.wrap yi)))] rfl rfl rfl (by intro u hu; rw [List.mem_singleton.1 hu]; rfl) HOWN.out (Below.refl _ _) (Nat.le_of_lt (blk_lt Lw3.out.h11)) (by have := EN.out; have := HBL.out; have := HI.out; omega) ?_; intro v1 w3 hrow3 hb3 hg3 hat3; obtain ⟨gv, cv, rfl⟩ := slice_of1 hrow3; have L4 := Aside0.mk (Lw3.out.push (c' := #[.slice (some ⟨gv, 0, none⟩) (bins.length + 1) cv, .int .i64 n0, .int .u64 0, .int .u64 0, .int .u64 0, .int .u64 0, .bool false]) hrow3 hg3 rfl); have hk3 := blk_grown Lw3.out.h11 hg3 (own_ne (Kd.own_of_R Lw3.out.row) Lw3.out.h11 (by decide)); have RX4 := Aside0.mk ((Rw.grown RXw2.out hg3 Lw3.out.row GX.out.1).far hk3 (by decide) 0 (.slice (some ⟨gv, 0, none⟩) (bins.length + 1) cv)); have RY4 := Aside0.mk ((Rw.grown RYw2.out hg3 Lw3.out.row GX.out.2).far hk3 (by decide) 0 (.slice (some ⟨gv, 0, none⟩) (bins.length + 1) cv)); have hc30 := (blk_cell hk3 0).trans rfl; have hf30 := blk_frozen hk3 0; clear hrow3 hb3 hg3 hat3 hk3 hc0 hc1 hc2 hc3 hc4 hc5 hc6 fc0 fc1 fc2 fc3 fc4 fc5 fc6))
       go_roundg kk
       case measure => omega
       case rel => exact ⟨j + 1 + 1, _, by first | rfl | (rw [← EI.out]; done) | (rw [← EI.out]; rfl), ⟨by have := HI.out; omega⟩, ⟨by have := HS.out; rw [show lwOk (opB false xi yi) = true from HO.out, Bool.true_and] at this; exact this.symm⟩, ⟨by rw [HNS.out]; exact L4.out⟩, RX4, RY4⟩
    | zero =>
     have ei : i = X.length := by have := HI.out; omega
     have hB : B = true := by
      have h := HC.out
      rw [ei, List.drop_eq_nil_of_le (Nat.le_refl _)] at h
      exact h.symm
     subst hB
     have H2 := HH.out
     replace H2 : finB (List.zipWith (opB false) l1 l2) (opB false c1 c2) s1 t1 q1 r1 b1 s2 t2 q2 r2 b2 false = some (z1, z2, z3, z4, z5, z6, z7, z8) := H2
     have H := Aside0.mk H2
     have L1 : Aside0 (Lt w ga gb g6 g11 #[.slice A1 l1.length k1, .int .i64 c1, .int .u64 s1, .int .u64 t1, .int .u64 q1, .int .u64 r1, .bool b1] #[.slice A2 l2.length k2, .int .i64 c2, .int .u64 s2, .int .u64 t2, .int .u64 q2, .int .u64 r2, .bool b2] #[v, .int .i64 (opB false c1 c2), .int .u64 0, .int .u64 0, .int .u64 0, .int .u64 0, .bool false] v (List.zipWith (opB false) l1 l2) wr) := ⟨by
      have := Lwr.out
      rw [ei] at this
      have e : nsB false X Y X.length = opB false c1 c2 :: List.zipWith (opB false) l1 l2 := by
       have hl := EN.out.1
       unfold nsB
       rw [List.take_length, hl, List.take_length, EX.out.1, EX.out.2]
       rfl
      rw [e] at this
      exact this⟩
     have d1 : decide ((i : Int) < (X.length : Int)) = false := decide_eq_false (by omega)
     have d2 : decide (i < X.length) = false := decide_eq_false (by omega)
     clear H2 HI HC ei Lwr RXwr RYwr HH
     go_wp2
     clear d1 d2 EN EX GX
     generalize List.zipWith (opB false) l1 l2 = bins at *
     generalize opB false c1 c2 = cnt at *
     obtain ⟨Av, kv, rfl⟩ := Kd.R_slice L1.out.row
     have h := H.out
     clear H
     unfold finB at h
     obtain ⟨⟨pa0, pa1, pa2, pa3, pa4, pa5, pa6, pa7⟩, AP, h⟩ := Option.bind_eq_some_iff.mp h
     obtain ⟨⟨qa0, qa1, qa2, qa3, qa4, qa5, qa6, qa7⟩, AQ, h⟩ := Option.bind_eq_some_iff.mp h
     obtain ⟨⟨ra0, ra1, ra2, ra3, ra4, ra5, ra6, ra7⟩, AR, h⟩ := Option.bind_eq_some_iff.mp h
     obtain ⟨⟨pb0, pb1, pb2, pb3, pb4, pb5, pb6, pb7⟩, ANp, h⟩ := Option.bind_eq_some_iff.mp h
     obtain ⟨⟨qb0, qb1, qb2, qb3, qb4, qb5, qb6, qb7⟩, ANq, h⟩ := Option.bind_eq_some_iff.mp h
     obtain ⟨⟨rb0, rb1, rb2, rb3, rb4, rb5, rb6, rb7⟩, ANr, h⟩ := Option.bind_eq_some_iff.mp h
     obtain ⟨⟨zz0, zz1, zz2, zz3, zz4, zz5, zz6, zz7⟩, AZ, h⟩ := Option.bind_eq_some_iff.mp h
     obtain ⟨⟨gg0, gg1, gg2, gg3, gg4, gg5, gg6, gg7, gs⟩, AG, h⟩ := Option.bind_eq_some_iff.mp h
     obtain ⟨⟨S1, S2⟩, AS, h⟩ := Option.bind_eq_some_iff.mp h
     obtain ⟨⟨oo0, oo1, oo2, oo3, oo4, oo5, oo6, oo7⟩, AO, h⟩ := Option.bind_eq_some_iff.mp h
     obtain ⟨⟨uu0, uu1, uu2, uu3, uu4, uu5, uu6, uu7⟩, AU, h⟩ := Option.bind_eq_some_iff.mp h
     obtain ⟨⟨V1, V2⟩, AV, h⟩ := Option.bind_eq_some_iff.mp h
     simp only [Option.some.injEq, Prod.mk.injEq] at h
     obtain ⟨rfl, rfl, rfl, rfl, rfl, rfl, rfl, rfl⟩ := h
     have HAP := Aside0.mk AP
     clear AP
     have HAQ := Aside0.mk AQ
     clear AQ
     have HAR := Aside0.mk AR
     clear AR
     have HANp := Aside0.mk ANp
     clear ANp
     have HANq := Aside0.mk ANq
     clear ANq
     have HANr := Aside0.mk ANr
     clear ANr
     have HAZ := Aside0.mk AZ
     clear AZ
     have HAG := Aside0.mk AG
     clear AG
     have HAS := Aside0.mk AS
     clear AS
     have HAO := Aside0.mk AO
     clear AO
     have HAU := Aside0.mk AU
     clear AU
     have HAV := Aside0.mk AV
     clear AV
     obtain ⟨wd, ewd⟩ : ∃ x, x = wr.drew := ⟨_, rfl⟩
     have L1d : Aside0 (Lt w ga gb g6 g11 #[.slice A1 l1.length k1, .int .i64 c1, .int .u64 s1, .int .u64 t1, .int .u64 q1, .int .u64 r1, .bool b1] #[.slice A2 l2.length k2, .int .i64 c2, .int .u64 s2, .int .u64 t2, .int .u64 q2, .int .u64 r2, .bool b2] #[.slice Av bins.length kv, .int .i64 cnt, .int .u64 0, .int .u64 0, .int .u64 0, .int .u64 0, .bool false] (.slice Av bins.length kv) bins wd) := ⟨by rw [ewd]; exact L1.out.below (below_drew1 (Below.refl _ _))⟩
     clear L1
     refine start_ (n := 15) (S := fun w' => w'.cell? ⟨ga, 2, none⟩ = some (.int .u64 s1) ∧ w'.cell? ⟨ga, 3, none⟩ = some (.int .u64 t1) ∧ w'.cell? ⟨gb, 2, none⟩ = some (.int .u64 s2) ∧ w'.cell? ⟨gb, 3, none⟩ = some (.int .u64 t2) ∧ w'.cell? ⟨gb, 4, none⟩ = some (.int .u64 q2) ∧ w'.cell? ⟨gb, 5, none⟩ = some (.int .u64 r2)) (ds := [12, 13, 14]) #[false, false, false, false, false, false, false, false, false, false, false, false, false, false, false] (by kernel_rfl) rfl rfl (by rw [← ewd]; exact ⟨(cellsB L1d.out.ha).2.2.1, (cellsB L1d.out.ha).2.2.2.1, (cellsB L1d.out.hb).2.2.1, (cellsB L1d.out.hb).2.2.2.1, (cellsB L1d.out.hb).2.2.2.2.1, (cellsB L1d.out.hb).2.2.2.2.2.1⟩) (fun hHeld => ?_)
     rw [← ewd] at hHeld ⊢
     clear ewd
     refine pure_ (i := 0) (N := some 104) (v := ?_) (a' := ?_) #[true, false, false, false, false, false, false, false, false, false, false, false, false, false, false] rfl rfl (by kernel_rfl) (fun _ _ _ h => h) (Or.inl ⟨by rfl, ?_⟩) ?_ ?_
     rotate_left
     ·
      intro w'
      go_simp
      with_reducible rfl
     rotate_left
     ·
      simp only [Act.put, List.setIfInBounds_toArray, List.set_cons_zero, List.set_cons_succ, i64_w, i32_w]
      rfl
     refine pure_ (i := 3) (N := some 107) (v := ?_) (a' := ?_) #[true, false, false, true, false, false, false, false, false, false, false, false, false, false, false] rfl rfl (by kernel_rfl) (fun _ _ _ h => h) (Or.inl ⟨by rfl, ?_⟩) ?_ ?_
     rotate_left
     ·
      intro w'
      go_simp
      with_reducible rfl
     rotate_left
     ·
      simp only [Act.put, List.setIfInBounds_toArray, List.set_cons_zero, List.set_cons_succ, i64_w, i32_w]
      rfl
     refine pure_ (i := 6) (N := some 110) (v := ?_) (a' := ?_) #[true, false, false, true, false, false, true, false, false, false, false, false, false, false, false] rfl rfl (by kernel_rfl) (fun _ _ _ h => h) (Or.inl ⟨by rfl, ?_⟩) ?_ ?_
     rotate_left
     ·
      intro w'
      go_simp
      with_reducible rfl
     rotate_left
     ·
      simp only [Act.put, List.setIfInBounds_toArray, List.set_cons_zero, List.set_cons_succ, i64_w, i32_w]
      rfl
     refine take_ (i := 1) (N := some 105) (v := ?_) (a' := ?_) #[true, true, false, true, false, false, true, false, false, false, false, false, false, false, false] rfl rfl (by kernel_rfl) (fun _ _ _ h => h) (Or.inl ⟨by rfl, ?_⟩) hHeld ?_ ?_
     rotate_left
     ·
      rintro w' ⟨s0, s1, s2, s3, s4, s5⟩
      go_simp
      with_reducible rfl
     rotate_left
     ·
      simp only [Act.put, List.setIfInBounds_toArray, List.set_cons_zero, List.set_cons_succ, i64_w, i32_w]
      rfl
     refine take_ (i := 4) (N := some 108) (v := ?_) (a' := ?_) #[true, true, false, true, true, false, true, false, false, false, false, false, false, false, false] rfl rfl (by kernel_rfl) (fun _ _ _ h => h) (Or.inl ⟨by rfl, ?_⟩) hHeld ?_ ?_
     rotate_left
     ·
      rintro w' ⟨s0, s1, s2, s3, s4, s5⟩
      go_simp
      with_reducible rfl
     rotate_left
     ·
      simp only [Act.put, List.setIfInBounds_toArray, List.set_cons_zero, List.set_cons_succ, i64_w, i32_w]
      rfl
     refine take_ (i := 7) (N := some 111) (v := ?_) (a' := ?_) #[true, true, false, true, true, false, true, true, false, false, false, false, false, false, false] rfl rfl (by kernel_rfl) (fun _ _ _ h => h) (Or.inl ⟨by rfl, ?_⟩) hHeld ?_ ?_
     rotate_left
     ·
      rintro w' ⟨s0, s1, s2, s3, s4, s5⟩
      go_simp
      with_reducible rfl
     rotate_left
     ·
      simp only [Act.put, List.setIfInBounds_toArray, List.set_cons_zero, List.set_cons_succ, i64_w, i32_w]
      rfl
     refine span_ (fuel' := 3) #[true, true, true, true, true, true, true, true, true, true, true, true, false, false, false] [2, 5, 8, 9, 10, 11] [9, 10, 11] (fun i => match i with | 9 => 14 | 10 => 15 | 11 => 16 | _ => 0) [[], [0], [0, 1], [], [3], [0, 1, 2, 3, 4], [], [6], [0, 1, 2, 3, 4, 5, 6, 7], [], [], [], [0, 1, 2, 3, 4, 5, 6, 7, 8, 9, 10, 11], [0, 1, 2, 3, 4, 5, 6, 7, 8, 9, 10, 11, 12], [0, 1, 2, 3, 4, 5, 6, 7, 8, 9, 10, 11, 12, 13]] [[], [], [], [], [], [], [], [], [], [], [], [], [], [], []] [106, 109, 112, 14, 15, 16] [[], [], [106], [], [], [109], [], [], [112], [14], [15], [16], [], [], []] (fun j vs w' => match j with | 2 => ((vs.getD 0 undef) = .agg #[.int .u32 pa0, .int .u32 pa1, .int .u32 pa2, .int .u32 pa3, .int .u32 pa4, .int .u32 pa5, .int .u32 pa6, .int .u32 pa7]) | 5 => ((vs.getD 0 undef) = .agg #[.int .u32 qa0, .int .u32 qa1, .int .u32 qa2, .int .u32 qa3, .int .u32 qa4, .int .u32 qa5, .int .u32 qa6, .int .u32 qa7]) | 8 => ((vs.getD 0 undef) = .agg #[.int .u32 ra0, .int .u32 ra1, .int .u32 ra2, .int .u32 ra3, .int .u32 ra4, .int .u32 ra5, .int .u32 ra6, .int .u32 ra7]) | 9 => (∃ g : Nat, (vs.getD 0 undef) = .pointer (some ⟨g, 0, none⟩) ∧ ArrAt w' g 52 .u32 [0, 0, 0, 0, 0, 0, 0, 0] ∧ wd.heap.size ≤ g) | 10 => (∃ g : Nat, (vs.getD 0 undef) = .pointer (some ⟨g, 0, none⟩) ∧ ArrAt w' g 52 .u32 [0, 0, 0, 0, 0, 0, 0, 0] ∧ wd.heap.size ≤ g) | 11 => (∃ g : Nat, (vs.getD 0 undef) = .pointer (some ⟨g, 0, none⟩) ∧ ArrAt w' g 52 .u32 [0, 0, 0, 0, 0, 0, 0, 0] ∧ wd.heap.size ≤ g) | _ => True) rfl (by kernel_rfl) (by kernel_rfl) ?_ (fun w' hb => ⟨(cellsB (blk_below L1d.out.ha hb)).2.2.1, (cellsB (blk_below L1d.out.ha hb)).2.2.2.1, (cellsB (blk_below L1d.out.hb hb)).2.2.1, (cellsB (blk_below L1d.out.hb hb)).2.2.2.1, (cellsB (blk_below L1d.out.hb hb)).2.2.2.2.1, (cellsB (blk_below L1d.out.hb hb)).2.2.2.2.2.1⟩) ?_ ?_
     ·
      refine pers_cons (fun _ _ _ _ h => h) ?_; refine pers_cons (fun _ _ _ _ h => h) ?_; refine pers_cons (fun _ _ _ _ h => h) ?_; refine pers_cons (fun _ _ _ hb ⟨g, h1, h2, h3⟩ => ⟨g, h1, h2.below hb, h3⟩) ?_; refine pers_cons (fun _ _ _ hb ⟨g, h1, h2, h3⟩ => ⟨g, h1, h2.below hb, h3⟩) ?_; refine pers_cons (fun _ _ _ hb ⟨g, h1, h2, h3⟩ => ⟨g, h1, h2.below hb, h3⟩) ?_; exact pers_nil
     rotate_left
     ·
      skip
      refine spans_cons (some 106) rfl rfl (fun s a1 w1 ha hB hF hA K hK => ?_) ?_
      ·
       simp only [putS, List.map_cons, List.map_nil, putAll, Act.put, List.setIfInBounds_toArray, List.set_cons_zero, List.set_cons_succ] at ha
       subst ha
       refine goes_ Try.func19 (by kernel_rfl) rfl #[.agg #[.int .u64 s1, .int .u64 t1]] (by rfl) rfl rfl (by (try simp only [List.map_toArray, List.map_cons, List.map_nil]); first | done | rfl) ?_
       with_reducible refine (offertoryref09_Of.calls s1 t1 pa0 pa1 pa2 pa3 pa4 pa5 pa6 pa7 w1 HAP.out).mono ?_
       rintro e w2 ⟨rfl, hb⟩
       refine ⟨_, rfl, ?_⟩
       exact hK.out _ w2 (Or.inl hb) (fun h => absurd h (by decide)) rfl
      refine spans_cons (some 109) rfl rfl (fun s a1 w1 ha hB hF hA K hK => ?_) ?_
      ·
       simp only [putS, List.map_cons, List.map_nil, putAll, Act.put, List.setIfInBounds_toArray, List.set_cons_zero, List.set_cons_succ] at ha
       subst ha
       refine goes_ Try.func19 (by kernel_rfl) rfl #[.agg #[.int .u64 s2, .int .u64 t2]] (by rfl) rfl rfl (by (try simp only [List.map_toArray, List.map_cons, List.map_nil]); first | done | rfl) ?_
       with_reducible refine (offertoryref09_Of.calls s2 t2 qa0 qa1 qa2 qa3 qa4 qa5 qa6 qa7 w1 HAQ.out).mono ?_
       rintro e w2 ⟨rfl, hb⟩
       refine ⟨_, rfl, ?_⟩
       exact hK.out _ w2 (Or.inl hb) (fun h => absurd h (by decide)) rfl
      refine spans_cons (some 112) rfl rfl (fun s a1 w1 ha hB hF hA K hK => ?_) ?_
      ·
       simp only [putS, List.map_cons, List.map_nil, putAll, Act.put, List.setIfInBounds_toArray, List.set_cons_zero, List.set_cons_succ] at ha
       subst ha
       refine goes_ Try.func19 (by kernel_rfl) rfl #[.agg #[.int .u64 q2, .int .u64 r2]] (by rfl) rfl rfl (by (try simp only [List.map_toArray, List.map_cons, List.map_nil]); first | done | rfl) ?_
       with_reducible refine (offertoryref09_Of.calls q2 r2 ra0 ra1 ra2 ra3 ra4 ra5 ra6 ra7 w1 HAR.out).mono ?_
       rintro e w2 ⟨rfl, hb⟩
       refine ⟨_, rfl, ?_⟩
       exact hK.out _ w2 (Or.inl hb) (fun h => absurd h (by decide)) rfl
      refine spans_cons (some 14) rfl rfl (fun s a1 w1 ha hB hF hA K hK => ?_) ?_
      ·
       simp only [putS, List.map_cons, List.map_nil, putAll, Act.put, List.setIfInBounds_toArray, List.set_cons_zero, List.set_cons_succ] at ha
       subst ha
       refine box_step ?hg (N := 14) ?hd (cs := #[.int .u32 0, .int .u32 0, .int .u32 0, .int .u32 0, .int .u32 0, .int .u32 0, .int .u32 0, .int .u32 0]) (t := 52) ?hr ?_; (case hd => rfl); (case hg => rfl); (case hr => first | (go_simp; done) | (go_simp; rfl))
       intro g hg w2 hbox hb
       subst hg
       exact hK.out _ w2 (Or.inl hb) (fun _ => new_pointer (Nat.le_refl _) (blk_lt hbox)) ⟨_, rfl, hbox, hB.size⟩
      refine spans_cons (some 15) rfl rfl (fun s a1 w1 ha hB hF hA K hK => ?_) ?_
      ·
       simp only [putS, List.map_cons, List.map_nil, putAll, Act.put, List.setIfInBounds_toArray, List.set_cons_zero, List.set_cons_succ] at ha
       subst ha
       refine box_step ?hg (N := 15) ?hd (cs := #[.int .u32 0, .int .u32 0, .int .u32 0, .int .u32 0, .int .u32 0, .int .u32 0, .int .u32 0, .int .u32 0]) (t := 52) ?hr ?_; (case hd => rfl); (case hg => rfl); (case hr => first | (go_simp; done) | (go_simp; rfl))
       intro g hg w2 hbox hb
       subst hg
       exact hK.out _ w2 (Or.inl hb) (fun _ => new_pointer (Nat.le_refl _) (blk_lt hbox)) ⟨_, rfl, hbox, hB.size⟩
      refine spans_cons (some 16) rfl rfl (fun s a1 w1 ha hB hF hA K hK => ?_) ?_
      ·
       simp only [putS, List.map_cons, List.map_nil, putAll, Act.put, List.setIfInBounds_toArray, List.set_cons_zero, List.set_cons_succ] at ha
       subst ha
       refine box_step ?hg (N := 16) ?hd (cs := #[.int .u32 0, .int .u32 0, .int .u32 0, .int .u32 0, .int .u32 0, .int .u32 0, .int .u32 0, .int .u32 0]) (t := 52) ?hr ?_; (case hd => rfl); (case hg => rfl); (case hr => first | (go_simp; done) | (go_simp; rfl))
       intro g hg w2 hbox hb
       subst hg
       exact hK.out _ w2 (Or.inl hb) (fun _ => new_pointer (Nat.le_refl _) (blk_lt hbox)) ⟨_, rfl, hbox, hB.size⟩
      exact spans_nil
     intro s w20 hB hF hA
     have hHeld : w20.cell? ⟨ga, 2, none⟩ = some (.int .u64 s1) ∧ w20.cell? ⟨ga, 3, none⟩ = some (.int .u64 t1) ∧ w20.cell? ⟨gb, 2, none⟩ = some (.int .u64 s2) ∧ w20.cell? ⟨gb, 3, none⟩ = some (.int .u64 t2) ∧ w20.cell? ⟨gb, 4, none⟩ = some (.int .u64 q2) ∧ w20.cell? ⟨gb, 5, none⟩ = some (.int .u64 r2) := ((fun w' hb => ⟨(cellsB (blk_below L1d.out.ha hb)).2.2.1, (cellsB (blk_below L1d.out.ha hb)).2.2.2.1, (cellsB (blk_below L1d.out.hb hb)).2.2.1, (cellsB (blk_below L1d.out.hb hb)).2.2.2.1, (cellsB (blk_below L1d.out.hb hb)).2.2.2.2.1, (cellsB (blk_below L1d.out.hb hb)).2.2.2.2.2.1⟩) : ∀ w' : World, _ → w'.cell? ⟨ga, 2, none⟩ = some (.int .u64 s1) ∧ w'.cell? ⟨ga, 3, none⟩ = some (.int .u64 t1) ∧ w'.cell? ⟨gb, 2, none⟩ = some (.int .u64 s2) ∧ w'.cell? ⟨gb, 3, none⟩ = some (.int .u64 t2) ∧ w'.cell? ⟨gb, 4, none⟩ = some (.int .u64 q2) ∧ w'.cell? ⟨gb, 5, none⟩ = some (.int .u64 r2)) _ hB
     have f2 : (s 106) = .agg #[.int .u32 pa0, .int .u32 pa1, .int .u32 pa2, .int .u32 pa3, .int .u32 pa4, .int .u32 pa5, .int .u32 pa6, .int .u32 pa7] := hF 2 (by decide) rfl
     have f5 : (s 109) = .agg #[.int .u32 qa0, .int .u32 qa1, .int .u32 qa2, .int .u32 qa3, .int .u32 qa4, .int .u32 qa5, .int .u32 qa6, .int .u32 qa7] := hF 5 (by decide) rfl
     have f8 : (s 112) = .agg #[.int .u32 ra0, .int .u32 ra1, .int .u32 ra2, .int .u32 ra3, .int .u32 ra4, .int .u32 ra5, .int .u32 ra6, .int .u32 ra7] := hF 8 (by decide) rfl
     have f9 : ∃ g : Nat, (s 14) = .pointer (some ⟨g, 0, none⟩) ∧ ArrAt w20 g 52 .u32 [0, 0, 0, 0, 0, 0, 0, 0] ∧ wd.heap.size ≤ g := hF 9 (by decide) rfl
     have f10 : ∃ g : Nat, (s 15) = .pointer (some ⟨g, 0, none⟩) ∧ ArrAt w20 g 52 .u32 [0, 0, 0, 0, 0, 0, 0, 0] ∧ wd.heap.size ≤ g := hF 10 (by decide) rfl
     have f11 : ∃ g : Nat, (s 16) = .pointer (some ⟨g, 0, none⟩) ∧ ArrAt w20 g 52 .u32 [0, 0, 0, 0, 0, 0, 0, 0] ∧ wd.heap.size ≤ g := hF 11 (by decide) rfl
     have hap9_10 : apartV (s 14) (s 15) := hA 9 (by decide) 10 (by decide) (by decide)
     have hap9_11 : apartV (s 14) (s 16) := hA 9 (by decide) 11 (by decide) (by decide)
     have hap10_11 : apartV (s 15) (s 16) := hA 10 (by decide) 11 (by decide) (by decide)
     clear hF hA
     simp only [putS, List.map_cons, List.map_nil, putAll, Act.put, List.setIfInBounds_toArray, List.set_cons_zero, List.set_cons_succ]
     obtain ⟨g14, e14, a14, l14⟩ := f9
     obtain ⟨g15, e15, a15, l15⟩ := f10
     obtain ⟨g16, e16, a16, l16⟩ := f11
     rw [e14, e15] at hap9_10
     rw [e14, e16] at hap9_11
     rw [e15, e16] at hap10_11
     have HLf : Aside0 (Lf w ga gb g6 g11 #[.slice A1 l1.length k1, .int .i64 c1, .int .u64 s1, .int .u64 t1, .int .u64 q1, .int .u64 r1, .bool b1] #[.slice A2 l2.length k2, .int .i64 c2, .int .u64 s2, .int .u64 t2, .int .u64 q2, .int .u64 r2, .bool b2] #[.slice Av bins.length kv, .int .i64 cnt, .int .u64 0, .int .u64 0, .int .u64 0, .int .u64 0, .bool false] (.slice Av bins.length kv) bins g14 g15 g16 [0, 0, 0, 0, 0, 0, 0, 0] [0, 0, 0, 0, 0, 0, 0, 0] [0, 0, 0, 0, 0, 0, 0, 0] w20) := ⟨⟨L1d.out.below hB, a14, a15, a16, Nat.le_trans (below_size L1d.out.hw) l14, Nat.le_trans (below_size L1d.out.hw) l15, Nat.le_trans (below_size L1d.out.hw) l16, fun e => hap9_10 g14 rfl (by rw [e]; rfl), fun e => hap9_11 g14 rfl (by rw [e]; rfl), fun e => hap10_11 g15 rfl (by rw [e]; rfl)⟩⟩
     rw [f2, f5, f8, e14, e15, e16]
     clear f2 f5 f8 e14 e15 e16 hap9_10 hap9_11 hap10_11 a14 a15 a16 l14 l15 l16 hB s L1d
     refine last_ (i := 12) (N := none) #[true, true, true, true, true, true, true, true, true, true, true, true, true, false, false] rfl rfl (by kernel_rfl) (by decide) (fun K hK => ?_)
     have hx0 := HLf.out.a1.get 0 (show 0 < 8 by decide)
     have hx1 := HLf.out.a1.get 1 (show 1 < 8 by decide)
     have hx2 := HLf.out.a1.get 2 (show 2 < 8 by decide)
     have hx3 := HLf.out.a1.get 3 (show 3 < 8 by decide)
     have hx4 := HLf.out.a1.get 4 (show 4 < 8 by decide)
     have hx5 := HLf.out.a1.get 5 (show 5 < 8 by decide)
     have hx6 := HLf.out.a1.get 6 (show 6 < 8 by decide)
     have hx7 := HLf.out.a1.get 7 (show 7 < 8 by decide)
     have fx0 := HLf.out.a1.frz 0
     have fx1 := HLf.out.a1.frz 1
     have fx2 := HLf.out.a1.frz 2
     have fx3 := HLf.out.a1.frz 3
     have fx4 := HLf.out.a1.frz 4
     have fx5 := HLf.out.a1.frz 5
     have fx6 := HLf.out.a1.frz 6
     have fx7 := HLf.out.a1.frz 7
     refine skip_ (w1 := ?_) ?_ ?_ ?_ ?_
     rotate_left
     ·
      rfl
     ·
      rfl
     ·
      go_simp
      rfl
     refine hK.out _ _ ?_
     clear hK K
     refine last_gen (fun W => Lf w ga gb g6 g11 #[.slice A1 l1.length k1, .int .i64 c1, .int .u64 s1, .int .u64 t1, .int .u64 q1, .int .u64 r1, .bool b1] #[.slice A2 l2.length k2, .int .i64 c2, .int .u64 s2, .int .u64 t2, .int .u64 q2, .int .u64 r2, .bool b2] #[.slice Av bins.length kv, .int .i64 cnt, .int .u64 0, .int .u64 0, .int .u64 0, .int .u64 0, .bool false] (.slice Av bins.length kv) bins g14 g15 g16 [pa0, pa1, pa2, pa3, pa4, pa5, pa6, pa7] [0, 0, 0, 0, 0, 0, 0, 0] [0, 0, 0, 0, 0, 0, 0, 0] W) (HLf.out.put1 rfl pa0 pa1 pa2 pa3 pa4 pa5 pa6 pa7) ?_
     clear hx0 hx1 hx2 hx3 hx4 hx5 hx6 hx7 fx0 fx1 fx2 fx3 fx4 fx5 fx6 fx7 HLf
     intro w21 hL
     have HLf := Aside0.mk hL
     clear hL
     refine last_ (i := 13) (N := none) #[true, true, true, true, true, true, true, true, true, true, true, true, true, true, false] rfl rfl (by kernel_rfl) (by decide) (fun K hK => ?_)
     have hx0 := HLf.out.a2.get 0 (show 0 < 8 by decide)
     have hx1 := HLf.out.a2.get 1 (show 1 < 8 by decide)
     have hx2 := HLf.out.a2.get 2 (show 2 < 8 by decide)
     have hx3 := HLf.out.a2.get 3 (show 3 < 8 by decide)
     have hx4 := HLf.out.a2.get 4 (show 4 < 8 by decide)
     have hx5 := HLf.out.a2.get 5 (show 5 < 8 by decide)
     have hx6 := HLf.out.a2.get 6 (show 6 < 8 by decide)
     have hx7 := HLf.out.a2.get 7 (show 7 < 8 by decide)
     have fx0 := HLf.out.a2.frz 0
     have fx1 := HLf.out.a2.frz 1
     have fx2 := HLf.out.a2.frz 2
     have fx3 := HLf.out.a2.frz 3
     have fx4 := HLf.out.a2.frz 4
     have fx5 := HLf.out.a2.frz 5
     have fx6 := HLf.out.a2.frz 6
     have fx7 := HLf.out.a2.frz 7
     refine skip_ (w1 := ?_) ?_ ?_ ?_ ?_
     rotate_left
     ·
      rfl
     ·
      rfl
     ·
      go_simp
      rfl
     refine hK.out _ _ ?_
     clear hK K
     refine last_gen (fun W => Lf w ga gb g6 g11 #[.slice A1 l1.length k1, .int .i64 c1, .int .u64 s1, .int .u64 t1, .int .u64 q1, .int .u64 r1, .bool b1] #[.slice A2 l2.length k2, .int .i64 c2, .int .u64 s2, .int .u64 t2, .int .u64 q2, .int .u64 r2, .bool b2] #[.slice Av bins.length kv, .int .i64 cnt, .int .u64 0, .int .u64 0, .int .u64 0, .int .u64 0, .bool false] (.slice Av bins.length kv) bins g14 g15 g16 [pa0, pa1, pa2, pa3, pa4, pa5, pa6, pa7] [qa0, qa1, qa2, qa3, qa4, qa5, qa6, qa7] [0, 0, 0, 0, 0, 0, 0, 0] W) (HLf.out.put2 rfl qa0 qa1 qa2 qa3 qa4 qa5 qa6 qa7) ?_
     clear hx0 hx1 hx2 hx3 hx4 hx5 hx6 hx7 fx0 fx1 fx2 fx3 fx4 fx5 fx6 fx7 HLf
     intro w22 hL
     have HLf := Aside0.mk hL
     clear hL
     refine last_ (i := 14) (N := none) #[true, true, true, true, true, true, true, true, true, true, true, true, true, true, true] rfl rfl (by kernel_rfl) (by decide) (fun K hK => ?_)
     have hx0 := HLf.out.a3.get 0 (show 0 < 8 by decide)
     have hx1 := HLf.out.a3.get 1 (show 1 < 8 by decide)
     have hx2 := HLf.out.a3.get 2 (show 2 < 8 by decide)
     have hx3 := HLf.out.a3.get 3 (show 3 < 8 by decide)
     have hx4 := HLf.out.a3.get 4 (show 4 < 8 by decide)
     have hx5 := HLf.out.a3.get 5 (show 5 < 8 by decide)
     have hx6 := HLf.out.a3.get 6 (show 6 < 8 by decide)
     have hx7 := HLf.out.a3.get 7 (show 7 < 8 by decide)
     have fx0 := HLf.out.a3.frz 0
     have fx1 := HLf.out.a3.frz 1
     have fx2 := HLf.out.a3.frz 2
     have fx3 := HLf.out.a3.frz 3
     have fx4 := HLf.out.a3.frz 4
     have fx5 := HLf.out.a3.frz 5
     have fx6 := HLf.out.a3.frz 6
     have fx7 := HLf.out.a3.frz 7
     refine skip_ (w1 := ?_) ?_ ?_ ?_ ?_
     rotate_left
     ·
      rfl
     ·
      rfl
     ·
      go_simp
      rfl
     refine hK.out _ _ ?_
     clear hK K
     refine last_gen (fun W => Lf w ga gb g6 g11 #[.slice A1 l1.length k1, .int .i64 c1, .int .u64 s1, .int .u64 t1, .int .u64 q1, .int .u64 r1, .bool b1] #[.slice A2 l2.length k2, .int .i64 c2, .int .u64 s2, .int .u64 t2, .int .u64 q2, .int .u64 r2, .bool b2] #[.slice Av bins.length kv, .int .i64 cnt, .int .u64 0, .int .u64 0, .int .u64 0, .int .u64 0, .bool false] (.slice Av bins.length kv) bins g14 g15 g16 [pa0, pa1, pa2, pa3, pa4, pa5, pa6, pa7] [qa0, qa1, qa2, qa3, qa4, qa5, qa6, qa7] [ra0, ra1, ra2, ra3, ra4, ra5, ra6, ra7] W) (HLf.out.put3 rfl ra0 ra1 ra2 ra3 ra4 ra5 ra6 ra7) ?_
     clear hx0 hx1 hx2 hx3 hx4 hx5 hx6 hx7 fx0 fx1 fx2 fx3 fx4 fx5 fx6 fx7 HLf
     intro w23 hL
     have HLf := Aside0.mk hL
     clear hL
     refine done_ (by kernel_rfl) ?_
     clear hHeld
     cases b1 <;> cases b2
     ·
      obtain ⟨ha0, ha1, ha2, ha3, ha4, ha5, ha6⟩ := cellsB HLf.out.t.ha
      obtain ⟨hb0, hb1, hb2, hb3, hb4, hb5, hb6⟩ := cellsB HLf.out.t.hb
      go_upto_region 24 with (fail)
      clear ha0 ha1 ha2 ha3 ha4 ha5 ha6 hb0 hb1 hb2 hb3 hb4 hb5 hb6
      have HE0 : Aside0 ((pa0, pa1, pa2, pa3, pa4, pa5, pa6, pa7) = (pb0, pb1, pb2, pb3, pb4, pb5, pb6, pb7)) := ⟨Option.some.inj HANp.out⟩
      have HLg : Aside0 (Lf w ga gb g6 g11 #[.slice A1 l1.length k1, .int .i64 c1, .int .u64 s1, .int .u64 t1, .int .u64 q1, .int .u64 r1, .bool false] #[.slice A2 l2.length k2, .int .i64 c2, .int .u64 s2, .int .u64 t2, .int .u64 q2, .int .u64 r2, .bool false] #[.slice Av bins.length kv, .int .i64 cnt, .int .u64 0, .int .u64 0, .int .u64 0, .int .u64 0, .bool false] (.slice Av bins.length kv) bins g14 g15 g16 [pb0, pb1, pb2, pb3, pb4, pb5, pb6, pb7] [qa0, qa1, qa2, qa3, qa4, qa5, qa6, qa7] [ra0, ra1, ra2, ra3, ra4, ra5, ra6, ra7] _) := ⟨by have e := HE0.out; simp only [Prod.mk.injEq] at e; obtain ⟨rfl, rfl, rfl, rfl, rfl, rfl, rfl, rfl⟩ := e; exact HLf.out⟩
      clear HLf HE0
      have HLf := Aside0.mk HLg.out
      clear HLg
      obtain ⟨ha0, ha1, ha2, ha3, ha4, ha5, ha6⟩ := cellsB HLf.out.t.ha
      obtain ⟨hb0, hb1, hb2, hb3, hb4, hb5, hb6⟩ := cellsB HLf.out.t.hb
      go_upto_region 26 with (fail)
      clear ha0 ha1 ha2 ha3 ha4 ha5 ha6 hb0 hb1 hb2 hb3 hb4 hb5 hb6
      have HE1 : Aside0 ((qa0, qa1, qa2, qa3, qa4, qa5, qa6, qa7) = (qb0, qb1, qb2, qb3, qb4, qb5, qb6, qb7)) := ⟨Option.some.inj HANq.out⟩
      have HLg : Aside0 (Lf w ga gb g6 g11 #[.slice A1 l1.length k1, .int .i64 c1, .int .u64 s1, .int .u64 t1, .int .u64 q1, .int .u64 r1, .bool false] #[.slice A2 l2.length k2, .int .i64 c2, .int .u64 s2, .int .u64 t2, .int .u64 q2, .int .u64 r2, .bool false] #[.slice Av bins.length kv, .int .i64 cnt, .int .u64 0, .int .u64 0, .int .u64 0, .int .u64 0, .bool false] (.slice Av bins.length kv) bins g14 g15 g16 [pb0, pb1, pb2, pb3, pb4, pb5, pb6, pb7] [qb0, qb1, qb2, qb3, qb4, qb5, qb6, qb7] [ra0, ra1, ra2, ra3, ra4, ra5, ra6, ra7] _) := ⟨by have e := HE1.out; simp only [Prod.mk.injEq] at e; obtain ⟨rfl, rfl, rfl, rfl, rfl, rfl, rfl, rfl⟩ := e; exact HLf.out⟩
      clear HLf HE1
      have HLf := Aside0.mk HLg.out
      clear HLg
      obtain ⟨ha0, ha1, ha2, ha3, ha4, ha5, ha6⟩ := cellsB HLf.out.t.ha
      obtain ⟨hb0, hb1, hb2, hb3, hb4, hb5, hb6⟩ := cellsB HLf.out.t.hb
      go_upto_region 28 with (fail)
      clear ha0 ha1 ha2 ha3 ha4 ha5 ha6 hb0 hb1 hb2 hb3 hb4 hb5 hb6
      have HE2 : Aside0 ((ra0, ra1, ra2, ra3, ra4, ra5, ra6, ra7) = (rb0, rb1, rb2, rb3, rb4, rb5, rb6, rb7)) := ⟨Option.some.inj HANr.out⟩
      have HLg : Aside0 (Lf w ga gb g6 g11 #[.slice A1 l1.length k1, .int .i64 c1, .int .u64 s1, .int .u64 t1, .int .u64 q1, .int .u64 r1, .bool false] #[.slice A2 l2.length k2, .int .i64 c2, .int .u64 s2, .int .u64 t2, .int .u64 q2, .int .u64 r2, .bool false] #[.slice Av bins.length kv, .int .i64 cnt, .int .u64 0, .int .u64 0, .int .u64 0, .int .u64 0, .bool false] (.slice Av bins.length kv) bins g14 g15 g16 [pb0, pb1, pb2, pb3, pb4, pb5, pb6, pb7] [qb0, qb1, qb2, qb3, qb4, qb5, qb6, qb7] [rb0, rb1, rb2, rb3, rb4, rb5, rb6, rb7] _) := ⟨by have e := HE2.out; simp only [Prod.mk.injEq] at e; obtain ⟨rfl, rfl, rfl, rfl, rfl, rfl, rfl, rfl⟩ := e; exact HLf.out⟩
      clear HLf HE2
      have HLf := Aside0.mk HLg.out
      clear HLg
      have hx0 := HLf.out.a1.get 0 (show 0 < 8 by decide)
      have hx1 := HLf.out.a1.get 1 (show 1 < 8 by decide)
      have hx2 := HLf.out.a1.get 2 (show 2 < 8 by decide)
      have hx3 := HLf.out.a1.get 3 (show 3 < 8 by decide)
      have hx4 := HLf.out.a1.get 4 (show 4 < 8 by decide)
      have hx5 := HLf.out.a1.get 5 (show 5 < 8 by decide)
      have hx6 := HLf.out.a1.get 6 (show 6 < 8 by decide)
      have hx7 := HLf.out.a1.get 7 (show 7 < 8 by decide)
      have hy0 := HLf.out.a2.get 0 (show 0 < 8 by decide)
      have hy1 := HLf.out.a2.get 1 (show 1 < 8 by decide)
      have hy2 := HLf.out.a2.get 2 (show 2 < 8 by decide)
      have hy3 := HLf.out.a2.get 3 (show 3 < 8 by decide)
      have hy4 := HLf.out.a2.get 4 (show 4 < 8 by decide)
      have hy5 := HLf.out.a2.get 5 (show 5 < 8 by decide)
      have hy6 := HLf.out.a2.get 6 (show 6 < 8 by decide)
      have hy7 := HLf.out.a2.get 7 (show 7 < 8 by decide)
      go_wp2_with fail
      clear hx0 hx1 hx2 hx3 hx4 hx5 hx6 hx7 hy0 hy1 hy2 hy3 hy4 hy5 hy6 hy7
      go_at_call 22
      refine (offertoryref09_Add.calls pb0 pb1 pb2 pb3 pb4 pb5 pb6 pb7 qb0 qb1 qb2 qb3 qb4 qb5 qb6 qb7 zz0 zz1 zz2 zz3 zz4 zz5 zz6 zz7 _ HAZ.out).mono ?_
      rintro e w40 ⟨rfl, hb⟩
      have HLg := Aside0.mk (HLf.out.below hb)
      clear HLf hb
      have HLf := Aside0.mk HLg.out
      clear HLg
      go_wp2_with fail
      go_at_call 21
      refine (offertoryref09_Signed.calls zz0 zz1 zz2 zz3 zz4 zz5 zz6 zz7 gg0 gg1 gg2 gg3 gg4 gg5 gg6 gg7 gs _ HAG.out).mono ?_
      rintro e w41 ⟨rfl, hb⟩
      have HLg := Aside0.mk (HLf.out.below hb)
      clear HLf hb
      have HLf := Aside0.mk HLg.out
      clear HLg
      go_upto_region 29 with (fail)
      obtain ⟨g17, hg17⟩ : ∃ g, g = w41.heap.size := ⟨_, rfl⟩
      rw [← hg17]
      refine code_gen (fun W => Lf w ga gb g6 g11 #[.slice A1 l1.length k1, .int .i64 c1, .int .u64 s1, .int .u64 t1, .int .u64 q1, .int .u64 r1, .bool false] #[.slice A2 l2.length k2, .int .i64 c2, .int .u64 s2, .int .u64 t2, .int .u64 q2, .int .u64 r2, .bool false] #[.slice Av bins.length kv, .int .i64 cnt, .int .u64 0, .int .u64 0, .int .u64 0, .int .u64 0, .bool false] (.slice Av bins.length kv) bins g14 g15 g16 [pb0, pb1, pb2, pb3, pb4, pb5, pb6, pb7] [qb0, qb1, qb2, qb3, qb4, qb5, qb6, qb7] [rb0, rb1, rb2, rb3, rb4, rb5, rb6, rb7] W ∧ ArrAt W g17 52 .u32 [gg0, gg1, gg2, gg3, gg4, gg5, gg6, gg7]) ⟨HLf.out.below (below_alloc (Below.refl _ _) _), by rw [hg17]; exact blk_new w41 _⟩ ?_
      clear HLf hg17
      rintro w42 ⟨hL, hA⟩
      have HLf := Aside0.mk hL
      have HA17 := Aside0.mk hA
      clear hL hA
      have hx0 := HA17.out.get 0 (show 0 < 8 by decide)
      have hx1 := HA17.out.get 1 (show 1 < 8 by decide)
      have hx2 := HA17.out.get 2 (show 2 < 8 by decide)
      have hx3 := HA17.out.get 3 (show 3 < 8 by decide)
      have hx4 := HA17.out.get 4 (show 4 < 8 by decide)
      have hx5 := HA17.out.get 5 (show 5 < 8 by decide)
      have hx6 := HA17.out.get 6 (show 6 < 8 by decide)
      have hx7 := HA17.out.get 7 (show 7 < 8 by decide)
      go_wp2_with fail
      clear hx0 hx1 hx2 hx3 hx4 hx5 hx6 hx7
      clear HA17
      go_at_call 23
      refine (offertoryref09_Big_Wide.calls gg0 gg1 gg2 gg3 gg4 gg5 gg6 gg7 S1 S2 _ HAS.out).mono ?_
      rintro e w43 ⟨rfl, hb⟩
      have HLg := Aside0.mk (HLf.out.below hb)
      clear HLf hb
      have HLf := Aside0.mk HLg.out
      clear HLg
      obtain ⟨hc0, hc1, hc2, hc3, hc4, hc5, hc6⟩ := cellsB HLf.out.t.h11
      obtain ⟨fc0, fc1, fc2, fc3, fc4, fc5, fc6⟩ := freesB HLf.out.t.h11
      go_upto_region 30 with (fail)
      clear hc0 hc1 hc2 hc3 hc4 hc5 hc6 fc0 fc1 fc2 fc3 fc4 fc5 fc6
      refine code_gen (fun W => Lf w ga gb g6 g11 #[.slice A1 l1.length k1, .int .i64 c1, .int .u64 s1, .int .u64 t1, .int .u64 q1, .int .u64 r1, .bool false] #[.slice A2 l2.length k2, .int .i64 c2, .int .u64 s2, .int .u64 t2, .int .u64 q2, .int .u64 r2, .bool false] #[.slice Av bins.length kv, .int .i64 cnt, .int .u64 S1, .int .u64 S2, .int .u64 0, .int .u64 0, .bool gs] (.slice Av bins.length kv) bins g14 g15 g16 [pb0, pb1, pb2, pb3, pb4, pb5, pb6, pb7] [qb0, qb1, qb2, qb3, qb4, qb5, qb6, qb7] [rb0, rb1, rb2, rb3, rb4, rb5, rb6, rb7] W) (((HLf.out.own 2 _ rfl).own 3 _ rfl).own 6 _ rfl) ?_
      clear HLf
      intro w44 hL
      have HLf := Aside0.mk hL
      clear hL
      refine start_ (n := 8) (S := fun w' => w'.cell? ⟨ga, 4, none⟩ = some (.int .u64 q1) ∧ w'.cell? ⟨ga, 5, none⟩ = some (.int .u64 r1) ∧ w'.cell? ⟨g16, 0, none⟩ = some (.int .u32 rb0) ∧ w'.cell? ⟨g16, 1, none⟩ = some (.int .u32 rb1) ∧ w'.cell? ⟨g16, 2, none⟩ = some (.int .u32 rb2) ∧ w'.cell? ⟨g16, 3, none⟩ = some (.int .u32 rb3) ∧ w'.cell? ⟨g16, 4, none⟩ = some (.int .u32 rb4) ∧ w'.cell? ⟨g16, 5, none⟩ = some (.int .u32 rb5) ∧ w'.cell? ⟨g16, 6, none⟩ = some (.int .u32 rb6) ∧ w'.cell? ⟨g16, 7, none⟩ = some (.int .u32 rb7)) (ds := [7]) #[false, false, false, false, false, false, false, false] (by kernel_rfl) rfl rfl ⟨(cellsB (HLf.out.below (below_drew1 (Below.refl _ _))).t.ha).2.2.2.2.1, (cellsB (HLf.out.below (below_drew1 (Below.refl _ _))).t.ha).2.2.2.2.2.1, (HLf.out.below (below_drew1 (Below.refl _ _))).a3.get 0 (show 0 < 8 by decide), (HLf.out.below (below_drew1 (Below.refl _ _))).a3.get 1 (show 1 < 8 by decide), (HLf.out.below (below_drew1 (Below.refl _ _))).a3.get 2 (show 2 < 8 by decide), (HLf.out.below (below_drew1 (Below.refl _ _))).a3.get 3 (show 3 < 8 by decide), (HLf.out.below (below_drew1 (Below.refl _ _))).a3.get 4 (show 4 < 8 by decide), (HLf.out.below (below_drew1 (Below.refl _ _))).a3.get 5 (show 5 < 8 by decide), (HLf.out.below (below_drew1 (Below.refl _ _))).a3.get 6 (show 6 < 8 by decide), (HLf.out.below (below_drew1 (Below.refl _ _))).a3.get 7 (show 7 < 8 by decide)⟩ (fun hHeld => ?_)
      refine pure_ (i := 0) (N := some 138) (v := ?_) (a' := ?_) #[true, false, false, false, false, false, false, false] rfl rfl (by kernel_rfl) (fun _ _ _ h => h) (Or.inl ⟨by rfl, ?_⟩) ?_ ?_
      rotate_left
      ·
       intro w'
       go_simp
       with_reducible rfl
      rotate_left
      ·
       simp only [Act.put, List.setIfInBounds_toArray, List.set_cons_zero, List.set_cons_succ, i64_w, i32_w]
       rfl
      refine take_ (i := 1) (N := some 139) (v := ?_) (a' := ?_) #[true, true, false, false, false, false, false, false] rfl rfl (by kernel_rfl) (fun _ _ _ h => h) (Or.inl ⟨by rfl, ?_⟩) hHeld ?_ ?_
      rotate_left
      ·
       rintro w' ⟨s0, s1, s2, s3, s4, s5, s6, s7, s8, s9⟩
       go_simp
       with_reducible rfl
      rotate_left
      ·
       simp only [Act.put, List.setIfInBounds_toArray, List.set_cons_zero, List.set_cons_succ, i64_w, i32_w]
       rfl
      refine take_ (i := 3) (N := some 141) (v := ?_) (a' := ?_) #[true, true, false, true, false, false, false, false] rfl rfl (by kernel_rfl) (fun _ _ _ h => h) (Or.inl ⟨by rfl, ?_⟩) hHeld ?_ ?_
      rotate_left
      ·
       rintro w' ⟨s0, s1, s2, s3, s4, s5, s6, s7, s8, s9⟩
       go_simp
       with_reducible rfl
      rotate_left
      ·
       simp only [Act.put, List.setIfInBounds_toArray, List.set_cons_zero, List.set_cons_succ, i64_w, i32_w]
       rfl
      refine one_ (i := 2) (N := some 140) #[true, true, true, true, false, false, false, false] rfl rfl (by kernel_rfl) (by decide) (fun K hK => ?_)
      refine goes_ Try.func19 (by kernel_rfl) rfl #[.agg #[.int .u64 q1, .int .u64 r1]] (by rfl) rfl rfl (by (try simp only [List.map_toArray, List.map_cons, List.map_nil]); first | done | rfl) ?_
      with_reducible refine (offertoryref09_Of.calls q1 r1 oo0 oo1 oo2 oo3 oo4 oo5 oo6 oo7 _ HAO.out).mono ?_
      rintro e x1 ⟨rfl, hb⟩
      have M1 := Aside0.mk ((HLf.out.below (below_drew1 (Below.refl _ _))).below hb)
      clear hb
      refine ⟨_, rfl, ?_⟩
      refine hK.out _ _ ⟨(cellsB M1.out.t.ha).2.2.2.2.1, (cellsB M1.out.t.ha).2.2.2.2.2.1, M1.out.a3.get 0 (show 0 < 8 by decide), M1.out.a3.get 1 (show 1 < 8 by decide), M1.out.a3.get 2 (show 2 < 8 by decide), M1.out.a3.get 3 (show 3 < 8 by decide), M1.out.a3.get 4 (show 4 < 8 by decide), M1.out.a3.get 5 (show 5 < 8 by decide), M1.out.a3.get 6 (show 6 < 8 by decide), M1.out.a3.get 7 (show 7 < 8 by decide)⟩ (fun hHeld => ?_)
      clear hK K
      refine norm_ (a' := ?_) ?_ ?_
      rotate_left
      ·
       show Act.put _ (some 140) _ = _
       simp only [Act.put, List.setIfInBounds_toArray, List.set_cons_zero, List.set_cons_succ, i64_w, i32_w]
       rfl
      refine one_ (i := 4) (N := some 142) #[true, true, true, true, true, false, false, false] rfl rfl (by kernel_rfl) (by decide) (fun K hK => ?_)
      refine goes_ Try.func22 (by kernel_rfl) rfl #[.agg #[.int .u32 oo0, .int .u32 oo1, .int .u32 oo2, .int .u32 oo3, .int .u32 oo4, .int .u32 oo5, .int .u32 oo6, .int .u32 oo7], .agg #[.int .u32 rb0, .int .u32 rb1, .int .u32 rb2, .int .u32 rb3, .int .u32 rb4, .int .u32 rb5, .int .u32 rb6, .int .u32 rb7]] (by rfl) rfl rfl (by (try simp only [List.map_toArray, List.map_cons, List.map_nil]); first | done | rfl) ?_
      with_reducible refine (offertoryref09_Add.calls oo0 oo1 oo2 oo3 oo4 oo5 oo6 oo7 rb0 rb1 rb2 rb3 rb4 rb5 rb6 rb7 uu0 uu1 uu2 uu3 uu4 uu5 uu6 uu7 _ HAU.out).mono ?_
      rintro e x2 ⟨rfl, hb⟩
      have M2 := Aside0.mk (M1.out.below hb)
      clear hb
      refine ⟨_, rfl, ?_⟩
      refine hK.out _ _ ⟨(cellsB M2.out.t.ha).2.2.2.2.1, (cellsB M2.out.t.ha).2.2.2.2.2.1, M2.out.a3.get 0 (show 0 < 8 by decide), M2.out.a3.get 1 (show 1 < 8 by decide), M2.out.a3.get 2 (show 2 < 8 by decide), M2.out.a3.get 3 (show 3 < 8 by decide), M2.out.a3.get 4 (show 4 < 8 by decide), M2.out.a3.get 5 (show 5 < 8 by decide), M2.out.a3.get 6 (show 6 < 8 by decide), M2.out.a3.get 7 (show 7 < 8 by decide)⟩ (fun hHeld => ?_)
      clear hK K
      refine norm_ (a' := ?_) ?_ ?_
      rotate_left
      ·
       show Act.put _ (some 142) _ = _
       simp only [Act.put, List.setIfInBounds_toArray, List.set_cons_zero, List.set_cons_succ, i64_w, i32_w]
       rfl
      refine one_ (i := 5) (N := some 143) #[true, true, true, true, true, true, false, false] rfl rfl (by kernel_rfl) (by decide) (fun K hK => ?_)
      refine goes_ Try.func23 (by kernel_rfl) rfl #[.agg #[.int .u32 uu0, .int .u32 uu1, .int .u32 uu2, .int .u32 uu3, .int .u32 uu4, .int .u32 uu5, .int .u32 uu6, .int .u32 uu7]] (by rfl) rfl rfl (by (try simp only [List.map_toArray, List.map_cons, List.map_nil]); first | done | rfl) ?_
      with_reducible refine (offertoryref09_Big_Wide.calls uu0 uu1 uu2 uu3 uu4 uu5 uu6 uu7 V1 V2 _ HAV.out).mono ?_
      rintro e x3 ⟨rfl, hb⟩
      have M3 := Aside0.mk (M2.out.below hb)
      clear hb
      obtain ⟨hc0, hc1, hc2, hc3, hc4, hc5, hc6⟩ := cellsB M3.out.t.h11
      obtain ⟨fc0, fc1, fc2, fc3, fc4, fc5, fc6⟩ := freesB M3.out.t.h11
      refine ⟨_, rfl, ?_⟩
      refine hK.out _ _ ⟨(cellsB M3.out.t.ha).2.2.2.2.1, (cellsB M3.out.t.ha).2.2.2.2.2.1, M3.out.a3.get 0 (show 0 < 8 by decide), M3.out.a3.get 1 (show 1 < 8 by decide), M3.out.a3.get 2 (show 2 < 8 by decide), M3.out.a3.get 3 (show 3 < 8 by decide), M3.out.a3.get 4 (show 4 < 8 by decide), M3.out.a3.get 5 (show 5 < 8 by decide), M3.out.a3.get 6 (show 6 < 8 by decide), M3.out.a3.get 7 (show 7 < 8 by decide)⟩ (fun hHeld => ?_)
      clear hK K
      refine norm_ (a' := ?_) ?_ ?_
      rotate_left
      ·
       show Act.put _ (some 143) _ = _
       simp only [Act.put, List.setIfInBounds_toArray, List.set_cons_zero, List.set_cons_succ, i64_w, i32_w]
       rfl
      refine pure_ (i := 6) (N := some 144) (v := ?_) (a' := ?_) #[true, true, true, true, true, true, true, false] rfl rfl (by kernel_rfl) (fun _ _ _ h => h) (Or.inl ⟨by rfl, ?_⟩) ?_ ?_
      rotate_left
      ·
       intro w'
       go_simp
       with_reducible rfl
      rotate_left
      ·
       simp only [Act.put, List.setIfInBounds_toArray, List.set_cons_zero, List.set_cons_succ, i64_w, i32_w]
       rfl
      refine last_ (i := 7) (N := none) #[true, true, true, true, true, true, true, true] rfl rfl (by kernel_rfl) (by decide) (fun K hK => ?_)
      refine skip_ (w1 := ?_) ?_ ?_ ?_ ?_
      rotate_left
      ·
       rfl
      ·
       rfl
      ·
       go_simp
       rfl
      refine hK.out _ _ ?_
      clear hK K
      refine done_ (by kernel_rfl) ?_
      refine exit_gen (fun W => Lf w ga gb g6 g11 #[.slice A1 l1.length k1, .int .i64 c1, .int .u64 s1, .int .u64 t1, .int .u64 q1, .int .u64 r1, .bool false] #[.slice A2 l2.length k2, .int .i64 c2, .int .u64 s2, .int .u64 t2, .int .u64 q2, .int .u64 r2, .bool false] #[.slice Av bins.length kv, .int .i64 cnt, .int .u64 S1, .int .u64 S2, .int .u64 V1, .int .u64 V2, .bool gs] (.slice Av bins.length kv) bins g14 g15 g16 [pb0, pb1, pb2, pb3, pb4, pb5, pb6, pb7] [qb0, qb1, qb2, qb3, qb4, qb5, qb6, qb7] [rb0, rb1, rb2, rb3, rb4, rb5, rb6, rb7] W) ((M3.out.own 4 _ rfl).own 5 _ rfl) ?_
      clear HLf M1 M2 M3
      clear hc0 hc1 hc2 hc3 hc4 hc5 hc6 fc0 fc1 fc2 fc3 fc4 fc5 fc6
      intro w45 hL
      have HLf := Aside0.mk hL
      clear hL
      obtain ⟨hc0, hc1, hc2, hc3, hc4, hc5, hc6⟩ := cellsB HLf.out.t.h11
      obtain ⟨fc0, fc1, fc2, fc3, fc4, fc5, fc6⟩ := freesB HLf.out.t.h11
      obtain ⟨h60, h61, h62, h63, h64, h65, h66⟩ := cellsB HLf.out.t.h6
      obtain ⟨f60, f61, f62, f63, f64, f65, f66⟩ := freesB HLf.out.t.h6
      go_wp2
      refine bodyPost_ret (results_ct rfl _ _ g6 27 #[.slice Av bins.length kv, .int .i64 cnt, .int .u64 S1, .int .u64 S2, .int .u64 V1, .int .u64 V2, .bool gs] (0, 0) _ rfl (putB HLf.out.t.h6 _ _ _ _ _ _ _) Try.underlying27 rfl (by kernel_rfl)) rfl ?_
      exact ⟨_, by first | rfl | (simp; done), Kd.R_lower (R_setB0 HLf.out.t.row HLf.out.t.h6 _ _ _ _ _ _ _) HLf.out.t.l11, setB_below HLf.out.t.hw HLf.out.t.l6 _ _ _ _ _ _ _⟩

     ·
      obtain ⟨ha0, ha1, ha2, ha3, ha4, ha5, ha6⟩ := cellsB HLf.out.t.ha
      obtain ⟨hb0, hb1, hb2, hb3, hb4, hb5, hb6⟩ := cellsB HLf.out.t.hb
      go_upto_region 24 with (fail)
      clear ha0 ha1 ha2 ha3 ha4 ha5 ha6 hb0 hb1 hb2 hb3 hb4 hb5 hb6
      have HE0 : Aside0 ((pa0, pa1, pa2, pa3, pa4, pa5, pa6, pa7) = (pb0, pb1, pb2, pb3, pb4, pb5, pb6, pb7)) := ⟨Option.some.inj HANp.out⟩
      have HLg : Aside0 (Lf w ga gb g6 g11 #[.slice A1 l1.length k1, .int .i64 c1, .int .u64 s1, .int .u64 t1, .int .u64 q1, .int .u64 r1, .bool false] #[.slice A2 l2.length k2, .int .i64 c2, .int .u64 s2, .int .u64 t2, .int .u64 q2, .int .u64 r2, .bool true] #[.slice Av bins.length kv, .int .i64 cnt, .int .u64 0, .int .u64 0, .int .u64 0, .int .u64 0, .bool false] (.slice Av bins.length kv) bins g14 g15 g16 [pb0, pb1, pb2, pb3, pb4, pb5, pb6, pb7] [qa0, qa1, qa2, qa3, qa4, qa5, qa6, qa7] [ra0, ra1, ra2, ra3, ra4, ra5, ra6, ra7] _) := ⟨by have e := HE0.out; simp only [Prod.mk.injEq] at e; obtain ⟨rfl, rfl, rfl, rfl, rfl, rfl, rfl, rfl⟩ := e; exact HLf.out⟩
      clear HLf HE0
      have HLf := Aside0.mk HLg.out
      clear HLg
      obtain ⟨ha0, ha1, ha2, ha3, ha4, ha5, ha6⟩ := cellsB HLf.out.t.ha
      obtain ⟨hb0, hb1, hb2, hb3, hb4, hb5, hb6⟩ := cellsB HLf.out.t.hb
      have hx0 := HLf.out.a2.get 0 (show 0 < 8 by decide)
      have hx1 := HLf.out.a2.get 1 (show 1 < 8 by decide)
      have hx2 := HLf.out.a2.get 2 (show 2 < 8 by decide)
      have hx3 := HLf.out.a2.get 3 (show 3 < 8 by decide)
      have hx4 := HLf.out.a2.get 4 (show 4 < 8 by decide)
      have hx5 := HLf.out.a2.get 5 (show 5 < 8 by decide)
      have hx6 := HLf.out.a2.get 6 (show 6 < 8 by decide)
      have hx7 := HLf.out.a2.get 7 (show 7 < 8 by decide)
      go_wp2_with fail
      clear hx0 hx1 hx2 hx3 hx4 hx5 hx6 hx7
      clear ha0 ha1 ha2 ha3 ha4 ha5 ha6 hb0 hb1 hb2 hb3 hb4 hb5 hb6
      go_at_call 20
      refine (offertoryref09_Neg.calls qa0 qa1 qa2 qa3 qa4 qa5 qa6 qa7 qb0 qb1 qb2 qb3 qb4 qb5 qb6 qb7 _ HANq.out).mono ?_
      rintro e w31 ⟨rfl, hb⟩
      have HLg := Aside0.mk (HLf.out.below hb)
      clear HLf hb
      have HLf := Aside0.mk HLg.out
      clear HLg
      have hx0 := HLf.out.a2.get 0 (show 0 < 8 by decide)
      have hx1 := HLf.out.a2.get 1 (show 1 < 8 by decide)
      have hx2 := HLf.out.a2.get 2 (show 2 < 8 by decide)
      have hx3 := HLf.out.a2.get 3 (show 3 < 8 by decide)
      have hx4 := HLf.out.a2.get 4 (show 4 < 8 by decide)
      have hx5 := HLf.out.a2.get 5 (show 5 < 8 by decide)
      have hx6 := HLf.out.a2.get 6 (show 6 < 8 by decide)
      have hx7 := HLf.out.a2.get 7 (show 7 < 8 by decide)
      have fx0 := HLf.out.a2.frz 0
      have fx1 := HLf.out.a2.frz 1
      have fx2 := HLf.out.a2.frz 2
      have fx3 := HLf.out.a2.frz 3
      have fx4 := HLf.out.a2.frz 4
      have fx5 := HLf.out.a2.frz 5
      have fx6 := HLf.out.a2.frz 6
      have fx7 := HLf.out.a2.frz 7
      go_upto_region 26 with (fail)
      clear hx0 hx1 hx2 hx3 hx4 hx5 hx6 hx7 fx0 fx1 fx2 fx3 fx4 fx5 fx6 fx7
      refine code_gen (fun W => Lf w ga gb g6 g11 #[.slice A1 l1.length k1, .int .i64 c1, .int .u64 s1, .int .u64 t1, .int .u64 q1, .int .u64 r1, .bool false] #[.slice A2 l2.length k2, .int .i64 c2, .int .u64 s2, .int .u64 t2, .int .u64 q2, .int .u64 r2, .bool true] #[.slice Av bins.length kv, .int .i64 cnt, .int .u64 0, .int .u64 0, .int .u64 0, .int .u64 0, .bool false] (.slice Av bins.length kv) bins g14 g15 g16 [pb0, pb1, pb2, pb3, pb4, pb5, pb6, pb7] [qb0, qb1, qb2, qb3, qb4, qb5, qb6, qb7] [ra0, ra1, ra2, ra3, ra4, ra5, ra6, ra7] W) (HLf.out.put2 rfl qb0 qb1 qb2 qb3 qb4 qb5 qb6 qb7) ?_
      clear HLf
      intro w32 hL
      have HLf := Aside0.mk hL
      clear hL
      obtain ⟨ha0, ha1, ha2, ha3, ha4, ha5, ha6⟩ := cellsB HLf.out.t.ha
      obtain ⟨hb0, hb1, hb2, hb3, hb4, hb5, hb6⟩ := cellsB HLf.out.t.hb
      go_upto_region 28 with (fail)
      clear ha0 ha1 ha2 ha3 ha4 ha5 ha6 hb0 hb1 hb2 hb3 hb4 hb5 hb6
      have HE2 : Aside0 ((ra0, ra1, ra2, ra3, ra4, ra5, ra6, ra7) = (rb0, rb1, rb2, rb3, rb4, rb5, rb6, rb7)) := ⟨Option.some.inj HANr.out⟩
      have HLg : Aside0 (Lf w ga gb g6 g11 #[.slice A1 l1.length k1, .int .i64 c1, .int .u64 s1, .int .u64 t1, .int .u64 q1, .int .u64 r1, .bool false] #[.slice A2 l2.length k2, .int .i64 c2, .int .u64 s2, .int .u64 t2, .int .u64 q2, .int .u64 r2, .bool true] #[.slice Av bins.length kv, .int .i64 cnt, .int .u64 0, .int .u64 0, .int .u64 0, .int .u64 0, .bool false] (.slice Av bins.length kv) bins g14 g15 g16 [pb0, pb1, pb2, pb3, pb4, pb5, pb6, pb7] [qb0, qb1, qb2, qb3, qb4, qb5, qb6, qb7] [rb0, rb1, rb2, rb3, rb4, rb5, rb6, rb7] _) := ⟨by have e := HE2.out; simp only [Prod.mk.injEq] at e; obtain ⟨rfl, rfl, rfl, rfl, rfl, rfl, rfl, rfl⟩ := e; exact HLf.out⟩
      clear HLf HE2
      have HLf := Aside0.mk HLg.out
      clear HLg
      have hx0 := HLf.out.a1.get 0 (show 0 < 8 by decide)
      have hx1 := HLf.out.a1.get 1 (show 1 < 8 by decide)
      have hx2 := HLf.out.a1.get 2 (show 2 < 8 by decide)
      have hx3 := HLf.out.a1.get 3 (show 3 < 8 by decide)
      have hx4 := HLf.out.a1.get 4 (show 4 < 8 by decide)
      have hx5 := HLf.out.a1.get 5 (show 5 < 8 by decide)
      have hx6 := HLf.out.a1.get 6 (show 6 < 8 by decide)
      have hx7 := HLf.out.a1.get 7 (show 7 < 8 by decide)
      have hy0 := HLf.out.a2.get 0 (show 0 < 8 by decide)
      have hy1 := HLf.out.a2.get 1 (show 1 < 8 by decide)
      have hy2 := HLf.out.a2.get 2 (show 2 < 8 by decide)
      have hy3 := HLf.out.a2.get 3 (show 3 < 8 by decide)
      have hy4 := HLf.out.a2.get 4 (show 4 < 8 by decide)
      have hy5 := HLf.out.a2.get 5 (show 5 < 8 by decide)
      have hy6 := HLf.out.a2.get 6 (show 6 < 8 by decide)
      have hy7 := HLf.out.a2.get 7 (show 7 < 8 by decide)
      go_wp2_with fail
      clear hx0 hx1 hx2 hx3 hx4 hx5 hx6 hx7 hy0 hy1 hy2 hy3 hy4 hy5 hy6 hy7
      go_at_call 22
      refine (offertoryref09_Add.calls pb0 pb1 pb2 pb3 pb4 pb5 pb6 pb7 qb0 qb1 qb2 qb3 qb4 qb5 qb6 qb7 zz0 zz1 zz2 zz3 zz4 zz5 zz6 zz7 _ HAZ.out).mono ?_
      rintro e w40 ⟨rfl, hb⟩
      have HLg := Aside0.mk (HLf.out.below hb)
      clear HLf hb
      have HLf := Aside0.mk HLg.out
      clear HLg
      go_wp2_with fail
      go_at_call 21
      refine (offertoryref09_Signed.calls zz0 zz1 zz2 zz3 zz4 zz5 zz6 zz7 gg0 gg1 gg2 gg3 gg4 gg5 gg6 gg7 gs _ HAG.out).mono ?_
      rintro e w41 ⟨rfl, hb⟩
      have HLg := Aside0.mk (HLf.out.below hb)
      clear HLf hb
      have HLf := Aside0.mk HLg.out
      clear HLg
      go_upto_region 29 with (fail)
      obtain ⟨g17, hg17⟩ : ∃ g, g = w41.heap.size := ⟨_, rfl⟩
      rw [← hg17]
      refine code_gen (fun W => Lf w ga gb g6 g11 #[.slice A1 l1.length k1, .int .i64 c1, .int .u64 s1, .int .u64 t1, .int .u64 q1, .int .u64 r1, .bool false] #[.slice A2 l2.length k2, .int .i64 c2, .int .u64 s2, .int .u64 t2, .int .u64 q2, .int .u64 r2, .bool true] #[.slice Av bins.length kv, .int .i64 cnt, .int .u64 0, .int .u64 0, .int .u64 0, .int .u64 0, .bool false] (.slice Av bins.length kv) bins g14 g15 g16 [pb0, pb1, pb2, pb3, pb4, pb5, pb6, pb7] [qb0, qb1, qb2, qb3, qb4, qb5, qb6, qb7] [rb0, rb1, rb2, rb3, rb4, rb5, rb6, rb7] W ∧ ArrAt W g17 52 .u32 [gg0, gg1, gg2, gg3, gg4, gg5, gg6, gg7]) ⟨HLf.out.below (below_alloc (Below.refl _ _) _), by rw [hg17]; exact blk_new w41 _⟩ ?_
      clear HLf hg17
      rintro w42 ⟨hL, hA⟩
      have HLf := Aside0.mk hL
      have HA17 := Aside0.mk hA
      clear hL hA
      have hx0 := HA17.out.get 0 (show 0 < 8 by decide)
      have hx1 := HA17.out.get 1 (show 1 < 8 by decide)
      have hx2 := HA17.out.get 2 (show 2 < 8 by decide)
      have hx3 := HA17.out.get 3 (show 3 < 8 by decide)
      have hx4 := HA17.out.get 4 (show 4 < 8 by decide)
      have hx5 := HA17.out.get 5 (show 5 < 8 by decide)
      have hx6 := HA17.out.get 6 (show 6 < 8 by decide)
      have hx7 := HA17.out.get 7 (show 7 < 8 by decide)
      go_wp2_with fail
      clear hx0 hx1 hx2 hx3 hx4 hx5 hx6 hx7
      clear HA17
      go_at_call 23
      refine (offertoryref09_Big_Wide.calls gg0 gg1 gg2 gg3 gg4 gg5 gg6 gg7 S1 S2 _ HAS.out).mono ?_
      rintro e w43 ⟨rfl, hb⟩
      have HLg := Aside0.mk (HLf.out.below hb)
      clear HLf hb
      have HLf := Aside0.mk HLg.out
      clear HLg
      obtain ⟨hc0, hc1, hc2, hc3, hc4, hc5, hc6⟩ := cellsB HLf.out.t.h11
      obtain ⟨fc0, fc1, fc2, fc3, fc4, fc5, fc6⟩ := freesB HLf.out.t.h11
      go_upto_region 30 with (fail)
      clear hc0 hc1 hc2 hc3 hc4 hc5 hc6 fc0 fc1 fc2 fc3 fc4 fc5 fc6
      refine code_gen (fun W => Lf w ga gb g6 g11 #[.slice A1 l1.length k1, .int .i64 c1, .int .u64 s1, .int .u64 t1, .int .u64 q1, .int .u64 r1, .bool false] #[.slice A2 l2.length k2, .int .i64 c2, .int .u64 s2, .int .u64 t2, .int .u64 q2, .int .u64 r2, .bool true] #[.slice Av bins.length kv, .int .i64 cnt, .int .u64 S1, .int .u64 S2, .int .u64 0, .int .u64 0, .bool gs] (.slice Av bins.length kv) bins g14 g15 g16 [pb0, pb1, pb2, pb3, pb4, pb5, pb6, pb7] [qb0, qb1, qb2, qb3, qb4, qb5, qb6, qb7] [rb0, rb1, rb2, rb3, rb4, rb5, rb6, rb7] W) (((HLf.out.own 2 _ rfl).own 3 _ rfl).own 6 _ rfl) ?_
      clear HLf
      intro w44 hL
      have HLf := Aside0.mk hL
      clear hL
      refine start_ (n := 8) (S := fun w' => w'.cell? ⟨ga, 4, none⟩ = some (.int .u64 q1) ∧ w'.cell? ⟨ga, 5, none⟩ = some (.int .u64 r1) ∧ w'.cell? ⟨g16, 0, none⟩ = some (.int .u32 rb0) ∧ w'.cell? ⟨g16, 1, none⟩ = some (.int .u32 rb1) ∧ w'.cell? ⟨g16, 2, none⟩ = some (.int .u32 rb2) ∧ w'.cell? ⟨g16, 3, none⟩ = some (.int .u32 rb3) ∧ w'.cell? ⟨g16, 4, none⟩ = some (.int .u32 rb4) ∧ w'.cell? ⟨g16, 5, none⟩ = some (.int .u32 rb5) ∧ w'.cell? ⟨g16, 6, none⟩ = some (.int .u32 rb6) ∧ w'.cell? ⟨g16, 7, none⟩ = some (.int .u32 rb7)) (ds := [7]) #[false, false, false, false, false, false, false, false] (by kernel_rfl) rfl rfl ⟨(cellsB (HLf.out.below (below_drew1 (Below.refl _ _))).t.ha).2.2.2.2.1, (cellsB (HLf.out.below (below_drew1 (Below.refl _ _))).t.ha).2.2.2.2.2.1, (HLf.out.below (below_drew1 (Below.refl _ _))).a3.get 0 (show 0 < 8 by decide), (HLf.out.below (below_drew1 (Below.refl _ _))).a3.get 1 (show 1 < 8 by decide), (HLf.out.below (below_drew1 (Below.refl _ _))).a3.get 2 (show 2 < 8 by decide), (HLf.out.below (below_drew1 (Below.refl _ _))).a3.get 3 (show 3 < 8 by decide), (HLf.out.below (below_drew1 (Below.refl _ _))).a3.get 4 (show 4 < 8 by decide), (HLf.out.below (below_drew1 (Below.refl _ _))).a3.get 5 (show 5 < 8 by decide), (HLf.out.below (below_drew1 (Below.refl _ _))).a3.get 6 (show 6 < 8 by decide), (HLf.out.below (below_drew1 (Below.refl _ _))).a3.get 7 (show 7 < 8 by decide)⟩ (fun hHeld => ?_)
      refine pure_ (i := 0) (N := some 138) (v := ?_) (a' := ?_) #[true, false, false, false, false, false, false, false] rfl rfl (by kernel_rfl) (fun _ _ _ h => h) (Or.inl ⟨by rfl, ?_⟩) ?_ ?_
      rotate_left
      ·
       intro w'
       go_simp
       with_reducible rfl
      rotate_left
      ·
       simp only [Act.put, List.setIfInBounds_toArray, List.set_cons_zero, List.set_cons_succ, i64_w, i32_w]
       rfl
      refine take_ (i := 1) (N := some 139) (v := ?_) (a' := ?_) #[true, true, false, false, false, false, false, false] rfl rfl (by kernel_rfl) (fun _ _ _ h => h) (Or.inl ⟨by rfl, ?_⟩) hHeld ?_ ?_
      rotate_left
      ·
       rintro w' ⟨s0, s1, s2, s3, s4, s5, s6, s7, s8, s9⟩
       go_simp
       with_reducible rfl
      rotate_left
      ·
       simp only [Act.put, List.setIfInBounds_toArray, List.set_cons_zero, List.set_cons_succ, i64_w, i32_w]
       rfl
      refine take_ (i := 3) (N := some 141) (v := ?_) (a' := ?_) #[true, true, false, true, false, false, false, false] rfl rfl (by kernel_rfl) (fun _ _ _ h => h) (Or.inl ⟨by rfl, ?_⟩) hHeld ?_ ?_
      rotate_left
      ·
       rintro w' ⟨s0, s1, s2, s3, s4, s5, s6, s7, s8, s9⟩
       go_simp
       with_reducible rfl
      rotate_left
      ·
       simp only [Act.put, List.setIfInBounds_toArray, List.set_cons_zero, List.set_cons_succ, i64_w, i32_w]
       rfl
      refine one_ (i := 2) (N := some 140) #[true, true, true, true, false, false, false, false] rfl rfl (by kernel_rfl) (by decide) (fun K hK => ?_)
      refine goes_ Try.func19 (by kernel_rfl) rfl #[.agg #[.int .u64 q1, .int .u64 r1]] (by rfl) rfl rfl (by (try simp only [List.map_toArray, List.map_cons, List.map_nil]); first | done | rfl) ?_
      with_reducible refine (offertoryref09_Of.calls q1 r1 oo0 oo1 oo2 oo3 oo4 oo5 oo6 oo7 _ HAO.out).mono ?_
      rintro e x1 ⟨rfl, hb⟩
      have M1 := Aside0.mk ((HLf.out.below (below_drew1 (Below.refl _ _))).below hb)
      clear hb
      refine ⟨_, rfl, ?_⟩
      refine hK.out _ _ ⟨(cellsB M1.out.t.ha).2.2.2.2.1, (cellsB M1.out.t.ha).2.2.2.2.2.1, M1.out.a3.get 0 (show 0 < 8 by decide), M1.out.a3.get 1 (show 1 < 8 by decide), M1.out.a3.get 2 (show 2 < 8 by decide), M1.out.a3.get 3 (show 3 < 8 by decide), M1.out.a3.get 4 (show 4 < 8 by decide), M1.out.a3.get 5 (show 5 < 8 by decide), M1.out.a3.get 6 (show 6 < 8 by decide), M1.out.a3.get 7 (show 7 < 8 by decide)⟩ (fun hHeld => ?_)
      clear hK K
      refine norm_ (a' := ?_) ?_ ?_
      rotate_left
      ·
       show Act.put _ (some 140) _ = _
       simp only [Act.put, List.setIfInBounds_toArray, List.set_cons_zero, List.set_cons_succ, i64_w, i32_w]
       rfl
      refine one_ (i := 4) (N := some 142) #[true, true, true, true, true, false, false, false] rfl rfl (by kernel_rfl) (by decide) (fun K hK => ?_)
      refine goes_ Try.func22 (by kernel_rfl) rfl #[.agg #[.int .u32 oo0, .int .u32 oo1, .int .u32 oo2, .int .u32 oo3, .int .u32 oo4, .int .u32 oo5, .int .u32 oo6, .int .u32 oo7], .agg #[.int .u32 rb0, .int .u32 rb1, .int .u32 rb2, .int .u32 rb3, .int .u32 rb4, .int .u32 rb5, .int .u32 rb6, .int .u32 rb7]] (by rfl) rfl rfl (by (try simp only [List.map_toArray, List.map_cons, List.map_nil]); first | done | rfl) ?_
      with_reducible refine (offertoryref09_Add.calls oo0 oo1 oo2 oo3 oo4 oo5 oo6 oo7 rb0 rb1 rb2 rb3 rb4 rb5 rb6 rb7 uu0 uu1 uu2 uu3 uu4 uu5 uu6 uu7 _ HAU.out).mono ?_
      rintro e x2 ⟨rfl, hb⟩
      have M2 := Aside0.mk (M1.out.below hb)
      clear hb
      refine ⟨_, rfl, ?_⟩
      refine hK.out _ _ ⟨(cellsB M2.out.t.ha).2.2.2.2.1, (cellsB M2.out.t.ha).2.2.2.2.2.1, M2.out.a3.get 0 (show 0 < 8 by decide), M2.out.a3.get 1 (show 1 < 8 by decide), M2.out.a3.get 2 (show 2 < 8 by decide), M2.out.a3.get 3 (show 3 < 8 by decide), M2.out.a3.get 4 (show 4 < 8 by decide), M2.out.a3.get 5 (show 5 < 8 by decide), M2.out.a3.get 6 (show 6 < 8 by decide), M2.out.a3.get 7 (show 7 < 8 by decide)⟩ (fun hHeld => ?_)
      clear hK K
      refine norm_ (a' := ?_) ?_ ?_
      rotate_left
      ·
       show Act.put _ (some 142) _ = _
       simp only [Act.put, List.setIfInBounds_toArray, List.set_cons_zero, List.set_cons_succ, i64_w, i32_w]
       rfl
      refine one_ (i := 5) (N := some 143) #[true, true, true, true, true, true, false, false] rfl rfl (by kernel_rfl) (by decide) (fun K hK => ?_)
      refine goes_ Try.func23 (by kernel_rfl) rfl #[.agg #[.int .u32 uu0, .int .u32 uu1, .int .u32 uu2, .int .u32 uu3, .int .u32 uu4, .int .u32 uu5, .int .u32 uu6, .int .u32 uu7]] (by rfl) rfl rfl (by (try simp only [List.map_toArray, List.map_cons, List.map_nil]); first | done | rfl) ?_
      with_reducible refine (offertoryref09_Big_Wide.calls uu0 uu1 uu2 uu3 uu4 uu5 uu6 uu7 V1 V2 _ HAV.out).mono ?_
      rintro e x3 ⟨rfl, hb⟩
      have M3 := Aside0.mk (M2.out.below hb)
      clear hb
      obtain ⟨hc0, hc1, hc2, hc3, hc4, hc5, hc6⟩ := cellsB M3.out.t.h11
      obtain ⟨fc0, fc1, fc2, fc3, fc4, fc5, fc6⟩ := freesB M3.out.t.h11
      refine ⟨_, rfl, ?_⟩
      refine hK.out _ _ ⟨(cellsB M3.out.t.ha).2.2.2.2.1, (cellsB M3.out.t.ha).2.2.2.2.2.1, M3.out.a3.get 0 (show 0 < 8 by decide), M3.out.a3.get 1 (show 1 < 8 by decide), M3.out.a3.get 2 (show 2 < 8 by decide), M3.out.a3.get 3 (show 3 < 8 by decide), M3.out.a3.get 4 (show 4 < 8 by decide), M3.out.a3.get 5 (show 5 < 8 by decide), M3.out.a3.get 6 (show 6 < 8 by decide), M3.out.a3.get 7 (show 7 < 8 by decide)⟩ (fun hHeld => ?_)
      clear hK K
      refine norm_ (a' := ?_) ?_ ?_
      rotate_left
      ·
       show Act.put _ (some 143) _ = _
       simp only [Act.put, List.setIfInBounds_toArray, List.set_cons_zero, List.set_cons_succ, i64_w, i32_w]
       rfl
      refine pure_ (i := 6) (N := some 144) (v := ?_) (a' := ?_) #[true, true, true, true, true, true, true, false] rfl rfl (by kernel_rfl) (fun _ _ _ h => h) (Or.inl ⟨by rfl, ?_⟩) ?_ ?_
      rotate_left
      ·
       intro w'
       go_simp
       with_reducible rfl
      rotate_left
      ·
       simp only [Act.put, List.setIfInBounds_toArray, List.set_cons_zero, List.set_cons_succ, i64_w, i32_w]
       rfl
      refine last_ (i := 7) (N := none) #[true, true, true, true, true, true, true, true] rfl rfl (by kernel_rfl) (by decide) (fun K hK => ?_)
      refine skip_ (w1 := ?_) ?_ ?_ ?_ ?_
      rotate_left
      ·
       rfl
      ·
       rfl
      ·
       go_simp
       rfl
      refine hK.out _ _ ?_
      clear hK K
      refine done_ (by kernel_rfl) ?_
      refine exit_gen (fun W => Lf w ga gb g6 g11 #[.slice A1 l1.length k1, .int .i64 c1, .int .u64 s1, .int .u64 t1, .int .u64 q1, .int .u64 r1, .bool false] #[.slice A2 l2.length k2, .int .i64 c2, .int .u64 s2, .int .u64 t2, .int .u64 q2, .int .u64 r2, .bool true] #[.slice Av bins.length kv, .int .i64 cnt, .int .u64 S1, .int .u64 S2, .int .u64 V1, .int .u64 V2, .bool gs] (.slice Av bins.length kv) bins g14 g15 g16 [pb0, pb1, pb2, pb3, pb4, pb5, pb6, pb7] [qb0, qb1, qb2, qb3, qb4, qb5, qb6, qb7] [rb0, rb1, rb2, rb3, rb4, rb5, rb6, rb7] W) ((M3.out.own 4 _ rfl).own 5 _ rfl) ?_
      clear HLf M1 M2 M3
      clear hc0 hc1 hc2 hc3 hc4 hc5 hc6 fc0 fc1 fc2 fc3 fc4 fc5 fc6
      intro w45 hL
      have HLf := Aside0.mk hL
      clear hL
      obtain ⟨hc0, hc1, hc2, hc3, hc4, hc5, hc6⟩ := cellsB HLf.out.t.h11
      obtain ⟨fc0, fc1, fc2, fc3, fc4, fc5, fc6⟩ := freesB HLf.out.t.h11
      obtain ⟨h60, h61, h62, h63, h64, h65, h66⟩ := cellsB HLf.out.t.h6
      obtain ⟨f60, f61, f62, f63, f64, f65, f66⟩ := freesB HLf.out.t.h6
      go_wp2
      refine bodyPost_ret (results_ct rfl _ _ g6 27 #[.slice Av bins.length kv, .int .i64 cnt, .int .u64 S1, .int .u64 S2, .int .u64 V1, .int .u64 V2, .bool gs] (0, 0) _ rfl (putB HLf.out.t.h6 _ _ _ _ _ _ _) Try.underlying27 rfl (by kernel_rfl)) rfl ?_
      exact ⟨_, by first | rfl | (simp; done), Kd.R_lower (R_setB0 HLf.out.t.row HLf.out.t.h6 _ _ _ _ _ _ _) HLf.out.t.l11, setB_below HLf.out.t.hw HLf.out.t.l6 _ _ _ _ _ _ _⟩

     ·
      obtain ⟨ha0, ha1, ha2, ha3, ha4, ha5, ha6⟩ := cellsB HLf.out.t.ha
      obtain ⟨hb0, hb1, hb2, hb3, hb4, hb5, hb6⟩ := cellsB HLf.out.t.hb
      have hx0 := HLf.out.a1.get 0 (show 0 < 8 by decide)
      have hx1 := HLf.out.a1.get 1 (show 1 < 8 by decide)
      have hx2 := HLf.out.a1.get 2 (show 2 < 8 by decide)
      have hx3 := HLf.out.a1.get 3 (show 3 < 8 by decide)
      have hx4 := HLf.out.a1.get 4 (show 4 < 8 by decide)
      have hx5 := HLf.out.a1.get 5 (show 5 < 8 by decide)
      have hx6 := HLf.out.a1.get 6 (show 6 < 8 by decide)
      have hx7 := HLf.out.a1.get 7 (show 7 < 8 by decide)
      go_wp2_with fail
      clear hx0 hx1 hx2 hx3 hx4 hx5 hx6 hx7
      clear ha0 ha1 ha2 ha3 ha4 ha5 ha6 hb0 hb1 hb2 hb3 hb4 hb5 hb6
      go_at_call 20
      refine (offertoryref09_Neg.calls pa0 pa1 pa2 pa3 pa4 pa5 pa6 pa7 pb0 pb1 pb2 pb3 pb4 pb5 pb6 pb7 _ HANp.out).mono ?_
      rintro e w31 ⟨rfl, hb⟩
      have HLg := Aside0.mk (HLf.out.below hb)
      clear HLf hb
      have HLf := Aside0.mk HLg.out
      clear HLg
      have hx0 := HLf.out.a1.get 0 (show 0 < 8 by decide)
      have hx1 := HLf.out.a1.get 1 (show 1 < 8 by decide)
      have hx2 := HLf.out.a1.get 2 (show 2 < 8 by decide)
      have hx3 := HLf.out.a1.get 3 (show 3 < 8 by decide)
      have hx4 := HLf.out.a1.get 4 (show 4 < 8 by decide)
      have hx5 := HLf.out.a1.get 5 (show 5 < 8 by decide)
      have hx6 := HLf.out.a1.get 6 (show 6 < 8 by decide)
      have hx7 := HLf.out.a1.get 7 (show 7 < 8 by decide)
      have fx0 := HLf.out.a1.frz 0
      have fx1 := HLf.out.a1.frz 1
      have fx2 := HLf.out.a1.frz 2
      have fx3 := HLf.out.a1.frz 3
      have fx4 := HLf.out.a1.frz 4
      have fx5 := HLf.out.a1.frz 5
      have fx6 := HLf.out.a1.frz 6
      have fx7 := HLf.out.a1.frz 7
      go_upto_region 24 with (fail)
      clear hx0 hx1 hx2 hx3 hx4 hx5 hx6 hx7 fx0 fx1 fx2 fx3 fx4 fx5 fx6 fx7
      refine code_gen (fun W => Lf w ga gb g6 g11 #[.slice A1 l1.length k1, .int .i64 c1, .int .u64 s1, .int .u64 t1, .int .u64 q1, .int .u64 r1, .bool true] #[.slice A2 l2.length k2, .int .i64 c2, .int .u64 s2, .int .u64 t2, .int .u64 q2, .int .u64 r2, .bool false] #[.slice Av bins.length kv, .int .i64 cnt, .int .u64 0, .int .u64 0, .int .u64 0, .int .u64 0, .bool false] (.slice Av bins.length kv) bins g14 g15 g16 [pb0, pb1, pb2, pb3, pb4, pb5, pb6, pb7] [qa0, qa1, qa2, qa3, qa4, qa5, qa6, qa7] [ra0, ra1, ra2, ra3, ra4, ra5, ra6, ra7] W) (HLf.out.put1 rfl pb0 pb1 pb2 pb3 pb4 pb5 pb6 pb7) ?_
      clear HLf
      intro w32 hL
      have HLf := Aside0.mk hL
      clear hL
      obtain ⟨ha0, ha1, ha2, ha3, ha4, ha5, ha6⟩ := cellsB HLf.out.t.ha
      obtain ⟨hb0, hb1, hb2, hb3, hb4, hb5, hb6⟩ := cellsB HLf.out.t.hb
      go_upto_region 26 with (fail)
      clear ha0 ha1 ha2 ha3 ha4 ha5 ha6 hb0 hb1 hb2 hb3 hb4 hb5 hb6
      have HE1 : Aside0 ((qa0, qa1, qa2, qa3, qa4, qa5, qa6, qa7) = (qb0, qb1, qb2, qb3, qb4, qb5, qb6, qb7)) := ⟨Option.some.inj HANq.out⟩
      have HLg : Aside0 (Lf w ga gb g6 g11 #[.slice A1 l1.length k1, .int .i64 c1, .int .u64 s1, .int .u64 t1, .int .u64 q1, .int .u64 r1, .bool true] #[.slice A2 l2.length k2, .int .i64 c2, .int .u64 s2, .int .u64 t2, .int .u64 q2, .int .u64 r2, .bool false] #[.slice Av bins.length kv, .int .i64 cnt, .int .u64 0, .int .u64 0, .int .u64 0, .int .u64 0, .bool false] (.slice Av bins.length kv) bins g14 g15 g16 [pb0, pb1, pb2, pb3, pb4, pb5, pb6, pb7] [qb0, qb1, qb2, qb3, qb4, qb5, qb6, qb7] [ra0, ra1, ra2, ra3, ra4, ra5, ra6, ra7] _) := ⟨by have e := HE1.out; simp only [Prod.mk.injEq] at e; obtain ⟨rfl, rfl, rfl, rfl, rfl, rfl, rfl, rfl⟩ := e; exact HLf.out⟩
      clear HLf HE1
      have HLf := Aside0.mk HLg.out
      clear HLg
      obtain ⟨ha0, ha1, ha2, ha3, ha4, ha5, ha6⟩ := cellsB HLf.out.t.ha
      obtain ⟨hb0, hb1, hb2, hb3, hb4, hb5, hb6⟩ := cellsB HLf.out.t.hb
      go_upto_region 28 with (fail)
      clear ha0 ha1 ha2 ha3 ha4 ha5 ha6 hb0 hb1 hb2 hb3 hb4 hb5 hb6
      have HE2 : Aside0 ((ra0, ra1, ra2, ra3, ra4, ra5, ra6, ra7) = (rb0, rb1, rb2, rb3, rb4, rb5, rb6, rb7)) := ⟨Option.some.inj HANr.out⟩
      have HLg : Aside0 (Lf w ga gb g6 g11 #[.slice A1 l1.length k1, .int .i64 c1, .int .u64 s1, .int .u64 t1, .int .u64 q1, .int .u64 r1, .bool true] #[.slice A2 l2.length k2, .int .i64 c2, .int .u64 s2, .int .u64 t2, .int .u64 q2, .int .u64 r2, .bool false] #[.slice Av bins.length kv, .int .i64 cnt, .int .u64 0, .int .u64 0, .int .u64 0, .int .u64 0, .bool false] (.slice Av bins.length kv) bins g14 g15 g16 [pb0, pb1, pb2, pb3, pb4, pb5, pb6, pb7] [qb0, qb1, qb2, qb3, qb4, qb5, qb6, qb7] [rb0, rb1, rb2, rb3, rb4, rb5, rb6, rb7] _) := ⟨by have e := HE2.out; simp only [Prod.mk.injEq] at e; obtain ⟨rfl, rfl, rfl, rfl, rfl, rfl, rfl, rfl⟩ := e; exact HLf.out⟩
      clear HLf HE2
      have HLf := Aside0.mk HLg.out
      clear HLg
      have hx0 := HLf.out.a1.get 0 (show 0 < 8 by decide)
      have hx1 := HLf.out.a1.get 1 (show 1 < 8 by decide)
      have hx2 := HLf.out.a1.get 2 (show 2 < 8 by decide)
      have hx3 := HLf.out.a1.get 3 (show 3 < 8 by decide)
      have hx4 := HLf.out.a1.get 4 (show 4 < 8 by decide)
      have hx5 := HLf.out.a1.get 5 (show 5 < 8 by decide)
      have hx6 := HLf.out.a1.get 6 (show 6 < 8 by decide)
      have hx7 := HLf.out.a1.get 7 (show 7 < 8 by decide)
      have hy0 := HLf.out.a2.get 0 (show 0 < 8 by decide)
      have hy1 := HLf.out.a2.get 1 (show 1 < 8 by decide)
      have hy2 := HLf.out.a2.get 2 (show 2 < 8 by decide)
      have hy3 := HLf.out.a2.get 3 (show 3 < 8 by decide)
      have hy4 := HLf.out.a2.get 4 (show 4 < 8 by decide)
      have hy5 := HLf.out.a2.get 5 (show 5 < 8 by decide)
      have hy6 := HLf.out.a2.get 6 (show 6 < 8 by decide)
      have hy7 := HLf.out.a2.get 7 (show 7 < 8 by decide)
      go_wp2_with fail
      clear hx0 hx1 hx2 hx3 hx4 hx5 hx6 hx7 hy0 hy1 hy2 hy3 hy4 hy5 hy6 hy7
      go_at_call 22
      refine (offertoryref09_Add.calls pb0 pb1 pb2 pb3 pb4 pb5 pb6 pb7 qb0 qb1 qb2 qb3 qb4 qb5 qb6 qb7 zz0 zz1 zz2 zz3 zz4 zz5 zz6 zz7 _ HAZ.out).mono ?_
      rintro e w40 ⟨rfl, hb⟩
      have HLg := Aside0.mk (HLf.out.below hb)
      clear HLf hb
      have HLf := Aside0.mk HLg.out
      clear HLg
      go_wp2_with fail
      go_at_call 21
      refine (offertoryref09_Signed.calls zz0 zz1 zz2 zz3 zz4 zz5 zz6 zz7 gg0 gg1 gg2 gg3 gg4 gg5 gg6 gg7 gs _ HAG.out).mono ?_
      rintro e w41 ⟨rfl, hb⟩
      have HLg := Aside0.mk (HLf.out.below hb)
      clear HLf hb
      have HLf := Aside0.mk HLg.out
      clear HLg
      go_upto_region 29 with (fail)
      obtain ⟨g17, hg17⟩ : ∃ g, g = w41.heap.size := ⟨_, rfl⟩
      rw [← hg17]
      refine code_gen (fun W => Lf w ga gb g6 g11 #[.slice A1 l1.length k1, .int .i64 c1, .int .u64 s1, .int .u64 t1, .int .u64 q1, .int .u64 r1, .bool true] #[.slice A2 l2.length k2, .int .i64 c2, .int .u64 s2, .int .u64 t2, .int .u64 q2, .int .u64 r2, .bool false] #[.slice Av bins.length kv, .int .i64 cnt, .int .u64 0, .int .u64 0, .int .u64 0, .int .u64 0, .bool false] (.slice Av bins.length kv) bins g14 g15 g16 [pb0, pb1, pb2, pb3, pb4, pb5, pb6, pb7] [qb0, qb1, qb2, qb3, qb4, qb5, qb6, qb7] [rb0, rb1, rb2, rb3, rb4, rb5, rb6, rb7] W ∧ ArrAt W g17 52 .u32 [gg0, gg1, gg2, gg3, gg4, gg5, gg6, gg7]) ⟨HLf.out.below (below_alloc (Below.refl _ _) _), by rw [hg17]; exact blk_new w41 _⟩ ?_
      clear HLf hg17
      rintro w42 ⟨hL, hA⟩
      have HLf := Aside0.mk hL
      have HA17 := Aside0.mk hA
      clear hL hA
      have hx0 := HA17.out.get 0 (show 0 < 8 by decide)
      have hx1 := HA17.out.get 1 (show 1 < 8 by decide)
      have hx2 := HA17.out.get 2 (show 2 < 8 by decide)
      have hx3 := HA17.out.get 3 (show 3 < 8 by decide)
      have hx4 := HA17.out.get 4 (show 4 < 8 by decide)
      have hx5 := HA17.out.get 5 (show 5 < 8 by decide)
      have hx6 := HA17.out.get 6 (show 6 < 8 by decide)
      have hx7 := HA17.out.get 7 (show 7 < 8 by decide)
      go_wp2_with fail
      clear hx0 hx1 hx2 hx3 hx4 hx5 hx6 hx7
      clear HA17
      go_at_call 23
      refine (offertoryref09_Big_Wide.calls gg0 gg1 gg2 gg3 gg4 gg5 gg6 gg7 S1 S2 _ HAS.out).mono ?_
      rintro e w43 ⟨rfl, hb⟩
      have HLg := Aside0.mk (HLf.out.below hb)
      clear HLf hb
      have HLf := Aside0.mk HLg.out
      clear HLg
      obtain ⟨hc0, hc1, hc2, hc3, hc4, hc5, hc6⟩ := cellsB HLf.out.t.h11
      obtain ⟨fc0, fc1, fc2, fc3, fc4, fc5, fc6⟩ := freesB HLf.out.t.h11
      go_upto_region 30 with (fail)
      clear hc0 hc1 hc2 hc3 hc4 hc5 hc6 fc0 fc1 fc2 fc3 fc4 fc5 fc6
      refine code_gen (fun W => Lf w ga gb g6 g11 #[.slice A1 l1.length k1, .int .i64 c1, .int .u64 s1, .int .u64 t1, .int .u64 q1, .int .u64 r1, .bool true] #[.slice A2 l2.length k2, .int .i64 c2, .int .u64 s2, .int .u64 t2, .int .u64 q2, .int .u64 r2, .bool false] #[.slice Av bins.length kv, .int .i64 cnt, .int .u64 S1, .int .u64 S2, .int .u64 0, .int .u64 0, .bool gs] (.slice Av bins.length kv) bins g14 g15 g16 [pb0, pb1, pb2, pb3, pb4, pb5, pb6, pb7] [qb0, qb1, qb2, qb3, qb4, qb5, qb6, qb7] [rb0, rb1, rb2, rb3, rb4, rb5, rb6, rb7] W) (((HLf.out.own 2 _ rfl).own 3 _ rfl).own 6 _ rfl) ?_
      clear HLf
      intro w44 hL
      have HLf := Aside0.mk hL
      clear hL
      refine start_ (n := 8) (S := fun w' => w'.cell? ⟨ga, 4, none⟩ = some (.int .u64 q1) ∧ w'.cell? ⟨ga, 5, none⟩ = some (.int .u64 r1) ∧ w'.cell? ⟨g16, 0, none⟩ = some (.int .u32 rb0) ∧ w'.cell? ⟨g16, 1, none⟩ = some (.int .u32 rb1) ∧ w'.cell? ⟨g16, 2, none⟩ = some (.int .u32 rb2) ∧ w'.cell? ⟨g16, 3, none⟩ = some (.int .u32 rb3) ∧ w'.cell? ⟨g16, 4, none⟩ = some (.int .u32 rb4) ∧ w'.cell? ⟨g16, 5, none⟩ = some (.int .u32 rb5) ∧ w'.cell? ⟨g16, 6, none⟩ = some (.int .u32 rb6) ∧ w'.cell? ⟨g16, 7, none⟩ = some (.int .u32 rb7)) (ds := [7]) #[false, false, false, false, false, false, false, false] (by kernel_rfl) rfl rfl ⟨(cellsB (HLf.out.below (below_drew1 (Below.refl _ _))).t.ha).2.2.2.2.1, (cellsB (HLf.out.below (below_drew1 (Below.refl _ _))).t.ha).2.2.2.2.2.1, (HLf.out.below (below_drew1 (Below.refl _ _))).a3.get 0 (show 0 < 8 by decide), (HLf.out.below (below_drew1 (Below.refl _ _))).a3.get 1 (show 1 < 8 by decide), (HLf.out.below (below_drew1 (Below.refl _ _))).a3.get 2 (show 2 < 8 by decide), (HLf.out.below (below_drew1 (Below.refl _ _))).a3.get 3 (show 3 < 8 by decide), (HLf.out.below (below_drew1 (Below.refl _ _))).a3.get 4 (show 4 < 8 by decide), (HLf.out.below (below_drew1 (Below.refl _ _))).a3.get 5 (show 5 < 8 by decide), (HLf.out.below (below_drew1 (Below.refl _ _))).a3.get 6 (show 6 < 8 by decide), (HLf.out.below (below_drew1 (Below.refl _ _))).a3.get 7 (show 7 < 8 by decide)⟩ (fun hHeld => ?_)
      refine pure_ (i := 0) (N := some 138) (v := ?_) (a' := ?_) #[true, false, false, false, false, false, false, false] rfl rfl (by kernel_rfl) (fun _ _ _ h => h) (Or.inl ⟨by rfl, ?_⟩) ?_ ?_
      rotate_left
      ·
       intro w'
       go_simp
       with_reducible rfl
      rotate_left
      ·
       simp only [Act.put, List.setIfInBounds_toArray, List.set_cons_zero, List.set_cons_succ, i64_w, i32_w]
       rfl
      refine take_ (i := 1) (N := some 139) (v := ?_) (a' := ?_) #[true, true, false, false, false, false, false, false] rfl rfl (by kernel_rfl) (fun _ _ _ h => h) (Or.inl ⟨by rfl, ?_⟩) hHeld ?_ ?_
      rotate_left
      ·
       rintro w' ⟨s0, s1, s2, s3, s4, s5, s6, s7, s8, s9⟩
       go_simp
       with_reducible rfl
      rotate_left
      ·
       simp only [Act.put, List.setIfInBounds_toArray, List.set_cons_zero, List.set_cons_succ, i64_w, i32_w]
       rfl
      refine take_ (i := 3) (N := some 141) (v := ?_) (a' := ?_) #[true, true, false, true, false, false, false, false] rfl rfl (by kernel_rfl) (fun _ _ _ h => h) (Or.inl ⟨by rfl, ?_⟩) hHeld ?_ ?_
      rotate_left
      ·
       rintro w' ⟨s0, s1, s2, s3, s4, s5, s6, s7, s8, s9⟩
       go_simp
       with_reducible rfl
      rotate_left
      ·
       simp only [Act.put, List.setIfInBounds_toArray, List.set_cons_zero, List.set_cons_succ, i64_w, i32_w]
       rfl
      refine one_ (i := 2) (N := some 140) #[true, true, true, true, false, false, false, false] rfl rfl (by kernel_rfl) (by decide) (fun K hK => ?_)
      refine goes_ Try.func19 (by kernel_rfl) rfl #[.agg #[.int .u64 q1, .int .u64 r1]] (by rfl) rfl rfl (by (try simp only [List.map_toArray, List.map_cons, List.map_nil]); first | done | rfl) ?_
      with_reducible refine (offertoryref09_Of.calls q1 r1 oo0 oo1 oo2 oo3 oo4 oo5 oo6 oo7 _ HAO.out).mono ?_
      rintro e x1 ⟨rfl, hb⟩
      have M1 := Aside0.mk ((HLf.out.below (below_drew1 (Below.refl _ _))).below hb)
      clear hb
      refine ⟨_, rfl, ?_⟩
      refine hK.out _ _ ⟨(cellsB M1.out.t.ha).2.2.2.2.1, (cellsB M1.out.t.ha).2.2.2.2.2.1, M1.out.a3.get 0 (show 0 < 8 by decide), M1.out.a3.get 1 (show 1 < 8 by decide), M1.out.a3.get 2 (show 2 < 8 by decide), M1.out.a3.get 3 (show 3 < 8 by decide), M1.out.a3.get 4 (show 4 < 8 by decide), M1.out.a3.get 5 (show 5 < 8 by decide), M1.out.a3.get 6 (show 6 < 8 by decide), M1.out.a3.get 7 (show 7 < 8 by decide)⟩ (fun hHeld => ?_)
      clear hK K
      refine norm_ (a' := ?_) ?_ ?_
      rotate_left
      ·
       show Act.put _ (some 140) _ = _
       simp only [Act.put, List.setIfInBounds_toArray, List.set_cons_zero, List.set_cons_succ, i64_w, i32_w]
       rfl
      refine one_ (i := 4) (N := some 142) #[true, true, true, true, true, false, false, false] rfl rfl (by kernel_rfl) (by decide) (fun K hK => ?_)
      refine goes_ Try.func22 (by kernel_rfl) rfl #[.agg #[.int .u32 oo0, .int .u32 oo1, .int .u32 oo2, .int .u32 oo3, .int .u32 oo4, .int .u32 oo5, .int .u32 oo6, .int .u32 oo7], .agg #[.int .u32 rb0, .int .u32 rb1, .int .u32 rb2, .int .u32 rb3, .int .u32 rb4, .int .u32 rb5, .int .u32 rb6, .int .u32 rb7]] (by rfl) rfl rfl (by (try simp only [List.map_toArray, List.map_cons, List.map_nil]); first | done | rfl) ?_
      with_reducible refine (offertoryref09_Add.calls oo0 oo1 oo2 oo3 oo4 oo5 oo6 oo7 rb0 rb1 rb2 rb3 rb4 rb5 rb6 rb7 uu0 uu1 uu2 uu3 uu4 uu5 uu6 uu7 _ HAU.out).mono ?_
      rintro e x2 ⟨rfl, hb⟩
      have M2 := Aside0.mk (M1.out.below hb)
      clear hb
      refine ⟨_, rfl, ?_⟩
      refine hK.out _ _ ⟨(cellsB M2.out.t.ha).2.2.2.2.1, (cellsB M2.out.t.ha).2.2.2.2.2.1, M2.out.a3.get 0 (show 0 < 8 by decide), M2.out.a3.get 1 (show 1 < 8 by decide), M2.out.a3.get 2 (show 2 < 8 by decide), M2.out.a3.get 3 (show 3 < 8 by decide), M2.out.a3.get 4 (show 4 < 8 by decide), M2.out.a3.get 5 (show 5 < 8 by decide), M2.out.a3.get 6 (show 6 < 8 by decide), M2.out.a3.get 7 (show 7 < 8 by decide)⟩ (fun hHeld => ?_)
      clear hK K
      refine norm_ (a' := ?_) ?_ ?_
      rotate_left
      ·
       show Act.put _ (some 142) _ = _
       simp only [Act.put, List.setIfInBounds_toArray, List.set_cons_zero, List.set_cons_succ, i64_w, i32_w]
       rfl
      refine one_ (i := 5) (N := some 143) #[true, true, true, true, true, true, false, false] rfl rfl (by kernel_rfl) (by decide) (fun K hK => ?_)
      refine goes_ Try.func23 (by kernel_rfl) rfl #[.agg #[.int .u32 uu0, .int .u32 uu1, .int .u32 uu2, .int .u32 uu3, .int .u32 uu4, .int .u32 uu5, .int .u32 uu6, .int .u32 uu7]] (by rfl) rfl rfl (by (try simp only [List.map_toArray, List.map_cons, List.map_nil]); first | done | rfl) ?_
      with_reducible refine (offertoryref09_Big_Wide.calls uu0 uu1 uu2 uu3 uu4 uu5 uu6 uu7 V1 V2 _ HAV.out).mono ?_
      rintro e x3 ⟨rfl, hb⟩
      have M3 := Aside0.mk (M2.out.below hb)
      clear hb
      obtain ⟨hc0, hc1, hc2, hc3, hc4, hc5, hc6⟩ := cellsB M3.out.t.h11
      obtain ⟨fc0, fc1, fc2, fc3, fc4, fc5, fc6⟩ := freesB M3.out.t.h11
      refine ⟨_, rfl, ?_⟩
      refine hK.out _ _ ⟨(cellsB M3.out.t.ha).2.2.2.2.1, (cellsB M3.out.t.ha).2.2.2.2.2.1, M3.out.a3.get 0 (show 0 < 8 by decide), M3.out.a3.get 1 (show 1 < 8 by decide), M3.out.a3.get 2 (show 2 < 8 by decide), M3.out.a3.get 3 (show 3 < 8 by decide), M3.out.a3.get 4 (show 4 < 8 by decide), M3.out.a3.get 5 (show 5 < 8 by decide), M3.out.a3.get 6 (show 6 < 8 by decide), M3.out.a3.get 7 (show 7 < 8 by decide)⟩ (fun hHeld => ?_)
      clear hK K
      refine norm_ (a' := ?_) ?_ ?_
      rotate_left
      ·
       show Act.put _ (some 143) _ = _
       simp only [Act.put, List.setIfInBounds_toArray, List.set_cons_zero, List.set_cons_succ, i64_w, i32_w]
       rfl
      refine pure_ (i := 6) (N := some 144) (v := ?_) (a' := ?_) #[true, true, true, true, true, true, true, false] rfl rfl (by kernel_rfl) (fun _ _ _ h => h) (Or.inl ⟨by rfl, ?_⟩) ?_ ?_
      rotate_left
      ·
       intro w'
       go_simp
       with_reducible rfl
      rotate_left
      ·
       simp only [Act.put, List.setIfInBounds_toArray, List.set_cons_zero, List.set_cons_succ, i64_w, i32_w]
       rfl
      refine last_ (i := 7) (N := none) #[true, true, true, true, true, true, true, true] rfl rfl (by kernel_rfl) (by decide) (fun K hK => ?_)
      refine skip_ (w1 := ?_) ?_ ?_ ?_ ?_
      rotate_left
      ·
       rfl
      ·
       rfl
      ·
       go_simp
       rfl
      refine hK.out _ _ ?_
      clear hK K
      refine done_ (by kernel_rfl) ?_
      refine exit_gen (fun W => Lf w ga gb g6 g11 #[.slice A1 l1.length k1, .int .i64 c1, .int .u64 s1, .int .u64 t1, .int .u64 q1, .int .u64 r1, .bool true] #[.slice A2 l2.length k2, .int .i64 c2, .int .u64 s2, .int .u64 t2, .int .u64 q2, .int .u64 r2, .bool false] #[.slice Av bins.length kv, .int .i64 cnt, .int .u64 S1, .int .u64 S2, .int .u64 V1, .int .u64 V2, .bool gs] (.slice Av bins.length kv) bins g14 g15 g16 [pb0, pb1, pb2, pb3, pb4, pb5, pb6, pb7] [qb0, qb1, qb2, qb3, qb4, qb5, qb6, qb7] [rb0, rb1, rb2, rb3, rb4, rb5, rb6, rb7] W) ((M3.out.own 4 _ rfl).own 5 _ rfl) ?_
      clear HLf M1 M2 M3
      clear hc0 hc1 hc2 hc3 hc4 hc5 hc6 fc0 fc1 fc2 fc3 fc4 fc5 fc6
      intro w45 hL
      have HLf := Aside0.mk hL
      clear hL
      obtain ⟨hc0, hc1, hc2, hc3, hc4, hc5, hc6⟩ := cellsB HLf.out.t.h11
      obtain ⟨fc0, fc1, fc2, fc3, fc4, fc5, fc6⟩ := freesB HLf.out.t.h11
      obtain ⟨h60, h61, h62, h63, h64, h65, h66⟩ := cellsB HLf.out.t.h6
      obtain ⟨f60, f61, f62, f63, f64, f65, f66⟩ := freesB HLf.out.t.h6
      go_wp2
      refine bodyPost_ret (results_ct rfl _ _ g6 27 #[.slice Av bins.length kv, .int .i64 cnt, .int .u64 S1, .int .u64 S2, .int .u64 V1, .int .u64 V2, .bool gs] (0, 0) _ rfl (putB HLf.out.t.h6 _ _ _ _ _ _ _) Try.underlying27 rfl (by kernel_rfl)) rfl ?_
      exact ⟨_, by first | rfl | (simp; done), Kd.R_lower (R_setB0 HLf.out.t.row HLf.out.t.h6 _ _ _ _ _ _ _) HLf.out.t.l11, setB_below HLf.out.t.hw HLf.out.t.l6 _ _ _ _ _ _ _⟩

     ·
      obtain ⟨ha0, ha1, ha2, ha3, ha4, ha5, ha6⟩ := cellsB HLf.out.t.ha
      obtain ⟨hb0, hb1, hb2, hb3, hb4, hb5, hb6⟩ := cellsB HLf.out.t.hb
      have hx0 := HLf.out.a1.get 0 (show 0 < 8 by decide)
      have hx1 := HLf.out.a1.get 1 (show 1 < 8 by decide)
      have hx2 := HLf.out.a1.get 2 (show 2 < 8 by decide)
      have hx3 := HLf.out.a1.get 3 (show 3 < 8 by decide)
      have hx4 := HLf.out.a1.get 4 (show 4 < 8 by decide)
      have hx5 := HLf.out.a1.get 5 (show 5 < 8 by decide)
      have hx6 := HLf.out.a1.get 6 (show 6 < 8 by decide)
      have hx7 := HLf.out.a1.get 7 (show 7 < 8 by decide)
      go_wp2_with fail
      clear hx0 hx1 hx2 hx3 hx4 hx5 hx6 hx7
      clear ha0 ha1 ha2 ha3 ha4 ha5 ha6 hb0 hb1 hb2 hb3 hb4 hb5 hb6
      go_at_call 20
      refine (offertoryref09_Neg.calls pa0 pa1 pa2 pa3 pa4 pa5 pa6 pa7 pb0 pb1 pb2 pb3 pb4 pb5 pb6 pb7 _ HANp.out).mono ?_
      rintro e w31 ⟨rfl, hb⟩
      have HLg := Aside0.mk (HLf.out.below hb)
      clear HLf hb
      have HLf := Aside0.mk HLg.out
      clear HLg
      have hx0 := HLf.out.a1.get 0 (show 0 < 8 by decide)
      have hx1 := HLf.out.a1.get 1 (show 1 < 8 by decide)
      have hx2 := HLf.out.a1.get 2 (show 2 < 8 by decide)
      have hx3 := HLf.out.a1.get 3 (show 3 < 8 by decide)
      have hx4 := HLf.out.a1.get 4 (show 4 < 8 by decide)
      have hx5 := HLf.out.a1.get 5 (show 5 < 8 by decide)
      have hx6 := HLf.out.a1.get 6 (show 6 < 8 by decide)
      have hx7 := HLf.out.a1.get 7 (show 7 < 8 by decide)
      have fx0 := HLf.out.a1.frz 0
      have fx1 := HLf.out.a1.frz 1
      have fx2 := HLf.out.a1.frz 2
      have fx3 := HLf.out.a1.frz 3
      have fx4 := HLf.out.a1.frz 4
      have fx5 := HLf.out.a1.frz 5
      have fx6 := HLf.out.a1.frz 6
      have fx7 := HLf.out.a1.frz 7
      go_upto_region 24 with (fail)
      clear hx0 hx1 hx2 hx3 hx4 hx5 hx6 hx7 fx0 fx1 fx2 fx3 fx4 fx5 fx6 fx7
      refine code_gen (fun W => Lf w ga gb g6 g11 #[.slice A1 l1.length k1, .int .i64 c1, .int .u64 s1, .int .u64 t1, .int .u64 q1, .int .u64 r1, .bool true] #[.slice A2 l2.length k2, .int .i64 c2, .int .u64 s2, .int .u64 t2, .int .u64 q2, .int .u64 r2, .bool true] #[.slice Av bins.length kv, .int .i64 cnt, .int .u64 0, .int .u64 0, .int .u64 0, .int .u64 0, .bool false] (.slice Av bins.length kv) bins g14 g15 g16 [pb0, pb1, pb2, pb3, pb4, pb5, pb6, pb7] [qa0, qa1, qa2, qa3, qa4, qa5, qa6, qa7] [ra0, ra1, ra2, ra3, ra4, ra5, ra6, ra7] W) (HLf.out.put1 rfl pb0 pb1 pb2 pb3 pb4 pb5 pb6 pb7) ?_
      clear HLf
      intro w32 hL
      have HLf := Aside0.mk hL
      clear hL
      obtain ⟨ha0, ha1, ha2, ha3, ha4, ha5, ha6⟩ := cellsB HLf.out.t.ha
      obtain ⟨hb0, hb1, hb2, hb3, hb4, hb5, hb6⟩ := cellsB HLf.out.t.hb
      have hx0 := HLf.out.a2.get 0 (show 0 < 8 by decide)
      have hx1 := HLf.out.a2.get 1 (show 1 < 8 by decide)
      have hx2 := HLf.out.a2.get 2 (show 2 < 8 by decide)
      have hx3 := HLf.out.a2.get 3 (show 3 < 8 by decide)
      have hx4 := HLf.out.a2.get 4 (show 4 < 8 by decide)
      have hx5 := HLf.out.a2.get 5 (show 5 < 8 by decide)
      have hx6 := HLf.out.a2.get 6 (show 6 < 8 by decide)
      have hx7 := HLf.out.a2.get 7 (show 7 < 8 by decide)
      go_wp2_with fail
      clear hx0 hx1 hx2 hx3 hx4 hx5 hx6 hx7
      clear ha0 ha1 ha2 ha3 ha4 ha5 ha6 hb0 hb1 hb2 hb3 hb4 hb5 hb6
      go_at_call 20
      refine (offertoryref09_Neg.calls qa0 qa1 qa2 qa3 qa4 qa5 qa6 qa7 qb0 qb1 qb2 qb3 qb4 qb5 qb6 qb7 _ HANq.out).mono ?_
      rintro e w33 ⟨rfl, hb⟩
      have HLg := Aside0.mk (HLf.out.below hb)
      clear HLf hb
      have HLf := Aside0.mk HLg.out
      clear HLg
      have hx0 := HLf.out.a2.get 0 (show 0 < 8 by decide)
      have hx1 := HLf.out.a2.get 1 (show 1 < 8 by decide)
      have hx2 := HLf.out.a2.get 2 (show 2 < 8 by decide)
      have hx3 := HLf.out.a2.get 3 (show 3 < 8 by decide)
      have hx4 := HLf.out.a2.get 4 (show 4 < 8 by decide)
      have hx5 := HLf.out.a2.get 5 (show 5 < 8 by decide)
      have hx6 := HLf.out.a2.get 6 (show 6 < 8 by decide)
      have hx7 := HLf.out.a2.get 7 (show 7 < 8 by decide)
      have fx0 := HLf.out.a2.frz 0
      have fx1 := HLf.out.a2.frz 1
      have fx2 := HLf.out.a2.frz 2
      have fx3 := HLf.out.a2.frz 3
      have fx4 := HLf.out.a2.frz 4
      have fx5 := HLf.out.a2.frz 5
      have fx6 := HLf.out.a2.frz 6
      have fx7 := HLf.out.a2.frz 7
      go_upto_region 26 with (fail)
      clear hx0 hx1 hx2 hx3 hx4 hx5 hx6 hx7 fx0 fx1 fx2 fx3 fx4 fx5 fx6 fx7
      refine code_gen (fun W => Lf w ga gb g6 g11 #[.slice A1 l1.length k1, .int .i64 c1, .int .u64 s1, .int .u64 t1, .int .u64 q1, .int .u64 r1, .bool true] #[.slice A2 l2.length k2, .int .i64 c2, .int .u64 s2, .int .u64 t2, .int .u64 q2, .int .u64 r2, .bool true] #[.slice Av bins.length kv, .int .i64 cnt, .int .u64 0, .int .u64 0, .int .u64 0, .int .u64 0, .bool false] (.slice Av bins.length kv) bins g14 g15 g16 [pb0, pb1, pb2, pb3, pb4, pb5, pb6, pb7] [qb0, qb1, qb2, qb3, qb4, qb5, qb6, qb7] [ra0, ra1, ra2, ra3, ra4, ra5, ra6, ra7] W) (HLf.out.put2 rfl qb0 qb1 qb2 qb3 qb4 qb5 qb6 qb7) ?_
      clear HLf
      intro w34 hL
      have HLf := Aside0.mk hL
      clear hL
      obtain ⟨ha0, ha1, ha2, ha3, ha4, ha5, ha6⟩ := cellsB HLf.out.t.ha
      obtain ⟨hb0, hb1, hb2, hb3, hb4, hb5, hb6⟩ := cellsB HLf.out.t.hb
      go_upto_region 28 with (fail)
      clear ha0 ha1 ha2 ha3 ha4 ha5 ha6 hb0 hb1 hb2 hb3 hb4 hb5 hb6
      have HE2 : Aside0 ((ra0, ra1, ra2, ra3, ra4, ra5, ra6, ra7) = (rb0, rb1, rb2, rb3, rb4, rb5, rb6, rb7)) := ⟨Option.some.inj HANr.out⟩
      have HLg : Aside0 (Lf w ga gb g6 g11 #[.slice A1 l1.length k1, .int .i64 c1, .int .u64 s1, .int .u64 t1, .int .u64 q1, .int .u64 r1, .bool true] #[.slice A2 l2.length k2, .int .i64 c2, .int .u64 s2, .int .u64 t2, .int .u64 q2, .int .u64 r2, .bool true] #[.slice Av bins.length kv, .int .i64 cnt, .int .u64 0, .int .u64 0, .int .u64 0, .int .u64 0, .bool false] (.slice Av bins.length kv) bins g14 g15 g16 [pb0, pb1, pb2, pb3, pb4, pb5, pb6, pb7] [qb0, qb1, qb2, qb3, qb4, qb5, qb6, qb7] [rb0, rb1, rb2, rb3, rb4, rb5, rb6, rb7] _) := ⟨by have e := HE2.out; simp only [Prod.mk.injEq] at e; obtain ⟨rfl, rfl, rfl, rfl, rfl, rfl, rfl, rfl⟩ := e; exact HLf.out⟩
      clear HLf HE2
      have HLf := Aside0.mk HLg.out
      clear HLg
      have hx0 := HLf.out.a1.get 0 (show 0 < 8 by decide)
      have hx1 := HLf.out.a1.get 1 (show 1 < 8 by decide)
      have hx2 := HLf.out.a1.get 2 (show 2 < 8 by decide)
      have hx3 := HLf.out.a1.get 3 (show 3 < 8 by decide)
      have hx4 := HLf.out.a1.get 4 (show 4 < 8 by decide)
      have hx5 := HLf.out.a1.get 5 (show 5 < 8 by decide)
      have hx6 := HLf.out.a1.get 6 (show 6 < 8 by decide)
      have hx7 := HLf.out.a1.get 7 (show 7 < 8 by decide)
      have hy0 := HLf.out.a2.get 0 (show 0 < 8 by decide)
      have hy1 := HLf.out.a2.get 1 (show 1 < 8 by decide)
      have hy2 := HLf.out.a2.get 2 (show 2 < 8 by decide)
      have hy3 := HLf.out.a2.get 3 (show 3 < 8 by decide)
      have hy4 := HLf.out.a2.get 4 (show 4 < 8 by decide)
      have hy5 := HLf.out.a2.get 5 (show 5 < 8 by decide)
      have hy6 := HLf.out.a2.get 6 (show 6 < 8 by decide)
      have hy7 := HLf.out.a2.get 7 (show 7 < 8 by decide)
      go_wp2_with fail
      clear hx0 hx1 hx2 hx3 hx4 hx5 hx6 hx7 hy0 hy1 hy2 hy3 hy4 hy5 hy6 hy7
      go_at_call 22
      refine (offertoryref09_Add.calls pb0 pb1 pb2 pb3 pb4 pb5 pb6 pb7 qb0 qb1 qb2 qb3 qb4 qb5 qb6 qb7 zz0 zz1 zz2 zz3 zz4 zz5 zz6 zz7 _ HAZ.out).mono ?_
      rintro e w40 ⟨rfl, hb⟩
      have HLg := Aside0.mk (HLf.out.below hb)
      clear HLf hb
      have HLf := Aside0.mk HLg.out
      clear HLg
      go_wp2_with fail
      go_at_call 21
      refine (offertoryref09_Signed.calls zz0 zz1 zz2 zz3 zz4 zz5 zz6 zz7 gg0 gg1 gg2 gg3 gg4 gg5 gg6 gg7 gs _ HAG.out).mono ?_
      rintro e w41 ⟨rfl, hb⟩
      have HLg := Aside0.mk (HLf.out.below hb)
      clear HLf hb
      have HLf := Aside0.mk HLg.out
      clear HLg
      go_upto_region 29 with (fail)
      obtain ⟨g17, hg17⟩ : ∃ g, g = w41.heap.size := ⟨_, rfl⟩
      rw [← hg17]
      refine code_gen (fun W => Lf w ga gb g6 g11 #[.slice A1 l1.length k1, .int .i64 c1, .int .u64 s1, .int .u64 t1, .int .u64 q1, .int .u64 r1, .bool true] #[.slice A2 l2.length k2, .int .i64 c2, .int .u64 s2, .int .u64 t2, .int .u64 q2, .int .u64 r2, .bool true] #[.slice Av bins.length kv, .int .i64 cnt, .int .u64 0, .int .u64 0, .int .u64 0, .int .u64 0, .bool false] (.slice Av bins.length kv) bins g14 g15 g16 [pb0, pb1, pb2, pb3, pb4, pb5, pb6, pb7] [qb0, qb1, qb2, qb3, qb4, qb5, qb6, qb7] [rb0, rb1, rb2, rb3, rb4, rb5, rb6, rb7] W ∧ ArrAt W g17 52 .u32 [gg0, gg1, gg2, gg3, gg4, gg5, gg6, gg7]) ⟨HLf.out.below (below_alloc (Below.refl _ _) _), by rw [hg17]; exact blk_new w41 _⟩ ?_
      clear HLf hg17
      rintro w42 ⟨hL, hA⟩
      have HLf := Aside0.mk hL
      have HA17 := Aside0.mk hA
      clear hL hA
      have hx0 := HA17.out.get 0 (show 0 < 8 by decide)
      have hx1 := HA17.out.get 1 (show 1 < 8 by decide)
      have hx2 := HA17.out.get 2 (show 2 < 8 by decide)
      have hx3 := HA17.out.get 3 (show 3 < 8 by decide)
      have hx4 := HA17.out.get 4 (show 4 < 8 by decide)
      have hx5 := HA17.out.get 5 (show 5 < 8 by decide)
      have hx6 := HA17.out.get 6 (show 6 < 8 by decide)
      have hx7 := HA17.out.get 7 (show 7 < 8 by decide)
      go_wp2_with fail
      clear hx0 hx1 hx2 hx3 hx4 hx5 hx6 hx7
      clear HA17
      go_at_call 23
      refine (offertoryref09_Big_Wide.calls gg0 gg1 gg2 gg3 gg4 gg5 gg6 gg7 S1 S2 _ HAS.out).mono ?_
      rintro e w43 ⟨rfl, hb⟩
      have HLg := Aside0.mk (HLf.out.below hb)
      clear HLf hb
      have HLf := Aside0.mk HLg.out
      clear HLg
      obtain ⟨hc0, hc1, hc2, hc3, hc4, hc5, hc6⟩ := cellsB HLf.out.t.h11
      obtain ⟨fc0, fc1, fc2, fc3, fc4, fc5, fc6⟩ := freesB HLf.out.t.h11
      go_upto_region 30 with (fail)
      clear hc0 hc1 hc2 hc3 hc4 hc5 hc6 fc0 fc1 fc2 fc3 fc4 fc5 fc6
      refine code_gen (fun W => Lf w ga gb g6 g11 #[.slice A1 l1.length k1, .int .i64 c1, .int .u64 s1, .int .u64 t1, .int .u64 q1, .int .u64 r1, .bool true] #[.slice A2 l2.length k2, .int .i64 c2, .int .u64 s2, .int .u64 t2, .int .u64 q2, .int .u64 r2, .bool true] #[.slice Av bins.length kv, .int .i64 cnt, .int .u64 S1, .int .u64 S2, .int .u64 0, .int .u64 0, .bool gs] (.slice Av bins.length kv) bins g14 g15 g16 [pb0, pb1, pb2, pb3, pb4, pb5, pb6, pb7] [qb0, qb1, qb2, qb3, qb4, qb5, qb6, qb7] [rb0, rb1, rb2, rb3, rb4, rb5, rb6, rb7] W) (((HLf.out.own 2 _ rfl).own 3 _ rfl).own 6 _ rfl) ?_
      clear HLf
      intro w44 hL
      have HLf := Aside0.mk hL
      clear hL
      refine start_ (n := 8) (S := fun w' => w'.cell? ⟨ga, 4, none⟩ = some (.int .u64 q1) ∧ w'.cell? ⟨ga, 5, none⟩ = some (.int .u64 r1) ∧ w'.cell? ⟨g16, 0, none⟩ = some (.int .u32 rb0) ∧ w'.cell? ⟨g16, 1, none⟩ = some (.int .u32 rb1) ∧ w'.cell? ⟨g16, 2, none⟩ = some (.int .u32 rb2) ∧ w'.cell? ⟨g16, 3, none⟩ = some (.int .u32 rb3) ∧ w'.cell? ⟨g16, 4, none⟩ = some (.int .u32 rb4) ∧ w'.cell? ⟨g16, 5, none⟩ = some (.int .u32 rb5) ∧ w'.cell? ⟨g16, 6, none⟩ = some (.int .u32 rb6) ∧ w'.cell? ⟨g16, 7, none⟩ = some (.int .u32 rb7)) (ds := [7]) #[false, false, false, false, false, false, false, false] (by kernel_rfl) rfl rfl ⟨(cellsB (HLf.out.below (below_drew1 (Below.refl _ _))).t.ha).2.2.2.2.1, (cellsB (HLf.out.below (below_drew1 (Below.refl _ _))).t.ha).2.2.2.2.2.1, (HLf.out.below (below_drew1 (Below.refl _ _))).a3.get 0 (show 0 < 8 by decide), (HLf.out.below (below_drew1 (Below.refl _ _))).a3.get 1 (show 1 < 8 by decide), (HLf.out.below (below_drew1 (Below.refl _ _))).a3.get 2 (show 2 < 8 by decide), (HLf.out.below (below_drew1 (Below.refl _ _))).a3.get 3 (show 3 < 8 by decide), (HLf.out.below (below_drew1 (Below.refl _ _))).a3.get 4 (show 4 < 8 by decide), (HLf.out.below (below_drew1 (Below.refl _ _))).a3.get 5 (show 5 < 8 by decide), (HLf.out.below (below_drew1 (Below.refl _ _))).a3.get 6 (show 6 < 8 by decide), (HLf.out.below (below_drew1 (Below.refl _ _))).a3.get 7 (show 7 < 8 by decide)⟩ (fun hHeld => ?_)
      refine pure_ (i := 0) (N := some 138) (v := ?_) (a' := ?_) #[true, false, false, false, false, false, false, false] rfl rfl (by kernel_rfl) (fun _ _ _ h => h) (Or.inl ⟨by rfl, ?_⟩) ?_ ?_
      rotate_left
      ·
       intro w'
       go_simp
       with_reducible rfl
      rotate_left
      ·
       simp only [Act.put, List.setIfInBounds_toArray, List.set_cons_zero, List.set_cons_succ, i64_w, i32_w]
       rfl
      refine take_ (i := 1) (N := some 139) (v := ?_) (a' := ?_) #[true, true, false, false, false, false, false, false] rfl rfl (by kernel_rfl) (fun _ _ _ h => h) (Or.inl ⟨by rfl, ?_⟩) hHeld ?_ ?_
      rotate_left
      ·
       rintro w' ⟨s0, s1, s2, s3, s4, s5, s6, s7, s8, s9⟩
       go_simp
       with_reducible rfl
      rotate_left
      ·
       simp only [Act.put, List.setIfInBounds_toArray, List.set_cons_zero, List.set_cons_succ, i64_w, i32_w]
       rfl
      refine take_ (i := 3) (N := some 141) (v := ?_) (a' := ?_) #[true, true, false, true, false, false, false, false] rfl rfl (by kernel_rfl) (fun _ _ _ h => h) (Or.inl ⟨by rfl, ?_⟩) hHeld ?_ ?_
      rotate_left
      ·
       rintro w' ⟨s0, s1, s2, s3, s4, s5, s6, s7, s8, s9⟩
       go_simp
       with_reducible rfl
      rotate_left
      ·
       simp only [Act.put, List.setIfInBounds_toArray, List.set_cons_zero, List.set_cons_succ, i64_w, i32_w]
       rfl
      refine one_ (i := 2) (N := some 140) #[true, true, true, true, false, false, false, false] rfl rfl (by kernel_rfl) (by decide) (fun K hK => ?_)
      refine goes_ Try.func19 (by kernel_rfl) rfl #[.agg #[.int .u64 q1, .int .u64 r1]] (by rfl) rfl rfl (by (try simp only [List.map_toArray, List.map_cons, List.map_nil]); first | done | rfl) ?_
      with_reducible refine (offertoryref09_Of.calls q1 r1 oo0 oo1 oo2 oo3 oo4 oo5 oo6 oo7 _ HAO.out).mono ?_
      rintro e x1 ⟨rfl, hb⟩
      have M1 := Aside0.mk ((HLf.out.below (below_drew1 (Below.refl _ _))).below hb)
      clear hb
      refine ⟨_, rfl, ?_⟩
      refine hK.out _ _ ⟨(cellsB M1.out.t.ha).2.2.2.2.1, (cellsB M1.out.t.ha).2.2.2.2.2.1, M1.out.a3.get 0 (show 0 < 8 by decide), M1.out.a3.get 1 (show 1 < 8 by decide), M1.out.a3.get 2 (show 2 < 8 by decide), M1.out.a3.get 3 (show 3 < 8 by decide), M1.out.a3.get 4 (show 4 < 8 by decide), M1.out.a3.get 5 (show 5 < 8 by decide), M1.out.a3.get 6 (show 6 < 8 by decide), M1.out.a3.get 7 (show 7 < 8 by decide)⟩ (fun hHeld => ?_)
      clear hK K
      refine norm_ (a' := ?_) ?_ ?_
      rotate_left
      ·
       show Act.put _ (some 140) _ = _
       simp only [Act.put, List.setIfInBounds_toArray, List.set_cons_zero, List.set_cons_succ, i64_w, i32_w]
       rfl
      refine one_ (i := 4) (N := some 142) #[true, true, true, true, true, false, false, false] rfl rfl (by kernel_rfl) (by decide) (fun K hK => ?_)
      refine goes_ Try.func22 (by kernel_rfl) rfl #[.agg #[.int .u32 oo0, .int .u32 oo1, .int .u32 oo2, .int .u32 oo3, .int .u32 oo4, .int .u32 oo5, .int .u32 oo6, .int .u32 oo7], .agg #[.int .u32 rb0, .int .u32 rb1, .int .u32 rb2, .int .u32 rb3, .int .u32 rb4, .int .u32 rb5, .int .u32 rb6, .int .u32 rb7]] (by rfl) rfl rfl (by (try simp only [List.map_toArray, List.map_cons, List.map_nil]); first | done | rfl) ?_
      with_reducible refine (offertoryref09_Add.calls oo0 oo1 oo2 oo3 oo4 oo5 oo6 oo7 rb0 rb1 rb2 rb3 rb4 rb5 rb6 rb7 uu0 uu1 uu2 uu3 uu4 uu5 uu6 uu7 _ HAU.out).mono ?_
      rintro e x2 ⟨rfl, hb⟩
      have M2 := Aside0.mk (M1.out.below hb)
      clear hb
      refine ⟨_, rfl, ?_⟩
      refine hK.out _ _ ⟨(cellsB M2.out.t.ha).2.2.2.2.1, (cellsB M2.out.t.ha).2.2.2.2.2.1, M2.out.a3.get 0 (show 0 < 8 by decide), M2.out.a3.get 1 (show 1 < 8 by decide), M2.out.a3.get 2 (show 2 < 8 by decide), M2.out.a3.get 3 (show 3 < 8 by decide), M2.out.a3.get 4 (show 4 < 8 by decide), M2.out.a3.get 5 (show 5 < 8 by decide), M2.out.a3.get 6 (show 6 < 8 by decide), M2.out.a3.get 7 (show 7 < 8 by decide)⟩ (fun hHeld => ?_)
      clear hK K
      refine norm_ (a' := ?_) ?_ ?_
      rotate_left
      ·
       show Act.put _ (some 142) _ = _
       simp only [Act.put, List.setIfInBounds_toArray, List.set_cons_zero, List.set_cons_succ, i64_w, i32_w]
       rfl
      refine one_ (i := 5) (N := some 143) #[true, true, true, true, true, true, false, false] rfl rfl (by kernel_rfl) (by decide) (fun K hK => ?_)
      refine goes_ Try.func23 (by kernel_rfl) rfl #[.agg #[.int .u32 uu0, .int .u32 uu1, .int .u32 uu2, .int .u32 uu3, .int .u32 uu4, .int .u32 uu5, .int .u32 uu6, .int .u32 uu7]] (by rfl) rfl rfl (by (try simp only [List.map_toArray, List.map_cons, List.map_nil]); first | done | rfl) ?_
      with_reducible refine (offertoryref09_Big_Wide.calls uu0 uu1 uu2 uu3 uu4 uu5 uu6 uu7 V1 V2 _ HAV.out).mono ?_
      rintro e x3 ⟨rfl, hb⟩
      have M3 := Aside0.mk (M2.out.below hb)
      clear hb
      obtain ⟨hc0, hc1, hc2, hc3, hc4, hc5, hc6⟩ := cellsB M3.out.t.h11
      obtain ⟨fc0, fc1, fc2, fc3, fc4, fc5, fc6⟩ := freesB M3.out.t.h11
      refine ⟨_, rfl, ?_⟩
      refine hK.out _ _ ⟨(cellsB M3.out.t.ha).2.2.2.2.1, (cellsB M3.out.t.ha).2.2.2.2.2.1, M3.out.a3.get 0 (show 0 < 8 by decide), M3.out.a3.get 1 (show 1 < 8 by decide), M3.out.a3.get 2 (show 2 < 8 by decide), M3.out.a3.get 3 (show 3 < 8 by decide), M3.out.a3.get 4 (show 4 < 8 by decide), M3.out.a3.get 5 (show 5 < 8 by decide), M3.out.a3.get 6 (show 6 < 8 by decide), M3.out.a3.get 7 (show 7 < 8 by decide)⟩ (fun hHeld => ?_)
      clear hK K
      refine norm_ (a' := ?_) ?_ ?_
      rotate_left
      ·
       show Act.put _ (some 143) _ = _
       simp only [Act.put, List.setIfInBounds_toArray, List.set_cons_zero, List.set_cons_succ, i64_w, i32_w]
       rfl
      refine pure_ (i := 6) (N := some 144) (v := ?_) (a' := ?_) #[true, true, true, true, true, true, true, false] rfl rfl (by kernel_rfl) (fun _ _ _ h => h) (Or.inl ⟨by rfl, ?_⟩) ?_ ?_
      rotate_left
      ·
       intro w'
       go_simp
       with_reducible rfl
      rotate_left
      ·
       simp only [Act.put, List.setIfInBounds_toArray, List.set_cons_zero, List.set_cons_succ, i64_w, i32_w]
       rfl
      refine last_ (i := 7) (N := none) #[true, true, true, true, true, true, true, true] rfl rfl (by kernel_rfl) (by decide) (fun K hK => ?_)
      refine skip_ (w1 := ?_) ?_ ?_ ?_ ?_
      rotate_left
      ·
       rfl
      ·
       rfl
      ·
       go_simp
       rfl
      refine hK.out _ _ ?_
      clear hK K
      refine done_ (by kernel_rfl) ?_
      refine exit_gen (fun W => Lf w ga gb g6 g11 #[.slice A1 l1.length k1, .int .i64 c1, .int .u64 s1, .int .u64 t1, .int .u64 q1, .int .u64 r1, .bool true] #[.slice A2 l2.length k2, .int .i64 c2, .int .u64 s2, .int .u64 t2, .int .u64 q2, .int .u64 r2, .bool true] #[.slice Av bins.length kv, .int .i64 cnt, .int .u64 S1, .int .u64 S2, .int .u64 V1, .int .u64 V2, .bool gs] (.slice Av bins.length kv) bins g14 g15 g16 [pb0, pb1, pb2, pb3, pb4, pb5, pb6, pb7] [qb0, qb1, qb2, qb3, qb4, qb5, qb6, qb7] [rb0, rb1, rb2, rb3, rb4, rb5, rb6, rb7] W) ((M3.out.own 4 _ rfl).own 5 _ rfl) ?_
      clear HLf M1 M2 M3
      clear hc0 hc1 hc2 hc3 hc4 hc5 hc6 fc0 fc1 fc2 fc3 fc4 fc5 fc6
      intro w45 hL
      have HLf := Aside0.mk hL
      clear hL
      obtain ⟨hc0, hc1, hc2, hc3, hc4, hc5, hc6⟩ := cellsB HLf.out.t.h11
      obtain ⟨fc0, fc1, fc2, fc3, fc4, fc5, fc6⟩ := freesB HLf.out.t.h11
      obtain ⟨h60, h61, h62, h63, h64, h65, h66⟩ := cellsB HLf.out.t.h6
      obtain ⟨f60, f61, f62, f63, f64, f65, f66⟩ := freesB HLf.out.t.h6
      go_wp2
      refine bodyPost_ret (results_ct rfl _ _ g6 27 #[.slice Av bins.length kv, .int .i64 cnt, .int .u64 S1, .int .u64 S2, .int .u64 V1, .int .u64 V2, .bool gs] (0, 0) _ rfl (putB HLf.out.t.h6 _ _ _ _ _ _ _) Try.underlying27 rfl (by kernel_rfl)) rfl ?_
      exact ⟨_, by first | rfl | (simp; done), Kd.R_lower (R_setB0 HLf.out.t.row HLf.out.t.h6 _ _ _ _ _ _ _) HLf.out.t.l11, setB_below HLf.out.t.hw HLf.out.t.l6 _ _ _ _ _ _ _⟩


end Go.Proofs.Yticihbccflflfaa.PAll
