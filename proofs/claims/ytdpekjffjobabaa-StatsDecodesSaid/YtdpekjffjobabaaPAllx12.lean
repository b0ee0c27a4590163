/- The Go functions that the laws reach, as Lean functions, and that each call comes to what its function says. Written by a program of this session (a turned copy of the kit's print). No condition beyond those that each theorem states. -/
import Derived.Test.YtdpekjffjobabaaPAllx0
import Derived.Test.YtdpekjffjobabaaPAllx3
import Derived.Test.YtdpekjffjobabaaPAllx9
import Derived.Test.YtdpekjffjobabaaPAllx10
import Derived.Test.YtdpekjffjobabaaPAllx11
namespace Go.Proofs.Ytdpekjffjobabaa.PAll
open Go.RowKit Go.Proofs.YtdpekjffjobabaaW.PrintWords Go.Proofs.YtdpekjffjobabaaW.PrintLast Go.Proofs.YtdpekjffjobabaaW.PrintMore
attribute [local go_sem] max2_int min2_int max_two min_two max_three min_three max_four min_four   -- for this text's walks alone
set_option linter.unusedVariables false
set_option linter.unusedSimpArgs false

/-! ### offertoryref09_Decode: function 15 -/
/-! ### the document's Decode (seat 13) -/
theorem rdH (l : List Int) (i : Nat) : rd l (i : Int) = l.getD i 0 := rfl
theorem wpl_genH {P : Program} {ops : Array Oper} {Q : Exit → Act → World → Prop} {l : List Oper} {a : Act} {W : World} (I : World → Prop) (h : I W) (k : ∀ W', I W' → wpList P ops Q l a W') : wpList P ops Q l a W := k W h
theorem u32_cell {w : World} {ad : Addr} {v : List Int} (h : Kd.C (Kd.int .u32) w (some ad) v.length v) (i : Nat) (hi : i < v.length) : w.cell? (ad.add i) = some (.int .u32 (v.getD i 0)) := by
  obtain ⟨ad1, e1, hx1⟩ := Kd.at_int h (i : Int) (by omega) (by omega)
  cases e1
  rw [rdH, Int.toNat_natCast] at hx1
  exact hx1
theorem takeS (v : List Int) (i : Nat) (hi : i < v.length) : (v.take (i + 1)).sum = (v.take i).sum + v.getD i 0 ∧ v.take (i + 1) = v.take i ++ [v.getD i 0] := by
  have e : v.take (i + 1) = v.take i ++ [v.getD i 0] := by rw [List.take_succ_eq_append_getElem hi]; simp [List.getD, hi]
  refine ⟨?_, e⟩
  rw [e, List.sum_append]
  simp
theorem takeS_in {v : List Int} (h : ∀ i, 0 ≤ v.getD i 0 ∧ v.getD i 0 ≤ 4294967295) : ∀ i : Nat, 0 ≤ (v.take i).sum ∧ (v.take i).sum ≤ 4294967295 * i
  | 0 => by simp
  | i + 1 => by
    have ih := takeS_in h i
    have hv := h i
    by_cases hi : i < v.length
    · rw [(takeS v i hi).1]; omega
    · rw [List.take_of_length_le (by omega)] at ih ⊢; omega
def dT (b : Nat) (cnt : Int) (d : List Int) : Nat → Bool → Int → Int → Bool × Int × Int
  | 0, s, P, Q => (s, P, Q)
  | i + 1, s, P, Q => dT b cnt d i (s || decide (cnt < d.getD i 0)) (if b ≤ i then P else P + P + d.getD i 0) (if b ≤ i then Q + Q + d.getD i 0 else Q)
def decR (lo : Int) (N b : Nat) (v : List Int) : List Int × Int × Int × Int × Int × Int × Bool × Int :=
  if (dT b (v.getD N 0) (v.drop (N + 1)) (3 * b) ((v.take N).sum != v.getD N 0) 0 0).1 = true then ([], 0, 0, 0, 0, 0, false, 11) else
    (v.take N, v.getD N 0, (wdH (absH ((dT b (v.getD N 0) (v.drop (N + 1)) (3 * b) ((v.take N).sum != v.getD N 0) 0 0).2.1 + v.getD N 0 * lo))).1, (wdH (absH ((dT b (v.getD N 0) (v.drop (N + 1)) (3 * b) ((v.take N).sum != v.getD N 0) 0 0).2.1 + v.getD N 0 * lo))).2,
      (wdH ((dT b (v.getD N 0) (v.drop (N + 1)) (3 * b) ((v.take N).sum != v.getD N 0) 0 0).2.2 + (lo + lo) * (dT b (v.getD N 0) (v.drop (N + 1)) (3 * b) ((v.take N).sum != v.getD N 0) 0 0).2.1 + v.getD N 0 * (lo * lo))).1, (wdH ((dT b (v.getD N 0) (v.drop (N + 1)) (3 * b) ((v.take N).sum != v.getD N 0) 0 0).2.2 + (lo + lo) * (dT b (v.getD N 0) (v.drop (N + 1)) (3 * b) ((v.take N).sum != v.getD N 0) 0 0).2.1 + v.getD N 0 * (lo * lo))).2,
      negH ((dT b (v.getD N 0) (v.drop (N + 1)) (3 * b) ((v.take N).sum != v.getD N 0) 0 0).2.1 + v.getD N 0 * lo), 0)
def offertoryref09_Decode.f (k : Nat) (lo hi most : Int) (es v : List Int) : Option (List Int × Int × Int × Int × Int × Int × Bool × Int) :=
  (offertoryref09_Bits.f k lo hi most es).bind fun b => if (1 ≤ b ∧ b ≤ 64) ∧ es.length ≤ 1000 ∧ v.length = es.length + 2 + 3 * b.toNat ∧ (∀ x ∈ v, 0 ≤ x ∧ x ≤ 4294967295) ∧ (-9223372036854775808 ≤ lo ∧ lo ≤ 9223372036854775807) then some (decR lo (es.length + 1) b.toNat v) else none
theorem offertoryref09_Decode.mono : ∀ a0 a1 a2 a3 a4 k, LeO (offertoryref09_Decode.f k a0 a1 a2 a3 a4) (offertoryref09_Decode.f (k + 1) a0 a1 a2 a3 a4) := by
  intro a0 a1 a2 a3 a4 k
  unfold offertoryref09_Decode.f
  exact LeO.bind (offertoryref09_Bits.mono _ _ _ _ _) fun b => LeO.refl _
set_option maxHeartbeats 16000000 in
set_option maxRecDepth 100000 in
theorem refdec_walk (k : Nat) (lo hi most : Int) (A0 : Option Addr) (c0 : Nat) (es : List Int) (Av : Option Addr) (cv : Nat) (v : List Int) (w : World) (N B : Nat) (cnt : Int) (r1 : List Int) (r2 r3 r4 r5 r6 : Int) (r7 : Bool) (r8 : Int)
    (hr0 : Kd.C (Kd.int .i64) w A0 es.length es) (hc0 : es.length ≤ c0) (hrv : Kd.C (Kd.int .u32) w Av v.length v) (hcv : v.length ≤ cv) (hN : N = es.length + 1) (hn : es.length ≤ 1000) (hB : 1 ≤ B ∧ B ≤ 64) (hv : v.length = N + 1 + 3 * B) (he : ∀ i, 0 ≤ v.getD i 0 ∧ v.getD i 0 ≤ 4294967295) (hlo : -9223372036854775808 ≤ lo ∧ lo ≤ 9223372036854775807)
    (ab : offertoryref09_Bits.f k lo hi most es = some (B : Int)) (hcnt : cnt = v.getD N 0) (hz : decR lo N B v = (r1, r2, r3, r4, r5, r6, r7, r8)) :
    Calls Try.prog 15 #[.agg #[.int .i64 lo, .int .i64 hi, .int .i64 most, .slice A0 es.length c0], .slice Av v.length cv] w fun e w' => ∃ v0_ : Value, e = .returned (.tuple #[.agg #[v0_, .int .i64 r2, .int .u64 r3, .int .u64 r4, .int .u64 r5, .int .u64 r6, .bool r7], .int .i64 r8]) ∧ Kd.R (Kd.int .i64) 3 w' w.heap.size (fun _ => True) v0_ r1 ∧ Below w.heap.size w w' := by
  have hu24 := Try.underlying24
  have hu29 := Try.underlying29
  have hu45 := Try.underlying45
  have HR0 := Aside0.mk hr0
  have HC0 := Aside0.mk hc0
  have HRV := Aside0.mk hrv
  have HCV := Aside0.mk hcv
  have NN := Aside0.mk (⟨hN, hn, hB, hv⟩ : N = es.length + 1 ∧ es.length ≤ 1000 ∧ (1 ≤ B ∧ B ≤ 64) ∧ v.length = N + 1 + 3 * B)
  have VE := Aside0.mk he
  have LO := Aside0.mk hlo
  have AB := Aside0.mk ab
  have CN := Aside0.mk hcnt
  have HZ := Aside0.mk hz
  have hNw : wrap64 ((es.length : Int) + 1) = (N : Int) := by unfold wrap64; omega
  have hcr : 0 ≤ cnt ∧ cnt ≤ 4294967295 := by rw [hcnt]; exact he N
  have CR := Aside0.mk hcr
  clear hr0 hc0 hrv hcv hN hn hB hv he hlo ab hcnt hz hcr
  go_enter Try.func15, Try.ntmps15
  go_wp2_with (first | ((with_reducible refine gate_dst (N := 2) rfl ?_); refine box_event ?hg (N := 2) ?hd (cs := #[.int .i64 lo, .int .i64 hi, .int .i64 most, .slice A0 es.length c0]) (t := 24) ?hr ?_; (case hd => rfl); (case hg => rfl); (case hr => first | (go_simp; done) | (go_simp; rfl)); intro gp hg wa1 hbox hb; have H0 : Aside0 (Hp w [(gp, 24, #[.int .i64 lo, .int .i64 hi, .int .i64 most, .slice A0 es.length c0])] (.slice none 0 0) [] wa1) := ⟨(Hp.none_ w).box (Nat.le_of_eq hg.symm) hbox hb (by decide)⟩; clear hb hbox hg; obtain ⟨hp0, hp1, hp2, hp3⟩ := cells4H (H0.out.get 0 rfl)) | ((with_reducible refine gate_dst (N := 4) rfl ?_); refine box_event ?hg (N := 4) ?hd (cs := #[.slice none 0 0, .int .i64 0, .int .u64 0, .int .u64 0, .int .u64 0, .int .u64 0, .bool false]) (t := 29) ?hr ?_; (case hd => rfl); (case hg => rfl); (case hr => first | (go_simp; done) | (go_simp; rfl)); intro g4 hg wa2 hbox hb; have H1 : Aside0 (Hp w [(gp, 24, #[.int .i64 lo, .int .i64 hi, .int .i64 most, .slice A0 es.length c0]), (g4, 29, #[.slice none 0 0, .int .i64 0, .int .u64 0, .int .u64 0, .int .u64 0, .int .u64 0, .bool false])] (.slice none 0 0) [] wa2) := ⟨H0.out.box (Nat.le_of_eq hg.symm) hbox hb (by decide)⟩; clear hb hbox hg hp0 hp1 hp2 hp3))
  obtain ⟨wd, ewd⟩ : ∃ x, x = wa2.drew := ⟨_, rfl⟩
  have HD : Aside0 (Hp w [(gp, 24, #[.int .i64 lo, .int .i64 hi, .int .i64 most, .slice A0 es.length c0]), (g4, 29, #[.slice none 0 0, .int .i64 0, .int .u64 0, .int .u64 0, .int .u64 0, .int .u64 0, .bool false])] (.slice none 0 0) [] wd) := ⟨by rw [ewd]; exact H1.out.drew⟩
  clear H0 H1
  refine start_ (n := 8) (S := fun w' => w'.cell? ⟨gp, 0, none⟩ = some (.int .i64 lo) ∧ w'.cell? ⟨gp, 1, none⟩ = some (.int .i64 hi) ∧ w'.cell? ⟨gp, 2, none⟩ = some (.int .i64 most) ∧ w'.cell? ⟨gp, 3, none⟩ = some (.slice A0 es.length c0)) (ds := []) #[false, false, false, false, false, false, false, false] (by kernel_rfl) rfl rfl (by rw [← ewd]; exact cells4H (HD.out.get 0 rfl)) (fun hHeld => ?_)
  rw [← ewd] at hHeld ⊢
  clear ewd
  refine pure_ (i := 0) (N := some 20) (v := ?_) (a' := ?_) #[true, false, false, false, false, false, false, false] rfl rfl (by kernel_rfl) (fun _ _ _ h => h) (Or.inl ⟨by rfl, ?_⟩) ?_ ?_
  rotate_left
  · intro w'
    go_simp
    with_reducible rfl
  rotate_left
  · simp only [Act.put, List.setIfInBounds_toArray, List.set_cons_zero, List.set_cons_succ, i64_w, i32_w]
    rfl
  refine take_ (i := 1) (N := some 21) (v := ?_) (a' := ?_) #[true, true, false, false, false, false, false, false] rfl rfl (by kernel_rfl) (fun _ _ _ h => h) (Or.inl ⟨by rfl, ?_⟩) hHeld ?_ ?_
  rotate_left
  · rintro w' ⟨s0, s1, s2, s3⟩
    go_simp
    with_reducible rfl
  rotate_left
  · simp only [Act.put, List.setIfInBounds_toArray, List.set_cons_zero, List.set_cons_succ, i64_w, i32_w]
    rfl
  refine pure_ (i := 2) (N := some 22) (v := ?_) (a' := ?_) #[true, true, true, false, false, false, false, false] rfl rfl (by kernel_rfl) (fun _ _ _ h => h) (Or.inl ⟨by rfl, ?_⟩) ?_ ?_
  rotate_left
  · intro w'
    go_simp
    with_reducible rfl
  rotate_left
  · simp only [Act.put, List.setIfInBounds_toArray, List.set_cons_zero, List.set_cons_succ, i64_w, i32_w]
    rfl
  refine pure_ (i := 3) (N := some 23) (v := ?_) (a' := ?_) #[true, true, true, true, false, false, false, false] rfl rfl (by kernel_rfl) (fun _ _ _ h => h) (Or.inl ⟨by rfl, ?_⟩) ?_ ?_
  rotate_left
  · intro w'
    go_simp
    with_reducible rfl
  rotate_left
  · simp only [Act.put, List.setIfInBounds_toArray, List.set_cons_zero, List.set_cons_succ, i64_w, i32_w]
    rfl
  refine take_ (i := 4) (N := some 24) (v := ?_) (a' := ?_) #[true, true, true, true, true, false, false, false] rfl rfl (by kernel_rfl) (fun _ _ _ h => h) (Or.inl ⟨by rfl, ?_⟩) hHeld ?_ ?_
  rotate_left
  · rintro w' ⟨s0, s1, s2, s3⟩
    go_simp
    with_reducible rfl
  rotate_left
  · simp only [Act.put, List.setIfInBounds_toArray, List.set_cons_zero, List.set_cons_succ, i64_w, i32_w]
    rfl
  refine one_ (i := 5) (N := some 25) #[true, true, true, true, true, true, false, false] rfl rfl (by kernel_rfl) (by decide) (fun K hK => ?_)
  refine goes_ Try.func39 (by kernel_rfl) rfl #[.agg #[.int .i64 lo, .int .i64 hi, .int .i64 most, .slice A0 es.length c0]] (by rfl) rfl rfl (by (try simp only [List.map_toArray, List.map_cons, List.map_nil]); first | done | rfl) ?_
  with_reducible refine (offertoryref09_Bits.calls k lo hi most A0 c0 es (B : Int) _ (Kd.C_below HR0.out HD.out.hb) HC0.out AB.out).mono ?_
  rintro e w1 ⟨rfl, hb⟩
  have H2 := Aside0.mk (HD.out.below hb)
  clear hb
  refine ⟨_, rfl, ?_⟩
  refine hK.out _ _ ⟨(cells4H (H2.out.get 0 rfl)).1, (cells4H (H2.out.get 0 rfl)).2.1, (cells4H (H2.out.get 0 rfl)).2.2.1, (cells4H (H2.out.get 0 rfl)).2.2.2⟩ (fun hHeld => ?_)
  clear hK K
  refine norm_ (a' := ?_) ?_ ?_
  rotate_left
  · show Act.put _ (some 25) _ = _
    simp only [Act.put, List.setIfInBounds_toArray, List.set_cons_zero, List.set_cons_succ, i64_w, i32_w]
    rfl
  refine pure_ (i := 6) (N := some 6) (v := ?_) (a' := ?_) #[true, true, true, true, true, true, true, false] rfl rfl (by kernel_rfl) (fun _ _ _ h => h) (Or.inl ⟨by rfl, ?_⟩) ?_ ?_
  rotate_left
  · intro w'
    go_simp
    with_reducible rfl
  rotate_left
  · simp only [Act.put, List.setIfInBounds_toArray, List.set_cons_zero, List.set_cons_succ, i64_w, i32_w]
    rfl
  refine pure_ (i := 7) (N := some 7) (v := ?_) (a' := ?_) #[true, true, true, true, true, true, true, true] rfl rfl (by kernel_rfl) (fun _ _ _ h => h) (Or.inl ⟨by rfl, ?_⟩) ?_ ?_
  rotate_left
  · intro w'
    go_simp
    with_reducible rfl
  rotate_left
  · simp only [Act.put, List.setIfInBounds_toArray, List.set_cons_zero, List.set_cons_succ, i64_w, i32_w]
    rfl
  refine done_ (by kernel_rfl) ?_
  clear hHeld HD
  have hnn := NN.out
  have hcr := CR.out
  have p0 : 0 ≤ (N : Int) := by omega
  have q0 : (N : Int) < (v.length : Int) := by omega
  obtain ⟨adv, ev, hxN⟩ := Kd.at_int (Kd.C_below HRV.out H2.out.hb) (N : Int) p0 q0
  cases ev
  rw [rdH, ← CN.out, Int.toNat_natCast] at hxN
  have hcw : wrap64 cnt = cnt := by unfold wrap64; omega
  replace p0 := eq_true p0
  replace q0 := eq_true q0
  clear hnn hcr hNw
  go_wp2_with (first | ((with_reducible refine gate_dst (N := 8) rfl ?_); refine box_event ?hg (N := 8) ?hd (cs := #[.slice none 0 0, .int .i64 0, .int .u64 0, .int .u64 0, .int .u64 0, .int .u64 0, .bool false]) (t := 29) ?hr ?_; (case hd => rfl); (case hg => rfl); (case hr => first | (go_simp; done) | (go_simp; rfl)); intro g8 hg w2 hbox hb; have H3 : Aside0 (Hp w [(gp, 24, #[.int .i64 lo, .int .i64 hi, .int .i64 most, .slice A0 es.length c0]), (g4, 29, #[.slice none 0 0, .int .i64 0, .int .u64 0, .int .u64 0, .int .u64 0, .int .u64 0, .bool false]), (g8, 29, #[.slice none 0 0, .int .i64 0, .int .u64 0, .int .u64 0, .int .u64 0, .int .u64 0, .bool false])] (.slice none 0 0) [] w2) := ⟨H2.out.box (Nat.le_of_eq hg.symm) hbox hb (by decide)⟩; clear hb hbox hg hxN; obtain ⟨y0, y1, y2, y3, y4, y5, y6⟩ := cells7H (H3.out.get 2 rfl); obtain ⟨z0, z1, z2, z3, z4, z5, z6, z7⟩ := freesH (H3.out.get 2 rfl)))
  refine code_gen (fun W => Hp w [(gp, 24, #[.int .i64 lo, .int .i64 hi, .int .i64 most, .slice A0 es.length c0]), (g4, 29, #[.slice none 0 0, .int .i64 0, .int .u64 0, .int .u64 0, .int .u64 0, .int .u64 0, .bool false]), (g8, 29, #[(.slice none 0 0), .int .i64 cnt, .int .u64 0, .int .u64 0, .int .u64 0, .int .u64 0, .bool false])] (.slice none 0 0) [] W) (H3.out.put7 2 rfl _ _ _ _ _ _ _) ?_
  clear H2 H3 y0 y1 y2 y3 y4 y5 y6 z0 z1 z2 z3 z4 z5 z6 z7 p0 q0 hcw
  intro w3 hL
  have H4 := Aside0.mk hL
  clear hL
  go_loopg [9, 10] N (fun kq v9 v10 w' => ∃ (i : Nat) (s : Int) (bv : Value), v10 = .int .i64 (i : Int) ∧ v9 = .int .i64 s ∧ Aside0 (i + kq = N) ∧ Aside0 (s = (v.take i).sum) ∧ Aside0 (Hp w [(gp, 24, #[.int .i64 lo, .int .i64 hi, .int .i64 most, .slice A0 es.length c0]), (g4, 29, #[.slice none 0 0, .int .i64 0, .int .u64 0, .int .u64 0, .int .u64 0, .int .u64 0, .bool false]), (g8, 29, #[bv, .int .i64 cnt, .int .u64 0, .int .u64 0, .int .u64 0, .int .u64 0, .bool false])] bv (v.take i) w'))
  case atStart => exact ⟨0, 0, .slice none 0 0, rfl, rfl, ⟨Nat.zero_add _⟩, ⟨rfl⟩, H4⟩
  case round =>
    clear H4
    obtain ⟨i, s, bv, rfl, rfl, HI, HS, H5⟩ := hrel
    cases gk with
    | succ k1 =>
      have hi := HI.out
      have hnn := NN.out
      have hlt : i < v.length := by omega
      have d1 : decide ((i : Int) < (N : Int)) = true := decide_eq_true (by omega)
      have d2 : decide (i < N) = true := decide_eq_true (by omega)
      have p0 : 0 ≤ (i : Int) := by omega
      have q0 : (i : Int) < (v.length : Int) := by omega
      have EW : Aside0 (wrap64 ((i : Int) + 1) = ((i + 1 : Nat) : Int)) := ⟨by unfold wrap64; omega⟩
      have hve := VE.out i
      have hsb := takeS_in VE.out i
      rw [← HS.out] at hsb
      have HT := Aside0.mk (takeS v i hlt)
      obtain ⟨xi, exi⟩ : ∃ x, x = v.getD i 0 := ⟨_, rfl⟩
      have HX : Aside0 (∀ W : World, Below w.heap.size w W → W.cell? (adv.add i) = some (.int .u32 xi)) := ⟨fun W hW => by rw [exi]; exact u32_cell (Kd.C_below HRV.out hW) i hlt⟩
      rw [← exi] at hve HT
      clear exi
      have hxw : wrap64 xi = xi := by unfold wrap64; omega
      have hsw : wrap64 (s + xi) = s + xi := by unfold wrap64; omega
      have hx := HX.out _ H5.out.hb
      replace p0 := eq_true p0
      replace q0 := eq_true q0
      clear hi hnn hve hsb hlt
      go_wp2_with fail
      clear hx
      obtain ⟨wd, ewd⟩ : ∃ x, x = wr.drew := ⟨_, rfl⟩
      have HD : Aside0 (Hp w [(gp, 24, #[.int .i64 lo, .int .i64 hi, .int .i64 most, .slice A0 es.length c0]), (g4, 29, #[.slice none 0 0, .int .i64 0, .int .u64 0, .int .u64 0, .int .u64 0, .int .u64 0, .bool false]), (g8, 29, #[bv, .int .i64 cnt, .int .u64 0, .int .u64 0, .int .u64 0, .int .u64 0, .bool false])] bv (v.take i) wd) := ⟨by rw [ewd]; exact H5.out.drew⟩
      clear H5
      refine start_ (n := 11) (S := fun w' => w'.cell? ⟨g8, 0, none⟩ = some (bv) ∧ w'.cell? (adv.add i) = some (.int .u32 xi)) (ds := [8, 10]) #[false, false, false, false, false, false, false, false, false, false, false] (by kernel_rfl) rfl rfl (by rw [← ewd]; exact ⟨(cells7H (HD.out.get 2 rfl)).1, HX.out _ HD.out.hb⟩) (fun hHeld => ?_)
      rw [← ewd] at hHeld ⊢
      clear ewd
      refine pure_ (i := 0) (N := some 44) (v := ?_) (a' := ?_) #[true, false, false, false, false, false, false, false, false, false, false] rfl rfl (by kernel_rfl) (fun _ _ _ h => h) (Or.inl ⟨by rfl, ?_⟩) ?_ ?_
      rotate_left
      · intro w'
        go_simp
        with_reducible rfl
      rotate_left
      · simp only [Act.put, List.setIfInBounds_toArray, List.set_cons_zero, List.set_cons_succ, i64_w, i32_w]
        rfl
      refine pure_ (i := 2) (N := some 46) (v := ?_) (a' := ?_) #[true, false, true, false, false, false, false, false, false, false, false] rfl rfl (by kernel_rfl) (fun _ _ _ h => h) (Or.inl ⟨by rfl, ?_⟩) ?_ ?_
      rotate_left
      · intro w'
        go_simp
        with_reducible rfl
      rotate_left
      · simp only [Act.put, List.setIfInBounds_toArray, List.set_cons_zero, List.set_cons_succ, i64_w, i32_w]
        rfl
      refine pure_ (i := 3) (N := some 47) (v := ?_) (a' := ?_) #[true, false, true, true, false, false, false, false, false, false, false] rfl rfl (by kernel_rfl) (fun _ _ _ h => h) (Or.inl ⟨by rfl, ?_⟩) ?_ ?_
      rotate_left
      · intro w'
        go_simp
        with_reducible rfl
      rotate_left
      · simp only [Act.put, List.setIfInBounds_toArray, List.set_cons_zero, List.set_cons_succ, i64_w, i32_w]
        rfl
      refine pure_ (i := 4) (N := some 48) (v := ?_) (a' := ?_) #[true, false, true, true, true, false, false, false, false, false, false] rfl rfl (by kernel_rfl) (fun _ _ _ h => h) (Or.inl ⟨by rfl, ?_⟩) ?_ ?_
      rotate_left
      · intro w'
        go_simp
        with_reducible rfl
      rotate_left
      · simp only [Act.put, List.setIfInBounds_toArray, List.set_cons_zero, List.set_cons_succ, i64_w, i32_w]
        rfl
      refine take_ (i := 1) (N := some 45) (v := ?_) (a' := ?_) #[true, true, true, true, true, false, false, false, false, false, false] rfl rfl (by kernel_rfl) (fun _ _ _ h => h) (Or.inl ⟨by rfl, ?_⟩) hHeld ?_ ?_
      rotate_left
      · rintro w' ⟨s0, s1⟩
        go_simp
        with_reducible rfl
      rotate_left
      · simp only [Act.put, List.setIfInBounds_toArray, List.set_cons_zero, List.set_cons_succ, i64_w, i32_w]
        rfl
      refine take_ (i := 5) (N := some 49) (v := ?_) (a' := ?_) #[true, true, true, true, true, true, false, false, false, false, false] rfl rfl (by kernel_rfl) (fun _ _ _ h => h) (Or.inl ⟨by rfl, ?_⟩) hHeld ?_ ?_
      rotate_left
      · rintro w' ⟨s0, s1⟩
        go_simp
        with_reducible rfl
      rotate_left
      · simp only [Act.put, List.setIfInBounds_toArray, List.set_cons_zero, List.set_cons_succ, i64_w, i32_w]
        rfl
      refine pure_ (i := 6) (N := some 50) (v := ?_) (a' := ?_) #[true, true, true, true, true, true, true, false, false, false, false] rfl rfl (by kernel_rfl) (fun _ _ _ h => h) (Or.inl ⟨by rfl, ?_⟩) ?_ ?_
      rotate_left
      · intro w'
        go_simp
        with_reducible rfl
      rotate_left
      · simp only [Act.put, List.setIfInBounds_toArray, List.set_cons_zero, List.set_cons_succ, i64_w, i32_w]
        rfl
      refine one_ (i := 7) (N := some 51) #[true, true, true, true, true, true, true, true, false, false, false] rfl rfl (by kernel_rfl) (by decide) (fun K hK => ?_)
      refine value_ (w1 := ?_) (v := ?_) (by rfl) rfl ?_ ?_
      rotate_left 2
      · go_simp
        constructor
        · rfl
        · rfl
      have H6 := Aside0.mk (HD.out.below (below_alloc (Below.refl wd.heap.size wd) (.cells #[.int .i64 xi] 3)))
      refine hK.out _ _ ⟨(cells7H (H6.out.get 2 rfl)).1, HX.out _ H6.out.hb⟩ (fun hHeld => ?_)
      clear hK K
      refine norm_ (a' := ?_) ?_ ?_
      rotate_left
      · show Act.put _ (some 51) _ = _
        simp only [Act.put, List.setIfInBounds_toArray, List.set_cons_zero, List.set_cons_succ, i64_w, i32_w]
        rfl
      refine last_gen (fun W => Hp w [(gp, 24, #[.int .i64 lo, .int .i64 hi, .int .i64 most, .slice A0 es.length c0]), (g4, 29, #[.slice none 0 0, .int .i64 0, .int .u64 0, .int .u64 0, .int .u64 0, .int .u64 0, .bool false]), (g8, 29, #[bv, .int .i64 cnt, .int .u64 0, .int .u64 0, .int .u64 0, .int .u64 0, .bool false])] bv (v.take i) W ∧ (W.heap[wd.heap.size]? = some (.cells ([xi].map (Value.int .i64)).toArray 3 (0, 0)) ∧ w.heap.size ≤ wd.heap.size)) ⟨H6.out, blk_new wd _, below_size HD.out.hb⟩ ?_
      rintro w7 ⟨h7, hg7⟩
      have H7 := Aside0.mk h7
      have HG := Aside0.mk hg7
      clear h7 hg7 H6 hHeld
      refine last_ (i := 8) (N := some 52) #[true, true, true, true, true, true, true, true, true, false, false] rfl rfl (by kernel_rfl) (by decide) (fun K hK => ?_)
      have hC6 := (Kd.R_reads' (row_blkH (base := w.heap.size) (xs := [xi]) HG.out.1 HG.out.2 (by simp))).2.2
      refine Kd.R_append_rows_step (Kd.int .i64) (w0 := w) (W := w7) w.heap.size (by rfl) (.tmp 45) (.tmp 51) 22 3 (.int .i64 0) 8 (by rfl) Try.underlying22 info_intH rfl (by decide) (by omega) bv (v.take i) [xi] _ _ _ (fun _ => True) (fun _ => False) (by rfl) (by rfl) H7.out.row hC6 (fun _ _ h => h) (fun _ h => h.elim) ?aF H7.out.hb (below_size H7.out.hb) (by have := NN.out; have := HI.out; simp only [List.length_take, List.length_cons, List.length_nil]; omega) ?_
      (case aF => exact fun k hk => trivial)
      intro v52 w8 ho hb8 hg hat
      obtain ⟨l2, el2⟩ : ∃ l, l = v.take i ++ [xi] := ⟨_, rfl⟩
      rw [← el2] at ho
      have EL2 := Aside0.mk el2
      clear el2
      obtain ⟨A52, c52, rfl⟩ := Kd.R_slice ho
      have H8 := Aside0.mk (H7.out.grow ho hg hb8)
      clear hC6 ho hb8 hg hat
      refine hK.out _ _ ?_
      clear hK K
      refine norm_ (a' := ?_) ?_ ?_
      rotate_left
      · show Act.put _ (some 52) _ = _
        simp only [Act.put, List.setIfInBounds_toArray, List.set_cons_zero, List.set_cons_succ, i64_w, i32_w]
        rfl
      refine pure_ (i := 9) (N := some 53) (v := ?_) (a' := ?_) #[true, true, true, true, true, true, true, true, true, true, false] rfl rfl (by kernel_rfl) (fun _ _ _ h => h) (Or.inl ⟨by rfl, ?_⟩) ?_ ?_
      rotate_left
      · intro w'
        go_simp
        with_reducible rfl
      rotate_left
      · simp only [Act.put, List.setIfInBounds_toArray, List.set_cons_zero, List.set_cons_succ, i64_w, i32_w]
        rfl
      refine last_ (i := 10) (N := none) #[true, true, true, true, true, true, true, true, true, true, true] rfl rfl (by kernel_rfl) (by decide) (fun K hK => ?_)
      obtain ⟨y0, y1, y2, y3, y4, y5, y6⟩ := cells7H (H8.out.get 2 rfl)
      obtain ⟨z0, z1, z2, z3, z4, z5, z6, z7⟩ := freesH (H8.out.get 2 rfl)
      refine skip_ (w1 := ?_) ?_ ?_ ?_ ?_
      rotate_left
      · rfl
      · rfl
      · go_simp
        rfl
      refine hK.out _ _ ?_
      clear hK K
      refine last_gen (fun W => Hp w [(gp, 24, #[.int .i64 lo, .int .i64 hi, .int .i64 most, .slice A0 es.length c0]), (g4, 29, #[.slice none 0 0, .int .i64 0, .int .u64 0, .int .u64 0, .int .u64 0, .int .u64 0, .bool false]), (g8, 29, #[(.slice A52 l2.length c52), .int .i64 cnt, .int .u64 0, .int .u64 0, .int .u64 0, .int .u64 0, .bool false])] (.slice A52 l2.length c52) l2 W) (H8.out.put 2 rfl 0 _ rfl) ?_
      intro w10 hL
      have H9 := Aside0.mk hL
      clear hL y0 y1 y2 y3 y4 y5 y6 z0 z1 z2 z3 z4 z5 z6 z7 H8 H7 HG
      refine done_ (by kernel_rfl) ?_
      go_wp2_with fail
      go_roundg k1
      case measure => omega
      case rel => exact ⟨i + 1, s + xi, _, by first | rfl | (rw [EW.out]) | (rw [← EW.out]), by first | rfl | (rw [hsw]), ⟨by have := HI.out; omega⟩, ⟨by rw [HT.out.1, HS.out]⟩, ⟨by rw [HT.out.2, ← EL2.out]; exact H9.out⟩⟩
    | zero =>
      obtain rfl : i = N := by have := HI.out; omega
      have hnn := NN.out
      have hlt : i < v.length := by omega
      have d1 : decide ((i : Int) < (i : Int)) = false := decide_eq_false (by omega)
      have hcr := CR.out
      have p0 : 0 ≤ (i : Int) := by omega
      have q0 : (i : Int) < (v.length : Int) := by omega
      have hxN := u32_cell (Kd.C_below HRV.out H5.out.hb) i hlt
      rw [← CN.out] at hxN
      have hcw : wrap64 cnt = cnt := by unfold wrap64; omega
      have h3B : wrap64 (3 * (B : Int)) = 3 * (B : Int) := by unfold wrap64; omega
      have h3C : wrap64 (3 * (B : Int) - 1) = 3 * (B : Int) - 1 := by unfold wrap64; omega
      obtain ⟨x0, ex0⟩ : ∃ x, x = 3 * (B : Int) - 1 := ⟨_, rfl⟩
      rw [← ex0] at h3C
      have h3D : 3 * (B : Int) - 1 = x0 := ex0.symm
      have hxw0 : wrap64 x0 = x0 := by rw [← h3D]; unfold wrap64; omega
      have EX0 := Aside0.mk ex0
      obtain ⟨b0, eb0⟩ : ∃ b, b = (s != cnt) := ⟨_, rfl⟩
      have hb0 : (s != cnt) = b0 := eb0.symm
      have hb1 : (!(s == cnt)) = b0 := eb0.symm
      have EB0 := Aside0.mk eb0
      replace p0 := eq_true p0
      replace q0 := eq_true q0
      clear hnn hcr hlt ex0 eb0
      go_wp2_with (first | ((with_reducible refine gate_dst (N := 12) rfl ?_); refine box_event ?hg (N := 12) ?hd (cs := #[.int .u32 0, .int .u32 0, .int .u32 0, .int .u32 0, .int .u32 0, .int .u32 0, .int .u32 0, .int .u32 0]) (t := 45) ?hr ?_; (case hd => rfl); (case hg => rfl); (case hr => first | (go_simp; done) | (go_simp; rfl)); intro g12 hg wb1 hbox hb; have H6 : Aside0 (Hp w [(gp, 24, #[.int .i64 lo, .int .i64 hi, .int .i64 most, .slice A0 es.length c0]), (g4, 29, #[.slice none 0 0, .int .i64 0, .int .u64 0, .int .u64 0, .int .u64 0, .int .u64 0, .bool false]), (g8, 29, #[bv, .int .i64 cnt, .int .u64 0, .int .u64 0, .int .u64 0, .int .u64 0, .bool false]), (g12, 45, #[.int .u32 0, .int .u32 0, .int .u32 0, .int .u32 0, .int .u32 0, .int .u32 0, .int .u32 0, .int .u32 0])] bv (v.take i) wb1) := ⟨H5.out.box (Nat.le_of_eq hg.symm) hbox hb (by decide)⟩; clear hb hbox hg hxN) | ((with_reducible refine gate_dst (N := 13) rfl ?_); refine box_event ?hg (N := 13) ?hd (cs := #[.int .u32 0, .int .u32 0, .int .u32 0, .int .u32 0, .int .u32 0, .int .u32 0, .int .u32 0, .int .u32 0]) (t := 45) ?hr ?_; (case hd => rfl); (case hg => rfl); (case hr => first | (go_simp; done) | (go_simp; rfl)); intro g13 hg wb2 hbox hb; have H7 : Aside0 (Hp w [(gp, 24, #[.int .i64 lo, .int .i64 hi, .int .i64 most, .slice A0 es.length c0]), (g4, 29, #[.slice none 0 0, .int .i64 0, .int .u64 0, .int .u64 0, .int .u64 0, .int .u64 0, .bool false]), (g8, 29, #[bv, .int .i64 cnt, .int .u64 0, .int .u64 0, .int .u64 0, .int .u64 0, .bool false]), (g12, 45, #[.int .u32 0, .int .u32 0, .int .u32 0, .int .u32 0, .int .u32 0, .int .u32 0, .int .u32 0, .int .u32 0]), (g13, 45, #[.int .u32 0, .int .u32 0, .int .u32 0, .int .u32 0, .int .u32 0, .int .u32 0, .int .u32 0, .int .u32 0])] bv (v.take i) wb2) := ⟨H6.out.box (Nat.le_of_eq hg.symm) hbox hb (by decide)⟩; clear hb hbox hg; have GO := Aside0.mk trivial; obtain ⟨y0, y1, y2, y3, y4, y5, y6, y7⟩ := cells8H (H7.out.get 3 rfl); obtain ⟨z0, z1, z2, z3, z4, z5, z6, z7⟩ := freesH (H7.out.get 3 rfl)) | ((with_reducible refine gate_ (.store 45 (.tmp 13) (.tmp 62)) rfl ?_); clear GO; refine wpl_genH (fun W => Hp w [(gp, 24, #[.int .i64 lo, .int .i64 hi, .int .i64 most, .slice A0 es.length c0]), (g4, 29, #[.slice none 0 0, .int .i64 0, .int .u64 0, .int .u64 0, .int .u64 0, .int .u64 0, .bool false]), (g8, 29, #[bv, .int .i64 cnt, .int .u64 0, .int .u64 0, .int .u64 0, .int .u64 0, .bool false]), (g12, 45, #[.int .u32 0, .int .u32 0, .int .u32 0, .int .u32 0, .int .u32 0, .int .u32 0, .int .u32 0, .int .u32 0]), (g13, 45, #[.int .u32 0, .int .u32 0, .int .u32 0, .int .u32 0, .int .u32 0, .int .u32 0, .int .u32 0, .int .u32 0])] bv (v.take i) W) (H7.out.put8 3 rfl _ _ _ _ _ _ _ _) ?_; clear H7 H6 H5 y0 y1 y2 y3 y4 y5 y6 y7 z0 z1 z2 z3 z4 z5 z6 z7; intro wb3 hL; have H8 := Aside0.mk hL; clear hL; obtain ⟨y0, y1, y2, y3, y4, y5, y6, y7⟩ := cells8H (H8.out.get 4 rfl); obtain ⟨z0, z1, z2, z3, z4, z5, z6, z7⟩ := freesH (H8.out.get 4 rfl)))
      refine code_gen (fun W => Hp w [(gp, 24, #[.int .i64 lo, .int .i64 hi, .int .i64 most, .slice A0 es.length c0]), (g4, 29, #[.slice none 0 0, .int .i64 0, .int .u64 0, .int .u64 0, .int .u64 0, .int .u64 0, .bool false]), (g8, 29, #[bv, .int .i64 cnt, .int .u64 0, .int .u64 0, .int .u64 0, .int .u64 0, .bool false]), (g12, 45, (big 0)), (g13, 45, (big 0))] bv (v.take i) W) (by rw [big_zero]; exact H8.out.put8 4 rfl _ _ _ _ _ _ _ _) ?_
      clear H8 y0 y1 y2 y3 y4 y5 y6 y7 z0 z1 z2 z3 z4 z5 z6 z7
      intro wb4 hL
      have H9 := Aside0.mk hL
      clear hL
      obtain ⟨F, eF⟩ : ∃ F, F = dT B cnt (v.drop (i + 1)) (3 * B) b0 0 0 := ⟨_, rfl⟩
      have hz := HZ.out
      unfold decR at hz
      rw [← CN.out, ← HS.out, ← EB0.out, ← eF] at hz
      have HZ2 := Aside0.mk hz
      have EF := Aside0.mk eF
      have HXN : Aside0 (∀ W : World, Below w.heap.size w W → W.cell? (adv.add i) = some (.int .u32 cnt)) := ⟨fun W hW => by have := NN.out; rw [CN.out]; exact u32_cell (Kd.C_below HRV.out hW) i (by omega)⟩
      clear hz eF HZ hb0 hb1
      go_loopg [11, 14] (3 * B) (fun kq v11 v14 w' => ∃ (sm : Bool) (x P Q : Int), v11 = .bool sm ∧ v14 = .int .i64 x ∧ Aside0 (x = (kq : Int) - 1) ∧ Aside0 (kq ≤ 3 * B) ∧ Aside0 (dT B cnt (v.drop (i + 1)) kq sm P Q = F) ∧ Aside0 (Hp w [(gp, 24, #[.int .i64 lo, .int .i64 hi, .int .i64 most, .slice A0 es.length c0]), (g4, 29, #[.slice none 0 0, .int .i64 0, .int .u64 0, .int .u64 0, .int .u64 0, .int .u64 0, .bool false]), (g8, 29, #[bv, .int .i64 cnt, .int .u64 0, .int .u64 0, .int .u64 0, .int .u64 0, .bool false]), (g12, 45, (big P)), (g13, 45, (big Q))] bv (v.take i) w'))
      case atStart => exact ⟨b0, x0, 0, 0, rfl, by first | rfl | (rw [hxw0]), ⟨by rw [EX0.out]; omega⟩, ⟨Nat.le_refl _⟩, ⟨EF.out.symm⟩, H9⟩
      case round =>
        clear H9 h3B h3C h3D hxw0 hcw
        obtain ⟨sm, x, P, Q, rfl, rfl, HX, HK, HT, H5⟩ := hrel
        cases gk with
        | succ k1 =>
          obtain rfl : x = (k1 : Int) := by have := HX.out; omega
          have hnn := NN.out
          have hk := HK.out
          have hcr := CR.out
          have c1 : decide (0 ≤ (k1 : Int)) = true := decide_eq_true (by omega)
          have p0 : 0 ≤ (i : Int) := by omega
          have q0 : (i : Int) < (v.length : Int) := by omega
          obtain ⟨j1, ej1⟩ : ∃ j, j = (i : Int) + 1 := ⟨_, rfl⟩
          obtain ⟨j2, ej2⟩ : ∃ j, j = j1 + (k1 : Int) := ⟨_, rfl⟩
          have hw1 : wrap64 ((i : Int) + 1) = j1 := by unfold wrap64; omega
          have hw2 : wrap64 (j1 + (k1 : Int)) = j2 := by unfold wrap64; omega
          have pj : 0 ≤ j2 := by omega
          have qj : j2 < (v.length : Int) := by omega
          have hve := VE.out (i + 1 + k1)
          have ht := HT.out
          unfold dT at ht
          rw [show (v.drop (i + 1)).getD k1 0 = v.getD (i + 1 + k1) 0 by simp [List.getD, List.getElem?_drop]] at ht
          obtain ⟨di, edi⟩ : ∃ x, x = v.getD (i + 1 + k1) 0 := ⟨_, rfl⟩
          have HXJ : Aside0 (∀ W : World, Below w.heap.size w W → W.cell? (adv.add j2.toNat) = some (.int .u32 di)) := ⟨fun W hW => by rw [edi, show j2.toNat = i + 1 + k1 by omega]; exact u32_cell (Kd.C_below HRV.out hW) _ (by omega)⟩
          rw [← edi] at hve ht
          have HT2 := Aside0.mk ht
          have DI := Aside0.mk hve
          have hdw : wrap64 di = di := by unfold wrap64; omega
          replace p0 := eq_true p0
          replace q0 := eq_true q0
          replace pj := eq_true pj
          replace qj := eq_true qj
          clear hnn hk hcr ej1 ej2 hve ht edi HT
          go_wp2_with fail
          obtain ⟨wd, ewd⟩ : ∃ x, x = wr.drew := ⟨_, rfl⟩
          have HD : Aside0 (Hp w [(gp, 24, #[.int .i64 lo, .int .i64 hi, .int .i64 most, .slice A0 es.length c0]), (g4, 29, #[.slice none 0 0, .int .i64 0, .int .u64 0, .int .u64 0, .int .u64 0, .int .u64 0, .bool false]), (g8, 29, #[bv, .int .i64 cnt, .int .u64 0, .int .u64 0, .int .u64 0, .int .u64 0, .bool false]), (g12, 45, (big P)), (g13, 45, (big Q))] bv (v.take i) wd) := ⟨by rw [ewd]; exact H5.out.drew⟩
          clear H5
          obtain ⟨sn, esn⟩ : ∃ s, s = (sm || decide (cnt < di)) := ⟨_, rfl⟩
          rw [← esn] at HT2
          cases sm with
          | false =>
            have hsn : sn = decide (cnt < di) := by rw [esn]; rfl
            have HSN := Aside0.mk hsn
            clear hsn esn
            refine start_ (n := 16) (S := fun w' => w'.cell? (adv.add j2.toNat) = some (.int .u32 di) ∧ w'.cell? (adv.add i) = some (.int .u32 cnt)) (ds := []) #[false, false, false, false, false, false, false, false, false, false, false, false, false, false, false, false] (by kernel_rfl) rfl rfl (by rw [← ewd]; exact ⟨HXJ.out _ HD.out.hb, HXN.out _ HD.out.hb⟩) (fun hHeld => ?_)
            rw [← ewd] at hHeld ⊢
            clear ewd
            refine pure_ (i := 0) (N := some 70) (v := ?_) (a' := ?_) #[true, false, false, false, false, false, false, false, false, false, false, false, false, false, false, false] rfl rfl (by kernel_rfl) (fun _ _ _ h => h) (Or.inl ⟨by rfl, ?_⟩) ?_ ?_
            rotate_left
            · intro w'
              go_simp
              with_reducible rfl
            rotate_left
            · simp only [Act.put, List.setIfInBounds_toArray, List.set_cons_zero, List.set_cons_succ, i64_w, i32_w]
              rfl
            refine pure_ (i := 1) (N := some 71) (v := ?_) (a' := ?_) #[true, true, false, false, false, false, false, false, false, false, false, false, false, false, false, false] rfl rfl (by kernel_rfl) (fun _ _ _ h => h) (Or.inl ⟨by rfl, ?_⟩) ?_ ?_
            rotate_left
            · intro w'
              go_simp
              with_reducible rfl
            rotate_left
            · simp only [Act.put, List.setIfInBounds_toArray, List.set_cons_zero, List.set_cons_succ, i64_w, i32_w]
              rfl
            refine pure_ (i := 2) (N := some 72) (v := ?_) (a' := ?_) #[true, true, true, false, false, false, false, false, false, false, false, false, false, false, false, false] rfl rfl (by kernel_rfl) (fun _ _ _ h => h) (Or.inl ⟨by rfl, ?_⟩) ?_ ?_
            rotate_left
            · intro w'
              go_simp
              with_reducible rfl
            rotate_left
            · simp only [Act.put, List.setIfInBounds_toArray, List.set_cons_zero, List.set_cons_succ, i64_w, i32_w]
              rfl
            refine pure_ (i := 3) (N := some 73) (v := ?_) (a' := ?_) #[true, true, true, true, false, false, false, false, false, false, false, false, false, false, false, false] rfl rfl (by kernel_rfl) (fun _ _ _ h => h) (Or.inl ⟨by rfl, ?_⟩) ?_ ?_
            rotate_left
            · intro w'
              go_simp
              with_reducible rfl
            rotate_left
            · simp only [Act.put, List.setIfInBounds_toArray, List.set_cons_zero, List.set_cons_succ, i64_w, i32_w]
              rfl
            refine pure_ (i := 4) (N := some 74) (v := ?_) (a' := ?_) #[true, true, true, true, true, false, false, false, false, false, false, false, false, false, false, false] rfl rfl (by kernel_rfl) (fun _ _ _ h => h) (Or.inl ⟨by rfl, ?_⟩) ?_ ?_
            rotate_left
            · intro w'
              go_simp
              with_reducible rfl
            rotate_left
            · simp only [Act.put, List.setIfInBounds_toArray, List.set_cons_zero, List.set_cons_succ, i64_w, i32_w]
              rfl
            refine pure_ (i := 5) (N := some 75) (v := ?_) (a' := ?_) #[true, true, true, true, true, true, false, false, false, false, false, false, false, false, false, false] rfl rfl (by kernel_rfl) (fun _ _ _ h => h) (Or.inl ⟨by rfl, ?_⟩) ?_ ?_
            rotate_left
            · intro w'
              go_simp
              with_reducible rfl
            rotate_left
            · simp only [Act.put, List.setIfInBounds_toArray, List.set_cons_zero, List.set_cons_succ, i64_w, i32_w]
              rfl
            refine pure_ (i := 6) (N := some 76) (v := ?_) (a' := ?_) #[true, true, true, true, true, true, true, false, false, false, false, false, false, false, false, false] rfl rfl (by kernel_rfl) (fun _ _ _ h => h) (Or.inl ⟨by rfl, ?_⟩) ?_ ?_
            rotate_left
            · intro w'
              go_simp
              with_reducible rfl
            rotate_left
            · simp only [Act.put, List.setIfInBounds_toArray, List.set_cons_zero, List.set_cons_succ, i64_w, i32_w]
              rfl
            refine pure_ (i := 7) (N := some 77) (v := ?_) (a' := ?_) #[true, true, true, true, true, true, true, true, false, false, false, false, false, false, false, false] rfl rfl (by kernel_rfl) (fun _ _ _ h => h) (Or.inl ⟨by rfl, ?_⟩) ?_ ?_
            rotate_left
            · intro w'
              go_simp
              with_reducible rfl
            rotate_left
            · simp only [Act.put, List.setIfInBounds_toArray, List.set_cons_zero, List.set_cons_succ, i64_w, i32_w]
              rfl
            refine pure_ (i := 9) (N := some 79) (v := ?_) (a' := ?_) #[true, true, true, true, true, true, true, true, false, true, false, false, false, false, false, false] rfl rfl (by kernel_rfl) (fun _ _ _ h => h) (Or.inl ⟨by rfl, ?_⟩) ?_ ?_
            rotate_left
            · intro w'
              go_simp
              with_reducible rfl
            rotate_left
            · simp only [Act.put, List.setIfInBounds_toArray, List.set_cons_zero, List.set_cons_succ, i64_w, i32_w]
              rfl
            refine pure_ (i := 10) (N := some 80) (v := ?_) (a' := ?_) #[true, true, true, true, true, true, true, true, false, true, true, false, false, false, false, false] rfl rfl (by kernel_rfl) (fun _ _ _ h => h) (Or.inl ⟨by rfl, ?_⟩) ?_ ?_
            rotate_left
            · intro w'
              go_simp
              with_reducible rfl
            rotate_left
            · simp only [Act.put, List.setIfInBounds_toArray, List.set_cons_zero, List.set_cons_succ, i64_w, i32_w]
              rfl
            refine pure_ (i := 11) (N := some 81) (v := ?_) (a' := ?_) #[true, true, true, true, true, true, true, true, false, true, true, true, false, false, false, false] rfl rfl (by kernel_rfl) (fun _ _ _ h => h) (Or.inl ⟨by rfl, ?_⟩) ?_ ?_
            rotate_left
            · intro w'
              go_simp
              with_reducible rfl
            rotate_left
            · simp only [Act.put, List.setIfInBounds_toArray, List.set_cons_zero, List.set_cons_succ, i64_w, i32_w]
              rfl
            refine take_ (i := 8) (N := some 78) (v := ?_) (a' := ?_) #[true, true, true, true, true, true, true, true, true, true, true, true, false, false, false, false] rfl rfl (by kernel_rfl) (fun _ _ _ h => h) (Or.inl ⟨by rfl, ?_⟩) hHeld ?_ ?_
            rotate_left
            · rintro w' ⟨s0, s1⟩
              go_simp
              with_reducible rfl
            rotate_left
            · simp only [Act.put, List.setIfInBounds_toArray, List.set_cons_zero, List.set_cons_succ, i64_w, i32_w]
              rfl
            refine take_ (i := 12) (N := some 82) (v := ?_) (a' := ?_) #[true, true, true, true, true, true, true, true, true, true, true, true, true, false, false, false] rfl rfl (by kernel_rfl) (fun _ _ _ h => h) (Or.inl ⟨by rfl, ?_⟩) hHeld ?_ ?_
            rotate_left
            · rintro w' ⟨s0, s1⟩
              go_simp
              with_reducible rfl
            rotate_left
            · simp only [Act.put, List.setIfInBounds_toArray, List.set_cons_zero, List.set_cons_succ, i64_w, i32_w]
              rfl
            refine pure_ (i := 13) (N := some 83) (v := ?_) (a' := ?_) #[true, true, true, true, true, true, true, true, true, true, true, true, true, true, false, false] rfl rfl (by kernel_rfl) (fun _ _ _ h => h) (Or.inl ⟨by rfl, ?_⟩) ?_ ?_
            rotate_left
            · intro w'
              go_simp
              with_reducible rfl
            rotate_left
            · simp only [Act.put, List.setIfInBounds_toArray, List.set_cons_zero, List.set_cons_succ, i64_w, i32_w]
              rfl
            refine pure_ (i := 14) (N := some 84) (v := ?_) (a' := ?_) #[true, true, true, true, true, true, true, true, true, true, true, true, true, true, true, false] rfl rfl (by kernel_rfl) (fun _ _ _ h => h) (Or.inl ⟨by rfl, ?_⟩) ?_ ?_
            rotate_left
            · intro w'
              go_simp
              with_reducible rfl
            rotate_left
            · simp only [Act.put, List.setIfInBounds_toArray, List.set_cons_zero, List.set_cons_succ, i64_w, i32_w]
              rfl
            refine pure_ (i := 15) (N := some 11) (v := ?_) (a' := ?_) #[true, true, true, true, true, true, true, true, true, true, true, true, true, true, true, true] rfl rfl (by kernel_rfl) (fun _ _ _ h => h) (Or.inl ⟨by rfl, ?_⟩) ?_ ?_
            rotate_left
            · intro w'
              go_simp
              with_reducible rfl
            rotate_left
            · simp only [Act.put, List.setIfInBounds_toArray, List.set_cons_zero, List.set_cons_succ, i64_w, i32_w]
              rfl
            refine done_ (by kernel_rfl) ?_
            try rw [← HSN.out]
            clear hHeld
            have hx := HXJ.out _ HD.out.hb
            go_wp2_with fail
            go_at_call 29
            refine (int_c di (by have := DI.out; omega) _).mono ?_
            rintro e w4 ⟨rfl, hb⟩
            have H6 := Aside0.mk (HD.out.below hb)
            clear hb hx HD
            have GO := Aside0.mk trivial
            rcases Decidable.em (B ≤ k1) with hge | hge
            · have dg1 : decide ((B : Int) ≤ (k1 : Int)) = true := decide_eq_true (by omega)
              have dg2 : decide (B ≤ k1) = true := decide_eq_true (by omega)
              rw [if_pos hge, if_pos hge] at HT2
              go_wp2_with (first | ((with_reducible refine gate_dst (N := 15) rfl ?_); refine box_event ?hg (N := 15) ?hd (cs := #[.int .u32 0, .int .u32 0, .int .u32 0, .int .u32 0, .int .u32 0, .int .u32 0, .int .u32 0, .int .u32 0]) (t := 45) ?hr ?_; (case hd => rfl); (case hg => rfl); (case hr => first | (go_simp; done) | (go_simp; rfl)); intro g15 hg w5 hbox hb; have H7 : Aside0 (Hp w [(gp, 24, #[.int .i64 lo, .int .i64 hi, .int .i64 most, .slice A0 es.length c0]), (g4, 29, #[.slice none 0 0, .int .i64 0, .int .u64 0, .int .u64 0, .int .u64 0, .int .u64 0, .bool false]), (g8, 29, #[bv, .int .i64 cnt, .int .u64 0, .int .u64 0, .int .u64 0, .int .u64 0, .bool false]), (g12, 45, (big P)), (g13, 45, (big Q)), (g15, 45, #[.int .u32 0, .int .u32 0, .int .u32 0, .int .u32 0, .int .u32 0, .int .u32 0, .int .u32 0, .int .u32 0])] bv (v.take i) w5) := ⟨H6.out.box (Nat.le_of_eq hg.symm) hbox hb (by decide)⟩; clear hb hbox hg; obtain ⟨y0, y1, y2, y3, y4, y5, y6, y7⟩ := cells8H (H7.out.get 5 rfl); obtain ⟨z0, z1, z2, z3, z4, z5, z6, z7⟩ := freesH (H7.out.get 5 rfl)))
              refine code_gen (fun W => Hp w [(gp, 24, #[.int .i64 lo, .int .i64 hi, .int .i64 most, .slice A0 es.length c0]), (g4, 29, #[.slice none 0 0, .int .i64 0, .int .u64 0, .int .u64 0, .int .u64 0, .int .u64 0, .bool false]), (g8, 29, #[bv, .int .i64 cnt, .int .u64 0, .int .u64 0, .int .u64 0, .int .u64 0, .bool false]), (g12, 45, (big P)), (g13, 45, (big Q)), (g15, 45, (big di))] bv (v.take i) W) (H7.out.put8 5 rfl _ _ _ _ _ _ _ _) ?_
              clear H6 H7 y0 y1 y2 y3 y4 y5 y6 y7 z0 z1 z2 z3 z4 z5 z6 z7 dg1 dg2
              intro w6 hL
              have H8 := Aside0.mk hL
              clear hL
              obtain ⟨wd, ewd⟩ : ∃ x, x = w6.drew := ⟨_, rfl⟩
              have HD : Aside0 (Hp w [(gp, 24, #[.int .i64 lo, .int .i64 hi, .int .i64 most, .slice A0 es.length c0]), (g4, 29, #[.slice none 0 0, .int .i64 0, .int .u64 0, .int .u64 0, .int .u64 0, .int .u64 0, .bool false]), (g8, 29, #[bv, .int .i64 cnt, .int .u64 0, .int .u64 0, .int .u64 0, .int .u64 0, .bool false]), (g12, 45, (big P)), (g13, 45, (big Q)), (g15, 45, (big di))] bv (v.take i) wd) := ⟨by rw [ewd]; exact H8.out.drew⟩
              clear H8
              refine start_ (n := 6) (S := fun w' => w'.cell? ⟨g13, 0, none⟩ = some (.int .u32 (bigD Q 0)) ∧ w'.cell? ⟨g13, 1, none⟩ = some (.int .u32 (bigD Q 1)) ∧ w'.cell? ⟨g13, 2, none⟩ = some (.int .u32 (bigD Q 2)) ∧ w'.cell? ⟨g13, 3, none⟩ = some (.int .u32 (bigD Q 3)) ∧ w'.cell? ⟨g13, 4, none⟩ = some (.int .u32 (bigD Q 4)) ∧ w'.cell? ⟨g13, 5, none⟩ = some (.int .u32 (bigD Q 5)) ∧ w'.cell? ⟨g13, 6, none⟩ = some (.int .u32 (bigD Q 6)) ∧ w'.cell? ⟨g13, 7, none⟩ = some (.int .u32 (bigD Q 7)) ∧ w'.cell? ⟨g15, 0, none⟩ = some (.int .u32 (bigD di 0)) ∧ w'.cell? ⟨g15, 1, none⟩ = some (.int .u32 (bigD di 1)) ∧ w'.cell? ⟨g15, 2, none⟩ = some (.int .u32 (bigD di 2)) ∧ w'.cell? ⟨g15, 3, none⟩ = some (.int .u32 (bigD di 3)) ∧ w'.cell? ⟨g15, 4, none⟩ = some (.int .u32 (bigD di 4)) ∧ w'.cell? ⟨g15, 5, none⟩ = some (.int .u32 (bigD di 5)) ∧ w'.cell? ⟨g15, 6, none⟩ = some (.int .u32 (bigD di 6)) ∧ w'.cell? ⟨g15, 7, none⟩ = some (.int .u32 (bigD di 7))) (ds := [5]) #[false, false, false, false, false, false] (by kernel_rfl) rfl rfl (by rw [← ewd]; exact ⟨(cells8H (HD.out.get 4 rfl)).1, (cells8H (HD.out.get 4 rfl)).2.1, (cells8H (HD.out.get 4 rfl)).2.2.1, (cells8H (HD.out.get 4 rfl)).2.2.2.1, (cells8H (HD.out.get 4 rfl)).2.2.2.2.1, (cells8H (HD.out.get 4 rfl)).2.2.2.2.2.1, (cells8H (HD.out.get 4 rfl)).2.2.2.2.2.2.1, (cells8H (HD.out.get 4 rfl)).2.2.2.2.2.2.2, (cells8H (HD.out.get 5 rfl)).1, (cells8H (HD.out.get 5 rfl)).2.1, (cells8H (HD.out.get 5 rfl)).2.2.1, (cells8H (HD.out.get 5 rfl)).2.2.2.1, (cells8H (HD.out.get 5 rfl)).2.2.2.2.1, (cells8H (HD.out.get 5 rfl)).2.2.2.2.2.1, (cells8H (HD.out.get 5 rfl)).2.2.2.2.2.2.1, (cells8H (HD.out.get 5 rfl)).2.2.2.2.2.2.2⟩) (fun hHeld => ?_)
              rw [← ewd] at hHeld ⊢
              clear ewd
              refine take_ (i := 0) (N := some 97) (v := ?_) (a' := ?_) #[true, false, false, false, false, false] rfl rfl (by kernel_rfl) (fun _ _ _ h => h) (Or.inl ⟨by rfl, ?_⟩) hHeld ?_ ?_
              rotate_left
              · rintro w' ⟨s0, s1, s2, s3, s4, s5, s6, s7, s8, s9, s10, s11, s12, s13, s14, s15⟩
                go_simp
                with_reducible rfl
              rotate_left
              · simp only [Act.put, List.setIfInBounds_toArray, List.set_cons_zero, List.set_cons_succ, i64_w, i32_w]
                rfl
              refine take_ (i := 1) (N := some 98) (v := ?_) (a' := ?_) #[true, true, false, false, false, false] rfl rfl (by kernel_rfl) (fun _ _ _ h => h) (Or.inl ⟨by rfl, ?_⟩) hHeld ?_ ?_
              rotate_left
              · rintro w' ⟨s0, s1, s2, s3, s4, s5, s6, s7, s8, s9, s10, s11, s12, s13, s14, s15⟩
                go_simp
                with_reducible rfl
              rotate_left
              · simp only [Act.put, List.setIfInBounds_toArray, List.set_cons_zero, List.set_cons_succ, i64_w, i32_w]
                rfl
              refine take_ (i := 3) (N := some 100) (v := ?_) (a' := ?_) #[true, true, false, true, false, false] rfl rfl (by kernel_rfl) (fun _ _ _ h => h) (Or.inl ⟨by rfl, ?_⟩) hHeld ?_ ?_
              rotate_left
              · rintro w' ⟨s0, s1, s2, s3, s4, s5, s6, s7, s8, s9, s10, s11, s12, s13, s14, s15⟩
                go_simp
                with_reducible rfl
              rotate_left
              · simp only [Act.put, List.setIfInBounds_toArray, List.set_cons_zero, List.set_cons_succ, i64_w, i32_w]
                rfl
              refine one_ (i := 2) (N := some 99) #[true, true, true, true, false, false] rfl rfl (by kernel_rfl) (by decide) (fun K hK => ?_)
              refine goes_ Try.func31 (by kernel_rfl) rfl #[.agg (big Q), .agg (big Q)] (by rfl) rfl rfl (by (try simp only [List.map_toArray, List.map_cons, List.map_nil]); first | done | rfl) ?_
              with_reducible refine (add_c Q Q _).mono ?_
              rintro e x1 ⟨rfl, hb⟩
              have M1 := Aside0.mk (HD.out.below hb)
              clear hb
              refine ⟨_, rfl, ?_⟩
              refine hK.out _ _ ⟨(cells8H (M1.out.get 4 rfl)).1, (cells8H (M1.out.get 4 rfl)).2.1, (cells8H (M1.out.get 4 rfl)).2.2.1, (cells8H (M1.out.get 4 rfl)).2.2.2.1, (cells8H (M1.out.get 4 rfl)).2.2.2.2.1, (cells8H (M1.out.get 4 rfl)).2.2.2.2.2.1, (cells8H (M1.out.get 4 rfl)).2.2.2.2.2.2.1, (cells8H (M1.out.get 4 rfl)).2.2.2.2.2.2.2, (cells8H (M1.out.get 5 rfl)).1, (cells8H (M1.out.get 5 rfl)).2.1, (cells8H (M1.out.get 5 rfl)).2.2.1, (cells8H (M1.out.get 5 rfl)).2.2.2.1, (cells8H (M1.out.get 5 rfl)).2.2.2.2.1, (cells8H (M1.out.get 5 rfl)).2.2.2.2.2.1, (cells8H (M1.out.get 5 rfl)).2.2.2.2.2.2.1, (cells8H (M1.out.get 5 rfl)).2.2.2.2.2.2.2⟩ (fun hHeld => ?_)
              clear hK K
              refine norm_ (a' := ?_) ?_ ?_
              rotate_left
              · show Act.put _ (some 99) _ = _
                simp only [Act.put, List.setIfInBounds_toArray, List.set_cons_zero, List.set_cons_succ, i64_w, i32_w]
                rfl
              refine one_ (i := 4) (N := some 101) #[true, true, true, true, true, false] rfl rfl (by kernel_rfl) (by decide) (fun K hK => ?_)
              refine goes_ Try.func31 (by kernel_rfl) rfl #[.agg (big (Q + Q)), .agg (big di)] (by rfl) rfl rfl (by (try simp only [List.map_toArray, List.map_cons, List.map_nil]); first | done | rfl) ?_
              with_reducible refine (add_c (Q + Q) di _).mono ?_
              rintro e x2 ⟨rfl, hb⟩
              have M2 := Aside0.mk (M1.out.below hb)
              clear hb
              obtain ⟨y0, y1, y2, y3, y4, y5, y6, y7⟩ := cells8H (M2.out.get 4 rfl)
              obtain ⟨z0, z1, z2, z3, z4, z5, z6, z7⟩ := freesH (M2.out.get 4 rfl)
              refine ⟨_, rfl, ?_⟩
              refine hK.out _ _ ⟨(cells8H (M2.out.get 4 rfl)).1, (cells8H (M2.out.get 4 rfl)).2.1, (cells8H (M2.out.get 4 rfl)).2.2.1, (cells8H (M2.out.get 4 rfl)).2.2.2.1, (cells8H (M2.out.get 4 rfl)).2.2.2.2.1, (cells8H (M2.out.get 4 rfl)).2.2.2.2.2.1, (cells8H (M2.out.get 4 rfl)).2.2.2.2.2.2.1, (cells8H (M2.out.get 4 rfl)).2.2.2.2.2.2.2, (cells8H (M2.out.get 5 rfl)).1, (cells8H (M2.out.get 5 rfl)).2.1, (cells8H (M2.out.get 5 rfl)).2.2.1, (cells8H (M2.out.get 5 rfl)).2.2.2.1, (cells8H (M2.out.get 5 rfl)).2.2.2.2.1, (cells8H (M2.out.get 5 rfl)).2.2.2.2.2.1, (cells8H (M2.out.get 5 rfl)).2.2.2.2.2.2.1, (cells8H (M2.out.get 5 rfl)).2.2.2.2.2.2.2⟩ (fun hHeld => ?_)
              clear hK K
              refine norm_ (a' := ?_) ?_ ?_
              rotate_left
              · show Act.put _ (some 101) _ = _
                simp only [Act.put, List.setIfInBounds_toArray, List.set_cons_zero, List.set_cons_succ, i64_w, i32_w]
                rfl
              refine last_ (i := 5) (N := none) #[true, true, true, true, true, true] rfl rfl (by kernel_rfl) (by decide) (fun K hK => ?_)
              refine skip_ (w1 := ?_) ?_ ?_ ?_ ?_
              rotate_left
              · rfl
              · rfl
              · go_simp
                rfl
              refine hK.out _ _ ?_
              clear hK K
              refine done_ (by kernel_rfl) ?_
              refine exit_gen (fun W => Hp w [(gp, 24, #[.int .i64 lo, .int .i64 hi, .int .i64 most, .slice A0 es.length c0]), (g4, 29, #[.slice none 0 0, .int .i64 0, .int .u64 0, .int .u64 0, .int .u64 0, .int .u64 0, .bool false]), (g8, 29, #[bv, .int .i64 cnt, .int .u64 0, .int .u64 0, .int .u64 0, .int .u64 0, .bool false]), (g12, 45, (big P)), (g13, 45, (big (Q + Q + di))), (g15, 45, (big di))] bv (v.take i) W) (M2.out.put8 4 rfl _ _ _ _ _ _ _ _) ?_
              clear HD M1 M2 y0 y1 y2 y3 y4 y5 y6 y7 z0 z1 z2 z3 z4 z5 z6 z7 hHeld
              intro w7 hL
              have H9 : Aside0 (Hp w [(gp, 24, #[.int .i64 lo, .int .i64 hi, .int .i64 most, .slice A0 es.length c0]), (g4, 29, #[.slice none 0 0, .int .i64 0, .int .u64 0, .int .u64 0, .int .u64 0, .int .u64 0, .bool false]), (g8, 29, #[bv, .int .i64 cnt, .int .u64 0, .int .u64 0, .int .u64 0, .int .u64 0, .bool false]), (g12, 45, (big P)), (g13, 45, (big (Q + Q + di)))] bv (v.take i) w7) := ⟨Hp.less (cs := [(g15, 45, (big di))]) hL⟩
              clear hL
              go_wp2_with fail
              go_roundg k1
              case measure => omega
              case rel => exact ⟨sn, (k1 : Int) - 1, P, Q + Q + di, by first | rfl | (rw [HSN.out]), by first | rfl | (have h1 := HK.out; have h2 := NN.out; unfold wrap64; congr 1; omega), ⟨rfl⟩, ⟨by have := HK.out; omega⟩, HT2, H9⟩
            · have dg1 : decide ((B : Int) ≤ (k1 : Int)) = false := decide_eq_false (by omega)
              have dg2 : decide (B ≤ k1) = false := decide_eq_false (by omega)
              rw [if_neg hge, if_neg hge] at HT2
              go_wp2_with (first | ((with_reducible refine gate_dst (N := 15) rfl ?_); refine box_event ?hg (N := 15) ?hd (cs := #[.int .u32 0, .int .u32 0, .int .u32 0, .int .u32 0, .int .u32 0, .int .u32 0, .int .u32 0, .int .u32 0]) (t := 45) ?hr ?_; (case hd => rfl); (case hg => rfl); (case hr => first | (go_simp; done) | (go_simp; rfl)); intro g15 hg w5 hbox hb; have H7 : Aside0 (Hp w [(gp, 24, #[.int .i64 lo, .int .i64 hi, .int .i64 most, .slice A0 es.length c0]), (g4, 29, #[.slice none 0 0, .int .i64 0, .int .u64 0, .int .u64 0, .int .u64 0, .int .u64 0, .bool false]), (g8, 29, #[bv, .int .i64 cnt, .int .u64 0, .int .u64 0, .int .u64 0, .int .u64 0, .bool false]), (g12, 45, (big P)), (g13, 45, (big Q)), (g15, 45, #[.int .u32 0, .int .u32 0, .int .u32 0, .int .u32 0, .int .u32 0, .int .u32 0, .int .u32 0, .int .u32 0])] bv (v.take i) w5) := ⟨H6.out.box (Nat.le_of_eq hg.symm) hbox hb (by decide)⟩; clear hb hbox hg; obtain ⟨y0, y1, y2, y3, y4, y5, y6, y7⟩ := cells8H (H7.out.get 5 rfl); obtain ⟨z0, z1, z2, z3, z4, z5, z6, z7⟩ := freesH (H7.out.get 5 rfl)))
              refine code_gen (fun W => Hp w [(gp, 24, #[.int .i64 lo, .int .i64 hi, .int .i64 most, .slice A0 es.length c0]), (g4, 29, #[.slice none 0 0, .int .i64 0, .int .u64 0, .int .u64 0, .int .u64 0, .int .u64 0, .bool false]), (g8, 29, #[bv, .int .i64 cnt, .int .u64 0, .int .u64 0, .int .u64 0, .int .u64 0, .bool false]), (g12, 45, (big P)), (g13, 45, (big Q)), (g15, 45, (big di))] bv (v.take i) W) (H7.out.put8 5 rfl _ _ _ _ _ _ _ _) ?_
              clear H6 H7 y0 y1 y2 y3 y4 y5 y6 y7 z0 z1 z2 z3 z4 z5 z6 z7 dg1 dg2
              intro w6 hL
              have H8 := Aside0.mk hL
              clear hL
              obtain ⟨wd, ewd⟩ : ∃ x, x = w6.drew := ⟨_, rfl⟩
              have HD : Aside0 (Hp w [(gp, 24, #[.int .i64 lo, .int .i64 hi, .int .i64 most, .slice A0 es.length c0]), (g4, 29, #[.slice none 0 0, .int .i64 0, .int .u64 0, .int .u64 0, .int .u64 0, .int .u64 0, .bool false]), (g8, 29, #[bv, .int .i64 cnt, .int .u64 0, .int .u64 0, .int .u64 0, .int .u64 0, .bool false]), (g12, 45, (big P)), (g13, 45, (big Q)), (g15, 45, (big di))] bv (v.take i) wd) := ⟨by rw [ewd]; exact H8.out.drew⟩
              clear H8
              refine start_ (n := 6) (S := fun w' => w'.cell? ⟨g12, 0, none⟩ = some (.int .u32 (bigD P 0)) ∧ w'.cell? ⟨g12, 1, none⟩ = some (.int .u32 (bigD P 1)) ∧ w'.cell? ⟨g12, 2, none⟩ = some (.int .u32 (bigD P 2)) ∧ w'.cell? ⟨g12, 3, none⟩ = some (.int .u32 (bigD P 3)) ∧ w'.cell? ⟨g12, 4, none⟩ = some (.int .u32 (bigD P 4)) ∧ w'.cell? ⟨g12, 5, none⟩ = some (.int .u32 (bigD P 5)) ∧ w'.cell? ⟨g12, 6, none⟩ = some (.int .u32 (bigD P 6)) ∧ w'.cell? ⟨g12, 7, none⟩ = some (.int .u32 (bigD P 7)) ∧ w'.cell? ⟨g15, 0, none⟩ = some (.int .u32 (bigD di 0)) ∧ w'.cell? ⟨g15, 1, none⟩ = some (.int .u32 (bigD di 1)) ∧ w'.cell? ⟨g15, 2, none⟩ = some (.int .u32 (bigD di 2)) ∧ w'.cell? ⟨g15, 3, none⟩ = some (.int .u32 (bigD di 3)) ∧ w'.cell? ⟨g15, 4, none⟩ = some (.int .u32 (bigD di 4)) ∧ w'.cell? ⟨g15, 5, none⟩ = some (.int .u32 (bigD di 5)) ∧ w'.cell? ⟨g15, 6, none⟩ = some (.int .u32 (bigD di 6)) ∧ w'.cell? ⟨g15, 7, none⟩ = some (.int .u32 (bigD di 7))) (ds := [5]) #[false, false, false, false, false, false] (by kernel_rfl) rfl rfl (by rw [← ewd]; exact ⟨(cells8H (HD.out.get 3 rfl)).1, (cells8H (HD.out.get 3 rfl)).2.1, (cells8H (HD.out.get 3 rfl)).2.2.1, (cells8H (HD.out.get 3 rfl)).2.2.2.1, (cells8H (HD.out.get 3 rfl)).2.2.2.2.1, (cells8H (HD.out.get 3 rfl)).2.2.2.2.2.1, (cells8H (HD.out.get 3 rfl)).2.2.2.2.2.2.1, (cells8H (HD.out.get 3 rfl)).2.2.2.2.2.2.2, (cells8H (HD.out.get 5 rfl)).1, (cells8H (HD.out.get 5 rfl)).2.1, (cells8H (HD.out.get 5 rfl)).2.2.1, (cells8H (HD.out.get 5 rfl)).2.2.2.1, (cells8H (HD.out.get 5 rfl)).2.2.2.2.1, (cells8H (HD.out.get 5 rfl)).2.2.2.2.2.1, (cells8H (HD.out.get 5 rfl)).2.2.2.2.2.2.1, (cells8H (HD.out.get 5 rfl)).2.2.2.2.2.2.2⟩) (fun hHeld => ?_)
              rw [← ewd] at hHeld ⊢
              clear ewd
              refine take_ (i := 0) (N := some 102) (v := ?_) (a' := ?_) #[true, false, false, false, false, false] rfl rfl (by kernel_rfl) (fun _ _ _ h => h) (Or.inl ⟨by rfl, ?_⟩) hHeld ?_ ?_
              rotate_left
              · rintro w' ⟨s0, s1, s2, s3, s4, s5, s6, s7, s8, s9, s10, s11, s12, s13, s14, s15⟩
                go_simp
                with_reducible rfl
              rotate_left
              · simp only [Act.put, List.setIfInBounds_toArray, List.set_cons_zero, List.set_cons_succ, i64_w, i32_w]
                rfl
              refine take_ (i := 1) (N := some 103) (v := ?_) (a' := ?_) #[true, true, false, false, false, false] rfl rfl (by kernel_rfl) (fun _ _ _ h => h) (Or.inl ⟨by rfl, ?_⟩) hHeld ?_ ?_
              rotate_left
              · rintro w' ⟨s0, s1, s2, s3, s4, s5, s6, s7, s8, s9, s10, s11, s12, s13, s14, s15⟩
                go_simp
                with_reducible rfl
              rotate_left
              · simp only [Act.put, List.setIfInBounds_toArray, List.set_cons_zero, List.set_cons_succ, i64_w, i32_w]
                rfl
              refine take_ (i := 3) (N := some 105) (v := ?_) (a' := ?_) #[true, true, false, true, false, false] rfl rfl (by kernel_rfl) (fun _ _ _ h => h) (Or.inl ⟨by rfl, ?_⟩) hHeld ?_ ?_
              rotate_left
              · rintro w' ⟨s0, s1, s2, s3, s4, s5, s6, s7, s8, s9, s10, s11, s12, s13, s14, s15⟩
                go_simp
                with_reducible rfl
              rotate_left
              · simp only [Act.put, List.setIfInBounds_toArray, List.set_cons_zero, List.set_cons_succ, i64_w, i32_w]
                rfl
              refine one_ (i := 2) (N := some 104) #[true, true, true, true, false, false] rfl rfl (by kernel_rfl) (by decide) (fun K hK => ?_)
              refine goes_ Try.func31 (by kernel_rfl) rfl #[.agg (big P), .agg (big P)] (by rfl) rfl rfl (by (try simp only [List.map_toArray, List.map_cons, List.map_nil]); first | done | rfl) ?_
              with_reducible refine (add_c P P _).mono ?_
              rintro e x1 ⟨rfl, hb⟩
              have M1 := Aside0.mk (HD.out.below hb)
              clear hb
              refine ⟨_, rfl, ?_⟩
              refine hK.out _ _ ⟨(cells8H (M1.out.get 3 rfl)).1, (cells8H (M1.out.get 3 rfl)).2.1, (cells8H (M1.out.get 3 rfl)).2.2.1, (cells8H (M1.out.get 3 rfl)).2.2.2.1, (cells8H (M1.out.get 3 rfl)).2.2.2.2.1, (cells8H (M1.out.get 3 rfl)).2.2.2.2.2.1, (cells8H (M1.out.get 3 rfl)).2.2.2.2.2.2.1, (cells8H (M1.out.get 3 rfl)).2.2.2.2.2.2.2, (cells8H (M1.out.get 5 rfl)).1, (cells8H (M1.out.get 5 rfl)).2.1, (cells8H (M1.out.get 5 rfl)).2.2.1, (cells8H (M1.out.get 5 rfl)).2.2.2.1, (cells8H (M1.out.get 5 rfl)).2.2.2.2.1, (cells8H (M1.out.get 5 rfl)).2.2.2.2.2.1, (cells8H (M1.out.get 5 rfl)).2.2.2.2.2.2.1, (cells8H (M1.out.get 5 rfl)).2.2.2.2.2.2.2⟩ (fun hHeld => ?_)
              clear hK K
              refine norm_ (a' := ?_) ?_ ?_
              rotate_left
              · show Act.put _ (some 104) _ = _
                simp only [Act.put, List.setIfInBounds_toArray, List.set_cons_zero, List.set_cons_succ, i64_w, i32_w]
                rfl
              refine one_ (i := 4) (N := some 106) #[true, true, true, true, true, false] rfl rfl (by kernel_rfl) (by decide) (fun K hK => ?_)
              refine goes_ Try.func31 (by kernel_rfl) rfl #[.agg (big (P + P)), .agg (big di)] (by rfl) rfl rfl (by (try simp only [List.map_toArray, List.map_cons, List.map_nil]); first | done | rfl) ?_
              with_reducible refine (add_c (P + P) di _).mono ?_
              rintro e x2 ⟨rfl, hb⟩
              have M2 := Aside0.mk (M1.out.below hb)
              clear hb
              obtain ⟨y0, y1, y2, y3, y4, y5, y6, y7⟩ := cells8H (M2.out.get 3 rfl)
              obtain ⟨z0, z1, z2, z3, z4, z5, z6, z7⟩ := freesH (M2.out.get 3 rfl)
              refine ⟨_, rfl, ?_⟩
              refine hK.out _ _ ⟨(cells8H (M2.out.get 3 rfl)).1, (cells8H (M2.out.get 3 rfl)).2.1, (cells8H (M2.out.get 3 rfl)).2.2.1, (cells8H (M2.out.get 3 rfl)).2.2.2.1, (cells8H (M2.out.get 3 rfl)).2.2.2.2.1, (cells8H (M2.out.get 3 rfl)).2.2.2.2.2.1, (cells8H (M2.out.get 3 rfl)).2.2.2.2.2.2.1, (cells8H (M2.out.get 3 rfl)).2.2.2.2.2.2.2, (cells8H (M2.out.get 5 rfl)).1, (cells8H (M2.out.get 5 rfl)).2.1, (cells8H (M2.out.get 5 rfl)).2.2.1, (cells8H (M2.out.get 5 rfl)).2.2.2.1, (cells8H (M2.out.get 5 rfl)).2.2.2.2.1, (cells8H (M2.out.get 5 rfl)).2.2.2.2.2.1, (cells8H (M2.out.get 5 rfl)).2.2.2.2.2.2.1, (cells8H (M2.out.get 5 rfl)).2.2.2.2.2.2.2⟩ (fun hHeld => ?_)
              clear hK K
              refine norm_ (a' := ?_) ?_ ?_
              rotate_left
              · show Act.put _ (some 106) _ = _
                simp only [Act.put, List.setIfInBounds_toArray, List.set_cons_zero, List.set_cons_succ, i64_w, i32_w]
                rfl
              refine last_ (i := 5) (N := none) #[true, true, true, true, true, true] rfl rfl (by kernel_rfl) (by decide) (fun K hK => ?_)
              refine skip_ (w1 := ?_) ?_ ?_ ?_ ?_
              rotate_left
              · rfl
              · rfl
              · go_simp
                rfl
              refine hK.out _ _ ?_
              clear hK K
              refine done_ (by kernel_rfl) ?_
              refine exit_gen (fun W => Hp w [(gp, 24, #[.int .i64 lo, .int .i64 hi, .int .i64 most, .slice A0 es.length c0]), (g4, 29, #[.slice none 0 0, .int .i64 0, .int .u64 0, .int .u64 0, .int .u64 0, .int .u64 0, .bool false]), (g8, 29, #[bv, .int .i64 cnt, .int .u64 0, .int .u64 0, .int .u64 0, .int .u64 0, .bool false]), (g12, 45, (big (P + P + di))), (g13, 45, (big Q)), (g15, 45, (big di))] bv (v.take i) W) (M2.out.put8 3 rfl _ _ _ _ _ _ _ _) ?_
              clear HD M1 M2 y0 y1 y2 y3 y4 y5 y6 y7 z0 z1 z2 z3 z4 z5 z6 z7 hHeld
              intro w7 hL
              have H9 : Aside0 (Hp w [(gp, 24, #[.int .i64 lo, .int .i64 hi, .int .i64 most, .slice A0 es.length c0]), (g4, 29, #[.slice none 0 0, .int .i64 0, .int .u64 0, .int .u64 0, .int .u64 0, .int .u64 0, .bool false]), (g8, 29, #[bv, .int .i64 cnt, .int .u64 0, .int .u64 0, .int .u64 0, .int .u64 0, .bool false]), (g12, 45, (big (P + P + di))), (g13, 45, (big Q))] bv (v.take i) w7) := ⟨Hp.less (cs := [(g15, 45, (big di))]) hL⟩
              clear hL
              go_wp2_with fail
              go_roundg k1
              case measure => omega
              case rel => exact ⟨sn, (k1 : Int) - 1, P + P + di, Q, by first | rfl | (rw [HSN.out]), by first | rfl | (have h1 := HK.out; have h2 := NN.out; unfold wrap64; congr 1; omega), ⟨rfl⟩, ⟨by have := HK.out; omega⟩, HT2, H9⟩
          | true =>
            have hsn : sn = true := by rw [esn]; rfl
            have HSN := Aside0.mk hsn
            clear hsn esn
            refine start_ (n := 16) (S := fun w' => w'.cell? (adv.add j2.toNat) = some (.int .u32 di) ∧ w'.cell? (adv.add i) = some (.int .u32 cnt)) (ds := []) #[false, false, false, false, false, false, false, false, false, false, false, false, false, false, false, false] (by kernel_rfl) rfl rfl (by rw [← ewd]; exact ⟨HXJ.out _ HD.out.hb, HXN.out _ HD.out.hb⟩) (fun hHeld => ?_)
            rw [← ewd] at hHeld ⊢
            clear ewd
            refine pure_ (i := 0) (N := some 70) (v := ?_) (a' := ?_) #[true, false, false, false, false, false, false, false, false, false, false, false, false, false, false, false] rfl rfl (by kernel_rfl) (fun _ _ _ h => h) (Or.inl ⟨by rfl, ?_⟩) ?_ ?_
            rotate_left
            · intro w'
              go_simp
              with_reducible rfl
            rotate_left
            · simp only [Act.put, List.setIfInBounds_toArray, List.set_cons_zero, List.set_cons_succ, i64_w, i32_w]
              rfl
            refine pure_ (i := 1) (N := some 71) (v := ?_) (a' := ?_) #[true, true, false, false, false, false, false, false, false, false, false, false, false, false, false, false] rfl rfl (by kernel_rfl) (fun _ _ _ h => h) (Or.inl ⟨by rfl, ?_⟩) ?_ ?_
            rotate_left
            · intro w'
              go_simp
              with_reducible rfl
            rotate_left
            · simp only [Act.put, List.setIfInBounds_toArray, List.set_cons_zero, List.set_cons_succ, i64_w, i32_w]
              rfl
            refine pure_ (i := 2) (N := some 72) (v := undef) (a' := ?_) #[true, true, true, false, false, false, false, false, false, false, false, false, false, false, false, false] rfl rfl (by kernel_rfl) (fun _ _ _ h => h) (Or.inr ⟨by rfl, rfl⟩) ?_ ?_
            rotate_left
            · simp only [Act.put, List.setIfInBounds_toArray, List.set_cons_zero, List.set_cons_succ, i64_w, i32_w]
              rfl
            refine pure_ (i := 3) (N := some 73) (v := undef) (a' := ?_) #[true, true, true, true, false, false, false, false, false, false, false, false, false, false, false, false] rfl rfl (by kernel_rfl) (fun _ _ _ h => h) (Or.inr ⟨by rfl, rfl⟩) ?_ ?_
            rotate_left
            · simp only [Act.put, List.setIfInBounds_toArray, List.set_cons_zero, List.set_cons_succ, i64_w, i32_w]
              rfl
            refine pure_ (i := 4) (N := some 74) (v := undef) (a' := ?_) #[true, true, true, true, true, false, false, false, false, false, false, false, false, false, false, false] rfl rfl (by kernel_rfl) (fun _ _ _ h => h) (Or.inr ⟨by rfl, rfl⟩) ?_ ?_
            rotate_left
            · simp only [Act.put, List.setIfInBounds_toArray, List.set_cons_zero, List.set_cons_succ, i64_w, i32_w]
              rfl
            refine pure_ (i := 5) (N := some 75) (v := undef) (a' := ?_) #[true, true, true, true, true, true, false, false, false, false, false, false, false, false, false, false] rfl rfl (by kernel_rfl) (fun _ _ _ h => h) (Or.inr ⟨by rfl, rfl⟩) ?_ ?_
            rotate_left
            · simp only [Act.put, List.setIfInBounds_toArray, List.set_cons_zero, List.set_cons_succ, i64_w, i32_w]
              rfl
            refine pure_ (i := 6) (N := some 76) (v := undef) (a' := ?_) #[true, true, true, true, true, true, true, false, false, false, false, false, false, false, false, false] rfl rfl (by kernel_rfl) (fun _ _ _ h => h) (Or.inr ⟨by rfl, rfl⟩) ?_ ?_
            rotate_left
            · simp only [Act.put, List.setIfInBounds_toArray, List.set_cons_zero, List.set_cons_succ, i64_w, i32_w]
              rfl
            refine pure_ (i := 7) (N := some 77) (v := undef) (a' := ?_) #[true, true, true, true, true, true, true, true, false, false, false, false, false, false, false, false] rfl rfl (by kernel_rfl) (fun _ _ _ h => h) (Or.inr ⟨by rfl, rfl⟩) ?_ ?_
            rotate_left
            · simp only [Act.put, List.setIfInBounds_toArray, List.set_cons_zero, List.set_cons_succ, i64_w, i32_w]
              rfl
            refine pure_ (i := 8) (N := some 78) (v := undef) (a' := ?_) #[true, true, true, true, true, true, true, true, true, false, false, false, false, false, false, false] rfl rfl (by kernel_rfl) (fun _ _ _ h => h) (Or.inr ⟨by rfl, rfl⟩) ?_ ?_
            rotate_left
            · simp only [Act.put, List.setIfInBounds_toArray, List.set_cons_zero, List.set_cons_succ, i64_w, i32_w]
              rfl
            refine pure_ (i := 9) (N := some 79) (v := undef) (a' := ?_) #[true, true, true, true, true, true, true, true, true, true, false, false, false, false, false, false] rfl rfl (by kernel_rfl) (fun _ _ _ h => h) (Or.inr ⟨by rfl, rfl⟩) ?_ ?_
            rotate_left
            · simp only [Act.put, List.setIfInBounds_toArray, List.set_cons_zero, List.set_cons_succ, i64_w, i32_w]
              rfl
            refine pure_ (i := 10) (N := some 80) (v := undef) (a' := ?_) #[true, true, true, true, true, true, true, true, true, true, true, false, false, false, false, false] rfl rfl (by kernel_rfl) (fun _ _ _ h => h) (Or.inr ⟨by rfl, rfl⟩) ?_ ?_
            rotate_left
            · simp only [Act.put, List.setIfInBounds_toArray, List.set_cons_zero, List.set_cons_succ, i64_w, i32_w]
              rfl
            refine pure_ (i := 11) (N := some 81) (v := undef) (a' := ?_) #[true, true, true, true, true, true, true, true, true, true, true, true, false, false, false, false] rfl rfl (by kernel_rfl) (fun _ _ _ h => h) (Or.inr ⟨by rfl, rfl⟩) ?_ ?_
            rotate_left
            · simp only [Act.put, List.setIfInBounds_toArray, List.set_cons_zero, List.set_cons_succ, i64_w, i32_w]
              rfl
            refine pure_ (i := 12) (N := some 82) (v := undef) (a' := ?_) #[true, true, true, true, true, true, true, true, true, true, true, true, true, false, false, false] rfl rfl (by kernel_rfl) (fun _ _ _ h => h) (Or.inr ⟨by rfl, rfl⟩) ?_ ?_
            rotate_left
            · simp only [Act.put, List.setIfInBounds_toArray, List.set_cons_zero, List.set_cons_succ, i64_w, i32_w]
              rfl
            refine pure_ (i := 13) (N := some 83) (v := undef) (a' := ?_) #[true, true, true, true, true, true, true, true, true, true, true, true, true, true, false, false] rfl rfl (by kernel_rfl) (fun _ _ _ h => h) (Or.inr ⟨by rfl, rfl⟩) ?_ ?_
            rotate_left
            · simp only [Act.put, List.setIfInBounds_toArray, List.set_cons_zero, List.set_cons_succ, i64_w, i32_w]
              rfl
            refine pure_ (i := 14) (N := some 84) (v := ?_) (a' := ?_) #[true, true, true, true, true, true, true, true, true, true, true, true, true, true, true, false] rfl rfl (by kernel_rfl) (fun _ _ _ h => h) (Or.inl ⟨by rfl, ?_⟩) ?_ ?_
            rotate_left
            · intro w'
              go_simp
              with_reducible rfl
            rotate_left
            · simp only [Act.put, List.setIfInBounds_toArray, List.set_cons_zero, List.set_cons_succ, i64_w, i32_w]
              rfl
            refine pure_ (i := 15) (N := some 11) (v := ?_) (a' := ?_) #[true, true, true, true, true, true, true, true, true, true, true, true, true, true, true, true] rfl rfl (by kernel_rfl) (fun _ _ _ h => h) (Or.inl ⟨by rfl, ?_⟩) ?_ ?_
            rotate_left
            · intro w'
              go_simp
              with_reducible rfl
            rotate_left
            · simp only [Act.put, List.setIfInBounds_toArray, List.set_cons_zero, List.set_cons_succ, i64_w, i32_w]
              rfl
            refine done_ (by kernel_rfl) ?_
            clear hHeld
            have hx := HXJ.out _ HD.out.hb
            go_wp2_with fail
            go_at_call 29
            refine (int_c di (by have := DI.out; omega) _).mono ?_
            rintro e w4 ⟨rfl, hb⟩
            have H6 := Aside0.mk (HD.out.below hb)
            clear hb hx HD
            have GO := Aside0.mk trivial
            rcases Decidable.em (B ≤ k1) with hge | hge
            · have dg1 : decide ((B : Int) ≤ (k1 : Int)) = true := decide_eq_true (by omega)
              have dg2 : decide (B ≤ k1) = true := decide_eq_true (by omega)
              rw [if_pos hge, if_pos hge] at HT2
              go_wp2_with (first | ((with_reducible refine gate_dst (N := 15) rfl ?_); refine box_event ?hg (N := 15) ?hd (cs := #[.int .u32 0, .int .u32 0, .int .u32 0, .int .u32 0, .int .u32 0, .int .u32 0, .int .u32 0, .int .u32 0]) (t := 45) ?hr ?_; (case hd => rfl); (case hg => rfl); (case hr => first | (go_simp; done) | (go_simp; rfl)); intro g15 hg w5 hbox hb; have H7 : Aside0 (Hp w [(gp, 24, #[.int .i64 lo, .int .i64 hi, .int .i64 most, .slice A0 es.length c0]), (g4, 29, #[.slice none 0 0, .int .i64 0, .int .u64 0, .int .u64 0, .int .u64 0, .int .u64 0, .bool false]), (g8, 29, #[bv, .int .i64 cnt, .int .u64 0, .int .u64 0, .int .u64 0, .int .u64 0, .bool false]), (g12, 45, (big P)), (g13, 45, (big Q)), (g15, 45, #[.int .u32 0, .int .u32 0, .int .u32 0, .int .u32 0, .int .u32 0, .int .u32 0, .int .u32 0, .int .u32 0])] bv (v.take i) w5) := ⟨H6.out.box (Nat.le_of_eq hg.symm) hbox hb (by decide)⟩; clear hb hbox hg; obtain ⟨y0, y1, y2, y3, y4, y5, y6, y7⟩ := cells8H (H7.out.get 5 rfl); obtain ⟨z0, z1, z2, z3, z4, z5, z6, z7⟩ := freesH (H7.out.get 5 rfl)))
              refine code_gen (fun W => Hp w [(gp, 24, #[.int .i64 lo, .int .i64 hi, .int .i64 most, .slice A0 es.length c0]), (g4, 29, #[.slice none 0 0, .int .i64 0, .int .u64 0, .int .u64 0, .int .u64 0, .int .u64 0, .bool false]), (g8, 29, #[bv, .int .i64 cnt, .int .u64 0, .int .u64 0, .int .u64 0, .int .u64 0, .bool false]), (g12, 45, (big P)), (g13, 45, (big Q)), (g15, 45, (big di))] bv (v.take i) W) (H7.out.put8 5 rfl _ _ _ _ _ _ _ _) ?_
              clear H6 H7 y0 y1 y2 y3 y4 y5 y6 y7 z0 z1 z2 z3 z4 z5 z6 z7 dg1 dg2
              intro w6 hL
              have H8 := Aside0.mk hL
              clear hL
              obtain ⟨wd, ewd⟩ : ∃ x, x = w6.drew := ⟨_, rfl⟩
              have HD : Aside0 (Hp w [(gp, 24, #[.int .i64 lo, .int .i64 hi, .int .i64 most, .slice A0 es.length c0]), (g4, 29, #[.slice none 0 0, .int .i64 0, .int .u64 0, .int .u64 0, .int .u64 0, .int .u64 0, .bool false]), (g8, 29, #[bv, .int .i64 cnt, .int .u64 0, .int .u64 0, .int .u64 0, .int .u64 0, .bool false]), (g12, 45, (big P)), (g13, 45, (big Q)), (g15, 45, (big di))] bv (v.take i) wd) := ⟨by rw [ewd]; exact H8.out.drew⟩
              clear H8
              refine start_ (n := 6) (S := fun w' => w'.cell? ⟨g13, 0, none⟩ = some (.int .u32 (bigD Q 0)) ∧ w'.cell? ⟨g13, 1, none⟩ = some (.int .u32 (bigD Q 1)) ∧ w'.cell? ⟨g13, 2, none⟩ = some (.int .u32 (bigD Q 2)) ∧ w'.cell? ⟨g13, 3, none⟩ = some (.int .u32 (bigD Q 3)) ∧ w'.cell? ⟨g13, 4, none⟩ = some (.int .u32 (bigD Q 4)) ∧ w'.cell? ⟨g13, 5, none⟩ = some (.int .u32 (bigD Q 5)) ∧ w'.cell? ⟨g13, 6, none⟩ = some (.int .u32 (bigD Q 6)) ∧ w'.cell? ⟨g13, 7, none⟩ = some (.int .u32 (bigD Q 7)) ∧ w'.cell? ⟨g15, 0, none⟩ = some (.int .u32 (bigD di 0)) ∧ w'.cell? ⟨g15, 1, none⟩ = some (.int .u32 (bigD di 1)) ∧ w'.cell? ⟨g15, 2, none⟩ = some (.int .u32 (bigD di 2)) ∧ w'.cell? ⟨g15, 3, none⟩ = some (.int .u32 (bigD di 3)) ∧ w'.cell? ⟨g15, 4, none⟩ = some (.int .u32 (bigD di 4)) ∧ w'.cell? ⟨g15, 5, none⟩ = some (.int .u32 (bigD di 5)) ∧ w'.cell? ⟨g15, 6, none⟩ = some (.int .u32 (bigD di 6)) ∧ w'.cell? ⟨g15, 7, none⟩ = some (.int .u32 (bigD di 7))) (ds := [5]) #[false, false, false, false, false, false] (by kernel_rfl) rfl rfl (by rw [← ewd]; exact ⟨(cells8H (HD.out.get 4 rfl)).1, (cells8H (HD.out.get 4 rfl)).2.1, (cells8H (HD.out.get 4 rfl)).2.2.1, (cells8H (HD.out.get 4 rfl)).2.2.2.1, (cells8H (HD.out.get 4 rfl)).2.2.2.2.1, (cells8H (HD.out.get 4 rfl)).2.2.2.2.2.1, (cells8H (HD.out.get 4 rfl)).2.2.2.2.2.2.1, (cells8H (HD.out.get 4 rfl)).2.2.2.2.2.2.2, (cells8H (HD.out.get 5 rfl)).1, (cells8H (HD.out.get 5 rfl)).2.1, (cells8H (HD.out.get 5 rfl)).2.2.1, (cells8H (HD.out.get 5 rfl)).2.2.2.1, (cells8H (HD.out.get 5 rfl)).2.2.2.2.1, (cells8H (HD.out.get 5 rfl)).2.2.2.2.2.1, (cells8H (HD.out.get 5 rfl)).2.2.2.2.2.2.1, (cells8H (HD.out.get 5 rfl)).2.2.2.2.2.2.2⟩) (fun hHeld => ?_)
              rw [← ewd] at hHeld ⊢
              clear ewd
              refine take_ (i := 0) (N := some 97) (v := ?_) (a' := ?_) #[true, false, false, false, false, false] rfl rfl (by kernel_rfl) (fun _ _ _ h => h) (Or.inl ⟨by rfl, ?_⟩) hHeld ?_ ?_
              rotate_left
              · rintro w' ⟨s0, s1, s2, s3, s4, s5, s6, s7, s8, s9, s10, s11, s12, s13, s14, s15⟩
                go_simp
                with_reducible rfl
              rotate_left
              · simp only [Act.put, List.setIfInBounds_toArray, List.set_cons_zero, List.set_cons_succ, i64_w, i32_w]
                rfl
              refine take_ (i := 1) (N := some 98) (v := ?_) (a' := ?_) #[true, true, false, false, false, false] rfl rfl (by kernel_rfl) (fun _ _ _ h => h) (Or.inl ⟨by rfl, ?_⟩) hHeld ?_ ?_
              rotate_left
              · rintro w' ⟨s0, s1, s2, s3, s4, s5, s6, s7, s8, s9, s10, s11, s12, s13, s14, s15⟩
                go_simp
                with_reducible rfl
              rotate_left
              · simp only [Act.put, List.setIfInBounds_toArray, List.set_cons_zero, List.set_cons_succ, i64_w, i32_w]
                rfl
              refine take_ (i := 3) (N := some 100) (v := ?_) (a' := ?_) #[true, true, false, true, false, false] rfl rfl (by kernel_rfl) (fun _ _ _ h => h) (Or.inl ⟨by rfl, ?_⟩) hHeld ?_ ?_
              rotate_left
              · rintro w' ⟨s0, s1, s2, s3, s4, s5, s6, s7, s8, s9, s10, s11, s12, s13, s14, s15⟩
                go_simp
                with_reducible rfl
              rotate_left
              · simp only [Act.put, List.setIfInBounds_toArray, List.set_cons_zero, List.set_cons_succ, i64_w, i32_w]
                rfl
              refine one_ (i := 2) (N := some 99) #[true, true, true, true, false, false] rfl rfl (by kernel_rfl) (by decide) (fun K hK => ?_)
              refine goes_ Try.func31 (by kernel_rfl) rfl #[.agg (big Q), .agg (big Q)] (by rfl) rfl rfl (by (try simp only [List.map_toArray, List.map_cons, List.map_nil]); first | done | rfl) ?_
              with_reducible refine (add_c Q Q _).mono ?_
              rintro e x1 ⟨rfl, hb⟩
              have M1 := Aside0.mk (HD.out.below hb)
              clear hb
              refine ⟨_, rfl, ?_⟩
              refine hK.out _ _ ⟨(cells8H (M1.out.get 4 rfl)).1, (cells8H (M1.out.get 4 rfl)).2.1, (cells8H (M1.out.get 4 rfl)).2.2.1, (cells8H (M1.out.get 4 rfl)).2.2.2.1, (cells8H (M1.out.get 4 rfl)).2.2.2.2.1, (cells8H (M1.out.get 4 rfl)).2.2.2.2.2.1, (cells8H (M1.out.get 4 rfl)).2.2.2.2.2.2.1, (cells8H (M1.out.get 4 rfl)).2.2.2.2.2.2.2, (cells8H (M1.out.get 5 rfl)).1, (cells8H (M1.out.get 5 rfl)).2.1, (cells8H (M1.out.get 5 rfl)).2.2.1, (cells8H (M1.out.get 5 rfl)).2.2.2.1, (cells8H (M1.out.get 5 rfl)).2.2.2.2.1, (cells8H (M1.out.get 5 rfl)).2.2.2.2.2.1, (cells8H (M1.out.get 5 rfl)).2.2.2.2.2.2.1, (cells8H (M1.out.get 5 rfl)).2.2.2.2.2.2.2⟩ (fun hHeld => ?_)
              clear hK K
              refine norm_ (a' := ?_) ?_ ?_
              rotate_left
              · show Act.put _ (some 99) _ = _
                simp only [Act.put, List.setIfInBounds_toArray, List.set_cons_zero, List.set_cons_succ, i64_w, i32_w]
                rfl
              refine one_ (i := 4) (N := some 101) #[true, true, true, true, true, false] rfl rfl (by kernel_rfl) (by decide) (fun K hK => ?_)
              refine goes_ Try.func31 (by kernel_rfl) rfl #[.agg (big (Q + Q)), .agg (big di)] (by rfl) rfl rfl (by (try simp only [List.map_toArray, List.map_cons, List.map_nil]); first | done | rfl) ?_
              with_reducible refine (add_c (Q + Q) di _).mono ?_
              rintro e x2 ⟨rfl, hb⟩
              have M2 := Aside0.mk (M1.out.below hb)
              clear hb
              obtain ⟨y0, y1, y2, y3, y4, y5, y6, y7⟩ := cells8H (M2.out.get 4 rfl)
              obtain ⟨z0, z1, z2, z3, z4, z5, z6, z7⟩ := freesH (M2.out.get 4 rfl)
              refine ⟨_, rfl, ?_⟩
              refine hK.out _ _ ⟨(cells8H (M2.out.get 4 rfl)).1, (cells8H (M2.out.get 4 rfl)).2.1, (cells8H (M2.out.get 4 rfl)).2.2.1, (cells8H (M2.out.get 4 rfl)).2.2.2.1, (cells8H (M2.out.get 4 rfl)).2.2.2.2.1, (cells8H (M2.out.get 4 rfl)).2.2.2.2.2.1, (cells8H (M2.out.get 4 rfl)).2.2.2.2.2.2.1, (cells8H (M2.out.get 4 rfl)).2.2.2.2.2.2.2, (cells8H (M2.out.get 5 rfl)).1, (cells8H (M2.out.get 5 rfl)).2.1, (cells8H (M2.out.get 5 rfl)).2.2.1, (cells8H (M2.out.get 5 rfl)).2.2.2.1, (cells8H (M2.out.get 5 rfl)).2.2.2.2.1, (cells8H (M2.out.get 5 rfl)).2.2.2.2.2.1, (cells8H (M2.out.get 5 rfl)).2.2.2.2.2.2.1, (cells8H (M2.out.get 5 rfl)).2.2.2.2.2.2.2⟩ (fun hHeld => ?_)
              clear hK K
              refine norm_ (a' := ?_) ?_ ?_
              rotate_left
              · show Act.put _ (some 101) _ = _
                simp only [Act.put, List.setIfInBounds_toArray, List.set_cons_zero, List.set_cons_succ, i64_w, i32_w]
                rfl
              refine last_ (i := 5) (N := none) #[true, true, true, true, true, true] rfl rfl (by kernel_rfl) (by decide) (fun K hK => ?_)
              refine skip_ (w1 := ?_) ?_ ?_ ?_ ?_
              rotate_left
              · rfl
              · rfl
              · go_simp
                rfl
              refine hK.out _ _ ?_
              clear hK K
              refine done_ (by kernel_rfl) ?_
              refine exit_gen (fun W => Hp w [(gp, 24, #[.int .i64 lo, .int .i64 hi, .int .i64 most, .slice A0 es.length c0]), (g4, 29, #[.slice none 0 0, .int .i64 0, .int .u64 0, .int .u64 0, .int .u64 0, .int .u64 0, .bool false]), (g8, 29, #[bv, .int .i64 cnt, .int .u64 0, .int .u64 0, .int .u64 0, .int .u64 0, .bool false]), (g12, 45, (big P)), (g13, 45, (big (Q + Q + di))), (g15, 45, (big di))] bv (v.take i) W) (M2.out.put8 4 rfl _ _ _ _ _ _ _ _) ?_
              clear HD M1 M2 y0 y1 y2 y3 y4 y5 y6 y7 z0 z1 z2 z3 z4 z5 z6 z7 hHeld
              intro w7 hL
              have H9 : Aside0 (Hp w [(gp, 24, #[.int .i64 lo, .int .i64 hi, .int .i64 most, .slice A0 es.length c0]), (g4, 29, #[.slice none 0 0, .int .i64 0, .int .u64 0, .int .u64 0, .int .u64 0, .int .u64 0, .bool false]), (g8, 29, #[bv, .int .i64 cnt, .int .u64 0, .int .u64 0, .int .u64 0, .int .u64 0, .bool false]), (g12, 45, (big P)), (g13, 45, (big (Q + Q + di)))] bv (v.take i) w7) := ⟨Hp.less (cs := [(g15, 45, (big di))]) hL⟩
              clear hL
              go_wp2_with fail
              go_roundg k1
              case measure => omega
              case rel => exact ⟨sn, (k1 : Int) - 1, P, Q + Q + di, by first | rfl | (rw [HSN.out]), by first | rfl | (have h1 := HK.out; have h2 := NN.out; unfold wrap64; congr 1; omega), ⟨rfl⟩, ⟨by have := HK.out; omega⟩, HT2, H9⟩
            · have dg1 : decide ((B : Int) ≤ (k1 : Int)) = false := decide_eq_false (by omega)
              have dg2 : decide (B ≤ k1) = false := decide_eq_false (by omega)
              rw [if_neg hge, if_neg hge] at HT2
              go_wp2_with (first | ((with_reducible refine gate_dst (N := 15) rfl ?_); refine box_event ?hg (N := 15) ?hd (cs := #[.int .u32 0, .int .u32 0, .int .u32 0, .int .u32 0, .int .u32 0, .int .u32 0, .int .u32 0, .int .u32 0]) (t := 45) ?hr ?_; (case hd => rfl); (case hg => rfl); (case hr => first | (go_simp; done) | (go_simp; rfl)); intro g15 hg w5 hbox hb; have H7 : Aside0 (Hp w [(gp, 24, #[.int .i64 lo, .int .i64 hi, .int .i64 most, .slice A0 es.length c0]), (g4, 29, #[.slice none 0 0, .int .i64 0, .int .u64 0, .int .u64 0, .int .u64 0, .int .u64 0, .bool false]), (g8, 29, #[bv, .int .i64 cnt, .int .u64 0, .int .u64 0, .int .u64 0, .int .u64 0, .bool false]), (g12, 45, (big P)), (g13, 45, (big Q)), (g15, 45, #[.int .u32 0, .int .u32 0, .int .u32 0, .int .u32 0, .int .u32 0, .int .u32 0, .int .u32 0, .int .u32 0])] bv (v.take i) w5) := ⟨H6.out.box (Nat.le_of_eq hg.symm) hbox hb (by decide)⟩; clear hb hbox hg; obtain ⟨y0, y1, y2, y3, y4, y5, y6, y7⟩ := cells8H (H7.out.get 5 rfl); obtain ⟨z0, z1, z2, z3, z4, z5, z6, z7⟩ := freesH (H7.out.get 5 rfl)))
              refine code_gen (fun W => Hp w [(gp, 24, #[.int .i64 lo, .int .i64 hi, .int .i64 most, .slice A0 es.length c0]), (g4, 29, #[.slice none 0 0, .int .i64 0, .int .u64 0, .int .u64 0, .int .u64 0, .int .u64 0, .bool false]), (g8, 29, #[bv, .int .i64 cnt, .int .u64 0, .int .u64 0, .int .u64 0, .int .u64 0, .bool false]), (g12, 45, (big P)), (g13, 45, (big Q)), (g15, 45, (big di))] bv (v.take i) W) (H7.out.put8 5 rfl _ _ _ _ _ _ _ _) ?_
              clear H6 H7 y0 y1 y2 y3 y4 y5 y6 y7 z0 z1 z2 z3 z4 z5 z6 z7 dg1 dg2
              intro w6 hL
              have H8 := Aside0.mk hL
              clear hL
              obtain ⟨wd, ewd⟩ : ∃ x, x = w6.drew := ⟨_, rfl⟩
              have HD : Aside0 (Hp w [(gp, 24, #[.int .i64 lo, .int .i64 hi, .int .i64 most, .slice A0 es.length c0]), (g4, 29, #[.slice none 0 0, .int .i64 0, .int .u64 0, .int .u64 0, .int .u64 0, .int .u64 0, .bool false]), (g8, 29, #[bv, .int .i64 cnt, .int .u64 0, .int .u64 0, .int .u64 0, .int .u64 0, .bool false]), (g12, 45, (big P)), (g13, 45, (big Q)), (g15, 45, (big di))] bv (v.take i) wd) := ⟨by rw [ewd]; exact H8.out.drew⟩
              clear H8
              refine start_ (n := 6) (S := fun w' => w'.cell? ⟨g12, 0, none⟩ = some (.int .u32 (bigD P 0)) ∧ w'.cell? ⟨g12, 1, none⟩ = some (.int .u32 (bigD P 1)) ∧ w'.cell? ⟨g12, 2, none⟩ = some (.int .u32 (bigD P 2)) ∧ w'.cell? ⟨g12, 3, none⟩ = some (.int .u32 (bigD P 3)) ∧ w'.cell? ⟨g12, 4, none⟩ = some (.int .u32 (bigD P 4)) ∧ w'.cell? ⟨g12, 5, none⟩ = some (.int .u32 (bigD P 5)) ∧ w'.cell? ⟨g12, 6, none⟩ = some (.int .u32 (bigD P 6)) ∧ w'.cell? ⟨g12, 7, none⟩ = some (.int .u32 (bigD P 7)) ∧ w'.cell? ⟨g15, 0, none⟩ = some (.int .u32 (bigD di 0)) ∧ w'.cell? ⟨g15, 1, none⟩ = some (.int .u32 (bigD di 1)) ∧ w'.cell? ⟨g15, 2, none⟩ = some (.int .u32 (bigD di 2)) ∧ w'.cell? ⟨g15, 3, none⟩ = some (.int .u32 (bigD di 3)) ∧ w'.cell? ⟨g15, 4, none⟩ = some (.int .u32 (bigD di 4)) ∧ w'.cell? ⟨g15, 5, none⟩ = some (.int .u32 (bigD di 5)) ∧ w'.cell? ⟨g15, 6, none⟩ = some (.int .u32 (bigD di 6)) ∧ w'.cell? ⟨g15, 7, none⟩ = some (.int .u32 (bigD di 7))) (ds := [5]) #[false, false, false, false, false, false] (by kernel_rfl) rfl rfl (by rw [← ewd]; exact ⟨(cells8H (HD.out.get 3 rfl)).1, (cells8H (HD.out.get 3 rfl)).2.1, (cells8H (HD.out.get 3 rfl)).2.2.1, (cells8H (HD.out.get 3 rfl)).2.2.2.1, (cells8H (HD.out.get 3 rfl)).2.2.2.2.1, (cells8H (HD.out.get 3 rfl)).2.2.2.2.2.1, (cells8H (HD.out.get 3 rfl)).2.2.2.2.2.2.1, (cells8H (HD.out.get 3 rfl)).2.2.2.2.2.2.2, (cells8H (HD.out.get 5 rfl)).1, (cells8H (HD.out.get 5 rfl)).2.1, (cells8H (HD.out.get 5 rfl)).2.2.1, (cells8H (HD.out.get 5 rfl)).2.2.2.1, (cells8H (HD.out.get 5 rfl)).2.2.2.2.1, (cells8H (HD.out.get 5 rfl)).2.2.2.2.2.1, (cells8H (HD.out.get 5 rfl)).2.2.2.2.2.2.1, (cells8H (HD.out.get 5 rfl)).2.2.2.2.2.2.2⟩) (fun hHeld => ?_)
              rw [← ewd] at hHeld ⊢
              clear ewd
              refine take_ (i := 0) (N := some 102) (v := ?_) (a' := ?_) #[true, false, false, false, false, false] rfl rfl (by kernel_rfl) (fun _ _ _ h => h) (Or.inl ⟨by rfl, ?_⟩) hHeld ?_ ?_
              rotate_left
              · rintro w' ⟨s0, s1, s2, s3, s4, s5, s6, s7, s8, s9, s10, s11, s12, s13, s14, s15⟩
                go_simp
                with_reducible rfl
              rotate_left
              · simp only [Act.put, List.setIfInBounds_toArray, List.set_cons_zero, List.set_cons_succ, i64_w, i32_w]
                rfl
              refine take_ (i := 1) (N := some 103) (v := ?_) (a' := ?_) #[true, true, false, false, false, false] rfl rfl (by kernel_rfl) (fun _ _ _ h => h) (Or.inl ⟨by rfl, ?_⟩) hHeld ?_ ?_
              rotate_left
              · rintro w' ⟨s0, s1, s2, s3, s4, s5, s6, s7, s8, s9, s10, s11, s12, s13, s14, s15⟩
                go_simp
                with_reducible rfl
              rotate_left
              · simp only [Act.put, List.setIfInBounds_toArray, List.set_cons_zero, List.set_cons_succ, i64_w, i32_w]
                rfl
              refine take_ (i := 3) (N := some 105) (v := ?_) (a' := ?_) #[true, true, false, true, false, false] rfl rfl (by kernel_rfl) (fun _ _ _ h => h) (Or.inl ⟨by rfl, ?_⟩) hHeld ?_ ?_
              rotate_left
              · rintro w' ⟨s0, s1, s2, s3, s4, s5, s6, s7, s8, s9, s10, s11, s12, s13, s14, s15⟩
                go_simp
                with_reducible rfl
              rotate_left
              · simp only [Act.put, List.setIfInBounds_toArray, List.set_cons_zero, List.set_cons_succ, i64_w, i32_w]
                rfl
              refine one_ (i := 2) (N := some 104) #[true, true, true, true, false, false] rfl rfl (by kernel_rfl) (by decide) (fun K hK => ?_)
              refine goes_ Try.func31 (by kernel_rfl) rfl #[.agg (big P), .agg (big P)] (by rfl) rfl rfl (by (try simp only [List.map_toArray, List.map_cons, List.map_nil]); first | done | rfl) ?_
              with_reducible refine (add_c P P _).mono ?_
              rintro e x1 ⟨rfl, hb⟩
              have M1 := Aside0.mk (HD.out.below hb)
              clear hb
              refine ⟨_, rfl, ?_⟩
              refine hK.out _ _ ⟨(cells8H (M1.out.get 3 rfl)).1, (cells8H (M1.out.get 3 rfl)).2.1, (cells8H (M1.out.get 3 rfl)).2.2.1, (cells8H (M1.out.get 3 rfl)).2.2.2.1, (cells8H (M1.out.get 3 rfl)).2.2.2.2.1, (cells8H (M1.out.get 3 rfl)).2.2.2.2.2.1, (cells8H (M1.out.get 3 rfl)).2.2.2.2.2.2.1, (cells8H (M1.out.get 3 rfl)).2.2.2.2.2.2.2, (cells8H (M1.out.get 5 rfl)).1, (cells8H (M1.out.get 5 rfl)).2.1, (cells8H (M1.out.get 5 rfl)).2.2.1, (cells8H (M1.out.get 5 rfl)).2.2.2.1, (cells8H (M1.out.get 5 rfl)).2.2.2.2.1, (cells8H (M1.out.get 5 rfl)).2.2.2.2.2.1, (cells8H (M1.out.get 5 rfl)).2.2.2.2.2.2.1, (cells8H (M1.out.get 5 rfl)).2.2.2.2.2.2.2⟩ (fun hHeld => ?_)
              clear hK K
              refine norm_ (a' := ?_) ?_ ?_
              rotate_left
              · show Act.put _ (some 104) _ = _
                simp only [Act.put, List.setIfInBounds_toArray, List.set_cons_zero, List.set_cons_succ, i64_w, i32_w]
                rfl
              refine one_ (i := 4) (N := some 106) #[true, true, true, true, true, false] rfl rfl (by kernel_rfl) (by decide) (fun K hK => ?_)
              refine goes_ Try.func31 (by kernel_rfl) rfl #[.agg (big (P + P)), .agg (big di)] (by rfl) rfl rfl (by (try simp only [List.map_toArray, List.map_cons, List.map_nil]); first | done | rfl) ?_
              with_reducible refine (add_c (P + P) di _).mono ?_
              rintro e x2 ⟨rfl, hb⟩
              have M2 := Aside0.mk (M1.out.below hb)
              clear hb
              obtain ⟨y0, y1, y2, y3, y4, y5, y6, y7⟩ := cells8H (M2.out.get 3 rfl)
              obtain ⟨z0, z1, z2, z3, z4, z5, z6, z7⟩ := freesH (M2.out.get 3 rfl)
              refine ⟨_, rfl, ?_⟩
              refine hK.out _ _ ⟨(cells8H (M2.out.get 3 rfl)).1, (cells8H (M2.out.get 3 rfl)).2.1, (cells8H (M2.out.get 3 rfl)).2.2.1, (cells8H (M2.out.get 3 rfl)).2.2.2.1, (cells8H (M2.out.get 3 rfl)).2.2.2.2.1, (cells8H (M2.out.get 3 rfl)).2.2.2.2.2.1, (cells8H (M2.out.get 3 rfl)).2.2.2.2.2.2.1, (cells8H (M2.out.get 3 rfl)).2.2.2.2.2.2.2, (cells8H (M2.out.get 5 rfl)).1, (cells8H (M2.out.get 5 rfl)).2.1, (cells8H (M2.out.get 5 rfl)).2.2.1, (cells8H (M2.out.get 5 rfl)).2.2.2.1, (cells8H (M2.out.get 5 rfl)).2.2.2.2.1, (cells8H (M2.out.get 5 rfl)).2.2.2.2.2.1, (cells8H (M2.out.get 5 rfl)).2.2.2.2.2.2.1, (cells8H (M2.out.get 5 rfl)).2.2.2.2.2.2.2⟩ (fun hHeld => ?_)
              clear hK K
              refine norm_ (a' := ?_) ?_ ?_
              rotate_left
              · show Act.put _ (some 106) _ = _
                simp only [Act.put, List.setIfInBounds_toArray, List.set_cons_zero, List.set_cons_succ, i64_w, i32_w]
                rfl
              refine last_ (i := 5) (N := none) #[true, true, true, true, true, true] rfl rfl (by kernel_rfl) (by decide) (fun K hK => ?_)
              refine skip_ (w1 := ?_) ?_ ?_ ?_ ?_
              rotate_left
              · rfl
              · rfl
              · go_simp
                rfl
              refine hK.out _ _ ?_
              clear hK K
              refine done_ (by kernel_rfl) ?_
              refine exit_gen (fun W => Hp w [(gp, 24, #[.int .i64 lo, .int .i64 hi, .int .i64 most, .slice A0 es.length c0]), (g4, 29, #[.slice none 0 0, .int .i64 0, .int .u64 0, .int .u64 0, .int .u64 0, .int .u64 0, .bool false]), (g8, 29, #[bv, .int .i64 cnt, .int .u64 0, .int .u64 0, .int .u64 0, .int .u64 0, .bool false]), (g12, 45, (big (P + P + di))), (g13, 45, (big Q)), (g15, 45, (big di))] bv (v.take i) W) (M2.out.put8 3 rfl _ _ _ _ _ _ _ _) ?_
              clear HD M1 M2 y0 y1 y2 y3 y4 y5 y6 y7 z0 z1 z2 z3 z4 z5 z6 z7 hHeld
              intro w7 hL
              have H9 : Aside0 (Hp w [(gp, 24, #[.int .i64 lo, .int .i64 hi, .int .i64 most, .slice A0 es.length c0]), (g4, 29, #[.slice none 0 0, .int .i64 0, .int .u64 0, .int .u64 0, .int .u64 0, .int .u64 0, .bool false]), (g8, 29, #[bv, .int .i64 cnt, .int .u64 0, .int .u64 0, .int .u64 0, .int .u64 0, .bool false]), (g12, 45, (big (P + P + di))), (g13, 45, (big Q))] bv (v.take i) w7) := ⟨Hp.less (cs := [(g15, 45, (big di))]) hL⟩
              clear hL
              go_wp2_with fail
              go_roundg k1
              case measure => omega
              case rel => exact ⟨sn, (k1 : Int) - 1, P + P + di, Q, by first | rfl | (rw [HSN.out]), by first | rfl | (have h1 := HK.out; have h2 := NN.out; unfold wrap64; congr 1; omega), ⟨rfl⟩, ⟨by have := HK.out; omega⟩, HT2, H9⟩
        | zero =>
          have ht := HT.out
          unfold dT at ht
          subst ht
          have hx := HX.out
          have hz := HZ2.out
          have c1 : decide (0 ≤ x) = false := decide_eq_false (by omega)
          clear hx HT
          cases sm with
          | true =>
            rw [if_pos rfl] at hz
            simp only [Prod.mk.injEq] at hz
            obtain ⟨rfl, rfl, rfl, rfl, rfl, rfl, rfl, rfl⟩ := hz
            obtain ⟨y0, y1, y2, y3, y4, y5, y6⟩ := cells7H (H5.out.get 1 rfl)
            obtain ⟨z0, z1, z2, z3, z4, z5, z6, z7⟩ := freesH (H5.out.get 1 rfl)
            go_wp2
            refine bodyPost_ret (results_ct rfl _ _ g4 29 #[.slice none 0 0, .int .i64 0, .int .u64 0, .int .u64 0, .int .u64 0, .int .u64 0, .bool false] (0, 0) _ rfl ((H5.out.put7 1 rfl _ _ _ _ _ _ _).get 1 rfl) Try.underlying29 rfl (by kernel_rfl)) rfl ?_
            exact ⟨_, by first | rfl | (simp; done), Kd.R_nil _ _ _ _ _, (H5.out.put7 1 rfl _ _ _ _ _ _ _).hb⟩
          | false =>
            rw [if_neg (by simp)] at hz
            simp only [Prod.mk.injEq] at hz
            obtain ⟨rfl, rfl, rfl, rfl, rfl, rfl, rfl, rfl⟩ := hz
            go_wp2_with fail
            obtain ⟨wd, ewd⟩ : ∃ x, x = wr.drew := ⟨_, rfl⟩
            have HD : Aside0 (Hp w [(gp, 24, #[.int .i64 lo, .int .i64 hi, .int .i64 most, .slice A0 es.length c0]), (g4, 29, #[.slice none 0 0, .int .i64 0, .int .u64 0, .int .u64 0, .int .u64 0, .int .u64 0, .bool false]), (g8, 29, #[bv, .int .i64 cnt, .int .u64 0, .int .u64 0, .int .u64 0, .int .u64 0, .bool false]), (g12, 45, (big P)), (g13, 45, (big Q))] bv (v.take i) wd) := ⟨by rw [ewd]; exact H5.out.drew⟩
            clear H5
            refine start_ (n := 10) (S := fun w' => w'.cell? ⟨gp, 0, none⟩ = some (.int .i64 lo) ∧ w'.cell? ⟨g8, 1, none⟩ = some (.int .i64 cnt)) (ds := [8, 9]) #[false, false, false, false, false, false, false, false, false, false] (by kernel_rfl) rfl rfl (by rw [← ewd]; exact ⟨(cells4H (HD.out.get 0 rfl)).1, (cells7H (HD.out.get 2 rfl)).2.1⟩) (fun hHeld => ?_)
            rw [← ewd] at hHeld ⊢
            clear ewd
            refine pure_ (i := 0) (N := some 109) (v := ?_) (a' := ?_) #[true, false, false, false, false, false, false, false, false, false] rfl rfl (by kernel_rfl) (fun _ _ _ h => h) (Or.inl ⟨by rfl, ?_⟩) ?_ ?_
            rotate_left
            · intro w'
              go_simp
              with_reducible rfl
            rotate_left
            · simp only [Act.put, List.setIfInBounds_toArray, List.set_cons_zero, List.set_cons_succ, i64_w, i32_w]
              rfl
            refine pure_ (i := 3) (N := some 112) (v := ?_) (a' := ?_) #[true, false, false, true, false, false, false, false, false, false] rfl rfl (by kernel_rfl) (fun _ _ _ h => h) (Or.inl ⟨by rfl, ?_⟩) ?_ ?_
            rotate_left
            · intro w'
              go_simp
              with_reducible rfl
            rotate_left
            · simp only [Act.put, List.setIfInBounds_toArray, List.set_cons_zero, List.set_cons_succ, i64_w, i32_w]
              rfl
            refine take_ (i := 1) (N := some 110) (v := ?_) (a' := ?_) #[true, true, false, true, false, false, false, false, false, false] rfl rfl (by kernel_rfl) (fun _ _ _ h => h) (Or.inl ⟨by rfl, ?_⟩) hHeld ?_ ?_
            rotate_left
            · rintro w' ⟨s0, s1⟩
              go_simp
              with_reducible rfl
            rotate_left
            · simp only [Act.put, List.setIfInBounds_toArray, List.set_cons_zero, List.set_cons_succ, i64_w, i32_w]
              rfl
            refine take_ (i := 4) (N := some 113) (v := ?_) (a' := ?_) #[true, true, false, true, true, false, false, false, false, false] rfl rfl (by kernel_rfl) (fun _ _ _ h => h) (Or.inl ⟨by rfl, ?_⟩) hHeld ?_ ?_
            rotate_left
            · rintro w' ⟨s0, s1⟩
              go_simp
              with_reducible rfl
            rotate_left
            · simp only [Act.put, List.setIfInBounds_toArray, List.set_cons_zero, List.set_cons_succ, i64_w, i32_w]
              rfl
            refine span_ (fuel' := 2) #[true, true, true, true, true, true, true, true, false, false] [2, 5, 6, 7] [6, 7] (fun i => match i with | 6 => 16 | 7 => 17 | _ => 0) [[], [0], [0, 1], [], [3], [0, 1, 2, 3, 4], [], [], [0, 1, 2, 3, 4, 5, 6, 7], [0, 1, 2, 3, 4, 5, 6, 7, 8]] [[], [], [], [], [], [], [], [], [], []] [111, 114, 16, 17] [[], [], [111], [], [], [114], [16], [17], [], []] (fun j vs w' => match j with | 2 => ((vs.getD 0 undef) = .agg (big lo)) | 5 => ((vs.getD 0 undef) = .agg (big cnt)) | 6 => (∃ g : Nat, (vs.getD 0 undef) = .pointer (some ⟨g, 0, none⟩) ∧ w'.heap[g]? = some (.cells #[.int .u32 0, .int .u32 0, .int .u32 0, .int .u32 0, .int .u32 0, .int .u32 0, .int .u32 0, .int .u32 0] 45 (0, 0)) ∧ wd.heap.size ≤ g) | 7 => (∃ g : Nat, (vs.getD 0 undef) = .pointer (some ⟨g, 0, none⟩) ∧ w'.heap[g]? = some (.cells #[.int .u32 0, .int .u32 0, .int .u32 0, .int .u32 0, .int .u32 0, .int .u32 0, .int .u32 0, .int .u32 0] 45 (0, 0)) ∧ wd.heap.size ≤ g) | _ => True) rfl (by kernel_rfl) (by kernel_rfl) ?_ (fun w' hb => ⟨(cells4H (blk_below (HD.out.get 0 rfl) hb)).1, (cells7H (blk_below (HD.out.get 2 rfl) hb)).2.1⟩) ?_ ?_
            · refine pers_cons (fun _ _ _ _ h => h) ?_; refine pers_cons (fun _ _ _ _ h => h) ?_; refine pers_cons (fun _ _ _ hb ⟨g, h1, h2, h3⟩ => ⟨g, h1, blk_below h2 hb, h3⟩) ?_; refine pers_cons (fun _ _ _ hb ⟨g, h1, h2, h3⟩ => ⟨g, h1, blk_below h2 hb, h3⟩) ?_; exact pers_nil
            rotate_left
            · skip
              refine spans_cons (some 111) rfl rfl (fun s a1 w1 ha hB hF hA K hK => ?_) ?_
              · simp only [putS, List.map_cons, List.map_nil, putAll, Act.put, List.setIfInBounds_toArray, List.set_cons_zero, List.set_cons_succ] at ha
                subst ha
                refine goes_ Try.func29 (by kernel_rfl) rfl #[.int .i64 lo] (by rfl) rfl rfl (by (try simp only [List.map_toArray, List.map_cons, List.map_nil]); first | done | rfl) ?_
                with_reducible refine (int_c lo LO.out w1).mono ?_
                rintro e w2 ⟨rfl, hb⟩
                refine ⟨_, rfl, ?_⟩
                exact hK.out _ w2 (Or.inl hb) (fun h => absurd h (by decide)) rfl
              refine spans_cons (some 114) rfl rfl (fun s a1 w1 ha hB hF hA K hK => ?_) ?_
              · simp only [putS, List.map_cons, List.map_nil, putAll, Act.put, List.setIfInBounds_toArray, List.set_cons_zero, List.set_cons_succ] at ha
                subst ha
                refine goes_ Try.func29 (by kernel_rfl) rfl #[.int .i64 cnt] (by rfl) rfl rfl (by (try simp only [List.map_toArray, List.map_cons, List.map_nil]); first | done | rfl) ?_
                with_reducible refine (int_c cnt (by have := CR.out; omega) w1).mono ?_
                rintro e w2 ⟨rfl, hb⟩
                refine ⟨_, rfl, ?_⟩
                exact hK.out _ w2 (Or.inl hb) (fun h => absurd h (by decide)) rfl
              refine spans_cons (some 16) rfl rfl (fun s a1 w1 ha hB hF hA K hK => ?_) ?_
              · simp only [putS, List.map_cons, List.map_nil, putAll, Act.put, List.setIfInBounds_toArray, List.set_cons_zero, List.set_cons_succ] at ha
                subst ha
                refine box_step ?hg (N := 16) ?hd (cs := #[.int .u32 0, .int .u32 0, .int .u32 0, .int .u32 0, .int .u32 0, .int .u32 0, .int .u32 0, .int .u32 0]) (t := 45) ?hr ?_; (case hd => rfl); (case hg => rfl); (case hr => first | (go_simp; done) | (go_simp; rfl))
                intro g hg w2 hbox hb
                subst hg
                exact hK.out _ w2 (Or.inl hb) (fun _ => new_pointer (Nat.le_refl _) (blk_lt hbox)) ⟨_, rfl, hbox, hB.size⟩
              refine spans_cons (some 17) rfl rfl (fun s a1 w1 ha hB hF hA K hK => ?_) ?_
              · simp only [putS, List.map_cons, List.map_nil, putAll, Act.put, List.setIfInBounds_toArray, List.set_cons_zero, List.set_cons_succ] at ha
                subst ha
                refine box_step ?hg (N := 17) ?hd (cs := #[.int .u32 0, .int .u32 0, .int .u32 0, .int .u32 0, .int .u32 0, .int .u32 0, .int .u32 0, .int .u32 0]) (t := 45) ?hr ?_; (case hd => rfl); (case hg => rfl); (case hr => first | (go_simp; done) | (go_simp; rfl))
                intro g hg w2 hbox hb
                subst hg
                exact hK.out _ w2 (Or.inl hb) (fun _ => new_pointer (Nat.le_refl _) (blk_lt hbox)) ⟨_, rfl, hbox, hB.size⟩
              exact spans_nil
            intro s w9 hB hF hA
            have hHeld : w9.cell? ⟨gp, 0, none⟩ = some (.int .i64 lo) ∧ w9.cell? ⟨g8, 1, none⟩ = some (.int .i64 cnt) := ((fun w' hb => ⟨(cells4H (blk_below (HD.out.get 0 rfl) hb)).1, (cells7H (blk_below (HD.out.get 2 rfl) hb)).2.1⟩) : ∀ w' : World, _ → w'.cell? ⟨gp, 0, none⟩ = some (.int .i64 lo) ∧ w'.cell? ⟨g8, 1, none⟩ = some (.int .i64 cnt)) _ hB
            have f2 : (s 111) = .agg (big lo) := hF 2 (by decide) rfl
            have f5 : (s 114) = .agg (big cnt) := hF 5 (by decide) rfl
            have f6 : ∃ g : Nat, (s 16) = .pointer (some ⟨g, 0, none⟩) ∧ w9.heap[g]? = some (.cells #[.int .u32 0, .int .u32 0, .int .u32 0, .int .u32 0, .int .u32 0, .int .u32 0, .int .u32 0, .int .u32 0] 45 (0, 0)) ∧ wd.heap.size ≤ g := hF 6 (by decide) rfl
            have f7 : ∃ g : Nat, (s 17) = .pointer (some ⟨g, 0, none⟩) ∧ w9.heap[g]? = some (.cells #[.int .u32 0, .int .u32 0, .int .u32 0, .int .u32 0, .int .u32 0, .int .u32 0, .int .u32 0, .int .u32 0] 45 (0, 0)) ∧ wd.heap.size ≤ g := hF 7 (by decide) rfl
            have hap6_7 : apartV (s 16) (s 17) := hA 6 (by decide) 7 (by decide) (by decide)
            clear hF hA
            simp only [putS, List.map_cons, List.map_nil, putAll, Act.put, List.setIfInBounds_toArray, List.set_cons_zero, List.set_cons_succ]
            obtain ⟨g16, e16, h16, l16⟩ := f6
            obtain ⟨g17, e17, h17, l17⟩ := f7
            rw [e16, e17] at hap6_7
            have H6 : Aside0 (Hp w [(gp, 24, #[.int .i64 lo, .int .i64 hi, .int .i64 most, .slice A0 es.length c0]), (g4, 29, #[.slice none 0 0, .int .i64 0, .int .u64 0, .int .u64 0, .int .u64 0, .int .u64 0, .bool false]), (g8, 29, #[bv, .int .i64 cnt, .int .u64 0, .int .u64 0, .int .u64 0, .int .u64 0, .bool false]), (g12, 45, (big P)), (g13, 45, (big Q)), (g16, 45, #[.int .u32 0, .int .u32 0, .int .u32 0, .int .u32 0, .int .u32 0, .int .u32 0, .int .u32 0, .int .u32 0]), (g17, 45, #[.int .u32 0, .int .u32 0, .int .u32 0, .int .u32 0, .int .u32 0, .int .u32 0, .int .u32 0, .int .u32 0])] bv (v.take i) w9) := ⟨HD.out.add2 hB h16 l16 (by decide) h17 l17 (by decide) (fun e => hap6_7 g16 rfl (by rw [e]; rfl))⟩
            rw [f2, f5, e16, e17]
            clear f2 f5 e16 e17 hap6_7 h16 h17 l16 l17 hB s HD
            refine last_ (i := 8) (N := none) #[true, true, true, true, true, true, true, true, true, false] rfl rfl (by kernel_rfl) (by decide) (fun K hK => ?_)
            obtain ⟨y0, y1, y2, y3, y4, y5, y6, y7⟩ := cells8H (H6.out.get 5 rfl)
            obtain ⟨z0, z1, z2, z3, z4, z5, z6, z7⟩ := freesH (H6.out.get 5 rfl)
            refine skip_ (w1 := ?_) ?_ ?_ ?_ ?_
            rotate_left
            · rfl
            · rfl
            · go_simp
              rfl
            refine hK.out _ _ ?_
            clear hK K
            refine last_gen (fun W => Hp w [(gp, 24, #[.int .i64 lo, .int .i64 hi, .int .i64 most, .slice A0 es.length c0]), (g4, 29, #[.slice none 0 0, .int .i64 0, .int .u64 0, .int .u64 0, .int .u64 0, .int .u64 0, .bool false]), (g8, 29, #[bv, .int .i64 cnt, .int .u64 0, .int .u64 0, .int .u64 0, .int .u64 0, .bool false]), (g12, 45, (big P)), (g13, 45, (big Q)), (g16, 45, (big lo)), (g17, 45, #[.int .u32 0, .int .u32 0, .int .u32 0, .int .u32 0, .int .u32 0, .int .u32 0, .int .u32 0, .int .u32 0])] bv (v.take i) W) (H6.out.put8 5 rfl _ _ _ _ _ _ _ _) ?_
            clear H6 y0 y1 y2 y3 y4 y5 y6 y7 z0 z1 z2 z3 z4 z5 z6 z7
            intro w21 hL
            have H6 := Aside0.mk hL
            clear hL
            refine last_ (i := 9) (N := none) #[true, true, true, true, true, true, true, true, true, true] rfl rfl (by kernel_rfl) (by decide) (fun K hK => ?_)
            obtain ⟨y0, y1, y2, y3, y4, y5, y6, y7⟩ := cells8H (H6.out.get 6 rfl)
            obtain ⟨z0, z1, z2, z3, z4, z5, z6, z7⟩ := freesH (H6.out.get 6 rfl)
            refine skip_ (w1 := ?_) ?_ ?_ ?_ ?_
            rotate_left
            · rfl
            · rfl
            · go_simp
              rfl
            refine hK.out _ _ ?_
            clear hK K
            refine last_gen (fun W => Hp w [(gp, 24, #[.int .i64 lo, .int .i64 hi, .int .i64 most, .slice A0 es.length c0]), (g4, 29, #[.slice none 0 0, .int .i64 0, .int .u64 0, .int .u64 0, .int .u64 0, .int .u64 0, .bool false]), (g8, 29, #[bv, .int .i64 cnt, .int .u64 0, .int .u64 0, .int .u64 0, .int .u64 0, .bool false]), (g12, 45, (big P)), (g13, 45, (big Q)), (g16, 45, (big lo)), (g17, 45, (big cnt))] bv (v.take i) W) (H6.out.put8 6 rfl _ _ _ _ _ _ _ _) ?_
            clear H6 y0 y1 y2 y3 y4 y5 y6 y7 z0 z1 z2 z3 z4 z5 z6 z7
            intro w22 hL
            have H7 := Aside0.mk hL
            clear hL
            refine done_ (by kernel_rfl) ?_
            clear hHeld
            go_wp2_with fail
            obtain ⟨wd, ewd⟩ : ∃ x, x = w22.drew := ⟨_, rfl⟩
            have HD : Aside0 (Hp w [(gp, 24, #[.int .i64 lo, .int .i64 hi, .int .i64 most, .slice A0 es.length c0]), (g4, 29, #[.slice none 0 0, .int .i64 0, .int .u64 0, .int .u64 0, .int .u64 0, .int .u64 0, .bool false]), (g8, 29, #[bv, .int .i64 cnt, .int .u64 0, .int .u64 0, .int .u64 0, .int .u64 0, .bool false]), (g12, 45, (big P)), (g13, 45, (big Q)), (g16, 45, (big lo)), (g17, 45, (big cnt))] bv (v.take i) wd) := ⟨by rw [ewd]; exact H7.out.drew⟩
            clear H7
            refine start_ (n := 8) (S := fun w' => w'.cell? ⟨g13, 0, none⟩ = some (.int .u32 (bigD Q 0)) ∧ w'.cell? ⟨g13, 1, none⟩ = some (.int .u32 (bigD Q 1)) ∧ w'.cell? ⟨g13, 2, none⟩ = some (.int .u32 (bigD Q 2)) ∧ w'.cell? ⟨g13, 3, none⟩ = some (.int .u32 (bigD Q 3)) ∧ w'.cell? ⟨g13, 4, none⟩ = some (.int .u32 (bigD Q 4)) ∧ w'.cell? ⟨g13, 5, none⟩ = some (.int .u32 (bigD Q 5)) ∧ w'.cell? ⟨g13, 6, none⟩ = some (.int .u32 (bigD Q 6)) ∧ w'.cell? ⟨g13, 7, none⟩ = some (.int .u32 (bigD Q 7)) ∧ w'.cell? ⟨g16, 0, none⟩ = some (.int .u32 (bigD lo 0)) ∧ w'.cell? ⟨g16, 1, none⟩ = some (.int .u32 (bigD lo 1)) ∧ w'.cell? ⟨g16, 2, none⟩ = some (.int .u32 (bigD lo 2)) ∧ w'.cell? ⟨g16, 3, none⟩ = some (.int .u32 (bigD lo 3)) ∧ w'.cell? ⟨g16, 4, none⟩ = some (.int .u32 (bigD lo 4)) ∧ w'.cell? ⟨g16, 5, none⟩ = some (.int .u32 (bigD lo 5)) ∧ w'.cell? ⟨g16, 6, none⟩ = some (.int .u32 (bigD lo 6)) ∧ w'.cell? ⟨g16, 7, none⟩ = some (.int .u32 (bigD lo 7)) ∧ w'.cell? ⟨g12, 0, none⟩ = some (.int .u32 (bigD P 0)) ∧ w'.cell? ⟨g12, 1, none⟩ = some (.int .u32 (bigD P 1)) ∧ w'.cell? ⟨g12, 2, none⟩ = some (.int .u32 (bigD P 2)) ∧ w'.cell? ⟨g12, 3, none⟩ = some (.int .u32 (bigD P 3)) ∧ w'.cell? ⟨g12, 4, none⟩ = some (.int .u32 (bigD P 4)) ∧ w'.cell? ⟨g12, 5, none⟩ = some (.int .u32 (bigD P 5)) ∧ w'.cell? ⟨g12, 6, none⟩ = some (.int .u32 (bigD P 6)) ∧ w'.cell? ⟨g12, 7, none⟩ = some (.int .u32 (bigD P 7))) (ds := [7]) #[false, false, false, false, false, false, false, false] (by kernel_rfl) rfl rfl (by rw [← ewd]; exact ⟨(cells8H (HD.out.get 4 rfl)).1, (cells8H (HD.out.get 4 rfl)).2.1, (cells8H (HD.out.get 4 rfl)).2.2.1, (cells8H (HD.out.get 4 rfl)).2.2.2.1, (cells8H (HD.out.get 4 rfl)).2.2.2.2.1, (cells8H (HD.out.get 4 rfl)).2.2.2.2.2.1, (cells8H (HD.out.get 4 rfl)).2.2.2.2.2.2.1, (cells8H (HD.out.get 4 rfl)).2.2.2.2.2.2.2, (cells8H (HD.out.get 5 rfl)).1, (cells8H (HD.out.get 5 rfl)).2.1, (cells8H (HD.out.get 5 rfl)).2.2.1, (cells8H (HD.out.get 5 rfl)).2.2.2.1, (cells8H (HD.out.get 5 rfl)).2.2.2.2.1, (cells8H (HD.out.get 5 rfl)).2.2.2.2.2.1, (cells8H (HD.out.get 5 rfl)).2.2.2.2.2.2.1, (cells8H (HD.out.get 5 rfl)).2.2.2.2.2.2.2, (cells8H (HD.out.get 3 rfl)).1, (cells8H (HD.out.get 3 rfl)).2.1, (cells8H (HD.out.get 3 rfl)).2.2.1, (cells8H (HD.out.get 3 rfl)).2.2.2.1, (cells8H (HD.out.get 3 rfl)).2.2.2.2.1, (cells8H (HD.out.get 3 rfl)).2.2.2.2.2.1, (cells8H (HD.out.get 3 rfl)).2.2.2.2.2.2.1, (cells8H (HD.out.get 3 rfl)).2.2.2.2.2.2.2⟩) (fun hHeld => ?_)
            rw [← ewd] at hHeld ⊢
            clear ewd
            refine take_ (i := 0) (N := some 115) (v := ?_) (a' := ?_) #[true, false, false, false, false, false, false, false] rfl rfl (by kernel_rfl) (fun _ _ _ h => h) (Or.inl ⟨by rfl, ?_⟩) hHeld ?_ ?_
            rotate_left
            · rintro w' ⟨s0, s1, s2, s3, s4, s5, s6, s7, s8, s9, s10, s11, s12, s13, s14, s15, s16, s17, s18, s19, s20, s21, s22, s23⟩
              go_simp
              with_reducible rfl
            rotate_left
            · simp only [Act.put, List.setIfInBounds_toArray, List.set_cons_zero, List.set_cons_succ, i64_w, i32_w]
              rfl
            refine take_ (i := 1) (N := some 116) (v := ?_) (a' := ?_) #[true, true, false, false, false, false, false, false] rfl rfl (by kernel_rfl) (fun _ _ _ h => h) (Or.inl ⟨by rfl, ?_⟩) hHeld ?_ ?_
            rotate_left
            · rintro w' ⟨s0, s1, s2, s3, s4, s5, s6, s7, s8, s9, s10, s11, s12, s13, s14, s15, s16, s17, s18, s19, s20, s21, s22, s23⟩
              go_simp
              with_reducible rfl
            rotate_left
            · simp only [Act.put, List.setIfInBounds_toArray, List.set_cons_zero, List.set_cons_succ, i64_w, i32_w]
              rfl
            refine take_ (i := 2) (N := some 117) (v := ?_) (a' := ?_) #[true, true, true, false, false, false, false, false] rfl rfl (by kernel_rfl) (fun _ _ _ h => h) (Or.inl ⟨by rfl, ?_⟩) hHeld ?_ ?_
            rotate_left
            · rintro w' ⟨s0, s1, s2, s3, s4, s5, s6, s7, s8, s9, s10, s11, s12, s13, s14, s15, s16, s17, s18, s19, s20, s21, s22, s23⟩
              go_simp
              with_reducible rfl
            rotate_left
            · simp only [Act.put, List.setIfInBounds_toArray, List.set_cons_zero, List.set_cons_succ, i64_w, i32_w]
              rfl
            refine take_ (i := 4) (N := some 119) (v := ?_) (a' := ?_) #[true, true, true, false, true, false, false, false] rfl rfl (by kernel_rfl) (fun _ _ _ h => h) (Or.inl ⟨by rfl, ?_⟩) hHeld ?_ ?_
            rotate_left
            · rintro w' ⟨s0, s1, s2, s3, s4, s5, s6, s7, s8, s9, s10, s11, s12, s13, s14, s15, s16, s17, s18, s19, s20, s21, s22, s23⟩
              go_simp
              with_reducible rfl
            rotate_left
            · simp only [Act.put, List.setIfInBounds_toArray, List.set_cons_zero, List.set_cons_succ, i64_w, i32_w]
              rfl
            refine one_ (i := 3) (N := some 118) #[true, true, true, true, true, false, false, false] rfl rfl (by kernel_rfl) (by decide) (fun K hK => ?_)
            refine goes_ Try.func31 (by kernel_rfl) rfl #[.agg (big lo), .agg (big lo)] (by rfl) rfl rfl (by (try simp only [List.map_toArray, List.map_cons, List.map_nil]); first | done | rfl) ?_
            with_reducible refine (add_c lo lo _).mono ?_
            rintro e x1 ⟨rfl, hb⟩
            have M1 := Aside0.mk (HD.out.below hb)
            clear hb
            refine ⟨_, rfl, ?_⟩
            refine hK.out _ _ ⟨(cells8H (M1.out.get 4 rfl)).1, (cells8H (M1.out.get 4 rfl)).2.1, (cells8H (M1.out.get 4 rfl)).2.2.1, (cells8H (M1.out.get 4 rfl)).2.2.2.1, (cells8H (M1.out.get 4 rfl)).2.2.2.2.1, (cells8H (M1.out.get 4 rfl)).2.2.2.2.2.1, (cells8H (M1.out.get 4 rfl)).2.2.2.2.2.2.1, (cells8H (M1.out.get 4 rfl)).2.2.2.2.2.2.2, (cells8H (M1.out.get 5 rfl)).1, (cells8H (M1.out.get 5 rfl)).2.1, (cells8H (M1.out.get 5 rfl)).2.2.1, (cells8H (M1.out.get 5 rfl)).2.2.2.1, (cells8H (M1.out.get 5 rfl)).2.2.2.2.1, (cells8H (M1.out.get 5 rfl)).2.2.2.2.2.1, (cells8H (M1.out.get 5 rfl)).2.2.2.2.2.2.1, (cells8H (M1.out.get 5 rfl)).2.2.2.2.2.2.2, (cells8H (M1.out.get 3 rfl)).1, (cells8H (M1.out.get 3 rfl)).2.1, (cells8H (M1.out.get 3 rfl)).2.2.1, (cells8H (M1.out.get 3 rfl)).2.2.2.1, (cells8H (M1.out.get 3 rfl)).2.2.2.2.1, (cells8H (M1.out.get 3 rfl)).2.2.2.2.2.1, (cells8H (M1.out.get 3 rfl)).2.2.2.2.2.2.1, (cells8H (M1.out.get 3 rfl)).2.2.2.2.2.2.2⟩ (fun hHeld => ?_)
            clear hK K
            refine norm_ (a' := ?_) ?_ ?_
            rotate_left
            · show Act.put _ (some 118) _ = _
              simp only [Act.put, List.setIfInBounds_toArray, List.set_cons_zero, List.set_cons_succ, i64_w, i32_w]
              rfl
            refine one_ (i := 5) (N := some 120) #[true, true, true, true, true, true, false, false] rfl rfl (by kernel_rfl) (by decide) (fun K hK => ?_)
            refine goes_ Try.func19 (by kernel_rfl) rfl #[.agg (big (lo + lo)), .agg (big P)] (by rfl) rfl rfl (by (try simp only [List.map_toArray, List.map_cons, List.map_nil]); first | done | rfl) ?_
            with_reducible refine (mul_c (lo + lo) P _).mono ?_
            rintro e x2 ⟨rfl, hb⟩
            have M2 := Aside0.mk (M1.out.below hb)
            clear hb
            refine ⟨_, rfl, ?_⟩
            refine hK.out _ _ ⟨(cells8H (M2.out.get 4 rfl)).1, (cells8H (M2.out.get 4 rfl)).2.1, (cells8H (M2.out.get 4 rfl)).2.2.1, (cells8H (M2.out.get 4 rfl)).2.2.2.1, (cells8H (M2.out.get 4 rfl)).2.2.2.2.1, (cells8H (M2.out.get 4 rfl)).2.2.2.2.2.1, (cells8H (M2.out.get 4 rfl)).2.2.2.2.2.2.1, (cells8H (M2.out.get 4 rfl)).2.2.2.2.2.2.2, (cells8H (M2.out.get 5 rfl)).1, (cells8H (M2.out.get 5 rfl)).2.1, (cells8H (M2.out.get 5 rfl)).2.2.1, (cells8H (M2.out.get 5 rfl)).2.2.2.1, (cells8H (M2.out.get 5 rfl)).2.2.2.2.1, (cells8H (M2.out.get 5 rfl)).2.2.2.2.2.1, (cells8H (M2.out.get 5 rfl)).2.2.2.2.2.2.1, (cells8H (M2.out.get 5 rfl)).2.2.2.2.2.2.2, (cells8H (M2.out.get 3 rfl)).1, (cells8H (M2.out.get 3 rfl)).2.1, (cells8H (M2.out.get 3 rfl)).2.2.1, (cells8H (M2.out.get 3 rfl)).2.2.2.1, (cells8H (M2.out.get 3 rfl)).2.2.2.2.1, (cells8H (M2.out.get 3 rfl)).2.2.2.2.2.1, (cells8H (M2.out.get 3 rfl)).2.2.2.2.2.2.1, (cells8H (M2.out.get 3 rfl)).2.2.2.2.2.2.2⟩ (fun hHeld => ?_)
            clear hK K
            refine norm_ (a' := ?_) ?_ ?_
            rotate_left
            · show Act.put _ (some 120) _ = _
              simp only [Act.put, List.setIfInBounds_toArray, List.set_cons_zero, List.set_cons_succ, i64_w, i32_w]
              rfl
            refine one_ (i := 6) (N := some 121) #[true, true, true, true, true, true, true, false] rfl rfl (by kernel_rfl) (by decide) (fun K hK => ?_)
            refine goes_ Try.func31 (by kernel_rfl) rfl #[.agg (big Q), .agg (big ((lo + lo) * P))] (by rfl) rfl rfl (by (try simp only [List.map_toArray, List.map_cons, List.map_nil]); first | done | rfl) ?_
            with_reducible refine (add_c Q ((lo + lo) * P) _).mono ?_
            rintro e x3 ⟨rfl, hb⟩
            have M3 := Aside0.mk (M2.out.below hb)
            clear hb
            obtain ⟨y0, y1, y2, y3, y4, y5, y6, y7⟩ := cells8H (M3.out.get 4 rfl)
            obtain ⟨z0, z1, z2, z3, z4, z5, z6, z7⟩ := freesH (M3.out.get 4 rfl)
            refine ⟨_, rfl, ?_⟩
            refine hK.out _ _ ⟨(cells8H (M3.out.get 4 rfl)).1, (cells8H (M3.out.get 4 rfl)).2.1, (cells8H (M3.out.get 4 rfl)).2.2.1, (cells8H (M3.out.get 4 rfl)).2.2.2.1, (cells8H (M3.out.get 4 rfl)).2.2.2.2.1, (cells8H (M3.out.get 4 rfl)).2.2.2.2.2.1, (cells8H (M3.out.get 4 rfl)).2.2.2.2.2.2.1, (cells8H (M3.out.get 4 rfl)).2.2.2.2.2.2.2, (cells8H (M3.out.get 5 rfl)).1, (cells8H (M3.out.get 5 rfl)).2.1, (cells8H (M3.out.get 5 rfl)).2.2.1, (cells8H (M3.out.get 5 rfl)).2.2.2.1, (cells8H (M3.out.get 5 rfl)).2.2.2.2.1, (cells8H (M3.out.get 5 rfl)).2.2.2.2.2.1, (cells8H (M3.out.get 5 rfl)).2.2.2.2.2.2.1, (cells8H (M3.out.get 5 rfl)).2.2.2.2.2.2.2, (cells8H (M3.out.get 3 rfl)).1, (cells8H (M3.out.get 3 rfl)).2.1, (cells8H (M3.out.get 3 rfl)).2.2.1, (cells8H (M3.out.get 3 rfl)).2.2.2.1, (cells8H (M3.out.get 3 rfl)).2.2.2.2.1, (cells8H (M3.out.get 3 rfl)).2.2.2.2.2.1, (cells8H (M3.out.get 3 rfl)).2.2.2.2.2.2.1, (cells8H (M3.out.get 3 rfl)).2.2.2.2.2.2.2⟩ (fun hHeld => ?_)
            clear hK K
            refine norm_ (a' := ?_) ?_ ?_
            rotate_left
            · show Act.put _ (some 121) _ = _
              simp only [Act.put, List.setIfInBounds_toArray, List.set_cons_zero, List.set_cons_succ, i64_w, i32_w]
              rfl
            refine last_ (i := 7) (N := none) #[true, true, true, true, true, true, true, true] rfl rfl (by kernel_rfl) (by decide) (fun K hK => ?_)
            refine skip_ (w1 := ?_) ?_ ?_ ?_ ?_
            rotate_left
            · rfl
            · rfl
            · go_simp
              rfl
            refine hK.out _ _ ?_
            clear hK K
            refine done_ (by kernel_rfl) ?_
            refine exit_gen (fun W => Hp w [(gp, 24, #[.int .i64 lo, .int .i64 hi, .int .i64 most, .slice A0 es.length c0]), (g4, 29, #[.slice none 0 0, .int .i64 0, .int .u64 0, .int .u64 0, .int .u64 0, .int .u64 0, .bool false]), (g8, 29, #[bv, .int .i64 cnt, .int .u64 0, .int .u64 0, .int .u64 0, .int .u64 0, .bool false]), (g12, 45, (big P)), (g13, 45, (big (Q + (lo + lo) * P))), (g16, 45, (big lo)), (g17, 45, (big cnt))] bv (v.take i) W) (M3.out.put8 4 rfl _ _ _ _ _ _ _ _) ?_
            clear HD M1 M2 M3 hHeld y0 y1 y2 y3 y4 y5 y6 y7 z0 z1 z2 z3 z4 z5 z6 z7
            intro w23 hL
            have H8 := Aside0.mk hL
            clear hL
            go_wp2_with fail
            obtain ⟨wd, ewd⟩ : ∃ x, x = w23.drew := ⟨_, rfl⟩
            have HD : Aside0 (Hp w [(gp, 24, #[.int .i64 lo, .int .i64 hi, .int .i64 most, .slice A0 es.length c0]), (g4, 29, #[.slice none 0 0, .int .i64 0, .int .u64 0, .int .u64 0, .int .u64 0, .int .u64 0, .bool false]), (g8, 29, #[bv, .int .i64 cnt, .int .u64 0, .int .u64 0, .int .u64 0, .int .u64 0, .bool false]), (g12, 45, (big P)), (g13, 45, (big (Q + (lo + lo) * P))), (g16, 45, (big lo)), (g17, 45, (big cnt))] bv (v.take i) wd) := ⟨by rw [ewd]; exact H8.out.drew⟩
            clear H8
            refine start_ (n := 8) (S := fun w' => w'.cell? ⟨g13, 0, none⟩ = some (.int .u32 (bigD (Q + (lo + lo) * P) 0)) ∧ w'.cell? ⟨g13, 1, none⟩ = some (.int .u32 (bigD (Q + (lo + lo) * P) 1)) ∧ w'.cell? ⟨g13, 2, none⟩ = some (.int .u32 (bigD (Q + (lo + lo) * P) 2)) ∧ w'.cell? ⟨g13, 3, none⟩ = some (.int .u32 (bigD (Q + (lo + lo) * P) 3)) ∧ w'.cell? ⟨g13, 4, none⟩ = some (.int .u32 (bigD (Q + (lo + lo) * P) 4)) ∧ w'.cell? ⟨g13, 5, none⟩ = some (.int .u32 (bigD (Q + (lo + lo) * P) 5)) ∧ w'.cell? ⟨g13, 6, none⟩ = some (.int .u32 (bigD (Q + (lo + lo) * P) 6)) ∧ w'.cell? ⟨g13, 7, none⟩ = some (.int .u32 (bigD (Q + (lo + lo) * P) 7)) ∧ w'.cell? ⟨g17, 0, none⟩ = some (.int .u32 (bigD cnt 0)) ∧ w'.cell? ⟨g17, 1, none⟩ = some (.int .u32 (bigD cnt 1)) ∧ w'.cell? ⟨g17, 2, none⟩ = some (.int .u32 (bigD cnt 2)) ∧ w'.cell? ⟨g17, 3, none⟩ = some (.int .u32 (bigD cnt 3)) ∧ w'.cell? ⟨g17, 4, none⟩ = some (.int .u32 (bigD cnt 4)) ∧ w'.cell? ⟨g17, 5, none⟩ = some (.int .u32 (bigD cnt 5)) ∧ w'.cell? ⟨g17, 6, none⟩ = some (.int .u32 (bigD cnt 6)) ∧ w'.cell? ⟨g17, 7, none⟩ = some (.int .u32 (bigD cnt 7)) ∧ w'.cell? ⟨g16, 0, none⟩ = some (.int .u32 (bigD lo 0)) ∧ w'.cell? ⟨g16, 1, none⟩ = some (.int .u32 (bigD lo 1)) ∧ w'.cell? ⟨g16, 2, none⟩ = some (.int .u32 (bigD lo 2)) ∧ w'.cell? ⟨g16, 3, none⟩ = some (.int .u32 (bigD lo 3)) ∧ w'.cell? ⟨g16, 4, none⟩ = some (.int .u32 (bigD lo 4)) ∧ w'.cell? ⟨g16, 5, none⟩ = some (.int .u32 (bigD lo 5)) ∧ w'.cell? ⟨g16, 6, none⟩ = some (.int .u32 (bigD lo 6)) ∧ w'.cell? ⟨g16, 7, none⟩ = some (.int .u32 (bigD lo 7))) (ds := [7]) #[false, false, false, false, false, false, false, false] (by kernel_rfl) rfl rfl (by rw [← ewd]; exact ⟨(cells8H (HD.out.get 4 rfl)).1, (cells8H (HD.out.get 4 rfl)).2.1, (cells8H (HD.out.get 4 rfl)).2.2.1, (cells8H (HD.out.get 4 rfl)).2.2.2.1, (cells8H (HD.out.get 4 rfl)).2.2.2.2.1, (cells8H (HD.out.get 4 rfl)).2.2.2.2.2.1, (cells8H (HD.out.get 4 rfl)).2.2.2.2.2.2.1, (cells8H (HD.out.get 4 rfl)).2.2.2.2.2.2.2, (cells8H (HD.out.get 6 rfl)).1, (cells8H (HD.out.get 6 rfl)).2.1, (cells8H (HD.out.get 6 rfl)).2.2.1, (cells8H (HD.out.get 6 rfl)).2.2.2.1, (cells8H (HD.out.get 6 rfl)).2.2.2.2.1, (cells8H (HD.out.get 6 rfl)).2.2.2.2.2.1, (cells8H (HD.out.get 6 rfl)).2.2.2.2.2.2.1, (cells8H (HD.out.get 6 rfl)).2.2.2.2.2.2.2, (cells8H (HD.out.get 5 rfl)).1, (cells8H (HD.out.get 5 rfl)).2.1, (cells8H (HD.out.get 5 rfl)).2.2.1, (cells8H (HD.out.get 5 rfl)).2.2.2.1, (cells8H (HD.out.get 5 rfl)).2.2.2.2.1, (cells8H (HD.out.get 5 rfl)).2.2.2.2.2.1, (cells8H (HD.out.get 5 rfl)).2.2.2.2.2.2.1, (cells8H (HD.out.get 5 rfl)).2.2.2.2.2.2.2⟩) (fun hHeld => ?_)
            rw [← ewd] at hHeld ⊢
            clear ewd
            refine take_ (i := 0) (N := some 122) (v := ?_) (a' := ?_) #[true, false, false, false, false, false, false, false] rfl rfl (by kernel_rfl) (fun _ _ _ h => h) (Or.inl ⟨by rfl, ?_⟩) hHeld ?_ ?_
            rotate_left
            · rintro w' ⟨s0, s1, s2, s3, s4, s5, s6, s7, s8, s9, s10, s11, s12, s13, s14, s15, s16, s17, s18, s19, s20, s21, s22, s23⟩
              go_simp
              with_reducible rfl
            rotate_left
            · simp only [Act.put, List.setIfInBounds_toArray, List.set_cons_zero, List.set_cons_succ, i64_w, i32_w]
              rfl
            refine take_ (i := 1) (N := some 123) (v := ?_) (a' := ?_) #[true, true, false, false, false, false, false, false] rfl rfl (by kernel_rfl) (fun _ _ _ h => h) (Or.inl ⟨by rfl, ?_⟩) hHeld ?_ ?_
            rotate_left
            · rintro w' ⟨s0, s1, s2, s3, s4, s5, s6, s7, s8, s9, s10, s11, s12, s13, s14, s15, s16, s17, s18, s19, s20, s21, s22, s23⟩
              go_simp
              with_reducible rfl
            rotate_left
            · simp only [Act.put, List.setIfInBounds_toArray, List.set_cons_zero, List.set_cons_succ, i64_w, i32_w]
              rfl
            refine take_ (i := 2) (N := some 124) (v := ?_) (a' := ?_) #[true, true, true, false, false, false, false, false] rfl rfl (by kernel_rfl) (fun _ _ _ h => h) (Or.inl ⟨by rfl, ?_⟩) hHeld ?_ ?_
            rotate_left
            · rintro w' ⟨s0, s1, s2, s3, s4, s5, s6, s7, s8, s9, s10, s11, s12, s13, s14, s15, s16, s17, s18, s19, s20, s21, s22, s23⟩
              go_simp
              with_reducible rfl
            rotate_left
            · simp only [Act.put, List.setIfInBounds_toArray, List.set_cons_zero, List.set_cons_succ, i64_w, i32_w]
              rfl
            refine take_ (i := 3) (N := some 125) (v := ?_) (a' := ?_) #[true, true, true, true, false, false, false, false] rfl rfl (by kernel_rfl) (fun _ _ _ h => h) (Or.inl ⟨by rfl, ?_⟩) hHeld ?_ ?_
            rotate_left
            · rintro w' ⟨s0, s1, s2, s3, s4, s5, s6, s7, s8, s9, s10, s11, s12, s13, s14, s15, s16, s17, s18, s19, s20, s21, s22, s23⟩
              go_simp
              with_reducible rfl
            rotate_left
            · simp only [Act.put, List.setIfInBounds_toArray, List.set_cons_zero, List.set_cons_succ, i64_w, i32_w]
              rfl
            refine one_ (i := 4) (N := some 126) #[true, true, true, true, true, false, false, false] rfl rfl (by kernel_rfl) (by decide) (fun K hK => ?_)
            refine goes_ Try.func19 (by kernel_rfl) rfl #[.agg (big lo), .agg (big lo)] (by rfl) rfl rfl (by (try simp only [List.map_toArray, List.map_cons, List.map_nil]); first | done | rfl) ?_
            with_reducible refine (mul_c lo lo _).mono ?_
            rintro e x1 ⟨rfl, hb⟩
            have M1 := Aside0.mk (HD.out.below hb)
            clear hb
            refine ⟨_, rfl, ?_⟩
            refine hK.out _ _ ⟨(cells8H (M1.out.get 4 rfl)).1, (cells8H (M1.out.get 4 rfl)).2.1, (cells8H (M1.out.get 4 rfl)).2.2.1, (cells8H (M1.out.get 4 rfl)).2.2.2.1, (cells8H (M1.out.get 4 rfl)).2.2.2.2.1, (cells8H (M1.out.get 4 rfl)).2.2.2.2.2.1, (cells8H (M1.out.get 4 rfl)).2.2.2.2.2.2.1, (cells8H (M1.out.get 4 rfl)).2.2.2.2.2.2.2, (cells8H (M1.out.get 6 rfl)).1, (cells8H (M1.out.get 6 rfl)).2.1, (cells8H (M1.out.get 6 rfl)).2.2.1, (cells8H (M1.out.get 6 rfl)).2.2.2.1, (cells8H (M1.out.get 6 rfl)).2.2.2.2.1, (cells8H (M1.out.get 6 rfl)).2.2.2.2.2.1, (cells8H (M1.out.get 6 rfl)).2.2.2.2.2.2.1, (cells8H (M1.out.get 6 rfl)).2.2.2.2.2.2.2, (cells8H (M1.out.get 5 rfl)).1, (cells8H (M1.out.get 5 rfl)).2.1, (cells8H (M1.out.get 5 rfl)).2.2.1, (cells8H (M1.out.get 5 rfl)).2.2.2.1, (cells8H (M1.out.get 5 rfl)).2.2.2.2.1, (cells8H (M1.out.get 5 rfl)).2.2.2.2.2.1, (cells8H (M1.out.get 5 rfl)).2.2.2.2.2.2.1, (cells8H (M1.out.get 5 rfl)).2.2.2.2.2.2.2⟩ (fun hHeld => ?_)
            clear hK K
            refine norm_ (a' := ?_) ?_ ?_
            rotate_left
            · show Act.put _ (some 126) _ = _
              simp only [Act.put, List.setIfInBounds_toArray, List.set_cons_zero, List.set_cons_succ, i64_w, i32_w]
              rfl
            refine one_ (i := 5) (N := some 127) #[true, true, true, true, true, true, false, false] rfl rfl (by kernel_rfl) (by decide) (fun K hK => ?_)
            refine goes_ Try.func19 (by kernel_rfl) rfl #[.agg (big cnt), .agg (big (lo * lo))] (by rfl) rfl rfl (by (try simp only [List.map_toArray, List.map_cons, List.map_nil]); first | done | rfl) ?_
            with_reducible refine (mul_c cnt (lo * lo) _).mono ?_
            rintro e x2 ⟨rfl, hb⟩
            have M2 := Aside0.mk (M1.out.below hb)
            clear hb
            refine ⟨_, rfl, ?_⟩
            refine hK.out _ _ ⟨(cells8H (M2.out.get 4 rfl)).1, (cells8H (M2.out.get 4 rfl)).2.1, (cells8H (M2.out.get 4 rfl)).2.2.1, (cells8H (M2.out.get 4 rfl)).2.2.2.1, (cells8H (M2.out.get 4 rfl)).2.2.2.2.1, (cells8H (M2.out.get 4 rfl)).2.2.2.2.2.1, (cells8H (M2.out.get 4 rfl)).2.2.2.2.2.2.1, (cells8H (M2.out.get 4 rfl)).2.2.2.2.2.2.2, (cells8H (M2.out.get 6 rfl)).1, (cells8H (M2.out.get 6 rfl)).2.1, (cells8H (M2.out.get 6 rfl)).2.2.1, (cells8H (M2.out.get 6 rfl)).2.2.2.1, (cells8H (M2.out.get 6 rfl)).2.2.2.2.1, (cells8H (M2.out.get 6 rfl)).2.2.2.2.2.1, (cells8H (M2.out.get 6 rfl)).2.2.2.2.2.2.1, (cells8H (M2.out.get 6 rfl)).2.2.2.2.2.2.2, (cells8H (M2.out.get 5 rfl)).1, (cells8H (M2.out.get 5 rfl)).2.1, (cells8H (M2.out.get 5 rfl)).2.2.1, (cells8H (M2.out.get 5 rfl)).2.2.2.1, (cells8H (M2.out.get 5 rfl)).2.2.2.2.1, (cells8H (M2.out.get 5 rfl)).2.2.2.2.2.1, (cells8H (M2.out.get 5 rfl)).2.2.2.2.2.2.1, (cells8H (M2.out.get 5 rfl)).2.2.2.2.2.2.2⟩ (fun hHeld => ?_)
            clear hK K
            refine norm_ (a' := ?_) ?_ ?_
            rotate_left
            · show Act.put _ (some 127) _ = _
              simp only [Act.put, List.setIfInBounds_toArray, List.set_cons_zero, List.set_cons_succ, i64_w, i32_w]
              rfl
            refine one_ (i := 6) (N := some 128) #[true, true, true, true, true, true, true, false] rfl rfl (by kernel_rfl) (by decide) (fun K hK => ?_)
            refine goes_ Try.func31 (by kernel_rfl) rfl #[.agg (big (Q + (lo + lo) * P)), .agg (big (cnt * (lo * lo)))] (by rfl) rfl rfl (by (try simp only [List.map_toArray, List.map_cons, List.map_nil]); first | done | rfl) ?_
            with_reducible refine (add_c (Q + (lo + lo) * P) (cnt * (lo * lo)) _).mono ?_
            rintro e x3 ⟨rfl, hb⟩
            have M3 := Aside0.mk (M2.out.below hb)
            clear hb
            obtain ⟨y0, y1, y2, y3, y4, y5, y6, y7⟩ := cells8H (M3.out.get 4 rfl)
            obtain ⟨z0, z1, z2, z3, z4, z5, z6, z7⟩ := freesH (M3.out.get 4 rfl)
            refine ⟨_, rfl, ?_⟩
            refine hK.out _ _ ⟨(cells8H (M3.out.get 4 rfl)).1, (cells8H (M3.out.get 4 rfl)).2.1, (cells8H (M3.out.get 4 rfl)).2.2.1, (cells8H (M3.out.get 4 rfl)).2.2.2.1, (cells8H (M3.out.get 4 rfl)).2.2.2.2.1, (cells8H (M3.out.get 4 rfl)).2.2.2.2.2.1, (cells8H (M3.out.get 4 rfl)).2.2.2.2.2.2.1, (cells8H (M3.out.get 4 rfl)).2.2.2.2.2.2.2, (cells8H (M3.out.get 6 rfl)).1, (cells8H (M3.out.get 6 rfl)).2.1, (cells8H (M3.out.get 6 rfl)).2.2.1, (cells8H (M3.out.get 6 rfl)).2.2.2.1, (cells8H (M3.out.get 6 rfl)).2.2.2.2.1, (cells8H (M3.out.get 6 rfl)).2.2.2.2.2.1, (cells8H (M3.out.get 6 rfl)).2.2.2.2.2.2.1, (cells8H (M3.out.get 6 rfl)).2.2.2.2.2.2.2, (cells8H (M3.out.get 5 rfl)).1, (cells8H (M3.out.get 5 rfl)).2.1, (cells8H (M3.out.get 5 rfl)).2.2.1, (cells8H (M3.out.get 5 rfl)).2.2.2.1, (cells8H (M3.out.get 5 rfl)).2.2.2.2.1, (cells8H (M3.out.get 5 rfl)).2.2.2.2.2.1, (cells8H (M3.out.get 5 rfl)).2.2.2.2.2.2.1, (cells8H (M3.out.get 5 rfl)).2.2.2.2.2.2.2⟩ (fun hHeld => ?_)
            clear hK K
            refine norm_ (a' := ?_) ?_ ?_
            rotate_left
            · show Act.put _ (some 128) _ = _
              simp only [Act.put, List.setIfInBounds_toArray, List.set_cons_zero, List.set_cons_succ, i64_w, i32_w]
              rfl
            refine last_ (i := 7) (N := none) #[true, true, true, true, true, true, true, true] rfl rfl (by kernel_rfl) (by decide) (fun K hK => ?_)
            refine skip_ (w1 := ?_) ?_ ?_ ?_ ?_
            rotate_left
            · rfl
            · rfl
            · go_simp
              rfl
            refine hK.out _ _ ?_
            clear hK K
            refine done_ (by kernel_rfl) ?_
            refine exit_gen (fun W => Hp w [(gp, 24, #[.int .i64 lo, .int .i64 hi, .int .i64 most, .slice A0 es.length c0]), (g4, 29, #[.slice none 0 0, .int .i64 0, .int .u64 0, .int .u64 0, .int .u64 0, .int .u64 0, .bool false]), (g8, 29, #[bv, .int .i64 cnt, .int .u64 0, .int .u64 0, .int .u64 0, .int .u64 0, .bool false]), (g12, 45, (big P)), (g13, 45, (big (Q + (lo + lo) * P + cnt * (lo * lo)))), (g16, 45, (big lo)), (g17, 45, (big cnt))] bv (v.take i) W) (M3.out.put8 4 rfl _ _ _ _ _ _ _ _) ?_
            clear HD M1 M2 M3 hHeld y0 y1 y2 y3 y4 y5 y6 y7 z0 z1 z2 z3 z4 z5 z6 z7
            intro w24 hL
            have H8 := Aside0.mk hL
            clear hL
            obtain ⟨y0, y1, y2, y3, y4, y5, y6, y7⟩ := cells8H (H8.out.get 4 rfl)
            obtain ⟨z0, z1, z2, z3, z4, z5, z6, z7⟩ := freesH (H8.out.get 4 rfl)
            go_wp2_with fail
            clear y0 y1 y2 y3 y4 y5 y6 y7 z0 z1 z2 z3 z4 z5 z6 z7
            go_at_call 20
            refine (wide_c (Q + (lo + lo) * P + cnt * (lo * lo)) _).mono ?_
            rintro e w26 ⟨rfl, hb⟩
            have H9 := Aside0.mk (H8.out.below hb)
            clear hb H8
            obtain ⟨y0, y1, y2, y3, y4, y5, y6⟩ := cells7H (H9.out.get 2 rfl)
            obtain ⟨z0, z1, z2, z3, z4, z5, z6, z7⟩ := freesH (H9.out.get 2 rfl)
            go_wp2_with fail
            refine code_gen (fun W => Hp w [(gp, 24, #[.int .i64 lo, .int .i64 hi, .int .i64 most, .slice A0 es.length c0]), (g4, 29, #[.slice none 0 0, .int .i64 0, .int .u64 0, .int .u64 0, .int .u64 0, .int .u64 0, .bool false]), (g8, 29, #[bv, .int .i64 cnt, .int .u64 0, .int .u64 0, .int .u64 (wdH (Q + (lo + lo) * P + cnt * (lo * lo))).1, .int .u64 (wdH (Q + (lo + lo) * P + cnt * (lo * lo))).2, .bool false]), (g12, 45, (big P)), (g13, 45, (big (Q + (lo + lo) * P + cnt * (lo * lo)))), (g16, 45, (big lo)), (g17, 45, (big cnt))] bv (v.take i) W) ((H9.out.put 2 rfl 4 _ rfl).put 2 rfl 5 _ rfl) ?_
            clear H9 y0 y1 y2 y3 y4 y5 y6 z0 z1 z2 z3 z4 z5 z6 z7
            intro w27 hL
            have H8 := Aside0.mk hL
            clear hL
            obtain ⟨wd, ewd⟩ : ∃ x, x = w27.drew := ⟨_, rfl⟩
            have HD : Aside0 (Hp w [(gp, 24, #[.int .i64 lo, .int .i64 hi, .int .i64 most, .slice A0 es.length c0]), (g4, 29, #[.slice none 0 0, .int .i64 0, .int .u64 0, .int .u64 0, .int .u64 0, .int .u64 0, .bool false]), (g8, 29, #[bv, .int .i64 cnt, .int .u64 0, .int .u64 0, .int .u64 (wdH (Q + (lo + lo) * P + cnt * (lo * lo))).1, .int .u64 (wdH (Q + (lo + lo) * P + cnt * (lo * lo))).2, .bool false]), (g12, 45, (big P)), (g13, 45, (big (Q + (lo + lo) * P + cnt * (lo * lo)))), (g16, 45, (big lo)), (g17, 45, (big cnt))] bv (v.take i) wd) := ⟨by rw [ewd]; exact H8.out.drew⟩
            clear H8
            refine start_ (n := 12) (S := fun w' => w'.cell? ⟨g12, 0, none⟩ = some (.int .u32 (bigD P 0)) ∧ w'.cell? ⟨g12, 1, none⟩ = some (.int .u32 (bigD P 1)) ∧ w'.cell? ⟨g12, 2, none⟩ = some (.int .u32 (bigD P 2)) ∧ w'.cell? ⟨g12, 3, none⟩ = some (.int .u32 (bigD P 3)) ∧ w'.cell? ⟨g12, 4, none⟩ = some (.int .u32 (bigD P 4)) ∧ w'.cell? ⟨g12, 5, none⟩ = some (.int .u32 (bigD P 5)) ∧ w'.cell? ⟨g12, 6, none⟩ = some (.int .u32 (bigD P 6)) ∧ w'.cell? ⟨g12, 7, none⟩ = some (.int .u32 (bigD P 7)) ∧ w'.cell? ⟨g17, 0, none⟩ = some (.int .u32 (bigD cnt 0)) ∧ w'.cell? ⟨g17, 1, none⟩ = some (.int .u32 (bigD cnt 1)) ∧ w'.cell? ⟨g17, 2, none⟩ = some (.int .u32 (bigD cnt 2)) ∧ w'.cell? ⟨g17, 3, none⟩ = some (.int .u32 (bigD cnt 3)) ∧ w'.cell? ⟨g17, 4, none⟩ = some (.int .u32 (bigD cnt 4)) ∧ w'.cell? ⟨g17, 5, none⟩ = some (.int .u32 (bigD cnt 5)) ∧ w'.cell? ⟨g17, 6, none⟩ = some (.int .u32 (bigD cnt 6)) ∧ w'.cell? ⟨g17, 7, none⟩ = some (.int .u32 (bigD cnt 7)) ∧ w'.cell? ⟨g16, 0, none⟩ = some (.int .u32 (bigD lo 0)) ∧ w'.cell? ⟨g16, 1, none⟩ = some (.int .u32 (bigD lo 1)) ∧ w'.cell? ⟨g16, 2, none⟩ = some (.int .u32 (bigD lo 2)) ∧ w'.cell? ⟨g16, 3, none⟩ = some (.int .u32 (bigD lo 3)) ∧ w'.cell? ⟨g16, 4, none⟩ = some (.int .u32 (bigD lo 4)) ∧ w'.cell? ⟨g16, 5, none⟩ = some (.int .u32 (bigD lo 5)) ∧ w'.cell? ⟨g16, 6, none⟩ = some (.int .u32 (bigD lo 6)) ∧ w'.cell? ⟨g16, 7, none⟩ = some (.int .u32 (bigD lo 7))) (ds := []) #[false, false, false, false, false, false, false, false, false, false, false, false] (by kernel_rfl) rfl rfl (by rw [← ewd]; exact ⟨(cells8H (HD.out.get 3 rfl)).1, (cells8H (HD.out.get 3 rfl)).2.1, (cells8H (HD.out.get 3 rfl)).2.2.1, (cells8H (HD.out.get 3 rfl)).2.2.2.1, (cells8H (HD.out.get 3 rfl)).2.2.2.2.1, (cells8H (HD.out.get 3 rfl)).2.2.2.2.2.1, (cells8H (HD.out.get 3 rfl)).2.2.2.2.2.2.1, (cells8H (HD.out.get 3 rfl)).2.2.2.2.2.2.2, (cells8H (HD.out.get 6 rfl)).1, (cells8H (HD.out.get 6 rfl)).2.1, (cells8H (HD.out.get 6 rfl)).2.2.1, (cells8H (HD.out.get 6 rfl)).2.2.2.1, (cells8H (HD.out.get 6 rfl)).2.2.2.2.1, (cells8H (HD.out.get 6 rfl)).2.2.2.2.2.1, (cells8H (HD.out.get 6 rfl)).2.2.2.2.2.2.1, (cells8H (HD.out.get 6 rfl)).2.2.2.2.2.2.2, (cells8H (HD.out.get 5 rfl)).1, (cells8H (HD.out.get 5 rfl)).2.1, (cells8H (HD.out.get 5 rfl)).2.2.1, (cells8H (HD.out.get 5 rfl)).2.2.2.1, (cells8H (HD.out.get 5 rfl)).2.2.2.2.1, (cells8H (HD.out.get 5 rfl)).2.2.2.2.2.1, (cells8H (HD.out.get 5 rfl)).2.2.2.2.2.2.1, (cells8H (HD.out.get 5 rfl)).2.2.2.2.2.2.2⟩) (fun hHeld => ?_)
            rw [← ewd] at hHeld ⊢
            clear ewd
            refine take_ (i := 0) (N := some 133) (v := ?_) (a' := ?_) #[true, false, false, false, false, false, false, false, false, false, false, false] rfl rfl (by kernel_rfl) (fun _ _ _ h => h) (Or.inl ⟨by rfl, ?_⟩) hHeld ?_ ?_
            rotate_left
            · rintro w' ⟨s0, s1, s2, s3, s4, s5, s6, s7, s8, s9, s10, s11, s12, s13, s14, s15, s16, s17, s18, s19, s20, s21, s22, s23⟩
              go_simp
              with_reducible rfl
            rotate_left
            · simp only [Act.put, List.setIfInBounds_toArray, List.set_cons_zero, List.set_cons_succ, i64_w, i32_w]
              rfl
            refine take_ (i := 1) (N := some 134) (v := ?_) (a' := ?_) #[true, true, false, false, false, false, false, false, false, false, false, false] rfl rfl (by kernel_rfl) (fun _ _ _ h => h) (Or.inl ⟨by rfl, ?_⟩) hHeld ?_ ?_
            rotate_left
            · rintro w' ⟨s0, s1, s2, s3, s4, s5, s6, s7, s8, s9, s10, s11, s12, s13, s14, s15, s16, s17, s18, s19, s20, s21, s22, s23⟩
              go_simp
              with_reducible rfl
            rotate_left
            · simp only [Act.put, List.setIfInBounds_toArray, List.set_cons_zero, List.set_cons_succ, i64_w, i32_w]
              rfl
            refine take_ (i := 2) (N := some 135) (v := ?_) (a' := ?_) #[true, true, true, false, false, false, false, false, false, false, false, false] rfl rfl (by kernel_rfl) (fun _ _ _ h => h) (Or.inl ⟨by rfl, ?_⟩) hHeld ?_ ?_
            rotate_left
            · rintro w' ⟨s0, s1, s2, s3, s4, s5, s6, s7, s8, s9, s10, s11, s12, s13, s14, s15, s16, s17, s18, s19, s20, s21, s22, s23⟩
              go_simp
              with_reducible rfl
            rotate_left
            · simp only [Act.put, List.setIfInBounds_toArray, List.set_cons_zero, List.set_cons_succ, i64_w, i32_w]
              rfl
            refine span_ (fuel' := 1) #[true, true, true, true, true, true, true, true, true, true, true, false] [3, 4, 5, 6, 7, 8, 9, 10] [9] (fun i => match i with | 9 => 18 | _ => 0) [[], [], [], [1, 2], [0, 1, 2, 3], [0, 1, 2, 3, 4], [0, 1, 2, 3, 4, 5], [0, 1, 2, 3, 4, 5, 6], [0, 1, 2, 3, 4, 5, 6], [], [0, 1, 2, 3, 4, 5, 6, 7, 9], [0, 1, 2, 3, 4, 5, 6, 7, 8, 9, 10]] [[], [], [], [], [], [], [], [], [], [10], [], []] [136, 137, 138, 132, 139, 140, 18] [[], [], [], [136], [137], [138], [132], [139], [140], [18], [18], []] (fun j vs w' => match j with | 3 => ((vs.getD 0 undef) = .agg (big (cnt * lo))) | 4 => ((vs.getD 0 undef) = .agg (big (P + cnt * lo))) | 5 => ((vs.getD 0 undef) = .tuple #[.agg (big (absH (P + cnt * lo))), .bool (negH (P + cnt * lo))]) | 6 => ((vs.getD 0 undef) = .tuple #[.agg (big (absH (P + cnt * lo))), .bool (negH (P + cnt * lo))]) | 7 => ((vs.getD 0 undef) = .agg (big (absH (P + cnt * lo)))) | 8 => ((vs.getD 0 undef) = .bool (negH (P + cnt * lo))) | 9 => (∃ g : Nat, (vs.getD 0 undef) = .pointer (some ⟨g, 0, none⟩) ∧ w'.heap[g]? = some (.cells #[.int .u32 0, .int .u32 0, .int .u32 0, .int .u32 0, .int .u32 0, .int .u32 0, .int .u32 0, .int .u32 0] 45 (0, 0)) ∧ wd.heap.size ≤ g) | 10 => (∃ g : Nat, (vs.getD 0 undef) = .pointer (some ⟨g, 0, none⟩) ∧ w'.heap[g]? = some (.cells (big (absH (P + cnt * lo))) 45 (0, 0)) ∧ wd.heap.size ≤ g) | _ => True) rfl (by kernel_rfl) (by kernel_rfl) ?_ (fun w' hb => ⟨(cells8H (blk_below (HD.out.get 3 rfl) hb)).1, (cells8H (blk_below (HD.out.get 3 rfl) hb)).2.1, (cells8H (blk_below (HD.out.get 3 rfl) hb)).2.2.1, (cells8H (blk_below (HD.out.get 3 rfl) hb)).2.2.2.1, (cells8H (blk_below (HD.out.get 3 rfl) hb)).2.2.2.2.1, (cells8H (blk_below (HD.out.get 3 rfl) hb)).2.2.2.2.2.1, (cells8H (blk_below (HD.out.get 3 rfl) hb)).2.2.2.2.2.2.1, (cells8H (blk_below (HD.out.get 3 rfl) hb)).2.2.2.2.2.2.2, (cells8H (blk_below (HD.out.get 6 rfl) hb)).1, (cells8H (blk_below (HD.out.get 6 rfl) hb)).2.1, (cells8H (blk_below (HD.out.get 6 rfl) hb)).2.2.1, (cells8H (blk_below (HD.out.get 6 rfl) hb)).2.2.2.1, (cells8H (blk_below (HD.out.get 6 rfl) hb)).2.2.2.2.1, (cells8H (blk_below (HD.out.get 6 rfl) hb)).2.2.2.2.2.1, (cells8H (blk_below (HD.out.get 6 rfl) hb)).2.2.2.2.2.2.1, (cells8H (blk_below (HD.out.get 6 rfl) hb)).2.2.2.2.2.2.2, (cells8H (blk_below (HD.out.get 5 rfl) hb)).1, (cells8H (blk_below (HD.out.get 5 rfl) hb)).2.1, (cells8H (blk_below (HD.out.get 5 rfl) hb)).2.2.1, (cells8H (blk_below (HD.out.get 5 rfl) hb)).2.2.2.1, (cells8H (blk_below (HD.out.get 5 rfl) hb)).2.2.2.2.1, (cells8H (blk_below (HD.out.get 5 rfl) hb)).2.2.2.2.2.1, (cells8H (blk_below (HD.out.get 5 rfl) hb)).2.2.2.2.2.2.1, (cells8H (blk_below (HD.out.get 5 rfl) hb)).2.2.2.2.2.2.2⟩) ?_ ?_
            · refine pers_cons (fun _ _ _ _ h => h) ?_; refine pers_cons (fun _ _ _ _ h => h) ?_; refine pers_cons (fun _ _ _ _ h => h) ?_; refine pers_cons (fun _ _ _ _ h => h) ?_; refine pers_cons (fun _ _ _ _ h => h) ?_; refine pers_cons (fun _ _ _ _ h => h) ?_; refine pers_cons (fun _ _ _ hb ⟨g, h1, h2, h3⟩ => ⟨g, h1, blk_below h2 hb, h3⟩) ?_; refine pers_cons (fun _ _ _ hb ⟨g, h1, h2, h3⟩ => ⟨g, h1, blk_below h2 hb, h3⟩) ?_; exact pers_nil
            rotate_left
            · skip
              refine spans_cons (some 136) rfl rfl (fun s a1 w1 ha hB hF hA K hK => ?_) ?_
              · simp only [putS, List.map_cons, List.map_nil, putAll, Act.put, List.setIfInBounds_toArray, List.set_cons_zero, List.set_cons_succ] at ha
                subst ha
                refine goes_ Try.func19 (by kernel_rfl) rfl #[.agg (big cnt), .agg (big lo)] (by rfl) rfl rfl (by (try simp only [List.map_toArray, List.map_cons, List.map_nil]); first | done | rfl) ?_
                with_reducible refine (mul_c cnt lo w1).mono ?_
                rintro e w2 ⟨rfl, hb⟩
                refine ⟨_, rfl, ?_⟩
                exact hK.out _ w2 (Or.inl hb) (fun h => absurd h (by decide)) rfl
              refine spans_cons (some 137) rfl rfl (fun s a1 w1 ha hB hF hA K hK => ?_) ?_
              · simp only [putS, List.map_cons, List.map_nil, putAll, Act.put, List.setIfInBounds_toArray, List.set_cons_zero, List.set_cons_succ] at ha
                subst ha
                have f3 : (s 136) = .agg (big (cnt * lo)) := hF 3 (by decide) (by decide) (by decide)
                rw [f3] at hK ⊢
                refine goes_ Try.func31 (by kernel_rfl) rfl #[.agg (big P), .agg (big (cnt * lo))] (by rfl) rfl rfl (by (try simp only [List.map_toArray, List.map_cons, List.map_nil]); first | done | rfl) ?_
                with_reducible refine (add_c P (cnt * lo) w1).mono ?_
                rintro e w2 ⟨rfl, hb⟩
                refine ⟨_, rfl, ?_⟩
                exact hK.out _ w2 (Or.inl hb) (fun h => absurd h (by decide)) rfl
              refine spans_cons (some 138) rfl rfl (fun s a1 w1 ha hB hF hA K hK => ?_) ?_
              · simp only [putS, List.map_cons, List.map_nil, putAll, Act.put, List.setIfInBounds_toArray, List.set_cons_zero, List.set_cons_succ] at ha
                subst ha
                have f4 : (s 137) = .agg (big (P + cnt * lo)) := hF 4 (by decide) (by decide) (by decide)
                rw [f4] at hK ⊢
                refine goes_ Try.func32 (by kernel_rfl) rfl #[.agg (big (P + cnt * lo))] (by rfl) rfl rfl (by (try simp only [List.map_toArray, List.map_cons, List.map_nil]); first | done | rfl) ?_
                with_reducible refine (signed_c (P + cnt * lo) w1).mono ?_
                rintro e w2 ⟨rfl, hb⟩
                refine ⟨_, rfl, ?_⟩
                exact hK.out _ w2 (Or.inl hb) (fun h => absurd h (by decide)) rfl
              refine spans_cons (some 132) rfl rfl (fun s a1 w1 ha hB hF hA K hK => ?_) ?_
              · simp only [putS, List.map_cons, List.map_nil, putAll, Act.put, List.setIfInBounds_toArray, List.set_cons_zero, List.set_cons_succ] at ha
                subst ha
                have f5 : (s 138) = .tuple #[.agg (big (absH (P + cnt * lo))), .bool (negH (P + cnt * lo))] := hF 5 (by decide) (by decide) (by decide)
                rw [f5] at hK ⊢
                refine value_ (w1 := ?_) (v := ?_) (by rfl) rfl ?_ ?_
                rotate_left 2
                · go_simp
                  constructor
                  · rfl
                  · rfl
                exact hK.out _ _ (Or.inl (Below.refl _ _)) (fun h => absurd h (by decide)) rfl
              refine spans_cons (some 139) rfl rfl (fun s a1 w1 ha hB hF hA K hK => ?_) ?_
              · simp only [putS, List.map_cons, List.map_nil, putAll, Act.put, List.setIfInBounds_toArray, List.set_cons_zero, List.set_cons_succ] at ha
                subst ha
                have f6 : (s 132) = .tuple #[.agg (big (absH (P + cnt * lo))), .bool (negH (P + cnt * lo))] := hF 6 (by decide) (by decide) (by decide)
                rw [f6] at hK ⊢
                refine value_ (w1 := ?_) (v := ?_) (by rfl) rfl ?_ ?_
                rotate_left 2
                · go_simp
                  constructor
                  · rfl
                  · rfl
                exact hK.out _ _ (Or.inl (Below.refl _ _)) (fun h => absurd h (by decide)) rfl
              refine spans_cons (some 140) rfl rfl (fun s a1 w1 ha hB hF hA K hK => ?_) ?_
              · simp only [putS, List.map_cons, List.map_nil, putAll, Act.put, List.setIfInBounds_toArray, List.set_cons_zero, List.set_cons_succ] at ha
                subst ha
                have f6 : (s 132) = .tuple #[.agg (big (absH (P + cnt * lo))), .bool (negH (P + cnt * lo))] := hF 6 (by decide) (by decide) (by decide)
                rw [f6] at hK ⊢
                refine value_ (w1 := ?_) (v := ?_) (by rfl) rfl ?_ ?_
                rotate_left 2
                · go_simp
                  constructor
                  · rfl
                  · rfl
                exact hK.out _ _ (Or.inl (Below.refl _ _)) (fun h => absurd h (by decide)) rfl
              refine spans_cons (some 18) rfl rfl (fun s a1 w1 ha hB hF hA K hK => ?_) ?_
              · simp only [putS, List.map_cons, List.map_nil, putAll, Act.put, List.setIfInBounds_toArray, List.set_cons_zero, List.set_cons_succ] at ha
                subst ha
                refine box_step ?hg (N := 18) ?hd (cs := #[.int .u32 0, .int .u32 0, .int .u32 0, .int .u32 0, .int .u32 0, .int .u32 0, .int .u32 0, .int .u32 0]) (t := 45) ?hr ?_; (case hd => rfl); (case hg => rfl); (case hr => first | (go_simp; done) | (go_simp; rfl))
                intro g hg w2 hbox hb
                subst hg
                exact hK.out _ w2 (Or.inl hb) (fun _ => new_pointer (Nat.le_refl _) (blk_lt hbox)) ⟨_, rfl, hbox, hB.size⟩
              refine spans_cons (none) rfl rfl (fun s a1 w1 ha hB hF hA K hK => ?_) ?_
              · simp only [putS, List.map_cons, List.map_nil, putAll, Act.put, List.setIfInBounds_toArray, List.set_cons_zero, List.set_cons_succ] at ha
                subst ha
                have f7 : (s 139) = .agg (big (absH (P + cnt * lo))) := hF 7 (by decide) (by decide) (by decide)
                have f9 : ∃ g : Nat, (s 18) = .pointer (some ⟨g, 0, none⟩) ∧ w1.heap[g]? = some (.cells #[.int .u32 0, .int .u32 0, .int .u32 0, .int .u32 0, .int .u32 0, .int .u32 0, .int .u32 0, .int .u32 0] 45 (0, 0)) ∧ wd.heap.size ≤ g := hF 9 (by decide) (by decide) (by decide)
                obtain ⟨g, eg, hg, lg⟩ := f9
                rw [f7, eg] at hK ⊢
                obtain ⟨y0, y1, y2, y3, y4, y5, y6, y7⟩ := cells8H hg
                obtain ⟨z0, z1, z2, z3, z4, z5, z6, z7⟩ := freesH hg
                refine skip_ (w1 := ?_) ?_ ?_ ?_ ?_
                rotate_left
                · rfl
                · rfl
                · go_simp
                  rfl
                have HQ := (HD.out.add1 hB hg lg (by decide)).put8 7 rfl (.int .u32 (bigD (absH (P + cnt * lo)) 0)) (.int .u32 (bigD (absH (P + cnt * lo)) 1)) (.int .u32 (bigD (absH (P + cnt * lo)) 2)) (.int .u32 (bigD (absH (P + cnt * lo)) 3)) (.int .u32 (bigD (absH (P + cnt * lo)) 4)) (.int .u32 (bigD (absH (P + cnt * lo)) 5)) (.int .u32 (bigD (absH (P + cnt * lo)) 6)) (.int .u32 (bigD (absH (P + cnt * lo)) 7))
                exact hK.out undef _ (Or.inr ⟨below_set (below_set (below_set (below_set (below_set (below_set (below_set (below_set hB lg) lg) lg) lg) lg) lg) lg) lg, Nat.le_of_eq (by simp [World.setCell]), pers_cons (fun _ _ _ h => h) (pers_cons (fun _ _ _ h => h) (pers_cons (fun _ _ _ h => h) (pers_cons (fun _ _ _ h => h) (pers_cons (fun _ _ _ h => h) (pers_cons (fun _ _ _ h => h) (pers_cons (fun _ _ h => absurd (by decide) h) (pers_cons (fun h => absurd rfl h) (pers_nil))))))))⟩) (fun h => absurd h (by decide)) ⟨g, eg, HQ.get 7 rfl, lg⟩
              exact spans_nil
            intro s w9 hB hF hA
            have hHeld : w9.cell? ⟨g12, 0, none⟩ = some (.int .u32 (bigD P 0)) ∧ w9.cell? ⟨g12, 1, none⟩ = some (.int .u32 (bigD P 1)) ∧ w9.cell? ⟨g12, 2, none⟩ = some (.int .u32 (bigD P 2)) ∧ w9.cell? ⟨g12, 3, none⟩ = some (.int .u32 (bigD P 3)) ∧ w9.cell? ⟨g12, 4, none⟩ = some (.int .u32 (bigD P 4)) ∧ w9.cell? ⟨g12, 5, none⟩ = some (.int .u32 (bigD P 5)) ∧ w9.cell? ⟨g12, 6, none⟩ = some (.int .u32 (bigD P 6)) ∧ w9.cell? ⟨g12, 7, none⟩ = some (.int .u32 (bigD P 7)) ∧ w9.cell? ⟨g17, 0, none⟩ = some (.int .u32 (bigD cnt 0)) ∧ w9.cell? ⟨g17, 1, none⟩ = some (.int .u32 (bigD cnt 1)) ∧ w9.cell? ⟨g17, 2, none⟩ = some (.int .u32 (bigD cnt 2)) ∧ w9.cell? ⟨g17, 3, none⟩ = some (.int .u32 (bigD cnt 3)) ∧ w9.cell? ⟨g17, 4, none⟩ = some (.int .u32 (bigD cnt 4)) ∧ w9.cell? ⟨g17, 5, none⟩ = some (.int .u32 (bigD cnt 5)) ∧ w9.cell? ⟨g17, 6, none⟩ = some (.int .u32 (bigD cnt 6)) ∧ w9.cell? ⟨g17, 7, none⟩ = some (.int .u32 (bigD cnt 7)) ∧ w9.cell? ⟨g16, 0, none⟩ = some (.int .u32 (bigD lo 0)) ∧ w9.cell? ⟨g16, 1, none⟩ = some (.int .u32 (bigD lo 1)) ∧ w9.cell? ⟨g16, 2, none⟩ = some (.int .u32 (bigD lo 2)) ∧ w9.cell? ⟨g16, 3, none⟩ = some (.int .u32 (bigD lo 3)) ∧ w9.cell? ⟨g16, 4, none⟩ = some (.int .u32 (bigD lo 4)) ∧ w9.cell? ⟨g16, 5, none⟩ = some (.int .u32 (bigD lo 5)) ∧ w9.cell? ⟨g16, 6, none⟩ = some (.int .u32 (bigD lo 6)) ∧ w9.cell? ⟨g16, 7, none⟩ = some (.int .u32 (bigD lo 7)) := ((fun w' hb => ⟨(cells8H (blk_below (HD.out.get 3 rfl) hb)).1, (cells8H (blk_below (HD.out.get 3 rfl) hb)).2.1, (cells8H (blk_below (HD.out.get 3 rfl) hb)).2.2.1, (cells8H (blk_below (HD.out.get 3 rfl) hb)).2.2.2.1, (cells8H (blk_below (HD.out.get 3 rfl) hb)).2.2.2.2.1, (cells8H (blk_below (HD.out.get 3 rfl) hb)).2.2.2.2.2.1, (cells8H (blk_below (HD.out.get 3 rfl) hb)).2.2.2.2.2.2.1, (cells8H (blk_below (HD.out.get 3 rfl) hb)).2.2.2.2.2.2.2, (cells8H (blk_below (HD.out.get 6 rfl) hb)).1, (cells8H (blk_below (HD.out.get 6 rfl) hb)).2.1, (cells8H (blk_below (HD.out.get 6 rfl) hb)).2.2.1, (cells8H (blk_below (HD.out.get 6 rfl) hb)).2.2.2.1, (cells8H (blk_below (HD.out.get 6 rfl) hb)).2.2.2.2.1, (cells8H (blk_below (HD.out.get 6 rfl) hb)).2.2.2.2.2.1, (cells8H (blk_below (HD.out.get 6 rfl) hb)).2.2.2.2.2.2.1, (cells8H (blk_below (HD.out.get 6 rfl) hb)).2.2.2.2.2.2.2, (cells8H (blk_below (HD.out.get 5 rfl) hb)).1, (cells8H (blk_below (HD.out.get 5 rfl) hb)).2.1, (cells8H (blk_below (HD.out.get 5 rfl) hb)).2.2.1, (cells8H (blk_below (HD.out.get 5 rfl) hb)).2.2.2.1, (cells8H (blk_below (HD.out.get 5 rfl) hb)).2.2.2.2.1, (cells8H (blk_below (HD.out.get 5 rfl) hb)).2.2.2.2.2.1, (cells8H (blk_below (HD.out.get 5 rfl) hb)).2.2.2.2.2.2.1, (cells8H (blk_below (HD.out.get 5 rfl) hb)).2.2.2.2.2.2.2⟩) : ∀ w' : World, _ → w'.cell? ⟨g12, 0, none⟩ = some (.int .u32 (bigD P 0)) ∧ w'.cell? ⟨g12, 1, none⟩ = some (.int .u32 (bigD P 1)) ∧ w'.cell? ⟨g12, 2, none⟩ = some (.int .u32 (bigD P 2)) ∧ w'.cell? ⟨g12, 3, none⟩ = some (.int .u32 (bigD P 3)) ∧ w'.cell? ⟨g12, 4, none⟩ = some (.int .u32 (bigD P 4)) ∧ w'.cell? ⟨g12, 5, none⟩ = some (.int .u32 (bigD P 5)) ∧ w'.cell? ⟨g12, 6, none⟩ = some (.int .u32 (bigD P 6)) ∧ w'.cell? ⟨g12, 7, none⟩ = some (.int .u32 (bigD P 7)) ∧ w'.cell? ⟨g17, 0, none⟩ = some (.int .u32 (bigD cnt 0)) ∧ w'.cell? ⟨g17, 1, none⟩ = some (.int .u32 (bigD cnt 1)) ∧ w'.cell? ⟨g17, 2, none⟩ = some (.int .u32 (bigD cnt 2)) ∧ w'.cell? ⟨g17, 3, none⟩ = some (.int .u32 (bigD cnt 3)) ∧ w'.cell? ⟨g17, 4, none⟩ = some (.int .u32 (bigD cnt 4)) ∧ w'.cell? ⟨g17, 5, none⟩ = some (.int .u32 (bigD cnt 5)) ∧ w'.cell? ⟨g17, 6, none⟩ = some (.int .u32 (bigD cnt 6)) ∧ w'.cell? ⟨g17, 7, none⟩ = some (.int .u32 (bigD cnt 7)) ∧ w'.cell? ⟨g16, 0, none⟩ = some (.int .u32 (bigD lo 0)) ∧ w'.cell? ⟨g16, 1, none⟩ = some (.int .u32 (bigD lo 1)) ∧ w'.cell? ⟨g16, 2, none⟩ = some (.int .u32 (bigD lo 2)) ∧ w'.cell? ⟨g16, 3, none⟩ = some (.int .u32 (bigD lo 3)) ∧ w'.cell? ⟨g16, 4, none⟩ = some (.int .u32 (bigD lo 4)) ∧ w'.cell? ⟨g16, 5, none⟩ = some (.int .u32 (bigD lo 5)) ∧ w'.cell? ⟨g16, 6, none⟩ = some (.int .u32 (bigD lo 6)) ∧ w'.cell? ⟨g16, 7, none⟩ = some (.int .u32 (bigD lo 7))) _ hB
            have f3 : (s 136) = .agg (big (cnt * lo)) := hF 3 (by decide) rfl
            have f4 : (s 137) = .agg (big (P + cnt * lo)) := hF 4 (by decide) rfl
            have f5 : (s 138) = .tuple #[.agg (big (absH (P + cnt * lo))), .bool (negH (P + cnt * lo))] := hF 5 (by decide) rfl
            have f6 : (s 132) = .tuple #[.agg (big (absH (P + cnt * lo))), .bool (negH (P + cnt * lo))] := hF 6 (by decide) rfl
            have f7 : (s 139) = .agg (big (absH (P + cnt * lo))) := hF 7 (by decide) rfl
            have f8 : (s 140) = .bool (negH (P + cnt * lo)) := hF 8 (by decide) rfl
            have f10 : ∃ g : Nat, (s 18) = .pointer (some ⟨g, 0, none⟩) ∧ w9.heap[g]? = some (.cells (big (absH (P + cnt * lo))) 45 (0, 0)) ∧ wd.heap.size ≤ g := hF 10 (by decide) rfl
            clear hF hA
            simp only [putS, List.map_cons, List.map_nil, putAll, Act.put, List.setIfInBounds_toArray, List.set_cons_zero, List.set_cons_succ]
            obtain ⟨g18, e18, h18, l18⟩ := f10
            have H7 : Aside0 (Hp w [(gp, 24, #[.int .i64 lo, .int .i64 hi, .int .i64 most, .slice A0 es.length c0]), (g4, 29, #[.slice none 0 0, .int .i64 0, .int .u64 0, .int .u64 0, .int .u64 0, .int .u64 0, .bool false]), (g8, 29, #[bv, .int .i64 cnt, .int .u64 0, .int .u64 0, .int .u64 (wdH (Q + (lo + lo) * P + cnt * (lo * lo))).1, .int .u64 (wdH (Q + (lo + lo) * P + cnt * (lo * lo))).2, .bool false]), (g12, 45, (big P)), (g13, 45, (big (Q + (lo + lo) * P + cnt * (lo * lo)))), (g16, 45, (big lo)), (g17, 45, (big cnt)), (g18, 45, (big (absH (P + cnt * lo))))] bv (v.take i) w9) := ⟨HD.out.add1 hB h18 l18 (by decide)⟩
            rw [f3, f4, f5, f6, f7, f8, e18]
            clear f3 f4 f5 f6 f7 f8 e18 h18 l18 hB s HD
            refine pure_ (i := 11) (N := some 19) (v := ?_) (a' := ?_) #[true, true, true, true, true, true, true, true, true, true, true, true] rfl rfl (by kernel_rfl) (fun _ _ _ h => h) (Or.inl ⟨by rfl, ?_⟩) ?_ ?_
            rotate_left
            · intro w'
              go_simp
              with_reducible rfl
            rotate_left
            · simp only [Act.put, List.setIfInBounds_toArray, List.set_cons_zero, List.set_cons_succ, i64_w, i32_w]
              rfl
            refine done_ (by kernel_rfl) ?_
            clear hHeld
            obtain ⟨y0, y1, y2, y3, y4, y5, y6, y7⟩ := cells8H (H7.out.get 7 rfl)
            obtain ⟨z0, z1, z2, z3, z4, z5, z6, z7⟩ := freesH (H7.out.get 7 rfl)
            go_wp2_with fail
            clear y0 y1 y2 y3 y4 y5 y6 y7 z0 z1 z2 z3 z4 z5 z6 z7
            go_at_call 20
            refine (wide_c (absH (P + cnt * lo)) _).mono ?_
            rintro e w28 ⟨rfl, hb⟩
            have H9 := Aside0.mk (H7.out.below hb)
            clear hb H7
            obtain ⟨y0, y1, y2, y3, y4, y5, y6⟩ := cells7H (H9.out.get 2 rfl)
            obtain ⟨z0, z1, z2, z3, z4, z5, z6, z7⟩ := freesH (H9.out.get 2 rfl)
            go_upto_region 27 with (fail)
            refine code_gen (fun W => Hp w [(gp, 24, #[.int .i64 lo, .int .i64 hi, .int .i64 most, .slice A0 es.length c0]), (g4, 29, #[.slice none 0 0, .int .i64 0, .int .u64 0, .int .u64 0, .int .u64 0, .int .u64 0, .bool false]), (g8, 29, #[bv, .int .i64 cnt, .int .u64 (wdH (absH (P + cnt * lo))).1, .int .u64 (wdH (absH (P + cnt * lo))).2, .int .u64 (wdH (Q + (lo + lo) * P + cnt * (lo * lo))).1, .int .u64 (wdH (Q + (lo + lo) * P + cnt * (lo * lo))).2, .bool (negH (P + cnt * lo))]), (g12, 45, (big P)), (g13, 45, (big (Q + (lo + lo) * P + cnt * (lo * lo)))), (g16, 45, (big lo)), (g17, 45, (big cnt)), (g18, 45, (big (absH (P + cnt * lo))))] bv (v.take i) W) (((H9.out.put 2 rfl 2 _ rfl).put 2 rfl 3 _ rfl).put 2 rfl 6 _ rfl) ?_
            clear H9 y0 y1 y2 y3 y4 y5 y6 z0 z1 z2 z3 z4 z5 z6 z7
            intro w29 hL
            have H8 := Aside0.mk hL
            clear hL
            obtain ⟨bl, ebl⟩ : ∃ b, b = v.take i := ⟨_, rfl⟩
            rw [← ebl] at H8
            have EBL := Aside0.mk ebl
            clear ebl
            obtain ⟨Ab, kb, rfl⟩ := Kd.R_slice H8.out.row
            obtain ⟨u0, u1, u2, u3, u4, u5, u6⟩ := cells7H (H8.out.get 2 rfl)
            obtain ⟨y0, y1, y2, y3, y4, y5, y6⟩ := cells7H (H8.out.get 1 rfl)
            obtain ⟨z0, z1, z2, z3, z4, z5, z6, z7⟩ := freesH (H8.out.get 1 rfl)
            go_wp2
            refine bodyPost_ret (results_ct rfl _ _ g4 29 #[.slice Ab bl.length kb, .int .i64 cnt, .int .u64 (wdH (absH (P + cnt * lo))).1, .int .u64 (wdH (absH (P + cnt * lo))).2, .int .u64 (wdH (Q + (lo + lo) * P + cnt * (lo * lo))).1, .int .u64 (wdH (Q + (lo + lo) * P + cnt * (lo * lo))).2, .bool (negH (P + cnt * lo))] (0, 0) _ rfl ((H8.out.put7 1 rfl _ _ _ _ _ _ _).get 1 rfl) Try.underlying29 rfl (by kernel_rfl)) rfl ?_
            exact ⟨_, by first | rfl | (simp; done), (by first | exact (H8.out.put7 1 rfl _ _ _ _ _ _ _).row | (rw [← EBL.out]; exact (H8.out.put7 1 rfl _ _ _ _ _ _ _).row)), (H8.out.put7 1 rfl _ _ _ _ _ _ _).hb⟩
theorem offertoryref09_Decode.calls (k : Nat) (a0_0 : Int) (a0_1 : Int) (a0_2 : Int) (A0_3 : Option Addr) (c0_3 : Nat) (l0_3 : List Int) (A1 : Option Addr) (c1 : Nat) (l1 : List Int) (r1 : List Int) (r2 : Int) (r3 : Int) (r4 : Int) (r5 : Int) (r6 : Int) (r7 : Bool) (r8 : Int) (w : World) (hr0_3 : Kd.C (Kd.int .i64) w A0_3 l0_3.length l0_3) (hc0_3 : l0_3.length ≤ c0_3) (hr1 : Kd.C (Kd.int .u32) w A1 l1.length l1) (hc1 : l1.length ≤ c1) (h : offertoryref09_Decode.f k a0_0 a0_1 a0_2 l0_3 l1 = some (r1, r2, r3, r4, r5, r6, r7, r8)) :
    Calls Try.prog 15 #[.agg #[.int .i64 a0_0, .int .i64 a0_1, .int .i64 a0_2, .slice A0_3 l0_3.length c0_3], .slice A1 l1.length c1] w fun e w' => ∃ v0_ : Value, e = .returned (.tuple #[.agg #[v0_, .int .i64 r2, .int .u64 r3, .int .u64 r4, .int .u64 r5, .int .u64 r6, .bool r7], .int .i64 r8]) ∧ Kd.R (Kd.int .i64) 3 w' w.heap.size (fun _ => True) v0_ r1 ∧ Below w.heap.size w w' := by
  unfold offertoryref09_Decode.f at h
  obtain ⟨b, AB, h⟩ := Option.bind_eq_some_iff.mp h
  split at h
  case isFalse => cases h
  rename_i hc
  obtain ⟨hb, hn, hv, he, hlo⟩ := hc
  have hz := Option.some.inj h
  refine refdec_walk k a0_0 a0_1 a0_2 A0_3 c0_3 l0_3 A1 c1 l1 w (l0_3.length + 1) b.toNat _ r1 r2 r3 r4 r5 r6 r7 r8 hr0_3 hc0_3 hr1 hc1 rfl hn (by omega) (by omega) (fun i => ?_) hlo (by rw [Int.toNat_of_nonneg (by omega)]; exact AB) rfl hz
  by_cases hi : i < l1.length
  · have := he _ (List.getElem_mem hi)
    simpa [List.getD, hi] using this
  · simp [List.getD, hi]

end Go.Proofs.Ytdpekjffjobabaa.PAll
