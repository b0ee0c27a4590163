/- The Go functions that the laws reach, as Lean functions, and that each call comes to what its function says. Written by a program of this session (a turned copy of the kit's print). No condition beyond those that each theorem states. -/
import Derived.Test.YtegifiagobienaaDoorPAllx0
import Derived.Test.YtegifiagobienaaDoorPAllx1
namespace Go.Proofs.YtegifiagobienaaDoor.PAll
open Go.RowKit Go.Proofs.YtegifiagobienaaDoorW.PrintWords Go.Proofs.YtegifiagobienaaDoorW.PrintLast Go.Proofs.YtegifiagobienaaDoorW.PrintMore
attribute [local go_sem] max2_int min2_int max_two min_two max_three min_three max_four min_four   -- for this text's walks alone
set_option linter.unusedVariables false
set_option linter.unusedSimpArgs false

/-! ### offertorylaw18_CrowdOf: function 3 -/
def inr (x : Int) : Bool := decide (1 ≤ x) && decide (x ≤ 64)
def wantA (l : List Int) : Int := if l.all inr then 0 else 4
def stp (s : List Bool × Int) (x : Int) : List Bool × Int := if s.2 = 0 then (s.1.set x.toNat true, if s.1.getD x.toNat false = true then 8 else 0) else s
def stA (l : List Int) (w : Int) : List Bool × Int := l.foldl stp (List.replicate 65 false, w)
theorem stp_stay (l : List Int) (s : List Bool × Int) (h : s.2 ≠ 0) : l.foldl stp s = s := by
  induction l with
  | nil => rfl
  | cons x l ih => rw [List.foldl_cons, show stp s x = s by unfold stp; rw [if_neg h]]; exact ih
theorem stA_len (l : List Int) (s : List Bool × Int) (hs : s.1.length = 65) : (l.foldl stp s).1.length = 65 := by
  induction l generalizing s with
  | nil => exact hs
  | cons x l ih => rw [List.foldl_cons]; refine ih _ ?_; unfold stp; split <;> simp [hs]
theorem stA_succ (l : List Int) (w : Int) (i : Nat) (h : i < l.length) : stA (l.take (i + 1)) w = stp (stA (l.take i) w) l[i] := by
  unfold stA
  rw [List.take_succ_eq_append_getElem h, List.foldl_append]
  rfl
theorem stA_stay (l : List Int) (w : Int) (i : Nat) (h : (stA (l.take i) w).2 ≠ 0) : stA l w = stA (l.take i) w := by
  have e : l = l.take i ++ l.drop i := (List.take_append_drop i l).symm
  conv => lhs; rw [e]
  unfold stA at *
  rw [List.foldl_append]
  exact stp_stay _ _ h
theorem stA_zero (l : List Int) (i : Nat) (h : (stA (l.take i) (wantA l)).2 = 0) : l.all inr = true := by
  unfold wantA at h
  cases hl : l.all inr
  · exfalso
    rw [hl] at h
    unfold stA at h
    rw [stp_stay _ _ (by decide)] at h
    exact absurd h (by decide)
  · rfl
theorem wantA_succ (l : List Int) (i : Nat) (h : i < l.length) : wantA (l.take (i + 1)) = if inr l[i] = true then wantA (l.take i) else 4 := by
  unfold wantA
  rw [List.take_succ_eq_append_getElem h, List.all_append]
  cases hx : inr l[i] <;> simp [hx]
def offertorylaw18_CrowdOf.good (l : List Int) (n c e s : Int) (h : Bool) : Bool :=
  if (stA l (wantA l)).2 = 0 then decide (e = 0) && decide (s = (l.length : Int)) && (h == (decide (1 ≤ n) && decide (n ≤ 64) && (stA l (wantA l)).1.getD n.toNat false))
  else decide (e = (stA l (wantA l)).2) && decide (c = 0)
def offertorylaw18_CrowdOf.f (k : Nat) (l0 : List Int) (a1 : Int) : Option Bool :=
  if l0.length ≤ 17592186044416 then ((crowd_Of.f k l0).bind fun ce => (offertorylaw18_awake.f k).bind fun t => (crowd_Size.f ce.1).bind fun s => (crowd_Has.f ce.1 a1).bind fun h =>
    if t = true then (if offertorylaw18_CrowdOf.good l0 a1 ce.1 ce.2 s h = true then some true else none) else none) else none
def arr0 : Array Value := #[.bool false, .bool false, .bool false, .bool false, .bool false, .bool false, .bool false, .bool false, .bool false, .bool false, .bool false, .bool false, .bool false, .bool false, .bool false, .bool false, .bool false, .bool false, .bool false, .bool false, .bool false, .bool false, .bool false, .bool false, .bool false, .bool false, .bool false, .bool false, .bool false, .bool false, .bool false, .bool false, .bool false, .bool false, .bool false, .bool false, .bool false, .bool false, .bool false, .bool false, .bool false, .bool false, .bool false, .bool false, .bool false, .bool false, .bool false, .bool false, .bool false, .bool false, .bool false, .bool false, .bool false, .bool false, .bool false, .bool false, .bool false, .bool false, .bool false, .bool false, .bool false, .bool false, .bool false, .bool false, .bool false]
set_option maxRecDepth 100000 in
theorem zero27 (w : World) : (zeroValue 27).run Tryd.prog w = .ok (.agg arr0) w := by rfl
set_option maxRecDepth 100000 in
theorem store27 (w : World) : (storeCells ⟨w.heap.size, 0, none⟩ arr0.toList).run Tryd.prog (w.alloc (.cells arr0 27)) = .ok () (w.alloc (.cells arr0 27)) :=
  run_storeCells_new w 27 arr0 arr0 (by kernel_rfl) rfl (by decide +kernel)
set_option maxHeartbeats 8000000 in
set_option maxRecDepth 100000 in
theorem offertorylaw18_CrowdOf.calls (k : Nat) (A0 : Option Addr) (c0 : Nat) (l0 : List Int) (a1 : Int) (r : Bool) (w : World) (hr0 : Kd.C (Kd.int .i64) w A0 l0.length l0) (hc0 : l0.length ≤ c0) (hT : Tab w) (h : offertorylaw18_CrowdOf.f k l0 a1 = some r) :
    Calls Tryd.prog 3 #[.slice A0 l0.length c0, .int .i64 a1] w fun e w' => e = .returned (.bool r) ∧ Below w.heap.size w w' := by
  have HTab := Aside0.mk hT
  clear hT
  have HR0 := Aside0.mk hr0
  have HC0 := Aside0.mk hc0
  clear hr0 hc0
  unfold offertorylaw18_CrowdOf.f at h
  split at h
  case isFalse => cases h
  rename_i hlen
  have HL := Aside0.mk hlen
  clear hlen
  replace h := Option.bind_eq_some_iff.mp h
  obtain ⟨⟨tc, te⟩, A1, h⟩ := h
  replace h := Option.bind_eq_some_iff.mp h
  obtain ⟨tt, A2, h⟩ := h
  replace h := Option.bind_eq_some_iff.mp h
  obtain ⟨ts, A3, h⟩ := h
  replace h := Option.bind_eq_some_iff.mp h
  obtain ⟨th, A4, h⟩ := h
  split at h
  case isFalse => cases h
  rename_i htt
  subst htt
  split at h
  case isFalse => cases h
  rename_i G
  obtain rfl := Option.some.inj h
  clear h
  have G' := Aside0.mk G
  have A1' := Aside0.mk A1
  have A2' := Aside0.mk A2
  have A3' := Aside0.mk A3
  have A4' := Aside0.mk A4
  clear G A1 A2 A3 A4
  go_enter Tryd.func3, Tryd.ntmps3
  go_wp2_with (first | (rw [zero27]) | (rw [store27]) | (go_at_call 8; (with_reducible refine (crowd_Of.calls k _ _ l0 tc te _ ?side1 ?side2 A1'.out).mono ?_); (case side1 => exact HR0.out); (case side2 => exact HC0.out); rintro e w1 ⟨rfl, hd⟩; have hb1 := hd.below; have HB1 := Aside0.mk hb1; have HR1 := Aside0.mk (Kd.C_below HR0.out hb1); clear hd hb1))
  have hH := heap_alloc_last w1 (.cells arr0 27)
  have hB2 : Below w.heap.size w (w1.alloc (.cells arr0 27)) := below_alloc HB1.out _
  have hR2 := Kd.C_below HR1.out (below_alloc (Below.refl w1.heap.size w1) (.cells arr0 27))
  have hsz := HB1.out.size
  have hW2 : w1.heap.size < (w1.alloc (.cells arr0 27)).heap.size := by show _ < (w1.heap.push _).size; simp
  generalize w1.alloc (.cells arr0 27) = w2 at *
  generalize w1.heap.size = b at *
  have HB2 := Aside0.mk hB2
  have HR2 := Aside0.mk hR2
  have HH := Aside0.mk hH
  have HSZ := Aside0.mk hsz
  clear HB1 HR1 hH hB2 hR2 hsz hW2
  go_loopg [8, 9] l0.length (fun kq v8 v9 w' => ∃ (i : Nat), v8 = .int .i64 (wantA (l0.take i)) ∧ v9 = .int .i64 (i : Int) ∧ Aside0 (i + kq = l0.length) ∧ w' = w2)
  case atStart => exact ⟨0, rfl, rfl, ⟨Nat.zero_add _⟩, rfl⟩
  case round =>
    obtain ⟨i, rfl, rfl, HI, rfl⟩ := hrel
    cases gk with
    | zero =>
      have hi := HI.out
      rw [Nat.add_zero] at hi
      have c1 : decide ((i : Int) < (l0.length : Int)) = false := decide_eq_false (by omega)
      subst hi
      rw [List.take_length]
      go_wp2
      have HH0 : Aside0 (wr.heap[b]? = some (.cells (((stA (l0.take 0) (wantA l0)).1.map Value.bool).toArray) 27 (0, 0))) := ⟨HH.out.trans (by rfl)⟩
      clear HH HI
      go_loopg [8, 10] l0.length (fun kq v8 v10 w' => ∃ (i : Nat), v8 = .int .i64 (stA (l0.take i) (wantA l0)).2 ∧ v10 = .int .i64 (i : Int) ∧ Aside0 (i + kq = l0.length) ∧ Aside0 (w'.heap[b]? = some (.cells (((stA (l0.take i) (wantA l0)).1.map Value.bool).toArray) 27 (0, 0))) ∧ Aside0 (Below w.heap.size w w'))
      case atStart => exact ⟨0, rfl, rfl, ⟨Nat.zero_add _⟩, HH0, HB2⟩
      case round =>
        clear HH0 HB2 HR2
        obtain ⟨i, rfl, rfl, HI, HH, HB⟩ := hrel
        have HR := Aside0.mk (Kd.C_below HR0.out HB.out)
        by_cases hend : stA l0 (wantA l0) = stA (l0.take i) (wantA l0) ∧ (gk = 0 ∨ (stA (l0.take i) (wantA l0)).2 ≠ 0)
        · obtain ⟨hst, hor⟩ := hend
          have G := G'.out
          unfold offertorylaw18_CrowdOf.good at G
          have hlen := stA_len (l0.take i) (List.replicate 65 false, wantA l0) (by simp)
          change (stA (l0.take i) (wantA l0)).1.length = 65 at hlen
          rw [hst] at G
          clear hst G'
          generalize stA (l0.take i) (wantA l0) = s at *
          obtain ⟨hs, z⟩ := s
          simp only at G hlen hor HH
          have hi := HI.out
          by_cases hz : z = 0
          · subst hz
            have hk : gk = 0 := by rcases hor with h | h; exact h; exact absurd rfl h
            subst hk
            rw [if_pos rfl] at G
            obtain ⟨⟨g1, g2⟩, g3⟩ : (te = 0 ∧ ts = (l0.length : Int)) ∧ th = (decide (1 ≤ a1) && decide (a1 ≤ 64) && hs.getD a1.toNat false) := by
              simpa using G
            subst g1 g2
            have c1 : decide ((i : Int) < (l0.length : Int)) = false := decide_eq_false (by omega)
            have c1n : ¬ i < l0.length := by omega
            clear G hor hi
            by_cases n1 : 1 ≤ a1
            · have n1b : decide (1 ≤ a1) = true := decide_eq_true n1
              by_cases n2 : a1 ≤ 64
              · have n2b : decide (a1 ≤ 64) = true := decide_eq_true n2
                have xa : decide (0 ≤ a1) = true := decide_eq_true (by omega)
                have xb : decide (a1 < 65) = true := decide_eq_true (by omega)
                have hl2 : a1.toNat < hs.length := by omega
                rw [n1b, n2b, Bool.and_true, Bool.true_and] at g3
                subst g3
                go_wp2_with (first | (go_at_call 9; (with_reducible refine (offertorylaw18_awake.calls k true _ (HTab.out.step HB.out) A2'.out).mono ?_); rintro e w9 ⟨rfl, hb9⟩; have HH9 := Aside0.mk ((hb9.block b (blk_lt HH.out)).trans HH.out); have HB9 := Aside0.mk (below_step HB.out hb9); clear hb9) | (go_at_call 10; (with_reducible refine (crowd_Size.calls tc (l0.length : Int) _ A3'.out).mono ?_); rintro e w10 ⟨rfl, hd10⟩; have hb10 := hd10.below; have HH10 := Aside0.mk ((hb10.block b (blk_lt HH9.out)).trans HH9.out); have HB10 := Aside0.mk (below_step HB9.out hb10); clear hb10 hd10) | (go_at_call 11; (with_reducible refine (crowd_Has.calls tc a1 _ _ A4'.out).mono ?_); rintro e w11 ⟨rfl, hd11⟩; have hb11 := hd11.below; have HH11 := Aside0.mk ((hb11.block b (blk_lt HH10.out)).trans HH10.out); have HB11 := Aside0.mk (below_step HB10.out hb11); have hcell : w11.cell? ⟨b, a1.toNat, none⟩ = some (.bool (hs.getD a1.toNat false)) := (by rw [blk_cell HH11.out]; simp [List.getD, hl2]); clear hb11 hd11))
                go_ret
                exact ⟨by first | rfl | (simp; done) | (simp [*]; done), HB11.out⟩
              · have n2b : decide (a1 ≤ 64) = false := decide_eq_false n2
                rw [n1b, n2b, Bool.and_false, Bool.false_and] at g3
                subst g3
                go_wp2_with (first | (go_at_call 9; (with_reducible refine (offertorylaw18_awake.calls k true _ (HTab.out.step HB.out) A2'.out).mono ?_); rintro e w9 ⟨rfl, hb9⟩; have HH9 := Aside0.mk ((hb9.block b (blk_lt HH.out)).trans HH.out); have HB9 := Aside0.mk (below_step HB.out hb9); clear hb9) | (go_at_call 10; (with_reducible refine (crowd_Size.calls tc (l0.length : Int) _ A3'.out).mono ?_); rintro e w10 ⟨rfl, hd10⟩; have hb10 := hd10.below; have HH10 := Aside0.mk ((hb10.block b (blk_lt HH9.out)).trans HH9.out); have HB10 := Aside0.mk (below_step HB9.out hb10); clear hb10 hd10) | (go_at_call 11; (with_reducible refine (crowd_Has.calls tc a1 _ _ A4'.out).mono ?_); rintro e w11 ⟨rfl, hd11⟩; have hb11 := hd11.below; have HH11 := Aside0.mk ((hb11.block b (blk_lt HH10.out)).trans HH10.out); have HB11 := Aside0.mk (below_step HB10.out hb11); clear hb11 hd11))
                go_ret
                exact ⟨by first | rfl | (simp; done) | (simp [*]; done), HB11.out⟩
            · have n1b : decide (1 ≤ a1) = false := decide_eq_false n1
              rw [n1b, Bool.false_and, Bool.false_and] at g3
              subst g3
              go_wp2_with (first | (go_at_call 9; (with_reducible refine (offertorylaw18_awake.calls k true _ (HTab.out.step HB.out) A2'.out).mono ?_); rintro e w9 ⟨rfl, hb9⟩; have HH9 := Aside0.mk ((hb9.block b (blk_lt HH.out)).trans HH.out); have HB9 := Aside0.mk (below_step HB.out hb9); clear hb9) | (go_at_call 10; (with_reducible refine (crowd_Size.calls tc (l0.length : Int) _ A3'.out).mono ?_); rintro e w10 ⟨rfl, hd10⟩; have hb10 := hd10.below; have HH10 := Aside0.mk ((hb10.block b (blk_lt HH9.out)).trans HH9.out); have HB10 := Aside0.mk (below_step HB9.out hb10); clear hb10 hd10) | (go_at_call 11; (with_reducible refine (crowd_Has.calls tc a1 _ _ A4'.out).mono ?_); rintro e w11 ⟨rfl, hd11⟩; have hb11 := hd11.below; have HH11 := Aside0.mk ((hb11.block b (blk_lt HH10.out)).trans HH10.out); have HB11 := Aside0.mk (below_step HB10.out hb11); clear hb11 hd11))
              go_ret
              exact ⟨by first | rfl | (simp; done) | (simp [*]; done), HB11.out⟩
          · rw [if_neg hz] at G
            obtain ⟨g1, g2⟩ : te = z ∧ tc = 0 := by simpa using G
            subst g1 g2
            have z1 : (te == 0) = false := beq_eq_false_iff_ne.mpr hz
            have z2 : (te != 0) = true := bne_iff_ne.mpr hz
            clear G hor hz
            by_cases hlt : i < l0.length
            · have c1 : decide ((i : Int) < (l0.length : Int)) = true := decide_eq_true (by omega)
              clear hi
              go_wp2_with (first | (go_at_call 9; (with_reducible refine (offertorylaw18_awake.calls k true _ (HTab.out.step HB.out) A2'.out).mono ?_); rintro e w9 ⟨rfl, hb9⟩; have HH9 := Aside0.mk ((hb9.block b (blk_lt HH.out)).trans HH.out); have HB9 := Aside0.mk (below_step HB.out hb9); clear hb9))
              all_goals (go_ret; exact ⟨by first | rfl | (simp; done) | (simp [*]; done), HB9.out⟩)
            · have c1 : decide ((i : Int) < (l0.length : Int)) = false := decide_eq_false (by omega)
              clear hi
              go_wp2_with (first | (go_at_call 9; (with_reducible refine (offertorylaw18_awake.calls k true _ (HTab.out.step HB.out) A2'.out).mono ?_); rintro e w9 ⟨rfl, hb9⟩; have HH9 := Aside0.mk ((hb9.block b (blk_lt HH.out)).trans HH.out); have HB9 := Aside0.mk (below_step HB.out hb9); clear hb9))
              all_goals (go_ret; exact ⟨by first | rfl | (simp; done) | (simp [*]; done), HB9.out⟩)
        · obtain ⟨k1, rfl⟩ : ∃ k1, gk = k1 + 1 := by
            cases gk with
            | zero => exact absurd ⟨by have := HI.out; rw [List.take_of_length_le (by omega)], Or.inl rfl⟩ hend
            | succ k1 => exact ⟨k1, rfl⟩
          have hz : (stA (l0.take i) (wantA l0)).2 = 0 := by
            apply Decidable.byContradiction
            intro hn
            exact hend ⟨stA_stay _ _ _ hn, Or.inr hn⟩
          clear hend
          have hi := HI.out
          have hl := HL.out
          have hlt : i < l0.length := by omega
          have c1 : decide ((i : Int) < (l0.length : Int)) = true := decide_eq_true (by omega)
          have ew : wrap64 ((i : Int) + 1) = ((i + 1 : Nat) : Int) := by unfold wrap64; omega
          have es := stA_succ l0 (wantA l0) i hlt
          have hin := stA_zero l0 i hz
          have eg : rd l0 (i : Int) = l0[i] := by unfold rd; simp [List.getD, List.getElem?_eq_getElem hlt]
          have hin2 : inr l0[i] = true := List.all_eq_true.1 hin _ (List.getElem_mem hlt)
          have hlen := stA_len (l0.take i) (List.replicate 65 false, wantA l0) (by simp)
          have p1 : 0 ≤ (i : Int) := by omega
          have q1 : (i : Int) < (l0.length : Int) := by omega
          obtain ⟨ad1, e1, hx1⟩ := Kd.at_int HR.out (i : Int) p1 q1
          cases e1
          rw [eg, Int.toNat_natCast] at hx1
          replace p1 := eq_true p1
          replace q1 := eq_true q1
          generalize l0[i] = x at hx1 es hin2
          obtain ⟨x1, x2⟩ : 1 ≤ x ∧ x ≤ 64 := by unfold inr at hin2; simpa using hin2
          have xa : decide (0 ≤ x) = true := decide_eq_true (by omega)
          have xb : decide (x < 65) = true := decide_eq_true (by omega)
          have hcell : wr.cell? ⟨b, x.toNat, none⟩ = some (.bool ((stA (l0.take i) (wantA l0)).1.getD x.toNat false)) := by
            rw [blk_cell HH.out]
            have hl2 : x.toNat < (stA (l0.take i) (wantA l0)).1.length := by unfold stA; omega
            simp [List.getD, hl2]
          have hfz := blk_frozen HH.out x.toNat
          have hset := blk_set HH.out x.toNat (.bool true)
          rw [show ((((stA (l0.take i) (wantA l0)).1.map Value.bool).toArray).setIfInBounds x.toNat (.bool true)) = (((stA (l0.take i) (wantA l0)).1.set x.toNat true).map Value.bool).toArray by simp [List.map_set]] at hset
          have HSET := Aside0.mk hset
          clear hin hin2 eg hi hl hset
          cases hb : (stA (l0.take i) (wantA l0)).1.getD x.toNat false
          · rw [hb] at hcell
            have es2 : stA (l0.take (i + 1)) (wantA l0) = ((stA (l0.take i) (wantA l0)).1.set x.toNat true, 0) := by
              rw [es]; unfold stp; rw [if_pos hz, hb]; rfl
            have ES := Aside0.mk es2
            clear es es2
            rw [hz]
            go_wp2
            go_roundg k1
            case measure => omega
            case rel => exact ⟨i + 1, by rw [ES.out], by first | rfl | (rw [← ew]), ⟨by have := HI.out; omega⟩, ⟨by rw [ES.out]; exact HSET.out⟩, ⟨HB.out.setCell HSZ.out _⟩⟩
          · rw [hb] at hcell
            have es2 : stA (l0.take (i + 1)) (wantA l0) = ((stA (l0.take i) (wantA l0)).1.set x.toNat true, 8) := by
              rw [es]; unfold stp; rw [if_pos hz, hb]; rfl
            have ES := Aside0.mk es2
            clear es es2
            rw [hz]
            go_wp2
            go_roundg k1
            case measure => omega
            case rel => exact ⟨i + 1, by rw [ES.out], by first | rfl | (rw [← ew]), ⟨by have := HI.out; omega⟩, ⟨by rw [ES.out]; exact HSET.out⟩, ⟨HB.out.setCell HSZ.out _⟩⟩
    | succ k1 =>
      have hi := HI.out
      have hl := HL.out
      have hlt : i < l0.length := by omega
      have c1 : decide ((i : Int) < (l0.length : Int)) = true := decide_eq_true (by omega)
      have ew : wrap64 ((i : Int) + 1) = ((i + 1 : Nat) : Int) := by unfold wrap64; omega
      have es := wantA_succ l0 i hlt
      have eg : rd l0 (i : Int) = l0[i] := by unfold rd; simp [List.getD, List.getElem?_eq_getElem hlt]
      have p1 : 0 ≤ (i : Int) := by omega
      have q1 : (i : Int) < (l0.length : Int) := by omega
      obtain ⟨ad1, e1, hx1⟩ := Kd.at_int HR2.out (i : Int) p1 q1
      cases e1
      rw [eg, Int.toNat_natCast] at hx1
      replace p1 := eq_true p1
      replace q1 := eq_true q1
      clear hi hl eg
      generalize l0[i] = x at hx1 es
      by_cases c2 : x < 1
      · have c2b : decide (x < 1) = true := decide_eq_true c2
        have en : inr x = false := by unfold inr; rw [decide_eq_false (by omega)]; rfl
        rw [en, if_neg (by decide)] at es
        go_wp2
        go_roundg k1
        case measure => omega
        case rel => exact ⟨i + 1, by rw [es], by first | rfl | (rw [← ew]), ⟨by have := HI.out; omega⟩, rfl⟩
      · have c2b : decide (x < 1) = false := decide_eq_false c2
        by_cases c3 : x > 64
        · have c3b : decide (64 < x) = true := decide_eq_true c3
          have en : inr x = false := by unfold inr; rw [decide_eq_false (p := x ≤ 64) (by omega), Bool.and_false]
          rw [en, if_neg (by decide)] at es
          go_wp2
          go_roundg k1
          case measure => omega
          case rel => exact ⟨i + 1, by rw [es], by first | rfl | (rw [← ew]), ⟨by have := HI.out; omega⟩, rfl⟩
        · have c3b : decide (64 < x) = false := decide_eq_false c3
          have en : inr x = true := by unfold inr; rw [decide_eq_true (by omega), decide_eq_true (by omega)]; rfl
          rw [en, if_pos rfl] at es
          go_wp2
          go_roundg k1
          case measure => omega
          case rel => exact ⟨i + 1, by rw [es], by first | rfl | (rw [← ew]), ⟨by have := HI.out; omega⟩, rfl⟩

/-! ### offertorylaw18_CrowdLists: function 4 -/
def offertorylaw18_CrowdLists.l0 : Nat → Int → List Int → Int → Option (Bool)
  | 0, _, _, _ => none
  | k + 1, x0, x3, x4 => if x4 < 64 then (if 0 ≤ (IntKind.u64.wrap (x4)) then (if (Go.bits .and .u64 (shr .u64 x0 (IntKind.u64.wrap (x4))) 1) = 1 then (if x3.length < 17592186044416 then (offertorylaw18_CrowdLists.l0 k x0 (x3 ++ [wrap64 (x4 + 1)]) (wrap64 (x4 + 1))) else (none)) else (offertorylaw18_CrowdLists.l0 k x0 x3 (wrap64 (x4 + 1)))) else (none)) else ((offertorylaw18_awake.f k).bind fun t145 => (if t145 = true then ((crowd_List.f k x0).bind fun t146 => ((offertoryref01_Ints.f k t146 x3).bind fun t149 => (if t149 = true then ((crowd_Size.f x0).bind fun t150 => (some (t150 == (x3.length : Int)))) else (none)))) else (none)))
def offertorylaw18_CrowdLists.f (k : Nat) (a0 : Int) : Option (Bool) := offertorylaw18_CrowdLists.l0 k a0 (([] : List Int)) 0
theorem offertorylaw18_CrowdLists.mono_l : ∀ k, (∀ y0 y1 y2, LeO (offertorylaw18_CrowdLists.l0 k y0 y1 y2) (offertorylaw18_CrowdLists.l0 (k + 1) y0 y1 y2))
  | 0 => fun _ _ _ r h => by simp [offertorylaw18_CrowdLists.l0] at h
  | k + 1 => by
    have ih0 := offertorylaw18_CrowdLists.mono_l k
    · intro y0 y1 y2
      unfold offertorylaw18_CrowdLists.l0
      repeat' first
      | (with_reducible exact ih0 _ _ _)
      | (with_reducible exact crowd_List.mono _ _)
      | (with_reducible exact offertorylaw18_awake.mono _)
      | (with_reducible exact offertoryref01_Ints.mono _ _ _)
      | (with_reducible exact LeO.refl _)
      | (with_reducible exact LeO.none _)
      | (with_reducible refine LeO.ite ?_ ?_)
      | (with_reducible refine LeO.bind ?_ (fun _ => ?_))
      | exact ih0 _ _ _
      | exact crowd_List.mono _ _
      | exact offertorylaw18_awake.mono _
      | exact offertoryref01_Ints.mono _ _ _
      | exact LeO.none _
      | refine LeO.ite ?_ ?_
      | refine LeO.bind ?_ (fun _ => ?_)
theorem offertorylaw18_CrowdLists.mono : ∀ a0 k, LeO (offertorylaw18_CrowdLists.f k a0) (offertorylaw18_CrowdLists.f (k + 1) a0) := by
  intro a0 k
  have ih0 := offertorylaw18_CrowdLists.mono_l k
  unfold offertorylaw18_CrowdLists.f
  repeat' first
      | (with_reducible exact ih0 _ _ _)
      | (with_reducible exact crowd_List.mono _ _)
      | (with_reducible exact offertorylaw18_awake.mono _)
      | (with_reducible exact offertoryref01_Ints.mono _ _ _)
      | (with_reducible exact LeO.refl _)
      | (with_reducible exact LeO.none _)
      | (with_reducible refine LeO.ite ?_ ?_)
      | (with_reducible refine LeO.bind ?_ (fun _ => ?_))
      | exact ih0 _ _ _
      | exact crowd_List.mono _ _
      | exact offertorylaw18_awake.mono _
      | exact offertoryref01_Ints.mono _ _ _
      | exact LeO.none _
      | refine LeO.ite ?_ ?_
      | refine LeO.bind ?_ (fun _ => ?_)
set_option maxHeartbeats 8000000 in
set_option maxRecDepth 100000 in
theorem offertorylaw18_CrowdLists.calls (k : Nat) (a0 : Int) (r : Bool) (w : World) (hT : Tab w) (h : offertorylaw18_CrowdLists.f k a0 = some r) :
    Calls Tryd.prog 4 #[.int .u64 a0] w fun e w' => e = .returned (.bool r) ∧ Below w.heap.size w w' := by
  have HTab := Aside0.mk hT
  clear hT
  have HB := Aside0.mk (Below.refl w.heap.size w)
  have H : (offertorylaw18_CrowdLists.l0 k a0 (([] : List Int)) 0) = some r := h
  clear h
  obtain ⟨y139, hy139⟩ : ∃ y_ : List Int, y_ = (([] : List Int)) := ⟨_, rfl⟩
  replace H : (offertorylaw18_CrowdLists.l0 k a0 y139 0) = some r := by first | (rw [hy139]; with_reducible exact H) | (have H2_ := (Option.bind_some _ _).symm.trans H; rw [hy139]; with_reducible exact H2_) | (have H2_ := (Option.bind_some _ _).symm.trans H; with_reducible exact H2_) | with_reducible exact H | (rw [hy139]; exact H) | exact H
  have Ny139 := Aside0.mk hy139
  clear hy139
  have H' := Aside0.mk H
  clear H
  go_enter Tryd.func4, Tryd.ntmps4
  go_wp2_with (first | ((with_reducible refine gate_dst (N := 5) rfl ?_); (try (refine gate_guard (by rfl) ?_; dsimp only)); refine Kd.R_lit (Kd.int .i64) _ 3 ?hg (N := 5) ?hd (xs := ([] : List Int)) (inner := []) (ok := fun _ => True) (okp := fun _ => True) ?hr ?hp (fun _ hk => hk) trivial (Below.refl _ _) (Nat.le_refl _) (by simp) ?_; (case hd => rfl); (case hg => rfl); (case hr => first | (go_simp; done) | (go_simp; rfl)); (case hp => exact (Reps.none _ _)); intro v140 w2 ho3 hb hg_ hnew_; clear hg_ hnew_; (first | rw [← Ny139.out] at ho3 | (simp only [Int.reduceToNat] at ho3; rw [← Ny139.out] at ho3)); have n0_ := Aside0.mk (Kd.R_lower ho3 (below_size (by repeat (first | (with_reducible first | exact HB.out | apply below_alloc | apply pw_below_drewN | apply below_drew1) | exact HB.out)))); have n1_ := Aside0.mk (below_step (by repeat (first | (with_reducible first | exact HB.out | apply below_alloc | apply pw_below_drewN | apply below_drew1) | exact HB.out)) hb); clear HB; have HO141 := n0_; have HB := n1_; clear n0_ n1_; clear hb ho3))
  go_loopg [3, 4] k (fun kq v3 v4 w' => ∃ (x3_1 : List Int) (x4_1 : Int), v4 = .int .i64 x4_1 ∧ Aside0 (offertorylaw18_CrowdLists.l0 kq a0 x3_1 x4_1 = some r) ∧ Aside0 (kq ≤ k) ∧ Aside0 (Kd.R (Kd.int .i64) 3 w' w.heap.size (fun _ => True) v3 x3_1) ∧ Aside0 (Below w.heap.size w w'))
  case atStart => exact ⟨(y139), (0), (by first | rfl | (simp; done) | (simp [*]; done)), H', ⟨Nat.le_refl _⟩, ⟨by (with_reducible repeat (first | apply Kd.R_alloc | apply Kd.R_drewN | apply Kd.R_drew)); exact HO141.out⟩, ⟨by repeat (first | (with_reducible first | exact HB.out | apply below_alloc | apply pw_below_drewN | apply below_drew1) | exact HB.out)⟩⟩
  case round =>
    clear H'
    try clear p2
    obtain ⟨x3_1, x4_1, rfl, HA, HK1, HO_3, HB⟩ := hrel
    cases gk with
    | zero => exact absurd HA.out (by simp [offertorylaw18_CrowdLists.l0])
    | succ k1 =>
      have H := HA.out
      clear HA
      simp only [offertorylaw18_CrowdLists.l0] at H
      by_cases c4 : x4_1 < 64
      · rw [if_pos c4] at H
        have c4b0 : decide (x4_1 < 64) = true := decide_eq_true c4
        clear c4
        obtain ⟨ji5, hji5⟩ : ∃ j_ : Int, (IntKind.u64.wrap (x4_1)) = j_ := ⟨_, rfl⟩
        replace H : (if 0 ≤ (ji5) then (if (Go.bits .and .u64 (shr .u64 a0 (ji5)) 1) = 1 then (if x3_1.length < 17592186044416 then (offertorylaw18_CrowdLists.l0 k1 a0 (x3_1 ++ [wrap64 (x4_1 + 1)]) (wrap64 (x4_1 + 1))) else (none)) else (offertorylaw18_CrowdLists.l0 k1 a0 x3_1 (wrap64 (x4_1 + 1)))) else (none)) = some r := by first | (rw [hji5] at H; exact H) | (simp only [hji5] at H ⊢; exact H)
        by_cases c6 : 0 ≤ (ji5)
        · rw [if_pos c6] at H
          have c6b0 := eq_true c6
          have c6b1 : decide (0 ≤ (ji5)) = true := decide_eq_true c6
          clear c6
          obtain ⟨ji7, hji7⟩ : ∃ j_ : Int, (shr .u64 a0 (ji5)) = j_ := ⟨_, rfl⟩
          replace H : (if (Go.bits .and .u64 (ji7) 1) = 1 then (if x3_1.length < 17592186044416 then (offertorylaw18_CrowdLists.l0 k1 a0 (x3_1 ++ [wrap64 (x4_1 + 1)]) (wrap64 (x4_1 + 1))) else (none)) else (offertorylaw18_CrowdLists.l0 k1 a0 x3_1 (wrap64 (x4_1 + 1)))) = some r := by first | (rw [hji7] at H; exact H) | (simp only [hji7] at H ⊢; exact H)
          have hji7_ : (a0 / 2 ^ min (ji5).toNat 64) = ji7 := hji7
          have hji7z : (ji5) ≤ 64 → (a0 / 2 ^ (ji5).toNat) = ji7 := shr_small hji7
          by_cases c8 : (Go.bits .and .u64 (ji7) 1) = 1
          · rw [if_pos c8] at H
            have c8b0 : ((Go.bits .and .u64 (ji7) 1) == 1) = true := beq_iff_eq.mpr c8
            have c8b1 : ((Go.bits .and .u64 (ji7) 1) != 1) = false := bne_eq_false_iff_eq.mpr c8
            clear c8
            by_cases c9 : x3_1.length < 17592186044416
            · rw [if_pos c9] at H
              have LMc9 := Aside0.mk c9
              clear c9
              obtain ⟨y142, hy142⟩ : ∃ y_ : List Int, y_ = (x3_1 ++ [wrap64 (x4_1 + 1)]) := ⟨_, rfl⟩
              replace H : (offertorylaw18_CrowdLists.l0 k1 a0 y142 (wrap64 (x4_1 + 1))) = some r := by first | (rw [hy142]; with_reducible exact H) | (have H2_ := (Option.bind_some _ _).symm.trans H; rw [hy142]; with_reducible exact H2_) | (have H2_ := (Option.bind_some _ _).symm.trans H; with_reducible exact H2_) | with_reducible exact H | (rw [hy142]; exact H) | exact H
              have Ny142 := Aside0.mk hy142
              clear hy142
              have H' := Aside0.mk H
              clear H
              go_wp2_with (first | ((with_reducible refine gate_builtin (b := .append) (xs := #[.tmp 16, .tmp 19]) rfl ?_); (try (refine gate_guard (by rfl) ?_; dsimp only)); at_builtin; refine Kd.R_append (Kd.int .i64) (w0 := w) w.heap.size rfl (.tmp 16) (.tmp 19) 22 3 (.int .i64 0) 8 rfl Tryd.underlying22 info3 rfl (by decide) (by omega) u3 x3_1 (wrap64 (x4_1 + 1)) [.int .i64 (wrap64 (x4_1 + 1))] (fun _ => True) (fun _ => False) rfl rfl ?aP (fun _ hk => hk.elim) ?aF ?aO ?aB ?aS ?aL ?_; (case aP => exact rfl); (case aB => exact (by repeat (first | (with_reducible first | exact HB.out | apply below_alloc | apply pw_below_drewN | apply below_drew1) | exact HB.out))); (case aF => exact (fun _ _ => trivial)); (case aO => exact (by (with_reducible repeat (first | apply Kd.R_alloc | apply Kd.R_drewN | apply Kd.R_drew)); exact HO_3.out)); (case aS => exact (below_size (by repeat (first | (with_reducible first | exact HB.out | apply below_alloc | apply pw_below_drewN | apply below_drew1) | exact HB.out)))); (case aL => have := LMc9.out; omega); intro v143 w10 ho hb hg hat; rw [← Ny142.out] at ho; have n0_ := Aside0.mk (hb); have n1_ := Aside0.mk (ho); clear HB; clear HO_3; have HB := n0_; have HO144 := n1_; clear n0_ n1_; clear ho hb hg hat))
              go_roundg k1
              case measure => have := HK1.out; omega
              case rel => exact ⟨(y142), (wrap64 (x4_1 + 1)), (by first | rfl | (simp; done) | (simp [*]; done)), H', ⟨by have := HK1.out; omega⟩, ⟨by (with_reducible repeat (first | apply Kd.R_alloc | apply Kd.R_drewN | apply Kd.R_drew)); exact HO144.out⟩, ⟨by repeat (first | (with_reducible first | exact HB.out | apply below_alloc | apply pw_below_drewN | apply below_drew1) | exact HB.out)⟩⟩
            · rw [if_neg c9] at H
              exact absurd H (by simp)
          · rw [if_neg c8] at H
            have c8b0 : ((Go.bits .and .u64 (ji7) 1) == 1) = false := beq_eq_false_iff_ne.mpr c8
            have c8b1 : ((Go.bits .and .u64 (ji7) 1) != 1) = true := bne_iff_ne.mpr c8
            have H' := Aside0.mk H
            clear H
            go_wp2
            go_roundg k1
            case measure => have := HK1.out; omega
            case rel => exact ⟨(x3_1), (wrap64 (x4_1 + 1)), (by first | rfl | (simp; done) | (simp [*]; done)), H', ⟨by have := HK1.out; omega⟩, ⟨by (with_reducible repeat (first | apply Kd.R_alloc | apply Kd.R_drewN | apply Kd.R_drew)); exact HO_3.out⟩, ⟨by repeat (first | (with_reducible first | exact HB.out | apply below_alloc | apply pw_below_drewN | apply below_drew1) | exact HB.out)⟩⟩
        · rw [if_neg c6] at H
          exact absurd H (by simp)
      · rw [if_neg c4] at H
        have c4b0 : decide (x4_1 < 64) = false := decide_eq_false c4
        clear c4
        replace H := Option.bind_eq_some_iff.mp H
        obtain ⟨t145, A110, H⟩ := H
        replace H : (if t145 = true then ((crowd_List.f k1 a0).bind fun t146 => ((offertoryref01_Ints.f k1 t146 x3_1).bind fun t149 => (if t149 = true then ((crowd_Size.f a0).bind fun t150 => (some (t150 == (x3_1.length : Int)))) else (none)))) else (none)) = some r := H
        have A11 := Aside0.mk A110
        clear A110
        by_cases c12 : t145 = true
        · subst c12
          have H1 : ((crowd_List.f k1 a0).bind fun t146 => ((offertoryref01_Ints.f k1 t146 x3_1).bind fun t149 => (if t149 = true then ((crowd_Size.f a0).bind fun t150 => (some (t150 == (x3_1.length : Int)))) else (none)))) = some r := by rw [if_pos rfl] at H; exact H
          clear H
          have H := H1
          clear H1
          replace H := Option.bind_eq_some_iff.mp H
          obtain ⟨t146, A130, H⟩ := H
          replace H : ((offertoryref01_Ints.f k1 t146 x3_1).bind fun t149 => (if t149 = true then ((crowd_Size.f a0).bind fun t150 => (some (t150 == (x3_1.length : Int)))) else (none))) = some r := H
          have A13 := Aside0.mk A130
          clear A130
          replace H := Option.bind_eq_some_iff.mp H
          obtain ⟨t149, A140, H⟩ := H
          replace H : (if t149 = true then ((crowd_Size.f a0).bind fun t150 => (some (t150 == (x3_1.length : Int)))) else (none)) = some r := H
          have A14 := Aside0.mk A140
          clear A140
          by_cases c15 : t149 = true
          · subst c15
            have H1 : ((crowd_Size.f a0).bind fun t150 => (some (t150 == (x3_1.length : Int)))) = some r := by rw [if_pos rfl] at H; exact H
            clear H
            have H := H1
            clear H1
            replace H := Option.bind_eq_some_iff.mp H
            obtain ⟨t150, A160, H⟩ := H
            replace H : (some (t150 == (x3_1.length : Int))) = some r := H
            have A16 := Aside0.mk A160
            clear A160
            obtain rfl := Option.some.inj H
            go_wp2_with (first | ((with_reducible refine gate_callee (f := 9) rfl ?_); refine goesL_ (some 21) rfl rfl Tryd.func9 (by kernel_rfl) rfl #[] rfl (by (try simp only [List.map_toArray, List.map_cons, List.map_nil]); first | done | rfl | (simp only [List.length_drop, List.length_take]; rfl)) ?_; (with_reducible refine (offertorylaw18_awake.calls k1  true _ (HTab.out.step (by repeat (first | (with_reducible first | exact HB.out | apply below_alloc | apply pw_below_drewN | apply below_drew1) | exact HB.out))) A11.out).mono ?_); rintro e w17 ⟨rfl, hb⟩; refine ⟨_, rfl, ?_⟩; have n0_ := Aside0.mk (Kd.R_below (by (with_reducible repeat (first | apply Kd.R_alloc | apply Kd.R_drewN | apply Kd.R_drew)); exact HO_3.out) hb); have n1_ := Aside0.mk (below_step (by repeat (first | (with_reducible first | exact HB.out | apply below_alloc | apply pw_below_drewN | apply below_drew1) | exact HB.out)) hb); clear HO_3; clear HB; have HO_3 := n0_; have HB := n1_; clear n0_ n1_; (try clear hb); (try clear hb2); (try clear hk); (try clear hi)) | (go_at_call 13; (with_reducible refine (crowd_List.calls k1 a0 t146 _ (HTab.out.step (by repeat (first | (with_reducible first | exact HB.out | apply below_alloc | apply pw_below_drewN | apply below_drew1) | exact HB.out))) A13.out).mono ?_); rintro e w18 ⟨v147, rfl, ho0, hb⟩; have n0_ := Aside0.mk (Kd.R_elder' (by (with_reducible repeat (first | apply Kd.R_alloc | apply Kd.R_drewN | apply Kd.R_drew)); exact HO_3.out) (Kd.R_base ho0) hb); have n1_ := Aside0.mk (Kd.R_lower (Kd.R_new' ho0 (Kd.R_lt (by (with_reducible repeat (first | apply Kd.R_alloc | apply Kd.R_drewN | apply Kd.R_drew)); exact HO_3.out))) (below_size (by repeat (first | (with_reducible first | exact HB.out | apply below_alloc | apply pw_below_drewN | apply below_drew1) | exact HB.out)))); have n2_ := Aside0.mk (below_step (by repeat (first | (with_reducible first | exact HB.out | apply below_alloc | apply pw_below_drewN | apply below_drew1) | exact HB.out)) hb); clear HO_3; clear HB; have HO_3 := n0_; have HO148 := n1_; have HB := n2_; clear n0_ n1_ n2_; (try clear hb); (try clear hb2); (try clear hk); (try clear hi); (try clear ho0); obtain ⟨Ao19, co19, eo19⟩ := Kd.R_slice HO148.out; subst eo19; obtain ⟨Ao20, co20, eo20⟩ := Kd.R_slice HO_3.out; subst eo20) | (go_at_call 12; (with_reducible refine (offertoryref01_Ints.calls k1 _ _ t146 _ _ x3_1 true _ ?side1 ?side2 ?side3 ?side4 A14.out).mono ?_); (case side1 => repeat (first | exact (Kd.R_reads' HO148.out).2.2 | (with_reducible refine Kd.C_alloc ?_ _) | (with_reducible refine Kd.C_drewN ?_ _) | (with_reducible refine Kd.C_drew ?_))); (case side2 => exact (Kd.R_reads' HO148.out).2.1); (case side3 => repeat (first | exact (Kd.R_reads' HO_3.out).2.2 | (with_reducible refine Kd.C_alloc ?_ _) | (with_reducible refine Kd.C_drewN ?_ _) | (with_reducible refine Kd.C_drew ?_))); (case side4 => exact (Kd.R_reads' HO_3.out).2.1); rintro e w' ⟨rfl, ⟨nd, rfl⟩⟩) | (go_at_call 10; (with_reducible refine (crowd_Size.calls a0 t150 _ A16.out).mono ?_); rintro e w' ⟨rfl, ⟨nd, rfl⟩⟩))
            go_ret
            exact ⟨by first | rfl | (simp [errW_none, errW_some] <;> rfl) | (simp [*, errW_none, errW_some] <;> rfl), by repeat (first | (with_reducible first | exact HB.out | apply below_alloc | apply pw_below_drewN | apply below_drew1) | exact HB.out)⟩
          · replace c15 := Bool.eq_false_iff.mpr c15
            subst c15
            have H1 : (none) = some r := by rw [if_neg (show ¬ (false = true) by decide)] at H; exact H
            clear H
            have H := H1
            clear H1
            exact absurd H (by simp)
        · replace c12 := Bool.eq_false_iff.mpr c12
          subst c12
          have H1 : (none) = some r := by rw [if_neg (show ¬ (false = true) by decide)] at H; exact H
          clear H
          have H := H1
          clear H1
          exact absurd H (by simp)

end Go.Proofs.YtegifiagobienaaDoor.PAll
