/- The Go functions that the laws reach, as Lean functions, and that each call comes to what its function says. Written by a program of this session (a turned copy of the kit's print). No condition beyond those that each theorem states. -/
import Derived.Test.YtpicmnkkkgedeaaDoorPAllx0
import Derived.Test.YtpicmnkkkgedeaaDoorPAllx1
import Derived.Test.YtpicmnkkkgedeaaDoorPAllx3
namespace Go.Proofs.YtpicmnkkkgedeaaDoor.PAll
open Go.RowKit Go.Proofs.YtpicmnkkkgedeaaDoorW.PrintWords Go.Proofs.YtpicmnkkkgedeaaDoorW.PrintLast Go.Proofs.YtpicmnkkkgedeaaDoorW.PrintMore
attribute [local go_sem] max2_int min2_int max_two min_two max_three min_three max_four min_four   -- for this text's walks alone
set_option linter.unusedVariables false
set_option linter.unusedSimpArgs false

/-! ### crowd_List: function 38 -/
def crowd_List.l0 : Nat → Int → List Int → Option (List Int)
  | 0, _, _ => none
  | k + 1, x0, x3 => if x0 = 0 then (some x3) else ((bits_TrailingZeros64.f x0).bind fun t149 => (if x3.length < 17592186044416 then (crowd_List.l0 k (Go.bits .and .u64 x0 (IntKind.u64.wrap (x0 - 1))) (x3 ++ [wrap64 (t149 + 1)])) else (none)))
def crowd_List.f (k : Nat) (a0 : Int) : Option (List Int) := crowd_List.l0 k a0 (([] : List Int))
theorem crowd_List.mono_l : ∀ k, (∀ y0 y1, LeO (crowd_List.l0 k y0 y1) (crowd_List.l0 (k + 1) y0 y1))
  | 0 => fun _ _ r h => by simp [crowd_List.l0] at h
  | k + 1 => by
    have ih0 := crowd_List.mono_l k
    · intro y0 y1
      unfold crowd_List.l0
      repeat' first
      | (with_reducible exact ih0 _ _)
      | (with_reducible exact LeO.refl _)
      | (with_reducible exact LeO.none _)
      | (with_reducible refine LeO.ite ?_ ?_)
      | (with_reducible refine LeO.bind ?_ (fun _ => ?_))
      | exact ih0 _ _
      | exact LeO.none _
      | refine LeO.ite ?_ ?_
      | refine LeO.bind ?_ (fun _ => ?_)
theorem crowd_List.mono : ∀ a0 k, LeO (crowd_List.f k a0) (crowd_List.f (k + 1) a0) := by
  intro a0 k
  have ih0 := crowd_List.mono_l k
  unfold crowd_List.f
  repeat' first
      | (with_reducible exact ih0 _ _)
      | (with_reducible exact LeO.refl _)
      | (with_reducible exact LeO.none _)
      | (with_reducible refine LeO.ite ?_ ?_)
      | (with_reducible refine LeO.bind ?_ (fun _ => ?_))
      | exact ih0 _ _
      | exact LeO.none _
      | refine LeO.ite ?_ ?_
      | refine LeO.bind ?_ (fun _ => ?_)
set_option maxHeartbeats 8000000 in
set_option maxRecDepth 100000 in
theorem crowd_List.calls (k : Nat) (a0 : Int) (r : List Int) (w : World) (hT : Tab w) (h : crowd_List.f k a0 = some r) :
    Calls Tryd.prog 38 #[.int .u64 a0] w fun e w' => ∃ v0_ : Value, e = .returned (v0_) ∧ Kd.R (Kd.int .i64) 3 w' w.heap.size (fun _ => True) v0_ r ∧ Below w.heap.size w w' := by
  have HTab := Aside0.mk hT
  clear hT
  have HB := Aside0.mk (Below.refl w.heap.size w)
  have H : (crowd_List.l0 k a0 (([] : List Int))) = some r := h
  clear h
  obtain ⟨y146, hy146⟩ : ∃ y_ : List Int, y_ = (([] : List Int)) := ⟨_, rfl⟩
  replace H : (crowd_List.l0 k a0 y146) = some r := by first | (rw [hy146]; with_reducible exact H) | (have H2_ := (Option.bind_some _ _).symm.trans H; rw [hy146]; with_reducible exact H2_) | (have H2_ := (Option.bind_some _ _).symm.trans H; with_reducible exact H2_) | with_reducible exact H | (rw [hy146]; exact H) | exact H
  have Ny146 := Aside0.mk hy146
  clear hy146
  have H' := Aside0.mk H
  clear H
  go_enter Tryd.func38, Tryd.ntmps38
  go_wp2_with (first | ((with_reducible refine gate_dst (N := 4) rfl ?_); refine Kd.R_lit (Kd.int .i64) _ 3 ?hg (N := 4) ?hd (xs := ([] : List Int)) (inner := []) (ok := fun _ => True) (okp := fun _ => True) ?hr ?hp (fun _ hk => hk) trivial (Below.refl _ _) (Nat.le_refl _) (by simp) ?_; (case hd => rfl); (case hg => rfl); (case hr => first | (go_simp; done) | (go_simp; rfl)); (case hp => exact (Reps.none _ _)); intro v147 w2 ho3 hb hg_ hnew_; clear hg_ hnew_; (first | rw [← Ny146.out] at ho3 | (simp only [Int.reduceToNat] at ho3; rw [← Ny146.out] at ho3)); have n0_ := Aside0.mk (Kd.R_lower ho3 (below_size (by repeat (first | (with_reducible first | exact HB.out | apply below_alloc | apply pw_below_drewN | apply below_drew1) | exact HB.out)))); have n1_ := Aside0.mk (below_step (by repeat (first | (with_reducible first | exact HB.out | apply below_alloc | apply pw_below_drewN | apply below_drew1) | exact HB.out)) hb); clear HB; have HO148 := n0_; have HB := n1_; clear n0_ n1_; clear hb ho3))
  go_loopg [0, 3] k (fun kq v0 v3 w' => ∃ (x0_1 : Int) (x3_1 : List Int), v0 = .int .u64 x0_1 ∧ Aside0 (crowd_List.l0 kq x0_1 x3_1 = some r) ∧ Aside0 (kq ≤ k) ∧ Aside0 (Kd.R (Kd.int .i64) 3 w' w.heap.size (fun _ => True) v3 x3_1) ∧ Aside0 (Below w.heap.size w w'))
  case atStart => exact ⟨(a0), (y146), (by first | rfl | (simp; done) | (simp [*]; done)), H', ⟨Nat.le_refl _⟩, ⟨by (with_reducible repeat (first | apply Kd.R_alloc | apply Kd.R_drewN | apply Kd.R_drew)); exact HO148.out⟩, ⟨by repeat (first | (with_reducible first | exact HB.out | apply below_alloc | apply pw_below_drewN | apply below_drew1) | exact HB.out)⟩⟩
  case round =>
    clear H'
    try clear p2
    try clear c3
    obtain ⟨x0_1, x3_1, rfl, HA, HK1, HO_3, HB⟩ := hrel
    cases gk with
    | zero => exact absurd HA.out (by simp [crowd_List.l0])
    | succ k1 =>
      have H := HA.out
      clear HA
      simp only [crowd_List.l0] at H
      by_cases c4 : x0_1 = 0
      · rw [if_pos c4] at H
        have c4b0 : (x0_1 == 0) = true := beq_iff_eq.mpr c4
        have c4b1 : (x0_1 != 0) = false := bne_eq_false_iff_eq.mpr c4
        clear c4
        obtain rfl := Option.some.inj H
        go_wp2
        go_ret
        exact ⟨_, by first | rfl | (simp [errW_none, errW_some] <;> rfl) | (simp [*, errW_none, errW_some] <;> rfl), by (with_reducible repeat (first | apply Kd.R_alloc | apply Kd.R_drewN | apply Kd.R_drew)); exact HO_3.out, by repeat (first | (with_reducible first | exact HB.out | apply below_alloc | apply pw_below_drewN | apply below_drew1) | exact HB.out)⟩
      · rw [if_neg c4] at H
        have c4b0 : (x0_1 == 0) = false := beq_eq_false_iff_ne.mpr c4
        have c4b1 : (x0_1 != 0) = true := bne_iff_ne.mpr c4
        replace H := Option.bind_eq_some_iff.mp H
        obtain ⟨t149, A50, H⟩ := H
        replace H : (if x3_1.length < 17592186044416 then (crowd_List.l0 k1 (Go.bits .and .u64 x0_1 (IntKind.u64.wrap (x0_1 - 1))) (x3_1 ++ [wrap64 (t149 + 1)])) else (none)) = some r := H
        have A5 := Aside0.mk A50
        clear A50
        by_cases c6 : x3_1.length < 17592186044416
        · rw [if_pos c6] at H
          have LMc6 := Aside0.mk c6
          clear c6
          obtain ⟨y150, hy150⟩ : ∃ y_ : List Int, y_ = (x3_1 ++ [wrap64 (t149 + 1)]) := ⟨_, rfl⟩
          replace H : (crowd_List.l0 k1 (Go.bits .and .u64 x0_1 (IntKind.u64.wrap (x0_1 - 1))) y150) = some r := by first | (rw [hy150]; with_reducible exact H) | (have H2_ := (Option.bind_some _ _).symm.trans H; rw [hy150]; with_reducible exact H2_) | (have H2_ := (Option.bind_some _ _).symm.trans H; with_reducible exact H2_) | with_reducible exact H | (rw [hy150]; exact H) | exact H
          have Ny150 := Aside0.mk hy150
          clear hy150
          have H' := Aside0.mk H
          clear H
          go_wp2_with (first | ((with_reducible refine gate_callee (f := 48) rfl ?_); refine goesL_ (some 13) rfl rfl Tryd.func48 (by kernel_rfl) rfl #[.int .u64 x0_1] rfl (by (try simp only [List.map_toArray, List.map_cons, List.map_nil]); first | done | rfl | (simp only [List.length_drop, List.length_take]; rfl)) ?_; (with_reducible refine (bits_TrailingZeros64.calls x0_1 t149 _ (HTab.out.step (by repeat (first | (with_reducible first | exact HB.out | apply below_alloc | apply pw_below_drewN | apply below_drew1 | refine below_set ?_ (Aside0.out (by assumption))) | exact HB.out | refine below_set ?_ (Aside0.out (by assumption))))) A5.out).mono ?_); rintro e w' ⟨rfl, ⟨nd, rfl⟩⟩; refine ⟨_, rfl, ?_⟩) | ((with_reducible refine gate_builtin (b := .append) (xs := #[.tmp 11, .tmp 15]) rfl ?_); at_builtin; refine Kd.R_append (Kd.int .i64) (w0 := w) w.heap.size rfl (.tmp 11) (.tmp 15) 68 3 (.int .i64 0) 8 rfl Tryd.underlying68 info3 rfl (by decide) (by omega) u3 x3_1 (wrap64 (t149 + 1)) [.int .i64 (wrap64 (t149 + 1))] (fun _ => True) (fun _ => False) rfl rfl ?aP (fun _ hk => hk.elim) ?aF ?aO ?aB ?aS ?aL ?_; (case aP => exact rfl); (case aB => exact (by repeat (first | (with_reducible first | exact HB.out | apply below_alloc | apply pw_below_drewN | apply below_drew1) | exact HB.out))); (case aF => exact (fun _ _ => trivial)); (case aO => exact (by (with_reducible repeat (first | apply Kd.R_alloc | apply Kd.R_drewN | apply Kd.R_drew)); exact HO_3.out)); (case aS => exact (below_size (by repeat (first | (with_reducible first | exact HB.out | apply below_alloc | apply pw_below_drewN | apply below_drew1) | exact HB.out)))); (case aL => have := LMc6.out; omega); intro v151 w7 ho hb hg hat; rw [← Ny150.out] at ho; have n0_ := Aside0.mk (hb); have n1_ := Aside0.mk (ho); clear HB; clear HO_3; have HB := n0_; have HO152 := n1_; clear n0_ n1_; clear ho hb hg hat))
          go_roundg k1
          case measure => have := HK1.out; omega
          case rel => exact ⟨(Go.bits .and .u64 x0_1 (IntKind.u64.wrap (x0_1 - 1))), (y150), (by first | rfl | (simp; done) | (simp [*]; done)), H', ⟨by have := HK1.out; omega⟩, ⟨by (with_reducible repeat (first | apply Kd.R_alloc | apply Kd.R_drewN | apply Kd.R_drew)); exact HO152.out⟩, ⟨by repeat (first | (with_reducible first | exact HB.out | apply below_alloc | apply pw_below_drewN | apply below_drew1) | exact HB.out)⟩⟩
        · rw [if_neg c6] at H
          exact absurd H (by simp)

-- NOT PRINTED: function 39 (ideal_scene_pair)

-- NOT PRINTED: function 23 (ideal_scene_gift)

/-! ### slices_Clone_uint32_uint32: function 24 -/
/-! ### slices_Clone: a list of one's own memory -/
theorem eql_nilC (w : World) (t e : TypeId) (a : Option Addr) (l c : Nat) (h : Tryd.prog.underlying t = some (.slice e)) : (binOp .eql t (.slice a l c) (.slice none 0 0)).run Tryd.prog w = .ok (.bool a.isNone) w := by
  have h : ∀ d : Nat, (Op.equalIn (d + 1) t (.slice a l c) (.slice none 0 0)).run Tryd.prog w = .ok a.isNone w := fun d => by
    cases a <;> simp [Op.equalIn, run_underlying h]
  simp only [binOp]
  simp [Op.equal, Op.maxDepth, h 9999]
theorem alloc_le (w : World) (o : Obj) : w.heap.size ≤ (w.alloc o).heap.size := by show _ ≤ (w.heap.push _).size; simp
theorem clone_nil (w : World) (c : Nat) :
    Calls Tryd.prog 24 #[.slice none 0 c] w fun e w' => e = .returned (.slice none 0 0) ∧ w' = w := by
  go_enter Tryd.func24, Tryd.ntmps24
  have he := fun w => eql_nilC w 35 37 none 0 c Tryd.underlying35
  go_wp2
  go_ret
  exact ⟨rfl, rfl⟩
theorem info_u32C : (Tryd.prog.info? 37).map (fun i => (i.zero, i.size, i.bytes)) = some (some (.int .u32 0), 1, 4) := by kernel_rfl
theorem clone_some (w : World) (ad : Addr) (c : Nat) (l : List Int) (hr : Kd.C (Kd.int .u32) w (some ad) l.length l) (hl : l.length ≤ 1000000) :
    Calls Tryd.prog 24 #[.slice (some ad) l.length c] w fun e w' => ∃ v : Value, e = .returned v ∧ (Kd.int .u32).R 37 w' w.heap.size (fun _ => True) v l ∧ Below w.heap.size w w' := by
  have HR := Aside0.mk hr
  have HL := Aside0.mk hl
  clear hr hl
  go_enter Tryd.func24, Tryd.ntmps24
  have he := fun w => eql_nilC w 35 37 (some ad) l.length c Tryd.underlying35
  have ROW : Aside0 ((Kd.int .u32).R 37 (w.alloc (.cells #[] 37)) w.heap.size (fun _ => True) (.slice (some ⟨w.heap.size, 0, none⟩) ([] : List Int).length 0) []) :=
    ⟨Kd.R_of_own ⟨rfl, Or.inr ⟨w.heap.size, 0, _, rfl, Nat.le_refl _, blk_new w _, Nat.le_refl _, by simp only [maxLen]; omega, rfl, rfl⟩⟩ (fun _ _ => trivial)⟩
  have CC := Aside0.mk (Kd.C_below HR.out (below_alloc (Below.refl _ _) (.cells #[] 37)))
  go_wp2_with (first | ((with_reducible refine gate_builtin (b := .append) (xs := #[.tmp 5, .tmp 6]) rfl ?_); at_builtin; refine Kd.R_append_rows (Kd.int .u32) (w0 := w) w.heap.size rfl (.tmp 5) (.tmp 6) 35 37 (.int .u32 0) 4 rfl Tryd.underlying35 info_u32C rfl (by decide) (by decide) (.slice (some ⟨w.heap.size, 0, none⟩) 0 0) [] l (some ad) l.length c (fun _ => True) (fun _ => False) rfl rfl ROW.out CC.out (fun _ _ h => h) (fun _ h => h.elim) (fun _ _ => trivial) (below_alloc (Below.refl _ _) _) (alloc_le _ _) (by have := HL.out; simp only [List.length_nil]; omega) ?_; intro v1 w3 hR3 hb3 hg3 hat3; have H3 := Aside0.mk hR3; have B3 := Aside0.mk hb3; clear hR3 hb3 hg3 hat3))
  go_ret
  exact ⟨_, rfl, H3.out, B3.out⟩
def slices_Clone_uint32_uint32.f (l : List Int) : Option (List Int) := if l.length ≤ 1000000 then some l else none
theorem slices_Clone_uint32_uint32.calls (A0 : Option Addr) (c0 : Nat) (l0 : List Int) (r : List Int) (w : World) (hr0 : Kd.C (Kd.int .u32) w A0 l0.length l0) (hc0 : l0.length ≤ c0) (h : slices_Clone_uint32_uint32.f l0 = some r) :
    Calls Tryd.prog 24 #[.slice A0 l0.length c0] w fun e w' => ∃ v0_ : Value, e = .returned (v0_) ∧ Kd.R (Kd.int .u32) 37 w' w.heap.size (fun _ => True) v0_ r ∧ Below w.heap.size w w' := by
  unfold slices_Clone_uint32_uint32.f at h
  split at h
  case isFalse => cases h
  rename_i hl
  obtain rfl := Option.some.inj h
  clear h
  cases A0 with
  | none =>
    have h0 : l0 = [] := by
      cases l0 with
      | nil => rfl
      | cons x l => obtain ⟨ad, e, _⟩ := hr0.2.2 (by simp); cases e
    subst h0
    refine (clone_nil w c0).mono ?_
    rintro e w' ⟨rfl, rfl⟩
    exact ⟨_, rfl, Kd.R_nil _ _ _ _ _, Below.refl _ _⟩
  | some ad => exact clone_some w ad c0 l0 hr0 hl

/-! ### operations of open order, each shown once: what they leave is told by facts that last -/
def updS (s : Nat → Value) (d : Nat) (v : Value) : Nat → Value := fun k => if k = d then v else s k
def updO (s : Nat → Value) : Option Tmp → Value → Nat → Value
  | some d, v => updS s d v
  | none, _ => s
def putS (a : Act) (sl : List Nat) (s : Nat → Value) : Act := putAll a (sl.map fun d => (d, s d))
theorem putS_cons (a : Act) (d : Nat) (sl : List Nat) (s : Nat → Value) : putS a (d :: sl) s = putS (a.put (some d) (s d)) sl s := rfl
theorem putS_defers (s : Nat → Value) : ∀ (sl : List Nat) (a : Act), (putS a sl s).defers = a.defers
  | [], _ => rfl
  | d :: sl, a => by rw [putS_cons, putS_defers s sl]; rfl
theorem putS_get (s : Nat → Value) : ∀ (sl : List Nat) (a : Act) (k : Nat), (putS a sl s).tmps[k]? = if k ∈ sl ∧ k < a.tmps.size then some (s k) else a.tmps[k]?
  | [], a, k => by simp [putS, putAll]
  | d :: sl, a, k => by
    rw [putS_cons, putS_get s sl]
    show (if k ∈ sl ∧ k < (a.tmps.setIfInBounds d (s d)).size then some (s k) else (a.tmps.setIfInBounds d (s d))[k]?) = _
    rw [Array.size_setIfInBounds, Array.getElem?_setIfInBounds]
    by_cases h1 : k < a.tmps.size
    · by_cases h2 : k ∈ sl
      · rw [if_pos ⟨h2, h1⟩, if_pos ⟨List.mem_cons_of_mem _ h2, h1⟩]
      · rw [if_neg (fun h => h2 h.1)]
        by_cases h3 : d = k
        · subst h3
          rw [if_pos rfl, if_pos h1, if_pos ⟨List.mem_cons_self .., h1⟩]
        · rw [if_neg h3, if_neg (fun h : k ∈ d :: sl ∧ k < a.tmps.size => (List.mem_cons.1 h.1).elim (fun e => h3 e.symm) h2)]
    · rw [if_neg (fun h => h1 h.2)]
      by_cases h3 : d = k
      · subst h3
        simp [h1]
      · rw [if_neg h3, if_neg (fun h => h1 h.2)]
theorem act_ext {a b : Act} (h1 : ∀ k : Nat, a.tmps[k]? = b.tmps[k]?) (h2 : a.defers = b.defers) : a = b := by
  obtain ⟨t, d⟩ := a
  obtain ⟨t', d'⟩ := b
  have : t = t' := Array.ext_getElem? h1
  have e : d = d' := h2
  rw [this, e]
theorem putS_put (a : Act) (sl : List Nat) (s : Nat → Value) (d : Nat) (v : Value) (hd : d ∈ sl) : (putS a sl s).put (some d) v = putS a sl (updS s d v) := by
  refine act_ext (fun k => ?_) ?_
  · show ((putS a sl s).tmps.setIfInBounds d v)[k]? = _
    have hsz : ∀ k : Nat, k < (putS a sl s).tmps.size ↔ k < a.tmps.size := by
      intro k
      have := putS_get s sl a k
      constructor
      · intro h
        rw [Array.getElem?_eq_getElem h] at this
        by_cases hk : k < a.tmps.size
        · exact hk
        · rw [if_neg (fun h => hk h.2), Array.getElem?_eq_none (by omega)] at this
          cases this
      · intro h
        by_cases hk : k < (putS a sl s).tmps.size
        · exact hk
        · rw [Array.getElem?_eq_none (by omega)] at this
          split at this
          · cases this
          · rw [Array.getElem?_eq_getElem h] at this
            cases this
    rw [Array.getElem?_setIfInBounds, putS_get, putS_get]
    by_cases h3 : d = k
    · subst h3
      rw [if_pos rfl]
      by_cases h1 : d < a.tmps.size
      · rw [if_pos ((hsz d).2 h1), if_pos ⟨hd, h1⟩]
        simp [updS]
      · rw [if_neg (fun h => h1 ((hsz d).1 h)), if_neg (fun h => h1 h.2), Array.getElem?_eq_none (by omega)]
    · rw [if_neg h3]
      have : updS s d v k = s k := by unfold updS; rw [if_neg (fun e => h3 e.symm)]
      rw [this]
  · show (putS a sl s).defers = _
    rw [putS_defers, putS_defers]
theorem putS_self (a : Act) (sl : List Nat) : putS a sl (fun k => a.tmps.getD k undef) = a := by
  refine act_ext (fun k => ?_) (putS_defers _ _ _)
  rw [putS_get]
  split
  · rename_i h
    rw [Array.getElem?_eq_getElem h.2]
    simp [h.2]
  · rfl
theorem putS_upO (a : Act) (sl : List Nat) (s : Nat → Value) (N : Option Tmp) (v : Value) (hd : ∀ d, N = some d → d ∈ sl) : (putS a sl s).put N v = putS a sl (updO s N v) := by
  cases N with
  | none => rfl
  | some d => exact putS_put a sl s d v (hd d rfl)
section
variable {P : Program} {ops : Array Oper} {Q : Exit → Act → World → Prop} {md : Region.Mode} {S : World → Prop} {ds : List Nat}
/-- The table of what each operation waits for. -/
def ancB (md : Region.Mode) (ops : Array Oper) (tbl : List (List Nat)) : Bool :=
  (List.range ops.size).all fun i => (tbl.getD i []).all fun j => match ops[i]? with
    | some o => o.after.any fun e => Region.binds md e && (e.on == j || (decide (e.on < i) && (tbl.getD e.on []).contains j))
    | none => false
theorem ancB_step {tbl : List (List Nat)} (h : ancB md ops tbl = true) {i j : Nat} {o : Oper} (ho : ops[i]? = some o) (hj : j ∈ tbl.getD i []) : ∃ e ∈ o.after, Region.binds md e = true ∧ (e.on = j ∨ (e.on < i ∧ j ∈ tbl.getD e.on [])) := by
  have hlt : i < ops.size := (Array.getElem?_eq_some_iff.1 ho).1
  have h1 := List.all_eq_true.1 (List.all_eq_true.1 h i (List.mem_range.2 hlt)) j hj
  rw [ho] at h1
  obtain ⟨e, he, h2⟩ := Array.any_eq_true'.1 h1
  simp only [Bool.and_eq_true, Bool.or_eq_true, beq_iff_eq, decide_eq_true_eq, List.contains_iff_mem] at h2
  exact ⟨e, he, h2⟩
theorem anc_listed {tbl : List (List Nat)} (h : ancB md ops tbl = true) {l : Array Bool} (hc : ListedClosed md ops l) : ∀ (i : Nat), i < ops.size → l.getD i false = true → ∀ j ∈ tbl.getD i [], l.getD j false = true := by
  intro i
  induction i using Nat.strongRecOn with
  | ind i ih =>
    intro hi hl j hj
    obtain ⟨e, he, hb, h2⟩ := ancB_step h (Array.getElem?_eq_getElem hi) hj
    have h3 := hc i _ (Array.getElem?_eq_getElem hi) hl e he hb
    rcases h2 with rfl | ⟨h4, h5⟩
    · exact h3
    · exact ih e.on h4 (by omega) h3 j h5
theorem anc_ready {tbl : List (List Nat)} (h : ancB md ops tbl = true) {l : Array Bool} (hc : ListedClosed md ops l) {i : Nat} (hr : i ∈ Region.ready md ops l) : ∀ j ∈ tbl.getD i [], l.getD j false = true := by
  intro j hj
  obtain ⟨_, o, ho, hall⟩ := mem_ready.1 hr
  have hlt : i < ops.size := (Array.getElem?_eq_some_iff.1 ho).1
  obtain ⟨e, he, hb, h2⟩ := ancB_step h ho hj
  have h3 := hall e he hb
  rcases h2 with rfl | ⟨h4, h5⟩
  · exact h3
  · exact anc_listed h hc e.on (by omega) h3 j h5
/-- All that is asked of the lists, in one check. -/
def spanB (md : Region.Mode) (ops : Array Oper) (ds : List Nat) (l l' : Array Bool) (C : List Nat) (tbl : List (List Nat)) (sl : List Nat) (sj : List (List Nat)) : Bool :=
  ancB md ops tbl && Region.closedB md ops l && decide (l.size = ops.size) && decide (l'.size = ops.size) && decide C.Nodup &&
  ((List.range ops.size).all fun k => l'.getD k false == (l.getD k false || C.contains k)) &&
  (C.all fun c => decide (c < ops.size) && !l.getD c false && !ds.contains c &&
    (match ops[c]? with
     | some o => (o.after.all fun e => !Region.binds md e || l.getD e.on false || (C.contains e.on && decide (e.on < c))) && (match o.dst with | some d => sl.contains d && (C.all fun j => j == c || !(sj.getD j []).contains d || (tbl.getD j []).contains c) | none => true)
     | none => false)) &&
  ((List.range ops.size).all fun p => l.getD p false || C.contains p || C.all fun c => (tbl.getD p []).contains c)
theorem filter_less : ∀ (C : List Nat) (p : Nat → Bool) (i : Nat), C.Nodup → i ∈ C → p i = true → (C.filter fun c => p c && !(c == i)).length + 1 = (C.filter p).length
  | [], _, _, _, h, _ => by cases h
  | c :: C, p, i, hn, h, hp => by
    obtain ⟨hc, hn⟩ := List.nodup_cons.1 hn
    by_cases e : c = i
    · subst e
      have : (C.filter fun x => p x && !(x == c)) = C.filter p := by
        refine List.filter_congr fun x hx => ?_
        have : x ≠ c := fun e => hc (e ▸ hx)
        simp [this]
      rw [List.filter_cons_of_pos hp, List.filter_cons_of_neg (by simp), this]
      rfl
    · have h' : i ∈ C := by
        rcases List.mem_cons.1 h with h | h
        · exact absurd h.symm e
        · exact h
      have ih := filter_less C p i hn h' hp
      by_cases hpc : p c = true
      · rw [List.filter_cons_of_pos hpc, List.filter_cons_of_pos (by simp [hpc, e])]
        simp only [List.length_cons]
        omega
      · rw [List.filter_cons_of_neg hpc, List.filter_cons_of_neg (by simp [hpc])]
        exact ih
theorem getD_boolD {l : Array Bool} {i : Nat} (h : i < l.size) (b c : Bool) : l.getD i b = l.getD i c := by
  simp [h]
/-- The operations of F make memory; fd: where they put its address. -/
def freshB (ops : Array Oper) (C F : List Nat) (fd : Nat → Nat) : Bool :=
  F.all fun i => C.contains i && (match ops[i]? with | some o => o.dst == some (fd i) | none => false) && ((List.range ops.size).all fun j => j == i || !C.contains j || (match ops[j]? with | some o => !(o.dst == some (fd i)) | none => true))
/-- The block that a value leads into: a pointer's, a slice's, that of a struct's first field. -/
def blkV : Value → Option Nat
  | .pointer (some p) => some p.block
  | .agg vs => (vs.getD 0 undef).ownBlock
  | v => v.ownBlock
def NewPtr (v : Value) (w1 w2 : World) : Prop := ∀ g, blkV v = some g → w1.heap.size ≤ g ∧ g < w2.heap.size
def OldPtr (v : Value) (w : World) : Prop := ∀ g, blkV v = some g → g < w.heap.size
def apartV (u x : Value) : Prop := ∀ g, blkV u = some g → blkV x ≠ some g
/-- What one operation is to show: its value and its fact; the world has only grown, or each other fact that may hold by now is shown anew. -/
def SpanStep (P : Program) (ops : Array Oper) (Q : Exit → Act → World → Prop) (a : Act) (w : World) (C F : List Nat) (fd : Nat → Nat) (tbl off : List (List Nat)) (sl : List Nat) (sj : List (List Nat)) (J : Nat → List Value → World → Prop) (i : Nat) : Prop :=
  ∃ oi, ops[i]? = some oi ∧ ∀ (s : Nat → Value) (a1 : Act) (w1 : World), a1 = putS a sl s → Below w.heap.size w w1 → (∀ j ∈ tbl.getD i [], j ∈ C → ((off.getD j []).all fun k => k == i || (tbl.getD k []).contains i) = true → J j ((sj.getD j []).map s) w1) → (∀ j ∈ F, j ∈ tbl.getD i [] → OldPtr (s (fd j)) w1 ∧ ∀ k ∈ F, k ∈ tbl.getD i [] → j ≠ k → apartV (s (fd j)) (s (fd k))) →
    ∀ K : Act → World → Prop, Shut (∀ v w2, (Below w1.heap.size w1 w2 ∨ (Below w.heap.size w w2 ∧ w1.heap.size ≤ w2.heap.size ∧ ∀ j ∈ C, j ≠ i → i ∉ tbl.getD j [] → i ∉ off.getD j [] → J j ((sj.getD j []).map s) w1 → J j ((sj.getD j []).map s) w2)) → (i ∈ F → NewPtr v w1 w2) → J i ((sj.getD i []).map (updO s oi.dst v)) w2 → K (a1.put oi.dst v) w2) →
      if Region.wanted oi (yielded ops a1.tmps) = true then Oper.wp P oi a1 w1 K Q else K (a1.put oi.dst undef) w1
theorem spans_nil {p : Nat → Prop} : ∀ i ∈ ([] : List Nat), p i := fun _ h => by cases h
theorem spans_cons {a : Act} {w : World} {C F : List Nat} {fd : Nat → Nat} {tbl off : List (List Nat)} {sl : List Nat} {sj : List (List Nat)} {J : Nat → List Value → World → Prop} {i : Nat} {r : List Nat} {oi : Oper} (N : Option Tmp) (ho : ops[i]? = some oi) (hN : oi.dst = N)
    (h : ∀ (s : Nat → Value) (a1 : Act) (w1 : World), a1 = putS a sl s → Below w.heap.size w w1 → (∀ j ∈ tbl.getD i [], j ∈ C → ((off.getD j []).all fun k => k == i || (tbl.getD k []).contains i) = true → J j ((sj.getD j []).map s) w1) → (∀ j ∈ F, j ∈ tbl.getD i [] → OldPtr (s (fd j)) w1 ∧ ∀ k ∈ F, k ∈ tbl.getD i [] → j ≠ k → apartV (s (fd j)) (s (fd k))) →
      ∀ K : Act → World → Prop, Shut (∀ v w2, (Below w1.heap.size w1 w2 ∨ (Below w.heap.size w w2 ∧ w1.heap.size ≤ w2.heap.size ∧ ∀ j ∈ C, j ≠ i → i ∉ tbl.getD j [] → i ∉ off.getD j [] → J j ((sj.getD j []).map s) w1 → J j ((sj.getD j []).map s) w2)) → (i ∈ F → NewPtr v w1 w2) → J i ((sj.getD i []).map (updO s N v)) w2 → K (a1.put N v) w2) →
        if Region.wanted oi (yielded ops a1.tmps) = true then Oper.wp P oi a1 w1 K Q else K (a1.put N undef) w1)
    (hs : ∀ j ∈ r, SpanStep P ops Q a w C F fd tbl off sl sj J j) : ∀ j ∈ i :: r, SpanStep P ops Q a w C F fd tbl off sl sj J j := by
  subst hN
  intro j hj
  rcases List.mem_cons.1 hj with rfl | hj
  · exact ⟨oi, ho, h⟩
  · exact hs j hj
theorem pers_nil {p : Nat → Prop} : ∀ i ∈ ([] : List Nat), p i := fun _ h => by cases h
theorem pers_cons {p : Nat → Prop} {i : Nat} {r : List Nat} (h : p i) (hs : ∀ j ∈ r, p j) : ∀ j ∈ i :: r, p j := by
  intro j hj
  rcases List.mem_cons.1 hj with rfl | hj
  · exact h
  · exact hs j hj
theorem span_ {fuel fuel' : Nat} {l : Array Bool} {a : Act} {w : World} (l' : Array Bool) (C F : List Nat) (fd : Nat → Nat) (tbl off : List (List Nat)) (sl : List Nat) (sj : List (List Nat)) (J : Nat → List Value → World → Prop)
    (hf : fuel = fuel' + C.length) (hchk : spanB md ops ds l l' C tbl sl sj = true) (hfd : freshB ops C F fd = true)
    (hper : ∀ j ∈ C, ∀ vs w1 w2, Below w1.heap.size w1 w2 → J j vs w1 → J j vs w2)
    (hS : ∀ w1, Below w.heap.size w w1 → S w1)
    (hend : ∀ (s : Nat → Value) (w1 : World), Below w.heap.size w w1 → (∀ j ∈ C, off.getD j [] = [] → J j ((sj.getD j []).map s) w1) → (∀ i ∈ F, ∀ j ∈ F, i ≠ j → apartV (s (fd i)) (s (fd j))) → wpAnyLast P md ops Q S ds fuel' l' (putS a sl s) w1)
    (step : ∀ i ∈ C, SpanStep P ops Q a w C F fd tbl off sl sj J i) : wpAnyLast P md ops Q S ds fuel l a w := by
  subst hf
  unfold spanB at hchk
  simp only [Bool.and_eq_true, decide_eq_true_eq] at hchk
  obtain ⟨⟨⟨⟨⟨⟨⟨hanc, hcl⟩, hls⟩, hls'⟩, hnd⟩, hl'⟩, hC⟩, hrest⟩ := hchk
  have hl' : ∀ k, k < ops.size → l'.getD k false = (l.getD k false || C.contains k) := fun k hk => by
    have := List.all_eq_true.1 hl' k (List.mem_range.2 hk)
    simpa using this
  have hC1 : ∀ c ∈ C, c < ops.size ∧ l.getD c false = false ∧ c ∉ ds ∧ ∃ o, ops[c]? = some o ∧ (∀ e ∈ o.after, Region.binds md e = true → l.getD e.on false = true ∨ (e.on ∈ C ∧ e.on < c)) ∧ ∀ d, o.dst = some d → d ∈ sl ∧ ∀ j ∈ C, j ≠ c → d ∈ sj.getD j [] → c ∈ tbl.getD j [] := by
    intro c hc
    have h := List.all_eq_true.1 hC c hc
    simp only [Bool.and_eq_true, decide_eq_true_eq, Bool.not_eq_true', List.contains_eq_mem, decide_eq_false_iff_not] at h
    obtain ⟨⟨⟨h1, h2⟩, h3⟩, h4⟩ := h
    refine ⟨h1, h2, h3, ?_⟩
    cases ho : ops[c]? with
    | none => rw [ho] at h4; cases h4
    | some o =>
      rw [ho] at h4
      simp only [Bool.and_eq_true] at h4
      refine ⟨o, rfl, fun e he hb => ?_, fun d hd => ?_⟩
      · have h5 := Array.all_eq_true_iff_forall_mem.1 h4.1 e he
        simp only [hb, Bool.not_true, Bool.false_or, Bool.or_eq_true, Bool.and_eq_true, decide_eq_true_eq] at h5
        exact h5
      · have h5 := h4.2
        rw [hd] at h5
        simp only [Bool.and_eq_true, decide_eq_true_eq] at h5
        refine ⟨h5.1, fun j hj hne hm => ?_⟩
        have h6 := List.all_eq_true.1 h5.2 j hj
        simp only [Bool.or_eq_true, beq_iff_eq, Bool.not_eq_true', decide_eq_false_iff_not, decide_eq_true_eq] at h6
        rcases h6 with (h6 | h6) | h6
        · exact absurd h6 hne
        · exact absurd hm h6
        · exact h6
  have hrest : ∀ p, p < ops.size → l.getD p false = true ∨ p ∈ C ∨ ∀ c ∈ C, c ∈ tbl.getD p [] := by
    intro p hp
    have h := List.all_eq_true.1 hrest p (List.mem_range.2 hp)
    simp only [Bool.or_eq_true, List.contains_iff_mem, List.all_eq_true] at h
    rcases h with (h | h) | h
    · exact Or.inl h
    · exact Or.inr (Or.inl h)
    · exact Or.inr (Or.inr h)
  have hFC : ∀ i ∈ F, i ∈ C ∧ (∃ o, ops[i]? = some o ∧ o.dst = some (fd i)) ∧ ∀ j o, j ≠ i → j ∈ C → ops[j]? = some o → o.dst ≠ some (fd i) := by
    intro i hi
    have h := List.all_eq_true.1 hfd i hi
    simp only [Bool.and_eq_true, List.contains_iff_mem] at h
    obtain ⟨⟨h1, h2⟩, h3⟩ := h
    refine ⟨h1, ?_, fun j o hne hjC ho hd => ?_⟩
    · cases ho : ops[i]? with
      | none => rw [ho] at h2; cases h2
      | some o =>
        rw [ho] at h2
        exact ⟨o, rfl, by simpa using h2⟩
    · have h4 := List.all_eq_true.1 h3 j (List.mem_range.2 (Array.getElem?_eq_some_iff.1 ho).1)
      simp [ho, hd, hne, hjC] at h4
  -- from each place of open order on
  have main : ∀ (m : Nat) (l1 : Array Bool) (s : Nat → Value) (w1 : World), l1.size = ops.size → ListedClosed md ops l1 → (∀ k, k ∉ C → l1.getD k false = l.getD k false) → (C.filter fun c => !l1.getD c false).length = m →
      Below w.heap.size w w1 → (∀ j ∈ C, l1.getD j false = true → (∀ k ∈ off.getD j [], l1.getD k false = false) → J j ((sj.getD j []).map s) w1) → (∀ i ∈ F, l1.getD i false = true → OldPtr (s (fd i)) w1 ∧ ∀ j ∈ F, l1.getD j false = true → i ≠ j → apartV (s (fd i)) (s (fd j))) → wpAnyLast P md ops Q S ds (fuel' + m) l1 (putS a sl s) w1 := by
    intro m
    induction m with
    | zero =>
      intro l1 s w1 hsz hcl1 hout hm hB hF hN
      have hall : ∀ c ∈ C, l1.getD c false = true := fun c hc => by
        have h := List.eq_nil_of_length_eq_zero hm
        have h2 : c ∉ C.filter fun c => !l1.getD c false := by rw [h]; simp
        simp only [List.mem_filter, not_and, Bool.not_eq_true', Bool.not_eq_false] at h2
        exact h2 hc
      have e : l1 = l' := by
        refine Array.ext (by omega) fun k h1 h2 => ?_
        have h3 := hl' k (by omega)
        by_cases hk : k ∈ C
        · have h4 := hall k hk
          simp [hk, h1, h2] at h3 h4
          rw [h3, h4]
        · have h4 := hout k hk
          simp only [List.contains_eq_mem, hk, decide_false, Bool.or_false] at h3
          rw [← h3] at h4
          simpa [h1, h2] using h4
      subst e
      exact hend s w1 hB (fun j hj ho => hF j hj (hall j hj) (by rw [ho]; intro k hk; cases hk)) fun i hi j hj hne => (hN i hi (hall i (hFC i hi).1)).2 j hj (hall j (hFC j hj).1) hne
    | succ m ih =>
      intro l1 s w1 hsz hcl1 hout hm hB hF hN
      have hne : ∃ c ∈ C, l1.getD c false = false := by
        obtain ⟨x, xs, hx⟩ := List.exists_cons_of_length_eq_add_one hm
        have : x ∈ C.filter fun c => !l1.getD c false := by rw [hx]; exact List.mem_cons_self ..
        obtain ⟨h1, h2⟩ := List.mem_filter.1 this
        exact ⟨x, h1, by simpa using h2⟩
      have hsome : ∀ c, c ∈ C → l1.getD c false = false → Region.ready md ops l1 ≠ [] := by
        intro c
        induction c using Nat.strongRecOn with
        | ind c ihc =>
          intro hc hun
          obtain ⟨h1, h2, h3, o, ho, h4, h5⟩ := hC1 c hc
          by_cases hex : ∃ e ∈ o.after, Region.binds md e = true ∧ l1.getD e.on false = false
          · obtain ⟨e, he, hb, hu⟩ := hex
            rcases h4 e he hb with h6 | ⟨h6, h7⟩
            · by_cases hk : e.on ∈ C
              · have := (hC1 e.on hk).2.1
                rw [h6] at this
                cases this
              · rw [hout _ hk, h6] at hu
                cases hu
            · exact ihc e.on h7 h6 hu
          · have : c ∈ Region.ready md ops l1 := mem_ready.2 ⟨by rw [getD_boolD (by omega) true false]; exact hun, o, ho, fun e he hb => by
              cases hq : l1.getD e.on false with
              | true => rfl
              | false => exact absurd ⟨e, he, hb, hq⟩ hex⟩
            intro h0
            rw [h0] at this
            cases this
      refine ⟨fun h0 => ?_, fun i hi => ?_⟩
      · obtain ⟨c, hc, hu⟩ := hne
        exact absurd h0 (hsome c hc hu)
      · have hir := hi
        obtain ⟨hiun, oi', hoi', hall⟩ := mem_ready.1 hi
        have hlt : i < ops.size := (Array.getElem?_eq_some_iff.1 hoi').1
        have hiC : i ∈ C := by
          rcases hrest i hlt with h | h | h
          · by_cases hk : i ∈ C
            · exact hk
            · have h6 := hout i hk
              rw [h, getD_boolD (by omega) false true, hiun] at h6
              cases h6
          · exact h
          · obtain ⟨c, hc, hu⟩ := hne
            have := anc_ready hanc hcl1 hir c (h c hc)
            rw [this] at hu
            cases hu
        obtain ⟨oi, hoi, hst⟩ := step i hiC
        obtain rfl : oi' = oi := Option.some.inj (hoi'.symm.trans hoi)
        obtain ⟨h1, h2, h3, o, ho, h4, h5⟩ := hC1 i hiC
        obtain rfl : oi' = o := Option.some.inj (hoi'.symm.trans ho)
        refine wpOp_step hoi fun K hK => hst s _ w1 rfl hB (fun j hj hjC hoff => hF j hjC (anc_ready hanc hcl1 hir j hj) fun k hk => ?_) (fun j hj hjt => ⟨(hN j hj (anc_ready hanc hcl1 hir j hjt)).1, fun k hk hkt hne => (hN j hj (anc_ready hanc hcl1 hir j hjt)).2 k hk (anc_ready hanc hcl1 hir k hkt) hne⟩) K fun v w2 hmv hnew hJ => hK _ _ ?_
        · have h5 := List.all_eq_true.1 hoff k hk
          simp only [Bool.or_eq_true, beq_iff_eq, List.contains_iff_mem] at h5
          rcases h5 with rfl | h5
          · rw [getD_boolD (by omega) false true]; exact hiun
          · cases hl : l1.getD k false with
            | false => rfl
            | true =>
              have hks : k < ops.size := by
                rcases Nat.lt_or_ge k ops.size with h | h
                · exact h
                · rw [Array.getD_eq_getD_getElem?, Array.getElem?_eq_none (by omega)] at hl
                  cases hl
              have := anc_listed hanc hcl1 k hks hl i h5
              rw [getD_boolD (by omega) false true, hiun] at this
              cases this
        have hB2 : Below w.heap.size w w2 := by
          rcases hmv with hb | hb
          · exact below_step hB hb
          · exact hb.1
        have hsz2 : w1.heap.size ≤ w2.heap.size := by
          rcases hmv with hb | hb
          · exact hb.size
          · exact hb.2.1
        have hkeep : ∀ j ∈ C, j ≠ i → l1.getD j false = true → i ∉ off.getD j [] → J j ((sj.getD j []).map s) w1 → J j ((sj.getD j []).map s) w2 := fun j hj hne hl hoff h => by
          rcases hmv with hb | hb
          · exact hper j hj _ _ _ hb h
          · refine hb.2.2 j hj hne (fun hm => ?_) hoff h
            have := anc_listed hanc hcl1 j (hC1 j hj).1 hl i hm
            rw [getD_boolD (by omega) false true, hiun] at this
            cases this
        refine ⟨fun _ _ => hS w2 hB2, ?_⟩
        rw [putS_upO a sl s oi'.dst v (fun d hd => (h5 d hd).1)]
        refine ih _ _ w2 (by rw [Array.size_setIfInBounds]; exact hsz) (hcl1.set hir) (fun k hk => ?_) ?_ hB2 (fun j hj hjl hoff => ?_) fun j hj hjl => ?_
        · rw [getD_set_ne false (fun e => hk (by rw [← e]; exact hiC))]
          exact hout k hk
        · have h7 := filter_less C (fun c => !l1.getD c false) i hnd hiC (by rw [getD_boolD (by omega) false true, hiun]; rfl)
          rw [hm] at h7
          rw [← Nat.succ.inj h7]
          congr 1
          refine List.filter_congr fun c hc => ?_
          by_cases e : c = i
          · subst e
            have : (l1.setIfInBounds c true).getD c false = true := by
              have : c < l1.size := by omega
              simp [this]
            rw [this]
            simp
          · rw [getD_set_ne false (fun x => e x.symm)]
            simp [e]
        · by_cases e : j = i
          · subst e
            exact hJ
          · rw [getD_set_ne false (fun x => e x.symm)] at hjl
            have hio : i ∉ off.getD j [] := fun hm => by
              have h0 := hoff i hm
              have h00 : i < l1.size := by omega
              simp [h00] at h0
            have h8 := hkeep j hj e hjl hio (hF j hj hjl fun k hk => by
              have h9 := hoff k hk
              rw [getD_set_ne false (fun x => hio (by rw [x]; exact hk))] at h9
              exact h9)
            have h9 : (sj.getD j []).map (updO s oi'.dst v) = (sj.getD j []).map s := by
              refine List.map_congr_left fun k hk => ?_
              cases hd : oi'.dst with
              | none => rfl
              | some d =>
                show updS s d v k = s k
                unfold updS
                rw [if_neg]
                intro e2
                subst e2
                have := anc_listed hanc hcl1 j (hC1 j hj).1 hjl i ((h5 _ hd).2 j hj e hk)
                rw [getD_boolD (by omega) false true, hiun] at this
                cases this
            rw [h9]
            exact h8
        · -- the blocks that are new
          have keep : ∀ k ∈ F, k ≠ i → updO s oi'.dst v (fd k) = s (fd k) := fun k hk hne => by
            cases hd : oi'.dst with
            | none => rfl
            | some d =>
              show updS s d v (fd k) = s (fd k)
              unfold updS
              rw [if_neg]
              intro e2
              exact (hFC k hk).2.2 i oi' hne.symm hiC hoi (by rw [hd, e2])
          have old : ∀ k ∈ F, k ≠ i → (l1.setIfInBounds i true).getD k false = true → OldPtr (s (fd k)) w1 := fun k hk hne hl => by
            rw [getD_set_ne false (fun x => hne x.symm)] at hl
            exact (hN k hk hl).1
          have apart1 : ∀ {u x : Value}, NewPtr u w1 w2 → OldPtr x w1 → apartV u x ∧ apartV x u := fun hn ho =>
            ⟨fun g hu hx => by have := hn g hu; have := ho g hx; omega, fun g hx hu => by have := hn g hu; have := ho g hx; omega⟩
          have newI : i ∈ F → NewPtr (updO s oi'.dst v (fd i)) w1 w2 := fun hiF => by
            obtain ⟨_, ⟨o2, ho2, hd2⟩, _⟩ := hFC i hiF
            obtain rfl : oi' = o2 := Option.some.inj (hoi.symm.trans ho2)
            rw [hd2]
            show NewPtr (updS s (fd i) v (fd i)) w1 w2
            unfold updS
            rw [if_pos rfl]
            exact hnew hiF
          by_cases e : j = i
          · subst e
            refine ⟨fun g hg => ((newI hj) g hg).2, fun k hk hkl hne => ?_⟩
            rw [keep k hk hne.symm]
            exact (apart1 (newI hj) (old k hk hne.symm hkl)).1
          · rw [keep j hj e]
            refine ⟨fun g hg => Nat.lt_of_lt_of_le (old j hj e hjl g hg) hsz2, fun k hk hkl hne => ?_⟩
            by_cases e2 : k = i
            · subst e2
              exact (apart1 (newI hk) (old j hj e hjl)).2
            · rw [keep k hk e2]
              rw [getD_set_ne false (fun x => e x.symm)] at hjl
              rw [getD_set_ne false (fun x => e2 x.symm)] at hkl
              exact (hN j hj hjl).2 k hk hkl hne
  have h0 := main C.length l (fun k => a.tmps.getD k undef) w hls (Region.closedB_spec hcl) (fun _ _ => rfl) (by
    congr 1
    exact List.filter_eq_self.2 fun c hc => by simp [(hC1 c hc).2.1]) (Below.refl _ _) (fun j hj hl _ => by rw [(hC1 j hj).2.1] at hl; cases hl) (fun j hj hl => by rw [(hC1 j (hFC j hj).1).2.1] at hl; cases hl)
  rw [putS_self] at h0
  exact h0
/-- A letter for the world, behind an operation. -/
theorem last_gen {fuel : Nat} {l : Array Bool} {a : Act} {W : World} (I : World → Prop) (h : I W) (k : ∀ W', I W' → wpAnyLast P md ops Q S ds fuel l a W') : wpAnyLast P md ops Q S ds fuel l a W := k W h
end
theorem exit_gen {Q : Exit → Act → World → Prop} {e : Exit} {a : Act} {W : World} (I : World → Prop) (h : I W) (k : ∀ W', I W' → Q e a W') : Q e a W := k W h
theorem code_gen {P : Program} {c : Code} {Q : Exit → Act → World → Prop} {a : Act} {W : World} (I : World → Prop) (h : I W) (k : ∀ W', I W' → c.wp P Q a W') : c.wp P Q a W := k W h
theorem new_pointer {w1 w2 : World} {g : Nat} (h : w1.heap.size ≤ g) (h2 : g < w2.heap.size) : NewPtr (.pointer (some ⟨g, 0, none⟩)) w1 w2 := fun k hk => by
  have : g = k := Option.some.inj hk
  omega
theorem new_row {α : Type} {d : Kd α} {e : Nat} {ok : Nat → Prop} {w1 w2 : World} {v : Value} {xs : List α} (h : d.R e w2 w1.heap.size ok v xs) : ∀ g, v.ownBlock = some g → w1.heap.size ≤ g ∧ g < w2.heap.size := fun g hg => ⟨((Kd.R_bound h).1 g hg).2.1, ((Kd.R_bound h).1 g hg).2.2.1⟩
theorem own_r {w : World} {base e : Nat} {v : Value} {xs : List Int} {k : IntKind} {ok : Nat → Prop} (h : (Kd.int k).R e w base ok v xs) (ok' : Nat → Prop) (hok : ∀ g, v.ownBlock = some g → ok' g) : (Kd.int k).R e w base ok' v xs := Kd.R_of_own (Kd.own_of_R h) hok
/-- A row stays where another one is written. -/
theorem own_grown {w w1 : World} {base e : Nat} {v : Value} {xs : List Int} {k : IntKind} {ok : Nat → Prop} {row : Option Nat} (h : (Kd.int k).R e w base ok v xs) (hg : w.grownBy w1 row) (hne : ∀ g, v.ownBlock = some g → some g ≠ row) : (Kd.int k).R e w1 base ok v xs :=
  own_r (Kd.R_grown (own_r h (fun g => v.ownBlock = some g) (fun _ h => h)) hg hne) ok h.1

/-! ### the scene: what one donor has with another -/
theorem pair_w (w : World) (g : Nat) (i0 i1 s gv : Value) (A2 : Option Addr) (c2 : Nat) (l2 : List (List (List Int))) (i j m M : Int) (hs : w.heap[g]? = some (.cells #[i0, i1, .slice A2 l2.length c2, s, gv] 49 (0, 0))) (hr2 : Kd.C (Kd.slice 35 (Kd.slice 37 (Kd.int .u32))) w A2 l2.length l2)
    (hc : i < j ∧ m = i ∧ M = j ∨ j < i ∧ m = j ∧ M = i) (h0 : 0 ≤ m) (h1 : m < l2.length) (h2 : 0 ≤ M) (h3 : M < (rdM l2 m).length) :
    Calls Tryd.prog 39 #[.pointer (some ⟨g, 0, none⟩), .int .i64 i, .int .i64 j] w fun e w' => w = w' ∧ ∃ A c, e = .returned (.slice A (rdV (rdM l2 m) M).length c) ∧ (rdV (rdM l2 m) M).length ≤ c ∧ (Kd.int .u32).C w A (rdV (rdM l2 m) M).length (rdV (rdM l2 m) M) := by
  have hc2 := (blk_cell hs 2).trans (show (#[i0, i1, .slice A2 l2.length c2, s, gv] : Array Value)[2]? = some (.slice A2 l2.length c2) from rfl)
  obtain ⟨ad, A3, c3, rfl, hx3, hl3, hr3⟩ := at_M hr2 m h0 h1
  obtain ⟨ad4, A4, c4, rfl, hx4, hl4, hr4⟩ := at_V hr3 M h2 h3
  have HX := Aside0.mk hr4
  have HL := Aside0.mk hl4
  have d1 := eq_true h0
  have d2 := eq_true h1
  have d3 := eq_true h2
  have d4 := eq_true h3
  clear hr2 hr3 hr4 hl4 hl3 hs h0 h1 h2 h3
  rcases hc with ⟨hc, rfl, rfl⟩ | ⟨hc, rfl, rfl⟩
  · have e1 : decide (m < M) = true := decide_eq_true hc
    have e2 : decide (M < m) = false := decide_eq_false (by omega)
    have e3 : (M < m) = False := eq_false (by omega)
    replace hc := eq_true hc
    go_enter Tryd.func39, Tryd.ntmps39
    go_wp2
    go_ret
    exact ⟨rfl, A4, c4, rfl, HL.out, HX.out⟩
  · have e1 : decide (m < M) = true := decide_eq_true hc
    have e2 : decide (M < m) = false := decide_eq_false (by omega)
    have e3 : (M < m) = False := eq_false (by omega)
    replace hc := eq_true hc
    go_enter Tryd.func39, Tryd.ntmps39
    go_wp2
    go_ret
    exact ⟨rfl, A4, c4, rfl, HL.out, HX.out⟩

end Go.Proofs.YtpicmnkkkgedeaaDoor.PAll
