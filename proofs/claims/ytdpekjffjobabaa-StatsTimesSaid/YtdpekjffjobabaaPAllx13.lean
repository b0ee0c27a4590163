/- The Go functions that the laws reach, as Lean functions, and that each call comes to what its function says. Written by a program of this session (a turned copy of the kit's print). No condition beyond those that each theorem states. -/
import Derived.Test.YtdpekjffjobabaaPAllx0
import Derived.Test.YtdpekjffjobabaaPAllx3
import Derived.Test.YtdpekjffjobabaaPAllx9
import Derived.Test.YtdpekjffjobabaaPAllx10
import Derived.Test.YtdpekjffjobabaaPAllx12
namespace Go.Proofs.Ytdpekjffjobabaa.PAll
open Go.RowKit Go.Proofs.YtdpekjffjobabaaW.PrintWords Go.Proofs.YtdpekjffjobabaaW.PrintLast Go.Proofs.YtdpekjffjobabaaW.PrintMore
attribute [local go_sem] max2_int min2_int max_two min_two max_three min_three max_four min_four   -- for this text's walks alone
set_option linter.unusedVariables false
set_option linter.unusedSimpArgs false

/-! ### offertoryref09_Encode: function 16 -/
/-! ### the document's Encode -/
/-- One more at a place; the bits of a number, and of a square told by its digits, from a place on. -/
def bmpE (out : List Int) (j : Nat) (d : Int) : List Int := out.set j ((out.getD j 0 + d) % 4294967296)
def plE (at_ : Nat) (n : Int) : Nat → List Int → List Int
  | 0, out => out
  | k + 1, out => bmpE (plE at_ n k out) (at_ + k) (n / 2 ^ k % 2)
def sqE (at_ : Nat) (s : List Int) : Nat → List Int → List Int
  | 0, out => out
  | k + 1, out => bmpE (sqE at_ s k out) (at_ + k) (s.getD (k / 16) 0 / 2 ^ (k % 16) % 2)
theorem bmpE_length (out : List Int) (j : Nat) (d : Int) : (bmpE out j d).length = out.length := by simp [bmpE]
theorem plE_length (at_ : Nat) (n : Int) (k : Nat) (out : List Int) : (plE at_ n k out).length = out.length := by
  induction k with
  | zero => rfl
  | succ k ih => simp [plE, bmpE_length, ih]
theorem sqE_length (at_ : Nat) (s : List Int) (k : Nat) (out : List Int) : (sqE at_ s k out).length = out.length := by
  induction k with
  | zero => rfl
  | succ k ih => simp [sqE, bmpE_length, ih]
def encOne (at_ b : Nat) (j : Nat) (n : Int) (s : List Int) (out : List Int) : List Int := sqE (at_ + b) s (2 * b) (plE at_ n b (bmpE (bmpE out j 1) (at_ - 1) 1))
theorem encOne_length (at_ b j : Nat) (n : Int) (s out : List Int) : (encOne at_ b j n s out).length = out.length := by simp [encOne, sqE_length, plE_length, bmpE_length]
def encStep (k : Nat) (lo hi most : Int) (es : List Int) (b at_ : Nat) (x : Int) (out : List Int) : Option (List Int) :=
  (offertoryref09_Bin.f k lo hi most es x).bind fun j => (offertoryref09_Clamp.f lo hi most es x).bind fun c =>
  (offertoryref09_Of.f 0 (IntKind.u64.wrap (wrap64 (c - lo)))).bind fun d =>
  (offertoryref09_Mul.f d.1 d.2.1 d.2.2.1 d.2.2.2.1 d.2.2.2.2.1 d.2.2.2.2.2.1 d.2.2.2.2.2.2.1 d.2.2.2.2.2.2.2 d.1 d.2.1 d.2.2.1 d.2.2.2.1 d.2.2.2.2.1 d.2.2.2.2.2.1 d.2.2.2.2.2.2.1 d.2.2.2.2.2.2.2).bind fun s =>
  if 0 ≤ j ∧ j < (out.length : Int) then some (encOne at_ b j.toNat (IntKind.u64.wrap (wrap64 (c - lo))) [s.1, s.2.1, s.2.2.1, s.2.2.2.1, s.2.2.2.2.1, s.2.2.2.2.2.1, s.2.2.2.2.2.2.1, s.2.2.2.2.2.2.2] out) else none
def encAll (k : Nat) (lo hi most : Int) (es : List Int) (b at_ : Nat) : List Int → List Int → Option (List Int)
  | [], out => some out
  | x :: r, out => (encStep k lo hi most es b at_ x out).bind fun o => encAll k lo hi most es b at_ r o
theorem encAll_mono (k : Nat) (lo hi most : Int) (es : List Int) (b at_ : Nat) : ∀ s out, LeO (encAll k lo hi most es b at_ s out) (encAll (k + 1) lo hi most es b at_ s out)
  | [], out => LeO.refl _
  | x :: r, out => by
    unfold encAll encStep
    refine LeO.bind (LeO.bind (offertoryref09_Bin.mono _ _ _ _ _ _) fun j => LeO.refl _) fun o => encAll_mono k lo hi most es b at_ r o
def offertoryref09_Encode.f (k : Nat) (a0_0 : Int) (a0_1 : Int) (a0_2 : Int) (l0_3 : List Int) (l1 : List Int) : Option (List Int) :=
  (offertoryref09_Bits.f k a0_0 a0_1 a0_2 l0_3).bind fun b => (offertoryref09_Len.f k a0_0 a0_1 a0_2 l0_3).bind fun n =>
  if 1 ≤ b ∧ b ≤ 64 ∧ l0_3.length ≤ 1000 ∧ n = (l0_3.length : Int) + 2 + 3 * b ∧ l1.length ≤ 100000 then encAll k a0_0 a0_1 a0_2 l0_3 b.toNat (l0_3.length + 2) l1 (List.replicate n.toNat 0) else none
theorem offertoryref09_Encode.mono : ∀ a0 a1 a2 a3 a4 k, LeO (offertoryref09_Encode.f k a0 a1 a2 a3 a4) (offertoryref09_Encode.f (k + 1) a0 a1 a2 a3 a4) := by
  intro a0 a1 a2 a3 a4 k
  unfold offertoryref09_Encode.f
  refine LeO.bind (offertoryref09_Bits.mono _ _ _ _ _) fun b => LeO.bind (offertoryref09_Len.mono _ _ _ _ _) fun n => LeO.ite (encAll_mono _ _ _ _ _ _ _ _ _) (LeO.refl _)
abbrev u32E (xs : List Int) : List Value := xs.map (Value.int .u32)
theorem cells4E {w : World} {g : Nat} {t : TypeId} {a b c d : Value} (h : w.heap[g]? = some (.cells #[a, b, c, d] t (0, 0))) :
    w.cell? ⟨g, 0, none⟩ = some a ∧ w.cell? ⟨g, 1, none⟩ = some b ∧ w.cell? ⟨g, 2, none⟩ = some c ∧ w.cell? ⟨g, 3, none⟩ = some d :=
  ⟨(blk_cell h 0).trans rfl, (blk_cell h 1).trans rfl, (blk_cell h 2).trans rfl, (blk_cell h 3).trans rfl⟩
/-- What stands while the vector is written: the plan's box, the vector's row. -/
structure En (w0 : World) (gp go : Nat) (pl : Array Value) (c : Nat) (out : List Int) (w : World) : Prop where
  hp : w.heap[gp]? = some (.cells pl 24 (0, 0))
  hr : (Kd.int .u32).R 43 w w0.heap.size (fun _ => True) (.slice (some ⟨go, 0, none⟩) out.length c) out
  hb : Below w0.heap.size w0 w
theorem En.below {w0 w w' : World} {gp go c : Nat} {pl : Array Value} {out : List Int} (h : En w0 gp go pl c out w) (hb : Below w.heap.size w w') : En w0 gp go pl c out w' := ⟨blk_below h.hp hb, Kd.R_below h.hr hb, below_step h.hb hb⟩
theorem En.own {w0 w : World} {gp go c : Nat} {pl : Array Value} {out : List Int} (h : En w0 gp go pl c out w) : w.ownsRow w0.heap.size 43 1 (.slice (some ⟨go, 0, none⟩) out.length c) out.length (u32E out) := Kd.own_of_R h.hr
theorem En.cell {w0 w : World} {gp go c : Nat} {pl : Array Value} {out : List Int} (h : En w0 gp go pl c out w) {j : Nat} (hj : j < out.length) : w.cell? ⟨go, j, none⟩ = some (.int .u32 (out.getD j 0)) := by
  have := World.ownsRow.cells h.own (g := go) rfl j (.int .u32 (out.getD j 0)) (by simp [u32E, List.getD, hj])
  rw [add_plain] at this
  exact this
theorem En.blk {w0 w : World} {gp go c : Nat} {pl : Array Value} {out : List Int} (h : En w0 gp go pl c out w) : ∃ cur, w.heap[go]? = some (.cells cur 43 (0, 0)) := by
  rcases h.own.2 with ⟨e, _⟩ | ⟨g', cap, cur, e, _, hg, _⟩
  · cases e
  · injection e with e1
    injection e1 with e1
    injection e1 with e1
    subst e1
    exact ⟨cur, hg⟩
theorem En.frozen {w0 w : World} {gp go c : Nat} {pl : Array Value} {out : List Int} (h : En w0 gp go pl c out w) (j : Nat) : w.frozen? ⟨go, j, none⟩ = false := by
  obtain ⟨cur, hg⟩ := h.blk
  exact blk_frozen hg j
theorem En.bump {w0 w : World} {gp go c : Nat} {pl : Array Value} {out : List Int} (h : En w0 gp go pl c out w) (j : Nat) (x : Int) : En w0 gp go pl c (out.set j x) (w.setCell ⟨go, j, none⟩ (.int .u32 x)) := by
  obtain ⟨cur, hg⟩ := h.blk
  refine ⟨blk_far h.hp (blk_ne h.hp hg (by decide)) _, ?_, h.hb.setCell (World.ownsRow.lt h.own go rfl).1 _⟩
  have := (Kd.R_putg h.hr (j : Int) x).1
  rw [List.length_set]
  exact this
theorem En.far {w0 w : World} {gp go c g t : Nat} {pl cs : Array Value} {out : List Int} (h : En w0 gp go pl c out w) (hg : w.heap[g]? = some (.cells cs t (0, 0))) (h1 : t ≠ 24) (h2 : t ≠ 43) (hl : w0.heap.size ≤ g) (j : Nat) (u : Value) : En w0 gp go pl c out (w.setCell ⟨g, j, none⟩ u) := by
  obtain ⟨cur, hgo⟩ := h.blk
  refine ⟨blk_far h.hp (blk_ne h.hp hg (fun e => h1 e.symm)) _, ?_, h.hb.setCell hl _⟩
  exact Kd.R_mono (Kd.R_far (p := ⟨g, j, none⟩) (Kd.R_types h.hr hg (by intro q hq; simp only [List.mem_cons] at hq; rcases hq with rfl | hq; exact fun e => h2 e.symm; cases hq)) (fun _ hk => hk.2) u) (fun _ _ => trivial)
theorem w64E (m : Nat) (h : m < 9223372036854775808) : wrap64 (m : Int) = (m : Int) := by unfold wrap64; omega
theorem w64Es (m : Nat) (h : m < 9223372036854775807) : wrap64 ((m : Int) + 1) = ((m + 1 : Nat) : Int) := by unfold wrap64; omega
theorem infoU : (Try.prog.info? 43).map (fun i => (i.zero, i.size, i.bytes)) = some (some (.int .u32 0), 1, 4) := by kernel_rfl
theorem infoBig : (Try.prog.info? 45).map (fun i => (i.zero, i.size, i.bytes)) = some (some (.agg #[.int .u32 0, .int .u32 0, .int .u32 0, .int .u32 0, .int .u32 0, .int .u32 0, .int .u32 0, .int .u32 0]), 8, 32) := by kernel_rfl
theorem wp_genE {Q : Exit → Act → World → Prop} {e : Exit} {a : Act} {W : World} (I : World → Prop) (h : I W) (k : ∀ W', I W' → Q e a W') : Q e a W := k W h
theorem wp_genC {P : Program} {c : Code} {Q : Exit → Act → World → Prop} {a : Act} {W : World} (I : World → Prop) (h : I W) (k : ∀ W', I W' → c.wp P Q a W') : c.wp P Q a W := k W h
theorem En.arr8 {w0 w : World} {gp go c g : Nat} {pl : Array Value} {out l : List Int} (h : En w0 gp go pl c out w) (ha : ArrAt w g 45 .u32 l) (hl : l.length = 8) (hg : w0.heap.size ≤ g) (s0 s1 s2 s3 s4 s5 s6 s7 : Int) :
    En w0 gp go pl c out ((((((((w.setCell ⟨g, 0, none⟩ (.int .u32 s0)).setCell ⟨g, 1, none⟩ (.int .u32 s1)).setCell ⟨g, 2, none⟩ (.int .u32 s2)).setCell ⟨g, 3, none⟩ (.int .u32 s3)).setCell ⟨g, 4, none⟩ (.int .u32 s4)).setCell ⟨g, 5, none⟩ (.int .u32 s5)).setCell ⟨g, 6, none⟩ (.int .u32 s6)).setCell ⟨g, 7, none⟩ (.int .u32 s7)) ∧
    ArrAt ((((((((w.setCell ⟨g, 0, none⟩ (.int .u32 s0)).setCell ⟨g, 1, none⟩ (.int .u32 s1)).setCell ⟨g, 2, none⟩ (.int .u32 s2)).setCell ⟨g, 3, none⟩ (.int .u32 s3)).setCell ⟨g, 4, none⟩ (.int .u32 s4)).setCell ⟨g, 5, none⟩ (.int .u32 s5)).setCell ⟨g, 6, none⟩ (.int .u32 s6)).setCell ⟨g, 7, none⟩ (.int .u32 s7)) g 45 .u32 [s0, s1, s2, s3, s4, s5, s6, s7] := by
  have step : ∀ {W : World} {L : List Int}, En w0 gp go pl c out W → ArrAt W g 45 .u32 L → ∀ (i : Nat) (u : Int), En w0 gp go pl c out (W.setCell ⟨g, i, none⟩ (.int .u32 u)) ∧ ArrAt (W.setCell ⟨g, i, none⟩ (.int .u32 u)) g 45 .u32 (L.set i u) :=
    fun hE hA i u => ⟨hE.far hA (by decide) (by decide) hg i _, hA.put i u⟩
  have e1 := step h ha 0 s0
  have e2 := step e1.1 e1.2 1 s1
  have e3 := step e2.1 e2.2 2 s2
  have e4 := step e3.1 e3.2 3 s3
  have e5 := step e4.1 e4.2 4 s4
  have e6 := step e5.1 e5.2 5 s5
  have e7 := step e6.1 e6.2 6 s6
  have e8 := step e7.1 e7.2 7 s7
  refine ⟨e8.1, ?_⟩
  have := e8.2
  rw [set8 hl] at this
  exact this
theorem arr_bump {w0 w : World} {gp go c g : Nat} {pl : Array Value} {out s : List Int} (h : En w0 gp go pl c out w) (ha : ArrAt w g 45 .u32 s) (j : Nat) (u : Value) : ArrAt (w.setCell ⟨go, j, none⟩ u) g 45 .u32 s := by
  obtain ⟨cur, hgo⟩ := h.blk
  exact blk_far ha (blk_ne ha hgo (by decide)) u
theorem two_posE (n : Nat) : (0 : Int) ≤ 2 ^ n := by
  have : (0 : Nat) < 2 ^ n := Nat.pow_pos (by decide)
  have h : (0 : Int) < 2 ^ n := by exact_mod_cast this
  omega
theorem shE (u : Nat) (sv ov : Int) (h : 0 ≤ sv) : IntKind.u32.wrap (ov + (sv / 2 ^ min (IntKind.u64.wrap ((u : Int) % 16)).toNat 32).tmod 2) = (ov + sv / 2 ^ (u % 16) % 2) % 4294967296 := by
  have e : min (IntKind.u64.wrap ((u : Int) % 16)).toNat 32 = u % 16 := by rw [IntKind.wrap_u64]; omega
  rw [e, Int.tmod_eq_emod_of_nonneg (Int.ediv_nonneg h (two_posE _)), IntKind.wrap_u32]
theorem mulE {a0 a1 a2 a3 a4 a5 a6 a7 b0 b1 b2 b3 b4 b5 b6 b7 s0 s1 s2 s3 s4 s5 s6 s7 : Int} (h : offertoryref09_Mul.f a0 a1 a2 a3 a4 a5 a6 a7 b0 b1 b2 b3 b4 b5 b6 b7 = some (s0, s1, s2, s3, s4, s5, s6, s7)) (i : Nat) (hi : i < 8) : 0 ≤ [s0, s1, s2, s3, s4, s5, s6, s7].getD i 0 := by
  unfold offertoryref09_Mul.f at h
  split at h
  case isFalse => cases h
  simp only [Option.some.injEq, digs, Prod.mk.injEq] at h
  obtain ⟨rfl, rfl, rfl, rfl, rfl, rfl, rfl, rfl⟩ := h
  have hp : ∀ (v : Int) (k : Nat), 0 ≤ bigD v k := fun v k => by unfold bigD; omega
  match i, hi with
  | 0, _ => exact hp _ _
  | 1, _ => exact hp _ _
  | 2, _ => exact hp _ _
  | 3, _ => exact hp _ _
  | 4, _ => exact hp _ _
  | 5, _ => exact hp _ _
  | 6, _ => exact hp _ _
  | 7, _ => exact hp _ _
set_option maxHeartbeats 16000000 in
set_option maxRecDepth 100000 in
theorem offertoryref09_Encode.calls (k : Nat) (a0_0 : Int) (a0_1 : Int) (a0_2 : Int) (A0_3 : Option Addr) (c0_3 : Nat) (l0_3 : List Int) (A1 : Option Addr) (c1 : Nat) (l1 : List Int) (r : List Int) (w : World) (hr0_3 : Kd.C (Kd.int .i64) w A0_3 l0_3.length l0_3) (hc0_3 : l0_3.length ≤ c0_3) (hr1 : Kd.C (Kd.int .i64) w A1 l1.length l1) (hc1 : l1.length ≤ c1) (h : offertoryref09_Encode.f k a0_0 a0_1 a0_2 l0_3 l1 = some r) :
    Calls Try.prog 16 #[.agg #[.int .i64 a0_0, .int .i64 a0_1, .int .i64 a0_2, .slice A0_3 l0_3.length c0_3], .slice A1 l1.length c1] w fun e w' => ∃ v0_ : Value, e = .returned (v0_) ∧ Kd.R (Kd.int .u32) 43 w' w.heap.size (fun _ => True) v0_ r ∧ Below w.heap.size w w' := by
  have hu24 := Try.underlying24
  have huB := Try.underlying45
  have huW := Try.underlying27
  unfold offertoryref09_Encode.f at h
  obtain ⟨bI, AB0, h⟩ := Option.bind_eq_some_iff.mp h
  obtain ⟨nI, AL0, h⟩ := Option.bind_eq_some_iff.mp h
  split at h
  case isFalse => cases h
  rename_i hok
  obtain ⟨ok1, ok2, ok3, ok4, ok5⟩ := hok
  obtain ⟨b, rfl⟩ : ∃ b : Nat, bI = (b : Int) := ⟨bI.toNat, by omega⟩
  obtain ⟨n, rfl⟩ : ∃ n : Nat, nI = (n : Int) := ⟨nI.toNat, by omega⟩
  simp only [Int.toNat_natCast] at h
  have AB := Aside0.mk AB0
  have ALen := Aside0.mk AL0
  have OK := Aside0.mk (⟨by omega, by omega, ok3, by omega, ok5⟩ : 1 ≤ b ∧ b ≤ 64 ∧ l0_3.length ≤ 1000 ∧ n = l0_3.length + 2 + 3 * b ∧ l1.length ≤ 100000)
  have H := Aside0.mk h
  have HR0 := Aside0.mk hr0_3
  have HC0 := Aside0.mk hc0_3
  have HR1 := Aside0.mk hr1
  have HC1 := Aside0.mk hc1
  clear hr0_3 hc0_3 hr1 hc1 h ok1 ok2 ok3 ok4 ok5 AB0 AL0
  have lb0 : 0 ≤ (l0_3.length : Int) := Int.natCast_nonneg _
  have lb1 : (l0_3.length : Int) ≤ 1000 := by have := OK.out; omega
  have bb0 : 0 ≤ (b : Int) := Int.natCast_nonneg _
  have bb1 : (b : Int) ≤ 64 := by have := OK.out; omega
  go_enter Try.func16, Try.ntmps16
  go_wp2_with (first | ((with_reducible refine gate_dst (N := 2) rfl ?_); refine box_event ?hg (N := 2) ?hd (cs := #[.int .i64 a0_0, .int .i64 a0_1, .int .i64 a0_2, .slice A0_3 l0_3.length c0_3]) (t := 24) ?hr ?_; (case hd => rfl); (case hg => rfl); (case hr => first | (go_simp; done) | (go_simp; rfl)); intro gp hg w1 hbox hb; have HB1 := Aside0.mk hb; have HP := Aside0.mk hbox; clear hb hbox hg; obtain ⟨hz0, hz1, hz2, hz3⟩ := cells4E HP.out) | (go_at_call 39; (with_reducible refine (offertoryref09_Bits.calls k a0_0 a0_1 a0_2 A0_3 c0_3 l0_3 (b : Int) _ ?s1 ?s2 AB.out).mono ?_); (case s1 => exact Kd.C_below HR0.out HB1.out); (case s2 => exact HC0.out); rintro e w2 ⟨rfl, hb⟩; have HB2 := Aside0.mk (below_step HB1.out hb); have HP2 := Aside0.mk (blk_below HP.out hb); clear hb hz0 hz1 hz2 hz3; obtain ⟨hz0, hz1, hz2, hz3⟩ := cells4E HP2.out) | (go_at_call 14; (with_reducible refine (offertoryref09_Len.calls k a0_0 a0_1 a0_2 A0_3 c0_3 l0_3 (n : Int) _ ?s1 ?s2 ALen.out).mono ?_); (case s1 => exact Kd.C_below HR0.out HB2.out); (case s2 => exact HC0.out); rintro e w3 ⟨rfl, hb⟩; have HB3 := Aside0.mk (below_step HB2.out hb); have HP3 := Aside0.mk (blk_below HP2.out hb); clear hb hz0 hz1 hz2 hz3; obtain ⟨hz0, hz1, hz2, hz3⟩ := cells4E HP3.out) | ((with_reducible refine gate_dst (N := 17) rfl ?_); refine Kd.R_make (Kd.int .u32) _ 43 rfl (N := 17) rfl 38 _ _ rfl (n : Int) rfl rfl Try.underlying38 (.int .u32 0) 4 infoU rfl (by decide) (by omega) 0 (ok := fun _ => True) (okp := fun _ => True) rfl (fun _ hk => hk) trivial (Int.natCast_nonneg n) (by have := OK.out; rw [Int.toNat_natCast]; omega) (Below.refl _ _) (Nat.le_refl _) ?_; intro v4 w4 ho hb hg_ hnew; have EN := Aside0.mk (⟨blk_below HP3.out hb, Kd.R_lower ho HB3.out.size, below_step HB3.out hb⟩ : w4.heap[gp]? = _ ∧ _ ∧ Below w.heap.size w w4); clear ho hb hg_ hnew hz0 hz1 hz2 hz3; obtain ⟨hz0, hz1, hz2, hz3⟩ := cells4E EN.out.1))
  obtain ⟨go, co, rfl⟩ : ∃ g c, v4 = .slice (some ⟨g, 0, none⟩) n c := by
    have ho := Kd.own_of_R EN.out.2.1
    have hn := OK.out
    rcases ho.2 with ⟨_, h⟩ | ⟨g, cap, cur, rfl, _⟩
    · rw [Int.toNat_natCast, List.length_replicate] at h
      omega
    · exact ⟨_, _, by rw [Int.toNat_natCast, List.length_replicate]⟩
  have E0 : Aside0 (En w gp go #[.int .i64 a0_0, .int .i64 a0_1, .int .i64 a0_2, .slice A0_3 l0_3.length c0_3] co (List.replicate n 0) w4) := ⟨EN.out.1, by have := EN.out.2.1; rw [Int.toNat_natCast] at this; rw [List.length_replicate]; exact this, EN.out.2.2⟩
  clear EN hz0 hz1 hz2 hz3 HB1 HB2 HB3 HP HP2 HP3
  have L0 : Aside0 ((List.replicate n (0 : Int)).length = n) := ⟨List.length_replicate⟩
  generalize List.replicate n (0 : Int) = out0 at *
  go_loopg [8] l1.length (fun kq v8 w' => ∃ (i : Nat) (out : List Int), v8 = .int .i64 (i : Int) ∧ Aside0 (i + kq = l1.length) ∧ Aside0 (out.length = n) ∧ Aside0 (encAll k a0_0 a0_1 a0_2 l0_3 b (l0_3.length + 2) (l1.drop i) out = some r) ∧ Aside0 (En w gp go #[.int .i64 a0_0, .int .i64 a0_1, .int .i64 a0_2, .slice A0_3 l0_3.length c0_3] co out w'))
  case atStart => exact ⟨0, _, rfl, ⟨Nat.zero_add _⟩, L0, ⟨H.out⟩, E0⟩
  case round =>
    clear E0 L0 H
    obtain ⟨i, out, rfl, HI, HL, H, EN⟩ := hrel
    cases gk with
    | zero =>
      have hi := HI.out
      rw [Nat.add_zero] at hi
      subst hi
      have h := H.out
      rw [List.drop_length] at h
      obtain rfl : out = r := Option.some.inj h
      have HLn := HL.out
      have hd1 : decide ((l1.length : Int) < (l1.length : Int)) = false := decide_eq_false (by omega)
      go_wp2
      go_ret
      exact ⟨_, rfl, by have := EN.out.hr; rw [HL.out] at this; exact this, EN.out.hb⟩
    | succ k1 =>
      have hi := HI.out
      have hlt : i < l1.length := by omega
      have d1 : decide ((i : Int) < (l1.length : Int)) = true := decide_eq_true (by omega)
      have p1 : 0 ≤ (i : Int) := by omega
      have q1 : (i : Int) < (l1.length : Int) := by omega
      have eg : rd l1 (i : Int) = l1[i] := by unfold rd; simp [List.getD, List.getElem?_eq_getElem hlt]
      obtain ⟨ad1, e1, hx1⟩ := Kd.at_int (Kd.C_below HR1.out EN.out.hb) (i : Int) p1 q1
      have HA := Aside0.mk e1
      rw [eg, Int.toNat_natCast] at hx1
      have h := H.out
      rw [List.drop_eq_getElem_cons hlt] at h
      have hgx : rd l1 (i : Int) = l1[i] := eg
      generalize l1[i] = x at *
      have EG := Aside0.mk hgx
      clear hgx
      unfold encAll encStep at h
      obtain ⟨o, h, hrest⟩ := Option.bind_eq_some_iff.mp h
      have HREST := Aside0.mk hrest
      obtain ⟨jI, A1, h⟩ := Option.bind_eq_some_iff.mp h
      have ABin := Aside0.mk A1
      obtain ⟨cl, A1, h⟩ := Option.bind_eq_some_iff.mp h
      have ACl := Aside0.mk A1
      obtain ⟨⟨g0, g1, g2, g3, g4, g5, g6, g7⟩, A1, h⟩ := Option.bind_eq_some_iff.mp h
      have AOf := Aside0.mk A1
      obtain ⟨⟨s0, s1, s2, s3, s4, s5, s6, s7⟩, A1, h⟩ := Option.bind_eq_some_iff.mp h
      have AMul := Aside0.mk A1
      split at h
      case isFalse => cases h
      rename_i hj
      obtain ⟨j, rfl⟩ : ∃ j : Nat, jI = (j : Int) := ⟨jI.toNat, by omega⟩
      have ho := Option.some.inj h
      rw [Int.toNat_natCast] at ho
      have HO := Aside0.mk ho
      have jp : 0 ≤ (j : Int) := Int.natCast_nonneg _
      have jq : (j : Int) < (n : Int) := by rw [← HL.out]; exact hj.2
      have hjl : j < out.length := by omega
      obtain rfl := HA.out
      have HXC := Aside0.mk hx1
      have HXW : Aside0 (∀ W : World, Below w.heap.size w W → W.cell? (ad1.add i) = some (.int .i64 x)) := ⟨fun W hb => by
        obtain ⟨ad2, e2, hx2⟩ := Kd.at_int (Kd.C_below HR1.out hb) (i : Int) p1 q1
        obtain rfl := Option.some.inj e2
        rw [Int.toNat_natCast] at hx2
        rw [hx2, EG.out]⟩
      have EI := Aside0.mk (w64Es i (by have := OK.out; omega))
      obtain ⟨ov, hov⟩ : ∃ v, v = out.getD j 0 := ⟨_, rfl⟩
      have OV := Aside0.mk hov
      clear h A1 hrest eg hi hlt hj ho e1 hjl hov
      obtain ⟨hz0, hz1, hz2, hz3⟩ := cells4E EN.out.hp
      go_wp2
      have X0 := Aside0.mk (EN.out.below (below_drew1 (Below.refl _ _)))
      have HXD : Aside0 (wr.drew.cell? (ad1.add i) = some (.int .i64 x)) := ⟨HXC.out⟩
      refine start_ (n := 12) (S := fun w' => w'.cell? ⟨gp, 0, none⟩ = some (.int .i64 a0_0) ∧ w'.cell? ⟨gp, 1, none⟩ = some (.int .i64 a0_1) ∧ w'.cell? ⟨gp, 2, none⟩ = some (.int .i64 a0_2) ∧ w'.cell? ⟨gp, 3, none⟩ = some (.slice A0_3 l0_3.length c0_3) ∧ w'.cell? (ad1.add i) = some (.int .i64 x) ∧ w'.cell? ⟨go, j, none⟩ = some (.int .u32 ov)) (ds := [11]) #[false, false, false, false, false, false, false, false, false, false, false, false] (by kernel_rfl) rfl rfl ⟨(cells4E X0.out.hp).1, (cells4E X0.out.hp).2.1, (cells4E X0.out.hp).2.2.1, (cells4E X0.out.hp).2.2.2, HXD.out, (by rw [OV.out]; exact X0.out.cell (by have := HL.out; omega))⟩ (fun hHeld => ?_)
      refine pure_ (i := 0) (N := some 28) (v := ?_) (a' := ?_) #[true, false, false, false, false, false, false, false, false, false, false, false] rfl rfl (by kernel_rfl) (fun _ _ _ h => h) (Or.inl ⟨by rfl, ?_⟩) ?_ ?_
      rotate_left
      · intro w'
        go_simp
        with_reducible rfl
      rotate_left
      · simp only [Act.put, List.setIfInBounds_toArray, List.set_cons_zero, List.set_cons_succ, i64_w, i32_w]
        rfl
      refine pure_ (i := 2) (N := some 30) (v := ?_) (a' := ?_) #[true, false, true, false, false, false, false, false, false, false, false, false] rfl rfl (by kernel_rfl) (fun _ _ _ h => h) (Or.inl ⟨by rfl, ?_⟩) ?_ ?_
      rotate_left
      · intro w'
        go_simp
        with_reducible rfl
      rotate_left
      · simp only [Act.put, List.setIfInBounds_toArray, List.set_cons_zero, List.set_cons_succ, i64_w, i32_w]
        rfl
      refine pure_ (i := 3) (N := some 31) (v := ?_) (a' := ?_) #[true, false, true, true, false, false, false, false, false, false, false, false] rfl rfl (by kernel_rfl) (fun _ _ _ h => h) (Or.inl ⟨by rfl, ?_⟩) ?_ ?_
      rotate_left
      · intro w'
        go_simp
        with_reducible rfl
      rotate_left
      · simp only [Act.put, List.setIfInBounds_toArray, List.set_cons_zero, List.set_cons_succ, i64_w, i32_w]
        rfl
      refine pure_ (i := 4) (N := some 32) (v := ?_) (a' := ?_) #[true, false, true, true, true, false, false, false, false, false, false, false] rfl rfl (by kernel_rfl) (fun _ _ _ h => h) (Or.inl ⟨by rfl, ?_⟩) ?_ ?_
      rotate_left
      · intro w'
        go_simp
        with_reducible rfl
      rotate_left
      · simp only [Act.put, List.setIfInBounds_toArray, List.set_cons_zero, List.set_cons_succ, i64_w, i32_w]
        rfl
      refine take_ (i := 1) (N := some 29) (v := ?_) (a' := ?_) #[true, true, true, true, true, false, false, false, false, false, false, false] rfl rfl (by kernel_rfl) (fun _ _ _ h => h) (Or.inl ⟨by rfl, ?_⟩) hHeld ?_ ?_
      rotate_left
      · rintro w' ⟨s0, s1, s2, s3, s4, s5⟩
        go_simp
        with_reducible rfl
      rotate_left
      · simp only [Act.put, List.setIfInBounds_toArray, List.set_cons_zero, List.set_cons_succ, i64_w, i32_w]
        rfl
      refine take_ (i := 5) (N := some 33) (v := ?_) (a' := ?_) #[true, true, true, true, true, true, false, false, false, false, false, false] rfl rfl (by kernel_rfl) (fun _ _ _ h => h) (Or.inl ⟨by rfl, ?_⟩) hHeld ?_ ?_
      rotate_left
      · rintro w' ⟨s0, s1, s2, s3, s4, s5⟩
        go_simp
        with_reducible rfl
      rotate_left
      · simp only [Act.put, List.setIfInBounds_toArray, List.set_cons_zero, List.set_cons_succ, i64_w, i32_w]
        rfl
      refine one_ (i := 6) (N := some 34) #[true, true, true, true, true, true, true, false, false, false, false, false] rfl rfl (by kernel_rfl) (by decide) (fun K hK => ?_)
      refine goes_ Try.func28 (by kernel_rfl) rfl #[.agg #[.int .i64 a0_0, .int .i64 a0_1, .int .i64 a0_2, .slice A0_3 l0_3.length c0_3], .int .i64 x] (by rfl) rfl rfl (by (try simp only [List.map_toArray, List.map_cons, List.map_nil]); first | done | rfl) ?_
      with_reducible refine (offertoryref09_Bin.calls k a0_0 a0_1 a0_2 A0_3 c0_3 l0_3 x (j : Int) _ (Kd.C_below HR0.out (below_drew1 EN.out.hb)) HC0.out ABin.out).mono ?_
      rintro e x1 ⟨rfl, hb⟩
      have X1 := Aside0.mk (X0.out.below hb)
      have hx1 := pw_cell_below hb HXD.out
      clear hb
      have hxo : x1.cell? ⟨go, j, none⟩ = some (.int .u32 ov) := (by rw [OV.out]; exact X1.out.cell (by have := HL.out; omega))
      have hxf := X1.out.frozen j
      refine ⟨_, rfl, ?_⟩
      refine hK.out _ _ ⟨(cells4E X1.out.hp).1, (cells4E X1.out.hp).2.1, (cells4E X1.out.hp).2.2.1, (cells4E X1.out.hp).2.2.2, hx1, hxo⟩ (fun hHeld => ?_)
      clear hK K
      refine norm_ (a' := ?_) ?_ ?_
      rotate_left
      · show Act.put _ (some 34) _ = _
        simp only [Act.put, List.setIfInBounds_toArray, List.set_cons_zero, List.set_cons_succ, i64_w, i32_w]
        rfl
      refine pure_ (i := 7) (N := some 35) (v := ?_) (a' := ?_) #[true, true, true, true, true, true, true, true, false, false, false, false] rfl rfl (by kernel_rfl) (fun _ _ _ h => h) (Or.inl ⟨by rfl, ?_⟩) ?_ ?_
      rotate_left
      · intro w'
        go_simp
        with_reducible rfl
      rotate_left
      · simp only [Act.put, List.setIfInBounds_toArray, List.set_cons_zero, List.set_cons_succ, i64_w, i32_w]
        rfl
      refine take_ (i := 8) (N := some 36) (v := ?_) (a' := ?_) #[true, true, true, true, true, true, true, true, true, false, false, false] rfl rfl (by kernel_rfl) (fun _ _ _ h => h) (Or.inl ⟨by rfl, ?_⟩) hHeld ?_ ?_
      rotate_left
      · rintro w' ⟨s0, s1, s2, s3, s4, s5⟩
        go_simp
        with_reducible rfl
      rotate_left
      · simp only [Act.put, List.setIfInBounds_toArray, List.set_cons_zero, List.set_cons_succ, i64_w, i32_w]
        rfl
      refine pure_ (i := 9) (N := some 37) (v := ?_) (a' := ?_) #[true, true, true, true, true, true, true, true, true, true, false, false] rfl rfl (by kernel_rfl) (fun _ _ _ h => h) (Or.inl ⟨by rfl, ?_⟩) ?_ ?_
      rotate_left
      · intro w'
        go_simp
        with_reducible rfl
      rotate_left
      · simp only [Act.put, List.setIfInBounds_toArray, List.set_cons_zero, List.set_cons_succ, i64_w, i32_w]
        rfl
      refine pure_ (i := 10) (N := some 38) (v := ?_) (a' := ?_) #[true, true, true, true, true, true, true, true, true, true, true, false] rfl rfl (by kernel_rfl) (fun _ _ _ h => h) (Or.inl ⟨by rfl, ?_⟩) ?_ ?_
      rotate_left
      · intro w'
        go_simp
        with_reducible rfl
      rotate_left
      · simp only [Act.put, List.setIfInBounds_toArray, List.set_cons_zero, List.set_cons_succ, i64_w, i32_w]
        rfl
      refine last_ (i := 11) (N := none) #[true, true, true, true, true, true, true, true, true, true, true, true] rfl rfl (by kernel_rfl) (by decide) (fun K hK => ?_)
      refine skip_ (w1 := ?_) (by rfl) rfl ?_ ?_
      rotate_left
      · go_simp
        rfl
      refine hK.out _ _ ?_
      clear hK K
      refine done_ (by kernel_rfl) ?_

      have L1 : Aside0 ((bmpE out j 1).length = n) := ⟨by rw [bmpE_length]; exact HL.out⟩
      refine wp_genE (En w gp go #[.int .i64 a0_0, .int .i64 a0_1, .int .i64 a0_2, .slice A0_3 l0_3.length c0_3] co (bmpE out j 1)) ?_ ?_
      · rw [show bmpE out j 1 = out.set j (IntKind.u32.wrap (ov + 1)) by unfold bmpE; rw [OV.out, IntKind.wrap_u32]]
        exact X1.out.bump j (IntKind.u32.wrap (ov + 1))
      clear X0 X1 hz0 hz1 hz2 hz3 hx1 hxo hxf hHeld
      intro w10 hW1
      have W1 := Aside0.mk hW1
      clear hW1
      generalize hb1 : bmpE out j 1 = out1 at *
      have HB1 := Aside0.mk hb1
      clear hb1
      obtain ⟨ov1, hov1⟩ : ∃ v, v = out1.getD (l0_3.length + 1) 0 := ⟨_, rfl⟩
      have OV1 := Aside0.mk hov1
      have hoc : w10.cell? ⟨go, l0_3.length + 2 - 1, none⟩ = some (.int .u32 ov1) := by rw [hov1]; exact W1.out.cell (by have := OK.out; have := L1.out; omega)
      clear hov1
      have hoc' : w10.cell? ⟨go, l0_3.length + 1, none⟩ = some (.int .u32 ov1) := hoc
      have hof := W1.out.frozen (l0_3.length + 2 - 1)
      have hof' := W1.out.frozen (l0_3.length + 1)
      have it1 : (l0_3.length : Int) + 2 - 1 < (n : Int) := by have := OK.out; omega
      have ip1 : 0 ≤ (l0_3.length : Int) + 2 - 1 := by omega
      go_wp2
      have L2 : Aside0 ((bmpE out1 (l0_3.length + 1) 1).length = n) := ⟨by rw [bmpE_length]; exact L1.out⟩
      refine wp_genC (En w gp go #[.int .i64 a0_0, .int .i64 a0_1, .int .i64 a0_2, .slice A0_3 l0_3.length c0_3] co (bmpE out1 (l0_3.length + 1) 1)) ?_ ?_
      · rw [show bmpE out1 (l0_3.length + 1) 1 = out1.set (l0_3.length + 1) ((ov1 + 1) % 4294967296) by unfold bmpE; rw [OV1.out]]
        exact W1.out.bump (l0_3.length + 1) ((ov1 + 1) % 4294967296)
      clear hoc hoc' hof hof' it1 ip1 jp jq
      intro w11 hW1
      have W2 := Aside0.mk hW1
      clear hW1 W1
      generalize hb1 : bmpE out1 (l0_3.length + 1) 1 = out2 at *
      have HB2 := Aside0.mk hb1
      clear hb1
      have X0 := Aside0.mk (W2.out.below (below_drew1 (Below.refl _ _)))
      have HXD : Aside0 (w11.drew.cell? (ad1.add i) = some (.int .i64 x)) := ⟨HXW.out _ (below_drew1 W2.out.hb)⟩
      refine start_ (n := 11) (S := fun w' => w'.cell? ⟨gp, 0, none⟩ = some (.int .i64 a0_0) ∧ w'.cell? ⟨gp, 1, none⟩ = some (.int .i64 a0_1) ∧ w'.cell? ⟨gp, 2, none⟩ = some (.int .i64 a0_2) ∧ w'.cell? ⟨gp, 3, none⟩ = some (.slice A0_3 l0_3.length c0_3) ∧ w'.cell? (ad1.add i) = some (.int .i64 x)) (ds := []) #[false, false, false, false, false, false, false, false, false, false, false] (by kernel_rfl) rfl rfl ⟨(cells4E X0.out.hp).1, (cells4E X0.out.hp).2.1, (cells4E X0.out.hp).2.2.1, (cells4E X0.out.hp).2.2.2, HXD.out⟩ (fun hHeld => ?_)
      refine pure_ (i := 1) (N := some 47) (v := ?_) (a' := ?_) #[false, true, false, false, false, false, false, false, false, false, false] rfl rfl (by kernel_rfl) (fun _ _ _ h => h) (Or.inl ⟨by rfl, ?_⟩) ?_ ?_
      rotate_left
      · intro w'
        go_simp
        with_reducible rfl
      rotate_left
      · simp only [Act.put, List.setIfInBounds_toArray, List.set_cons_zero, List.set_cons_succ, i64_w, i32_w]
        rfl
      refine pure_ (i := 2) (N := some 48) (v := ?_) (a' := ?_) #[false, true, true, false, false, false, false, false, false, false, false] rfl rfl (by kernel_rfl) (fun _ _ _ h => h) (Or.inl ⟨by rfl, ?_⟩) ?_ ?_
      rotate_left
      · intro w'
        go_simp
        with_reducible rfl
      rotate_left
      · simp only [Act.put, List.setIfInBounds_toArray, List.set_cons_zero, List.set_cons_succ, i64_w, i32_w]
        rfl
      refine pure_ (i := 3) (N := some 49) (v := ?_) (a' := ?_) #[false, true, true, true, false, false, false, false, false, false, false] rfl rfl (by kernel_rfl) (fun _ _ _ h => h) (Or.inl ⟨by rfl, ?_⟩) ?_ ?_
      rotate_left
      · intro w'
        go_simp
        with_reducible rfl
      rotate_left
      · simp only [Act.put, List.setIfInBounds_toArray, List.set_cons_zero, List.set_cons_succ, i64_w, i32_w]
        rfl
      refine pure_ (i := 6) (N := some 52) (v := ?_) (a' := ?_) #[false, true, true, true, false, false, true, false, false, false, false] rfl rfl (by kernel_rfl) (fun _ _ _ h => h) (Or.inl ⟨by rfl, ?_⟩) ?_ ?_
      rotate_left
      · intro w'
        go_simp
        with_reducible rfl
      rotate_left
      · simp only [Act.put, List.setIfInBounds_toArray, List.set_cons_zero, List.set_cons_succ, i64_w, i32_w]
        rfl
      refine take_ (i := 0) (N := some 46) (v := ?_) (a' := ?_) #[true, true, true, true, false, false, true, false, false, false, false] rfl rfl (by kernel_rfl) (fun _ _ _ h => h) (Or.inl ⟨by rfl, ?_⟩) hHeld ?_ ?_
      rotate_left
      · rintro w' ⟨s0, s1, s2, s3, s4⟩
        go_simp
        with_reducible rfl
      rotate_left
      · simp only [Act.put, List.setIfInBounds_toArray, List.set_cons_zero, List.set_cons_succ, i64_w, i32_w]
        rfl
      refine take_ (i := 4) (N := some 50) (v := ?_) (a' := ?_) #[true, true, true, true, true, false, true, false, false, false, false] rfl rfl (by kernel_rfl) (fun _ _ _ h => h) (Or.inl ⟨by rfl, ?_⟩) hHeld ?_ ?_
      rotate_left
      · rintro w' ⟨s0, s1, s2, s3, s4⟩
        go_simp
        with_reducible rfl
      rotate_left
      · simp only [Act.put, List.setIfInBounds_toArray, List.set_cons_zero, List.set_cons_succ, i64_w, i32_w]
        rfl
      refine take_ (i := 7) (N := some 53) (v := ?_) (a' := ?_) #[true, true, true, true, true, false, true, true, false, false, false] rfl rfl (by kernel_rfl) (fun _ _ _ h => h) (Or.inl ⟨by rfl, ?_⟩) hHeld ?_ ?_
      rotate_left
      · rintro w' ⟨s0, s1, s2, s3, s4⟩
        go_simp
        with_reducible rfl
      rotate_left
      · simp only [Act.put, List.setIfInBounds_toArray, List.set_cons_zero, List.set_cons_succ, i64_w, i32_w]
        rfl
      refine one_ (i := 5) (N := some 51) #[true, true, true, true, true, true, true, true, false, false, false] rfl rfl (by kernel_rfl) (by decide) (fun K hK => ?_)
      refine goes_ Try.func30 (by kernel_rfl) rfl #[.agg #[.int .i64 a0_0, .int .i64 a0_1, .int .i64 a0_2, .slice A0_3 l0_3.length c0_3], .int .i64 x] (by rfl) rfl rfl (by (try simp only [List.map_toArray, List.map_cons, List.map_nil]); first | done | rfl) ?_
      with_reducible refine (offertoryref09_Clamp.calls a0_0 a0_1 a0_2 A0_3 c0_3 l0_3 x cl _ (Kd.C_below HR0.out (below_drew1 W2.out.hb)) HC0.out ACl.out).mono ?_
      rintro e x1 ⟨rfl, hb⟩
      have X1 := Aside0.mk (X0.out.below hb)
      have hx1 := pw_cell_below hb HXD.out
      clear hb
      refine ⟨_, rfl, ?_⟩
      refine hK.out _ _ ⟨(cells4E X1.out.hp).1, (cells4E X1.out.hp).2.1, (cells4E X1.out.hp).2.2.1, (cells4E X1.out.hp).2.2.2, hx1⟩ (fun hHeld => ?_)
      clear hK K
      refine norm_ (a' := ?_) ?_ ?_
      rotate_left
      · show Act.put _ (some 51) _ = _
        simp only [Act.put, List.setIfInBounds_toArray, List.set_cons_zero, List.set_cons_succ, i64_w, i32_w]
        rfl
      refine pure_ (i := 8) (N := some 54) (v := ?_) (a' := ?_) #[true, true, true, true, true, true, true, true, true, false, false] rfl rfl (by kernel_rfl) (fun _ _ _ h => h) (Or.inl ⟨by rfl, ?_⟩) ?_ ?_
      rotate_left
      · intro w'
        go_simp
        with_reducible rfl
      rotate_left
      · simp only [Act.put, List.setIfInBounds_toArray, List.set_cons_zero, List.set_cons_succ, i64_w, i32_w]
        rfl
      refine pure_ (i := 9) (N := some 55) (v := ?_) (a' := ?_) #[true, true, true, true, true, true, true, true, true, true, false] rfl rfl (by kernel_rfl) (fun _ _ _ h => h) (Or.inl ⟨by rfl, ?_⟩) ?_ ?_
      rotate_left
      · intro w'
        go_simp
        with_reducible rfl
      rotate_left
      · simp only [Act.put, List.setIfInBounds_toArray, List.set_cons_zero, List.set_cons_succ, i64_w, i32_w]
        rfl
      refine pure_ (i := 10) (N := some 9) (v := ?_) (a' := ?_) #[true, true, true, true, true, true, true, true, true, true, true] rfl rfl (by kernel_rfl) (fun _ _ _ h => h) (Or.inl ⟨by rfl, ?_⟩) ?_ ?_
      rotate_left
      · intro w'
        go_simp
        with_reducible rfl
      rotate_left
      · simp only [Act.put, List.setIfInBounds_toArray, List.set_cons_zero, List.set_cons_succ, i64_w, i32_w]
        rfl
      refine done_ (by kernel_rfl) ?_
      clear HXD X0 hx1 hHeld
      have NN : Aside0 (∃ nn, nn = IntKind.u64.wrap (wrap64 (cl - a0_0)) ∧ 0 ≤ nn) := ⟨⟨_, rfl, by rw [IntKind.wrap_u64]; omega⟩⟩
      go_wp2_with fail
      go_at_call 18
      with_reducible refine (offertoryref09_Of.calls 0 (IntKind.u64.wrap (wrap64 (cl - a0_0))) g0 g1 g2 g3 g4 g5 g6 g7 _ AOf.out).mono ?_
      rintro e y1 ⟨rfl, hb⟩
      have Y1 := Aside0.mk (X1.out.below hb)
      clear hb
      go_wp2_with fail
      go_at_call 18
      with_reducible refine (offertoryref09_Of.calls 0 (IntKind.u64.wrap (wrap64 (cl - a0_0))) g0 g1 g2 g3 g4 g5 g6 g7 _ AOf.out).mono ?_
      rintro e y2 ⟨rfl, hb⟩
      have Y2 := Aside0.mk (Y1.out.below hb)
      clear hb
      go_wp2_with fail
      go_at_call 19
      with_reducible refine (offertoryref09_Mul.calls g0 g1 g2 g3 g4 g5 g6 g7 g0 g1 g2 g3 g4 g5 g6 g7 s0 s1 s2 s3 s4 s5 s6 s7 _ AMul.out).mono ?_
      rintro e y3 ⟨rfl, hb⟩
      have Y3 := Aside0.mk (Y2.out.below hb)
      clear hb
      go_wp2_with (first | ((with_reducible refine gate_dst (N := 10) rfl ?_); refine box_event ?hg (N := 10) ?hd (cs := (nums .u32 [0, 0, 0, 0, 0, 0, 0, 0]).toArray) (t := 45) ?hr ?_; (case hd => rfl); (case hg => rfl); (case hr => first | (go_simp; done) | (go_simp; rfl)); intro gs hg y4 hbox hb; have Y4 := Aside0.mk (Y3.out.below hb); have GS := Aside0.mk (Nat.le_trans (below_size Y3.out.hb) (Nat.le_of_eq hg.symm)); have AR := Aside0.mk (show ArrAt y4 gs 45 .u32 [0, 0, 0, 0, 0, 0, 0, 0] from hbox); have ca0 := AR.out.get 0 (by decide); have ca1 := AR.out.get 1 (by decide); have ca2 := AR.out.get 2 (by decide); have ca3 := AR.out.get 3 (by decide); have ca4 := AR.out.get 4 (by decide); have ca5 := AR.out.get 5 (by decide); have ca6 := AR.out.get 6 (by decide); have ca7 := AR.out.get 7 (by decide); have fa0 := AR.out.frz 0; have fa1 := AR.out.frz 1; have fa2 := AR.out.frz 2; have fa3 := AR.out.frz 3; have fa4 := AR.out.frz 4; have fa5 := AR.out.frz 5; have fa6 := AR.out.frz 6; have fa7 := AR.out.frz 7; clear hb hbox hg))
      have NB : Aside0 (0 ≤ IntKind.u64.wrap (wrap64 (cl - a0_0))) := ⟨by rw [IntKind.wrap_u64]; omega⟩
      clear NN
      refine wp_genC (fun W => En w gp go #[.int .i64 a0_0, .int .i64 a0_1, .int .i64 a0_2, .slice A0_3 l0_3.length c0_3] co out2 W ∧ ArrAt W gs 45 .u32 [s0, s1, s2, s3, s4, s5, s6, s7]) (Y4.out.arr8 AR.out rfl GS.out s0 s1 s2 s3 s4 s5 s6 s7) ?_
      clear ca0 ca1 ca2 ca3 ca4 ca5 ca6 ca7 fa0 fa1 fa2 fa3 fa4 fa5 fa6 fa7 X1 Y1 Y2 Y3 Y4 AR
      rintro w20 ⟨hE, hA⟩
      have EN2 := Aside0.mk hE
      have AR := Aside0.mk hA
      clear hE hA
      generalize IntKind.u64.wrap (wrap64 (cl - a0_0)) = nn at *
      go_loopg [11] b (fun kq v11 w' => ∃ t : Nat, v11 = .int .i64 (t : Int) ∧ Aside0 (t + kq = b) ∧ Aside0 (En w gp go #[.int .i64 a0_0, .int .i64 a0_1, .int .i64 a0_2, .slice A0_3 l0_3.length c0_3] co (plE (l0_3.length + 2) nn t out2) w') ∧ Aside0 (ArrAt w' gs 45 .u32 [s0, s1, s2, s3, s4, s5, s6, s7]))
      case atStart => exact ⟨0, rfl, ⟨Nat.zero_add _⟩, EN2, AR⟩
      case round =>
        clear EN2 AR
        obtain ⟨t, rfl, HT, EN2, AR⟩ := hrel
        cases gk with
        | zero =>
          have hd1 : decide ((t : Int) < (b : Int)) = false := decide_eq_false (by have := HT.out; omega)
          have hd2 : decide (t < b) = false := decide_eq_false (by have := HT.out; omega)
          go_wp2
          have et : t = b := by have := HT.out; omega
          subst et
          have EN3 : Aside0 (En w gp go #[.int .i64 a0_0, .int .i64 a0_1, .int .i64 a0_2, .slice A0_3 l0_3.length c0_3] co (sqE (l0_3.length + 2 + t) [s0, s1, s2, s3, s4, s5, s6, s7] 0 (plE (l0_3.length + 2) nn t out2)) wr) := EN2
          have L3 : Aside0 ((plE (l0_3.length + 2) nn t out2).length = n) := ⟨by rw [plE_length]; exact L2.out⟩
          clear EN2 hd1 hd2
          generalize hb3 : plE (l0_3.length + 2) nn t out2 = out3 at *
          have HB3 := Aside0.mk hb3
          clear hb3
          go_loopg [12] (2 * t) (fun kq v12 w' => ∃ u : Nat, v12 = .int .i64 (u : Int) ∧ Aside0 (u + kq = 2 * t) ∧ Aside0 (En w gp go #[.int .i64 a0_0, .int .i64 a0_1, .int .i64 a0_2, .slice A0_3 l0_3.length c0_3] co (sqE (l0_3.length + 2 + t) [s0, s1, s2, s3, s4, s5, s6, s7] u out3) w') ∧ Aside0 (ArrAt w' gs 45 .u32 [s0, s1, s2, s3, s4, s5, s6, s7]))
          case atStart => exact ⟨0, rfl, ⟨Nat.zero_add _⟩, EN3, AR⟩
          case round =>
            clear EN3 AR
            obtain ⟨u, rfl, HU, EN3, AR⟩ := hrel
            cases gk with
            | zero =>
              have hd1 : decide ((u : Int) < 2 * (t : Int)) = false := decide_eq_false (by have := HU.out; omega)
              have hd2 : decide (u < 2 * t) = false := decide_eq_false (by have := HU.out; omega)
              have HEQ : Aside0 (sqE (l0_3.length + 2 + t) [s0, s1, s2, s3, s4, s5, s6, s7] u out3 = o) := ⟨by
                have eu : u = 2 * t := by have := HU.out; omega
                rw [eu, ← HB3.out, ← HB2.out, ← HB1.out]
                exact HO.out⟩
              go_wp2
              go_roundg k1
              case measure => omega
              case rel => exact ⟨i + 1, o, by first | rfl | (rw [← EI.out]; done) | (rw [← EI.out]; rfl), ⟨by have := HI.out; omega⟩, ⟨by rw [← HEQ.out, sqE_length]; exact L3.out⟩, ⟨HREST.out⟩, ⟨by rw [← HEQ.out]; exact EN3.out⟩⟩
            | succ k3 =>
              have hd1 : decide ((u : Int) < 2 * (t : Int)) = true := decide_eq_true (by have := HU.out; omega)
              have hd2 : decide (u < 2 * t) = true := decide_eq_true (by have := HU.out; omega)
              have ub : u < 2 * t := by have := HU.out; omega
              have LT : Aside0 ((sqE (l0_3.length + 2 + t) [s0, s1, s2, s3, s4, s5, s6, s7] u out3).length = n) := ⟨by rw [sqE_length]; exact L3.out⟩
              have tn : l0_3.length + 2 + t + u < n := by have := OK.out; omega
              have u0 : 0 ≤ (u : Int) := Int.natCast_nonneg _
              have u1 : (u : Int) ≤ 128 := by have := OK.out; omega
              have ix0 : 0 ≤ (l0_3.length : Int) + 2 + (t : Int) + (u : Int) := by omega
              have ix1 : (l0_3.length : Int) + 2 + (t : Int) + (u : Int) < (n : Int) := by omega
              have iy0 : 0 ≤ (u : Int) / 16 := by omega
              have iy1 : (u : Int) / 16 < 8 := by have := OK.out; omega
              have iy2 : u / 16 < 8 := by have := OK.out; omega
              have iz0 : 0 ≤ (u : Int) % 16 := by omega
              have iz1 : (u : Int) % 16 ≤ 15 := by omega
              obtain ⟨ov3, hov3⟩ : ∃ v, v = (sqE (l0_3.length + 2 + t) [s0, s1, s2, s3, s4, s5, s6, s7] u out3).getD (l0_3.length + 2 + t + u) 0 := ⟨_, rfl⟩
              have hoc : wr.cell? ⟨go, l0_3.length + 2 + t + u, none⟩ = some (.int .u32 ov3) := by rw [hov3]; exact EN3.out.cell (by have := LT.out; omega)
              have OV3 := Aside0.mk hov3
              have hof := EN3.out.frozen (l0_3.length + 2 + t + u)
              obtain ⟨sv, hsv⟩ : ∃ v, v = [s0, s1, s2, s3, s4, s5, s6, s7].getD (u / 16) 0 := ⟨_, rfl⟩
              have hsc : wr.cell? ⟨gs, u / 16, none⟩ = some (.int .u32 sv) := by rw [hsv]; exact AR.out.get (u / 16) iy2
              have SV := Aside0.mk hsv
              clear hov3 hsv ub
              go_wp2
              have E1 : wrap64 ((l0_3.length : Int) + 2 + (t : Int)) = (l0_3.length : Int) + 2 + (t : Int) := by have := OK.out; unfold wrap64; omega
              have E2 : wrap64 ((l0_3.length : Int) + 2 + (t : Int) + (u : Int)) = (l0_3.length : Int) + 2 + (t : Int) + (u : Int) := by have := OK.out; unfold wrap64; omega
              have E3 : wrap64 ((u : Int) / 16) = (u : Int) / 16 := by unfold wrap64; omega
              have E4 : (u : Int).tmod 16 = ((u % 16 : Nat) : Int) := by rw [Int.tmod_eq_emod_of_nonneg u0]; rfl
              have E5 : IntKind.u64.wrap ((u % 16 : Nat) : Int) = ((u % 16 : Nat) : Int) := by rw [IntKind.wrap_u64]; omega
              have E6 : ((l0_3.length : Int) + 2 + (t : Int) + (u : Int)).toNat = l0_3.length + 2 + t + u := by omega
              have E7 : ((u : Int) / 16).toNat = u / 16 := by omega
              have iz2 : u % 16 ≤ 32 := by omega
              refine start_ (n := 20) (S := fun w' => w'.cell? ⟨go, l0_3.length + 2 + t + u, none⟩ = some (.int .u32 ov3) ∧ w'.cell? ⟨gs, u / 16, none⟩ = some (.int .u32 sv)) (ds := [19]) #[false, false, false, false, false, false, false, false, false, false, false, false, false, false, false, false, false, false, false, false] (by kernel_rfl) rfl rfl ⟨hoc, hsc⟩ (fun hHeld => ?_)
              refine pure_ (i := 0) (N := some 88) (v := ?_) (a' := ?_) #[true, false, false, false, false, false, false, false, false, false, false, false, false, false, false, false, false, false, false, false] rfl rfl (by kernel_rfl) (fun _ _ _ h => h) (Or.inl ⟨by rfl, ?_⟩) ?_ ?_
              rotate_left
              · intro w'
                go_simp
                with_reducible rfl
              rotate_left
              · simp only [Act.put, List.setIfInBounds_toArray, List.set_cons_zero, List.set_cons_succ, i64_w, i32_w]
                rfl
              refine pure_ (i := 1) (N := some 89) (v := ?_) (a' := ?_) #[true, true, false, false, false, false, false, false, false, false, false, false, false, false, false, false, false, false, false, false] rfl rfl (by kernel_rfl) (fun _ _ _ h => h) (Or.inl ⟨by rfl, ?_⟩) ?_ ?_
              rotate_left
              · intro w'
                go_simp
                with_reducible rfl
              rotate_left
              · simp only [Act.put, List.setIfInBounds_toArray, List.set_cons_zero, List.set_cons_succ, i64_w, i32_w]
                rfl
              refine pure_ (i := 2) (N := some 90) (v := ?_) (a' := ?_) #[true, true, true, false, false, false, false, false, false, false, false, false, false, false, false, false, false, false, false, false] rfl rfl (by kernel_rfl) (fun _ _ _ h => h) (Or.inl ⟨by rfl, ?_⟩) ?_ ?_
              rotate_left
              · intro w'
                go_simp
                with_reducible rfl
              rotate_left
              · simp only [Act.put, List.setIfInBounds_toArray, List.set_cons_zero, List.set_cons_succ, i64_w, i32_w]
                rfl
              refine pure_ (i := 3) (N := some 91) (v := ?_) (a' := ?_) #[true, true, true, true, false, false, false, false, false, false, false, false, false, false, false, false, false, false, false, false] rfl rfl (by kernel_rfl) (fun _ _ _ h => h) (Or.inl ⟨by rfl, ?_⟩) ?_ ?_
              rotate_left
              · intro w'
                go_simp
                with_reducible rfl
              rotate_left
              · simp only [Act.put, List.setIfInBounds_toArray, List.set_cons_zero, List.set_cons_succ, i64_w, i32_w]
                rfl
              refine pure_ (i := 4) (N := some 92) (v := ?_) (a' := ?_) #[true, true, true, true, true, false, false, false, false, false, false, false, false, false, false, false, false, false, false, false] rfl rfl (by kernel_rfl) (fun _ _ _ h => h) (Or.inl ⟨by rfl, ?_⟩) ?_ ?_
              rotate_left
              · intro w'
                go_simp
                with_reducible rfl
              rotate_left
              · simp only [Act.put, List.setIfInBounds_toArray, List.set_cons_zero, List.set_cons_succ, i64_w, i32_w]
                rfl
              refine pure_ (i := 5) (N := some 93) (v := ?_) (a' := ?_) #[true, true, true, true, true, true, false, false, false, false, false, false, false, false, false, false, false, false, false, false] rfl rfl (by kernel_rfl) (fun _ _ _ h => h) (Or.inl ⟨by rfl, ?_⟩) ?_ ?_
              rotate_left
              · intro w'
                go_simp
                with_reducible rfl
              rotate_left
              · simp only [Act.put, List.setIfInBounds_toArray, List.set_cons_zero, List.set_cons_succ, i64_w, i32_w]
                rfl
              refine pure_ (i := 6) (N := some 94) (v := ?_) (a' := ?_) #[true, true, true, true, true, true, true, false, false, false, false, false, false, false, false, false, false, false, false, false] rfl rfl (by kernel_rfl) (fun _ _ _ h => h) (Or.inl ⟨by rfl, ?_⟩) ?_ ?_
              rotate_left
              · intro w'
                go_simp
                with_reducible rfl
              rotate_left
              · simp only [Act.put, List.setIfInBounds_toArray, List.set_cons_zero, List.set_cons_succ, i64_w, i32_w]
                rfl
              refine pure_ (i := 8) (N := some 96) (v := ?_) (a' := ?_) #[true, true, true, true, true, true, true, false, true, false, false, false, false, false, false, false, false, false, false, false] rfl rfl (by kernel_rfl) (fun _ _ _ h => h) (Or.inl ⟨by rfl, ?_⟩) ?_ ?_
              rotate_left
              · intro w'
                go_simp
                with_reducible rfl
              rotate_left
              · simp only [Act.put, List.setIfInBounds_toArray, List.set_cons_zero, List.set_cons_succ, i64_w, i32_w]
                rfl
              refine pure_ (i := 9) (N := some 97) (v := ?_) (a' := ?_) #[true, true, true, true, true, true, true, false, true, true, false, false, false, false, false, false, false, false, false, false] rfl rfl (by kernel_rfl) (fun _ _ _ h => h) (Or.inl ⟨by rfl, ?_⟩) ?_ ?_
              rotate_left
              · intro w'
                go_simp
                with_reducible rfl
              rotate_left
              · simp only [Act.put, List.setIfInBounds_toArray, List.set_cons_zero, List.set_cons_succ, i64_w, i32_w]
                rfl
              refine pure_ (i := 10) (N := some 98) (v := ?_) (a' := ?_) #[true, true, true, true, true, true, true, false, true, true, true, false, false, false, false, false, false, false, false, false] rfl rfl (by kernel_rfl) (fun _ _ _ h => h) (Or.inl ⟨by rfl, ?_⟩) ?_ ?_
              rotate_left
              · intro w'
                go_simp
                with_reducible rfl
              rotate_left
              · simp only [Act.put, List.setIfInBounds_toArray, List.set_cons_zero, List.set_cons_succ, i64_w, i32_w]
                rfl
              refine pure_ (i := 12) (N := some 100) (v := ?_) (a' := ?_) #[true, true, true, true, true, true, true, false, true, true, true, false, true, false, false, false, false, false, false, false] rfl rfl (by kernel_rfl) (fun _ _ _ h => h) (Or.inl ⟨by rfl, ?_⟩) ?_ ?_
              rotate_left
              · intro w'
                go_simp
                with_reducible rfl
              rotate_left
              · simp only [Act.put, List.setIfInBounds_toArray, List.set_cons_zero, List.set_cons_succ, i64_w, i32_w]
                rfl
              refine pure_ (i := 13) (N := some 101) (v := ?_) (a' := ?_) #[true, true, true, true, true, true, true, false, true, true, true, false, true, true, false, false, false, false, false, false] rfl rfl (by kernel_rfl) (fun _ _ _ h => h) (Or.inl ⟨by rfl, ?_⟩) ?_ ?_
              rotate_left
              · intro w'
                go_simp
                with_reducible rfl
              rotate_left
              · simp only [Act.put, List.setIfInBounds_toArray, List.set_cons_zero, List.set_cons_succ, i64_w, i32_w]
                rfl
              refine pure_ (i := 14) (N := some 102) (v := ?_) (a' := ?_) #[true, true, true, true, true, true, true, false, true, true, true, false, true, true, true, false, false, false, false, false] rfl rfl (by kernel_rfl) (fun _ _ _ h => h) (Or.inl ⟨by rfl, ?_⟩) ?_ ?_
              rotate_left
              · intro w'
                go_simp
                with_reducible rfl
              rotate_left
              · simp only [Act.put, List.setIfInBounds_toArray, List.set_cons_zero, List.set_cons_succ, i64_w, i32_w]
                rfl
              refine take_ (i := 7) (N := some 95) (v := ?_) (a' := ?_) #[true, true, true, true, true, true, true, true, true, true, true, false, true, true, true, false, false, false, false, false] rfl rfl (by kernel_rfl) (fun _ _ _ h => h) (Or.inl ⟨by rfl, ?_⟩) hHeld ?_ ?_
              rotate_left
              · rintro w' ⟨s0, s1⟩
                go_simp
                with_reducible rfl
              rotate_left
              · simp only [Act.put, List.setIfInBounds_toArray, List.set_cons_zero, List.set_cons_succ, i64_w, i32_w]
                rfl
              refine take_ (i := 11) (N := some 99) (v := ?_) (a' := ?_) #[true, true, true, true, true, true, true, true, true, true, true, true, true, true, true, false, false, false, false, false] rfl rfl (by kernel_rfl) (fun _ _ _ h => h) (Or.inl ⟨by rfl, ?_⟩) hHeld ?_ ?_
              rotate_left
              · rintro w' ⟨s0, s1⟩
                go_simp
                with_reducible rfl
              rotate_left
              · simp only [Act.put, List.setIfInBounds_toArray, List.set_cons_zero, List.set_cons_succ, i64_w, i32_w]
                rfl
              refine pure_ (i := 15) (N := some 103) (v := ?_) (a' := ?_) #[true, true, true, true, true, true, true, true, true, true, true, true, true, true, true, true, false, false, false, false] rfl rfl (by kernel_rfl) (fun _ _ _ h => h) (Or.inl ⟨by rfl, ?_⟩) ?_ ?_
              rotate_left
              · intro w'
                go_simp
                with_reducible rfl
              rotate_left
              · simp only [Act.put, List.setIfInBounds_toArray, List.set_cons_zero, List.set_cons_succ, i64_w, i32_w]
                rfl
              refine pure_ (i := 16) (N := some 104) (v := ?_) (a' := ?_) #[true, true, true, true, true, true, true, true, true, true, true, true, true, true, true, true, true, false, false, false] rfl rfl (by kernel_rfl) (fun _ _ _ h => h) (Or.inl ⟨by rfl, ?_⟩) ?_ ?_
              rotate_left
              · intro w'
                go_simp
                with_reducible rfl
              rotate_left
              · simp only [Act.put, List.setIfInBounds_toArray, List.set_cons_zero, List.set_cons_succ, i64_w, i32_w]
                rfl
              refine pure_ (i := 17) (N := some 105) (v := ?_) (a' := ?_) #[true, true, true, true, true, true, true, true, true, true, true, true, true, true, true, true, true, true, false, false] rfl rfl (by kernel_rfl) (fun _ _ _ h => h) (Or.inl ⟨by rfl, ?_⟩) ?_ ?_
              rotate_left
              · intro w'
                go_simp
                with_reducible rfl
              rotate_left
              · simp only [Act.put, List.setIfInBounds_toArray, List.set_cons_zero, List.set_cons_succ, i64_w, i32_w]
                rfl
              refine pure_ (i := 18) (N := some 106) (v := ?_) (a' := ?_) #[true, true, true, true, true, true, true, true, true, true, true, true, true, true, true, true, true, true, true, false] rfl rfl (by kernel_rfl) (fun _ _ _ h => h) (Or.inl ⟨by rfl, ?_⟩) ?_ ?_
              rotate_left
              · intro w'
                go_simp
                with_reducible rfl
              rotate_left
              · simp only [Act.put, List.setIfInBounds_toArray, List.set_cons_zero, List.set_cons_succ, i64_w, i32_w]
                rfl
              refine last_ (i := 19) (N := none) #[true, true, true, true, true, true, true, true, true, true, true, true, true, true, true, true, true, true, true, true] rfl rfl (by kernel_rfl) (by decide) (fun K hK => ?_)
              refine skip_ (w1 := ?_) (by rfl) rfl ?_ ?_
              rotate_left
              · go_simp
                rfl
              refine hK.out _ _ ?_
              clear hK K
              refine done_ (by kernel_rfl) ?_
              clear E1 E2 E3 E4 E5 E6 E7
              refine wp_genE (fun W => En w gp go #[.int .i64 a0_0, .int .i64 a0_1, .int .i64 a0_2, .slice A0_3 l0_3.length c0_3] co (sqE (l0_3.length + 2 + t) [s0, s1, s2, s3, s4, s5, s6, s7] (u + 1) out3) W ∧ ArrAt W gs 45 .u32 [s0, s1, s2, s3, s4, s5, s6, s7]) ?_ ?_
              · rw [shE u sv ov3 (by rw [SV.out]; exact mulE AMul.out _ iy2)]
                refine ⟨?_, ArrAt.drew (arr_bump EN3.out AR.out _ _) 1⟩
                rw [show sqE (l0_3.length + 2 + t) [s0, s1, s2, s3, s4, s5, s6, s7] (u + 1) out3 = (sqE (l0_3.length + 2 + t) [s0, s1, s2, s3, s4, s5, s6, s7] u out3).set (l0_3.length + 2 + t + u) ((ov3 + sv / 2 ^ (u % 16) % 2) % 4294967296) by rw [OV3.out, SV.out]; rfl]
                exact (EN3.out.bump _ _).below (below_drew1 (Below.refl _ _))
              rintro w30 ⟨hE, hA⟩
              have EN4 := Aside0.mk hE
              have AR4 := Aside0.mk hA
              have EU := Aside0.mk (w64Es u (by have := OK.out; have := HU.out; omega))
              clear hE hA hoc hsc hof ix0 ix1 iy0 iy1 iy2 iz0 iz1 tn
              go_wp2
              go_roundg k3
              case measure => omega
              case rel => exact ⟨u + 1, by first | rfl | (rw [← EU.out]; done) | (rw [← EU.out]; rfl), ⟨by have := HU.out; omega⟩, EN4, AR4⟩
        | succ k2 =>
          have hd1 : decide ((t : Int) < (b : Int)) = true := decide_eq_true (by have := HT.out; omega)
          have hd2 : decide (t < b) = true := decide_eq_true (by have := HT.out; omega)
          have tb : t < b := by have := HT.out; omega
          have LT : Aside0 ((plE (l0_3.length + 2) nn t out2).length = n) := ⟨by rw [plE_length]; exact L2.out⟩
          have tn : l0_3.length + 2 + t < n := by have := OK.out; omega
          have nn0 : 0 ≤ nn := NB.out
          have t0 : 0 ≤ (t : Int) := Int.natCast_nonneg _
          have t1 : (t : Int) ≤ 64 := by have := OK.out; omega
          have ix0 : 0 ≤ (l0_3.length : Int) + 2 + (t : Int) := by omega
          have ix1 : (l0_3.length : Int) + 2 + (t : Int) < (n : Int) := by omega
          obtain ⟨ov2, hov2⟩ : ∃ v, v = (plE (l0_3.length + 2) nn t out2).getD (l0_3.length + 2 + t) 0 := ⟨_, rfl⟩
          have hoc : wr.cell? ⟨go, l0_3.length + 2 + t, none⟩ = some (.int .u32 ov2) := by rw [hov2]; exact EN2.out.cell (by have := LT.out; omega)
          have OV2 := Aside0.mk hov2
          have hof := EN2.out.frozen (l0_3.length + 2 + t)
          clear hov2 tb
          go_wp2
          have ET := Aside0.mk (w64Es t (by have := OK.out; have := HT.out; omega))
          go_roundg k2
          case measure => omega
          case rel => exact ⟨t + 1, by first | rfl | (rw [← ET.out]; done) | (rw [← ET.out]; rfl), ⟨by have := HT.out; omega⟩, ⟨by
            have h := EN2.out.bump (l0_3.length + 2 + t) ((ov2 + nn / 2 ^ t % 2) % 4294967296)
            rw [show plE (l0_3.length + 2) nn (t + 1) out2 = (plE (l0_3.length + 2) nn t out2).set (l0_3.length + 2 + t) ((ov2 + nn / 2 ^ t % 2) % 4294967296) by rw [OV2.out]; rfl, Int.tmod_eq_emod_of_nonneg (Int.ediv_nonneg NB.out (two_posE t))]
            exact h⟩, ⟨arr_bump EN2.out AR.out _ _⟩⟩

end Go.Proofs.Ytdpekjffjobabaa.PAll
