/- The Go functions that the laws reach, as Lean functions, and that each call comes to what its function says. Written by a program of this session (a turned copy of the kit's print). No condition beyond those that each theorem states. -/
import Derived.Test.YtjmfhlapjghipaaPAllx0
import Derived.Test.YtjmfhlapjghipaaPAllx1
import Derived.Test.YtjmfhlapjghipaaPAllx2
import Derived.Test.YtjmfhlapjghipaaPAllx3
import Derived.Test.YtjmfhlapjghipaaPAllx4
import Derived.Test.YtjmfhlapjghipaaPAllx5
namespace Go.Proofs.Ytjmfhlapjghipaa.PAll
open Go.RowKit Go.Proofs.YtjmfhlapjghipaaW.PrintWords Go.Proofs.YtjmfhlapjghipaaW.PrintLast Go.Proofs.YtjmfhlapjghipaaW.PrintMore
attribute [local go_sem] max2_int min2_int max_two min_two max_three min_three max_four min_four   -- for this text's walks alone
set_option linter.unusedVariables false
set_option linter.unusedSimpArgs false

/-! ### offertorylaw19_BellPlays: function 3 -/
/-! ### BellPlays -/
structure S28 where
  f0 : Int
  f1 : Int
  f2 : Int
def z28 : S28 := ⟨(0 : Int), (0 : Int), (0 : Int)⟩
def k28 : Kd S28 := Kd.iso (Kd.pair (Kd.int .i64) (Kd.pair (Kd.int .i64) (Kd.int .i64))) (fun x : S28 => (x.f0, (x.f1, x.f2)))
theorem k28_open {w : World} {x : S28} {cs : List Value} (h : k28.K w x cs) : cs = [.int .i64 x.f0, .int .i64 x.f1, .int .i64 x.f2] := by
  obtain ⟨_, _, rfl, rfl, ⟨_, _, rfl, rfl, rfl⟩⟩ := h
  exact rfl
def rd_T28 (xs : List S28) (i : Int) : S28 := xs.getD i.toNat z28
theorem at_T28 {w : World} {A : Option Addr} {n : Nat} {xs : List S28} (h : Kd.C k28 w A n xs) (i : Int) (h0 : 0 ≤ i) (h1 : i < n) : ∃ ad , A = some ad ∧ w.cell? (ad.add (i.toNat * 3)) = some (.int .i64 (rd_T28 xs i).f0) ∧ w.cell? ⟨(ad.add (i.toNat * 3)).block, (ad.add (i.toNat * 3)).off + 1, none⟩ = some (.int .i64 (rd_T28 xs i).f1) ∧ w.cell? ⟨(ad.add (i.toNat * 3)).block, (ad.add (i.toNat * 3)).off + 2, none⟩ = some (.int .i64 (rd_T28 xs i).f2) := by
  obtain ⟨ad, c, e, _, hK, hc0⟩ := Kd.C_get h z28 i h0 h1
  have hc : ∀ j u, c[j]? = some u → w.cell? (ad.add (i.toNat * 3 + j)) = some u := hc0
  obtain rfl := k28_open hK
  exact ⟨ad, e, hc 0 _ rfl, by rw [← add_field _ _ 1 (by omega)]; exact hc 1 _ rfl, by rw [← add_field _ _ 2 (by omega)]; exact hc 2 _ rfl⟩
theorem row_frl {b base : Nat} {ok : Nat → Prop} {W W' : World} {v : Value} {ms : List S30} (h : k30.R 30 W base ok v ms) (hF : FrL b W W') : k30.R 30 W' base ok v ms :=
  Kd.R_reok rfl (Kd.R_step (Kd.R_tight rfl h) (fun k hk _ => by
    obtain ⟨cells, hc⟩ := Kd.R_typed h k hk.symm
    rw [hF.kp k _ _ _ hc (by decide) (by decide) (by decide), hc])) (fun k hk => h.1 k hk)
/-- What holds at each point of a round: the bell, the marks, the step. -/
structure Pl (w : World) (g gx : Nat) (st : S28) (W : World) (l : List El) (m mk : Int → Option Int) (ms : List S30) (v : Value) (i : Nat) : Prop where
  be : BeX w.heap.size W g l
  hm : HasM l m
  hk : HasK ms mk
  l1 : l.length ≤ i
  l2 : ms.length ≤ i
  bw : Below w.heap.size w W
  row : k30.R 30 W w.heap.size (fun _ => True) v ms
  box : W.heap[gx]? = some (.cells #[.int .i64 st.f0, .int .i64 st.f1, .int .i64 st.f2] 28 (0, 0))
theorem info30 : (Try.prog.info? 30).map (fun i => (i.zero, i.size, i.bytes)) = some (some (.agg #[.int .i64 0, .int .i64 0]), 2, 16) := by kernel_rfl
theorem cell_below {W W' : World} {p : Addr} {u : Value} (h : W.cell? p = some u) (hb : Below W.heap.size W W') : W'.cell? p = some u := by
  have := hb.block p.block (World.block_lt_of_cell? W _ h)
  simpa [World.cell?, this] using h
theorem grown_kept {W W1 : World} {row : Option Nat} (hg : W.grownBy W1 row) (ht : ∀ k, row = some k → ∃ cells, W.heap[k]? = some (.cells cells 30 (0, 0))) {j : Nat} {o : Obj} (hj : W.heap[j]? = some o) (hn : ∀ cells, o ≠ .cells cells 30 (0, 0)) : W1.heap[j]? = some o := by
  rw [hg.block j (blk_lt hj) (fun e => ?_)]
  · exact hj
  · obtain ⟨cells, hc⟩ := ht j e.symm
    rw [hj] at hc
    exact hn cells (Option.some.inj hc)
theorem Be.keepO {b : Nat} {W W' : World} {g mb : Nat} {A : Option Addr} {c : Nat} {l : List El} (h : Be b W g mb A c l) (hk : ∀ (j : Nat) (o : Obj), W.heap[j]? = some o → (∀ cells, o ≠ .cells cells 30 (0, 0)) → W'.heap[j]? = some o) : Be b W' g mb A c l :=
  ⟨hk _ _ h.hg (fun _ e => by injection e with _ e; exact absurd e (by decide)), h.bg, h.bm,
    ⟨⟨h.mo.row.1, h.mo.row.2.imp id (fun ⟨g, cap, cur, e, hb, hh, r⟩ => ⟨g, cap, cur, e, hb, hk _ _ hh (fun _ e => by injection e with _ e; exact absurd e (by decide)), r⟩)⟩,
      fun x e hx => ⟨hk _ _ (h.mo.mom x e hx).1 (fun _ e => by injection e with _ e; exact absurd e (by decide)), (h.mo.mom x e hx).2⟩, h.mo.nd⟩,
    (by obtain ⟨es, ck, ks, h1, h2⟩ := h.mp; exact ⟨es, ck, ks, hk _ _ h1 (fun _ e => by cases e), h2⟩), h.who, h.hp⟩
theorem apart_step {v v1 u : Value} {W : World} (h : ∀ k, v.ownBlock = some k → some k ≠ u.ownBlock) (hat : v1.ownBlock = v.ownBlock ∨ ∃ b, v1.ownBlock = some b ∧ W.heap.size ≤ b) (hu : ∀ k, u.ownBlock = some k → k < W.heap.size) : ∀ k, v1.ownBlock = some k → some k ≠ u.ownBlock := by
  rcases hat with hat | ⟨b, hb, hle⟩
  · rw [hat]; exact h
  · intro k hk e
    rw [hb] at hk
    obtain rfl := Option.some.inj hk
    have := hu b e.symm
    omega
section
variable {w : World} {g gx : Nat} {st : S28} {W W' : World} {l : List El} {m mk : Int → Option Int} {ms : List S30} {v : Value} {i : Nat}
theorem Pl.below (h : Pl w g gx st W l m mk ms v i) (hb : Below W.heap.size W W') : Pl w g gx st W' l m mk ms v i :=
  ⟨h.be.below hb, h.hm, h.hk, h.l1, h.l2, below_step h.bw hb, Kd.R_below h.row hb, blk_below h.box hb⟩
theorem Pl.c0 (h : Pl w g gx st W l m mk ms v i) : W.cell? ⟨gx, 0, none⟩ = some (.int .i64 st.f0) := (blk_cell h.box 0).trans rfl
theorem Pl.c1 (h : Pl w g gx st W l m mk ms v i) : W.cell? ⟨gx, 1, none⟩ = some (.int .i64 st.f1) := (blk_cell h.box 1).trans rfl
theorem Pl.c2 (h : Pl w g gx st W l m mk ms v i) : W.cell? ⟨gx, 2, none⟩ = some (.int .i64 st.f2) := (blk_cell h.box 2).trans rfl
theorem Pl.start {wc wb : World} (h : BeX w.heap.size wc g l ∧ HasM l m ∧ HasK ms m ∧ l.length ≤ i ∧ ms.length ≤ i ∧ Below w.heap.size w wc) (hr : k30.R 30 wc w.heap.size (fun _ => True) v ms)
    (hx : wb.heap[gx]? = some (.cells #[.int .i64 0, .int .i64 0, .int .i64 0] 28 (0, 0))) (hg : w.heap.size ≤ gx) (hb : Below wc.heap.size wc wb) :
    Pl w g gx st (((wb.setCell ⟨gx, 0, none⟩ (.int .i64 st.f0)).setCell ⟨gx, 1, none⟩ (.int .i64 st.f1)).setCell ⟨gx, 2, none⟩ (.int .i64 st.f2)) l m m ms v i := by
  have k1 := blk_set hx 0 (.int .i64 st.f0)
  have k2 := blk_set k1 1 (.int .i64 st.f1)
  have k3 := blk_set k2 2 (.int .i64 st.f2)
  exact ⟨(((h.1.below hb).far hx (by decide) (by decide) (by decide) _ _).far k1 (by decide) (by decide) (by decide) _ _).far k2 (by decide) (by decide) (by decide) _ _, h.2.1, h.2.2.1, h.2.2.2.1, h.2.2.2.2.1,
    (((below_step h.2.2.2.2.2 hb).setCell hg _).setCell hg _).setCell hg _,
    Kd.R_set (Kd.R_set (Kd.R_set (Kd.R_below hr hb) hx (by decide) _ _) k1 (by decide) _ _) k2 (by decide) _ _, k3⟩
theorem Pl.up (h : Pl w g gx st W l m mk ms v i) : Pl w g gx st W l m mk ms v (i + 1) := ⟨h.be, h.hm, h.hk, Nat.le_succ_of_le h.l1, Nat.le_succ_of_le h.l2, h.bw, h.row, h.box⟩
/-- Behind a call of the bell's. -/
theorem Pl.call {l' : List El} {m' : Int → Option Int} (h : Pl w g gx st W l m mk ms v i) (hX : BeX w.heap.size W' g l') (hM : HasM l' m') (hL : l'.length ≤ l.length + 1) (hF : FrL w.heap.size W W') : Pl w g gx st W' l' m' mk ms v (i + 1) :=
  ⟨hX, hM, h.hk, by have := h.l1; omega, by have := h.l2; omega, h.bw.trans hF.hb, row_frl h.row hF, hF.kp _ _ _ _ h.box (by decide) (by decide) (by decide)⟩
/-- Another row of marks grows. -/
theorem Pl.grown {row : Option Nat} (h : Pl w g gx st W l m mk ms v i) (hg : W.grownBy W' row) (ht : ∀ k, row = some k → ∃ cells, W.heap[k]? = some (.cells cells 30 (0, 0))) (hne : ∀ k, row = some k → some k ≠ v.ownBlock) (hB : Below w.heap.size w W') : Pl w g gx st W' l m mk ms v i :=
  ⟨(by obtain ⟨mb, A, c, hx⟩ := h.be; exact ⟨mb, A, c, hx.keepO (fun j o hj hn => grown_kept hg ht hj hn)⟩), h.hm, h.hk, h.l1, h.l2, hB, Kd.R_grown2 h.row rfl hg hne, grown_kept hg ht h.box (fun _ e => by injection e with _ e; exact absurd e (by decide))⟩
/-- The row of marks is another one. -/
theorem Pl.rowed {row : Option Nat} {mk' : Int → Option Int} {ms' : List S30} {v' : Value} (h : Pl w g gx st W l m mk ms v i) (hg : W.grownBy W' row) (ht : ∀ k, row = some k → ∃ cells, W.heap[k]? = some (.cells cells 30 (0, 0))) (hB : Below w.heap.size w W') (hr : k30.R 30 W' w.heap.size (fun _ => True) v' ms') (hk : HasK ms' mk') (hl : ms'.length ≤ i) : Pl w g gx st W' l m mk' ms' v' i :=
  ⟨(by obtain ⟨mb, A, c, hx⟩ := h.be; exact ⟨mb, A, c, hx.keepO (fun j o hj hn => grown_kept hg ht hj hn)⟩), h.hm, hk, h.l1, hl, hB, hr, grown_kept hg ht h.box (fun _ e => by injection e with _ e; exact absurd e (by decide))⟩
/-- The place of who among the first j marks, or -1. -/
def KI (ms : List S30) (who : Int) (j : Nat) (k : Int) : Prop := (k = -1 ∧ ∀ i : Nat, (hi : i < ms.length) → i < j → ms[i].f0 ≠ who) ∨ ∃ r : Nat, ∃ hr : r < ms.length, k = (r : Int) ∧ ms[r].f0 = who
theorem KI.start (ms : List S30) (who : Int) : KI ms who 0 (-1) := Or.inl ⟨rfl, fun _ _ h => absurd h (Nat.not_lt_zero _)⟩
theorem KI.hit {ms : List S30} {who : Int} {j : Nat} (hj : j < ms.length) (h : (rd_T30 ms (j : Int)).f0 = who) : KI ms who (j + 1) (j : Int) := Or.inr ⟨j, hj, rfl, by
  have e : rd_T30 ms (j : Int) = ms[j] := by show ms.getD j z30 = _; simp [List.getD, hj]
  rw [← e]; exact h⟩
theorem KI.miss {ms : List S30} {who : Int} {j : Nat} {k : Int} (hj : j < ms.length) (h : (rd_T30 ms (j : Int)).f0 ≠ who) (hk : KI ms who j k) : KI ms who (j + 1) k := by
  rcases hk with ⟨e, h1⟩ | h1
  · refine Or.inl ⟨e, fun i hi hij => ?_⟩
    by_cases c : i = j
    · subst c
      have e : rd_T30 ms (i : Int) = ms[i] := by show ms.getD i z30 = _; simp [List.getD, hi]
      rw [← e]; exact h
    · exact h1 i hi (by omega)
  · exact Or.inr h1
end
theorem add_0 (g n : Nat) : (⟨g, 0, none⟩ : Addr).add n = ⟨g, n, none⟩ := by
  cases n <;> simp [Addr.add]
theorem HasK.set' {ms : List S30} {m : Int → Option Int} {who : Int} {k : Nat} (h : HasK ms m) (hk : ∃ hk : k < ms.length, ms[k].f0 = who) (at_ : Int) : HasK (ms.set k ⟨who, at_⟩) (updM m who (some at_)) := by
  obtain ⟨hk, rfl⟩ := hk
  exact h.set hk at_
theorem HasK.del' {ms : List S30} {m : Int → Option Int} {who : Int} {k : Nat} (h : HasK ms m) (hk : ∃ hk : k < ms.length, ms[k].f0 = who) : HasK ([] ++ ms.take k ++ ms.drop (k + 1)) (updM m who none) := by
  obtain ⟨hk, rfl⟩ := hk
  exact h.del hk
theorem del_len {ms : List S30} {k n : Nat} (hk : k < ms.length) (hn : ms.length ≤ n) : ([] ++ ms.take k ++ ms.drop (k + 1)).length ≤ n := by
  rw [List.nil_append, List.length_append, List.length_take, List.length_drop]
  omega
theorem row_store {W : World} {b gb cb r : Nat} {ok : Nat → Prop} {ms : List S30} {who : Int} (h : k30.R 30 W b ok (.slice (some ⟨gb, 0, none⟩) ms.length cb) ms) (hr : ∃ hr : r < ms.length, ms[r].f0 = who) (x : Int) :
    (∃ u, W.cell? ⟨gb, r * 2 + 1, none⟩ = some u) ∧ W.frozen? ⟨gb, r * 2 + 1, none⟩ = false ∧ k30.R 30 (W.setCell ⟨gb, r * 2 + 1, none⟩ (.int .i64 x)) b ok (.slice (some ⟨gb, 0, none⟩) ms.length cb) (ms.set r ⟨who, x⟩) ∧ W.grownBy (W.setCell ⟨gb, r * 2 + 1, none⟩ (.int .i64 x)) (some gb) := by
  obtain ⟨hr, rfl⟩ := hr
  obtain ⟨cells, hc⟩ := Kd.R_typed h gb rfl
  have e : ms.getD (r : Int).toNat z30 = ms[r] := by simp [List.getD, hr]
  obtain ⟨c, hcl, hcm, hcc⟩ := Kd.R_get h z30 (r : Int) (by omega) (by omega)
  rw [e] at hcm
  obtain ⟨_, _, rfl, rfl, rfl⟩ := hcm
  have hcc' : ∀ j u, ([Value.int .i64 ms[r].f0] ++ [Value.int .i64 ms[r].f1])[j]? = some u → W.cell? ⟨gb, (r : Int).toNat * k30.sz + j, none⟩ = some u := fun j u hu => by
    have := hcc j u hu
    rwa [add_0] at this
  have k := Kd.R_seg (okp := fun _ => False) h (r : Int) (by omega) (by omega) hcl hcc' (seg := [.int .i64 x]) (j := 1) (by show 2 ≤ 2; exact Nat.le_refl 2) (x' := ⟨ms[r].f0, x⟩) ⟨[.int .i64 ms[r].f0], [.int .i64 x], rfl, rfl, rfl⟩ (fun _ h => h.elim)
  exact ⟨⟨_, hcc' 1 _ rfl⟩, blk_frozen hc _, k.1, k.2⟩
theorem row_cells {W : World} {b gb cb r : Nat} {ok : Nat → Prop} {ms : List S30} {y x : Int} (h : k30.R 30 W b ok (.slice (some ⟨gb, 0, none⟩) ms.length cb) ms) (hr : ∃ hr : r < ms.length, ms[r].f0 = y ∧ ms[r].f1 = x) :
    W.cell? ⟨gb, r * 2, none⟩ = some (.int .i64 y) ∧ W.cell? ⟨gb, r * 2 + 1, none⟩ = some (.int .i64 x) := by
  obtain ⟨hr, rfl, rfl⟩ := hr
  have e : rd_T30 ms (r : Int) = ms[r] := by show ms.getD r z30 = _; simp [List.getD, hr]
  obtain ⟨ad, ea, h0, h1⟩ := at_T30 (Kd.R_reads' h).2.2 (r : Int) (by omega) (by omega)
  cases ea
  rw [e, Int.toNat_natCast, add_0] at h0 h1
  exact ⟨h0, h1⟩
def offertorylaw19_BellPlays.f (l0 : List S28) : Option Bool := if l0.length ≤ 4611686018427387904 then some true else none
set_option maxHeartbeats 8000000 in
set_option maxRecDepth 100000 in
theorem offertorylaw19_BellPlays.calls (A0 : Option Addr) (c0 : Nat) (l0 : List (S28)) (r : Bool) (w : World) (hr0 : Kd.C k28 w A0 l0.length l0) (hc0 : l0.length ≤ c0) (h : offertorylaw19_BellPlays.f l0 = some r) :
    Calls Try.prog 3 #[.slice A0 l0.length c0] w fun e w' => e = .returned (.bool r) ∧ Below w.heap.size w w' := by
  unfold offertorylaw19_BellPlays.f at h
  split at h
  case isFalse => cases h
  rename_i hb
  obtain rfl := Option.some.inj h
  have HR := Aside0.mk hr0
  have HLL := Aside0.mk hb
  obtain ⟨N, eN⟩ : ∃ n, n = min l0.length 80 := ⟨_, rfl⟩
  have HN : Aside0 (N ≤ 80 ∧ N ≤ l0.length ∧ (N = 80 ∨ N = l0.length)) := ⟨by omega⟩
  clear h hb hr0 hc0 eN
  go_enter Try.func3, Try.ntmps3
  go_upto_region 2 with (first | (go_at_call 7; (with_reducible refine (new_w w.heap.size w (Nat.le_refl _)).mono ?_); rintro e w1 ⟨g, rfl, hX, hB⟩; have HX := Aside0.mk hX; have HB := Aside0.mk hB; clear hX hB))
  go_upto_region 4 with (first | (go_at_call 8; (with_reducible refine (awake_w _).mono ?_); rintro e w2 ⟨rfl, hb⟩; have HX1 := Aside0.mk (HX.out.below hb); have HB1 := Aside0.mk (below_step HB.out hb); clear hb HX HB))
  go_upto_region 5 with (first | ((with_reducible refine gate_dst (N := 24) rfl ?_); (try (refine gate_guard (by rfl) ?_; dsimp only)); refine Kd.R_lit k30 _ 30 ?hg (N := 24) ?hd (xs := ([] : List S30)) (inner := []) (ok := fun _ => True) (okp := fun _ => True) ?hr ?hp (fun _ hk => hk) trivial (Below.refl _ _) (Nat.le_refl _) (by simp) ?_; (case hd => rfl); (case hg => rfl); (case hr => first | (go_simp; done) | (go_simp; rfl)); (case hp => exact (Reps.none _ _)); intro v24 w3 ho hb hg_ hnew_; clear hg_ hnew_; obtain ⟨A4, c4, rfl⟩ := Kd.R_slice ho; have HO4 := Aside0.mk (Kd.R_lower ho (below_size HB1.out)); have HX2 := Aside0.mk (HX1.out.below hb); have HB2 := Aside0.mk (below_step HB1.out hb); clear HX1 HB1 ho hb))
  go_wp2_with fail
  go_loopg [4, 5] N (fun kq v4 v5 W => ∃ (i : Nat) (l : List El) (ms : List S30) (m : Int → Option Int) (A4 : Option Addr) (c4 : Nat), v4 = .slice A4 ms.length c4 ∧ v5 = .int .i64 (i : Int) ∧ Aside0 (i + kq = N) ∧ Aside0 (BeX w.heap.size W g l ∧ HasM l m ∧ HasK ms m ∧ l.length ≤ i ∧ ms.length ≤ i ∧ Below w.heap.size w W) ∧ Aside0 (k30.R 30 W w.heap.size (fun _ => True) (.slice A4 ms.length c4) ms))
  case atStart => exact ⟨0, [], [], fun _ => none, A4, c4, rfl, rfl, ⟨Nat.zero_add _⟩, ⟨HX2.out, hasM_nil, hasK_nil, Nat.le_refl _, Nat.le_refl _, HB2.out⟩, HO4⟩
  case round =>
    clear HX2 HB2 HO4
    obtain ⟨i, l, ms, m, A4, c4, rfl, rfl, HI, HS, HO⟩ := hrel
    go_upto_region 6 with fail
    go_cut [32] (fun v32 wc => v32 = .bool (decide (i < N)) ∧ wc = wr)
    case first =>
      by_cases h1 : i < l0.length
      · have d1 : decide ((i : Int) < (l0.length : Int)) = true := decide_eq_true (by omega)
        have d1n : decide (i < l0.length) = true := decide_eq_true h1
        have e : decide ((i : Int) < 80) = decide (i < N) := by
          by_cases h2 : i < N
          · rw [decide_eq_true h2]; exact decide_eq_true (by have := HN.out; omega)
          · rw [decide_eq_false h2]; exact decide_eq_false (by have := HN.out; have := HI.out; omega)
        have E := Aside0.mk e
        clear e h1
        go_wp2
        go_meet
        case rel => exact ⟨by first | rw [E.out] | (rw [← E.out]), rfl⟩
      · have d1 : decide ((i : Int) < (l0.length : Int)) = false := decide_eq_false (by omega)
        have d1n : decide (i < l0.length) = false := decide_eq_false h1
        have e : decide (i < N) = false := decide_eq_false (by have := HN.out; omega)
        have E := Aside0.mk e
        clear e h1
        go_wp2
        go_meet
        case rel => exact ⟨by rw [E.out], rfl⟩
    case rest =>
      obtain ⟨rfl, rfl⟩ := hcut
      by_cases hi : i < N
      · rw [decide_eq_true hi]
        obtain ⟨k1, rfl⟩ : ∃ k1, gk = k1 + 1 := ⟨gk - 1, by have := HI.out; omega⟩
        obtain ⟨ad, ead, hs0, hs1, hs2⟩ := at_T28 (Kd.C_below HR.out HS.out.2.2.2.2.2) (i : Int) (by omega) (by have := HN.out; omega)
        cases ead
        generalize rd_T28 l0 (i : Int) = st at hs0 hs1 hs2
        obtain ⟨what, who, at_⟩ := st
        dsimp only at hs0 hs1 hs2
        rw [Int.toNat_natCast] at hs0 hs1 hs2
        have q1 : (0 ≤ (i : Int)) = True := eq_true (by omega)
        have q2 : ((i : Int) < (l0.length : Int)) = True := eq_true (by have := HN.out; omega)
        have q2n : (i < l0.length) = True := eq_true (by have := HN.out; omega)
        have HII := Aside0.mk hi
        clear hi
        go_upto_region 9 with (first | ((with_reducible refine gate_dst (N := 6) rfl ?_); (try (refine gate_guard (by rfl) ?_; dsimp only)); refine box_event ?hg (N := 6) ?hd (cs := #[.int .i64 0, .int .i64 0, .int .i64 0]) (t := 28) ?hr ?_; (case hd => rfl); (case hg => rfl); (case hr => first | (go_simp; done) | (go_simp; rfl)); intro gx hgx wb hbox hb; have HBX := Aside0.mk (And.intro hgx (And.intro hbox hb)); have b0 : wb.cell? ⟨gx, 0, none⟩ = some (.int .i64 0) := (blk_cell hbox 0).trans rfl; have b1 : wb.cell? ⟨gx, 1, none⟩ = some (.int .i64 0) := (blk_cell hbox 1).trans rfl; have b2 : wb.cell? ⟨gx, 2, none⟩ = some (.int .i64 0) := (blk_cell hbox 2).trans rfl; have f0 := blk_frozen hbox 0; have f1 := blk_frozen hbox 1; have f2 := blk_frozen hbox 2; clear hgx hbox hb))
        refine code_gen (fun W => Pl w g gx ⟨what, who, at_⟩ W l m m ms (.slice A4 ms.length c4) i) (Pl.start HS.out HO.out HBX.out.2.1 ?_ HBX.out.2.2) ?_
        · have := HBX.out.1; have := HS.out.2.2.2.2.2.size; omega
        clear HBX b0 b1 b2 f0 f1 f2 HS HO
        intro W hP
        have HP := Aside0.mk hP
        clear hP
        go_upto_region 11 with fail
        go_loopg [7, 8] ms.length (fun kq v7 v8 W' => ∃ (j : Nat) (k : Int), v7 = .int .i64 k ∧ v8 = .int .i64 (j : Int) ∧ Aside0 (j + kq = ms.length) ∧ Aside0 (KI ms who j k) ∧ Aside0 (Pl w g gx ⟨what, who, at_⟩ W' l m m ms (.slice A4 ms.length c4) i))
        case atStart => exact ⟨0, -1, rfl, rfl, ⟨Nat.zero_add _⟩, ⟨KI.start ms who⟩, HP⟩
        case round =>
          clear HP
          obtain ⟨j, k, rfl, rfl, HJ, HK, HP⟩ := hrel
          by_cases gz : gk = 0
          · subst gz
            obtain rfl : j = ms.length := by have := HJ.out; omega
            have d1 : decide ((ms.length : Int) < (ms.length : Int)) = false := by simp
            have d1n : decide (ms.length < ms.length) = false := by simp
            go_upto_region 15 with fail
            have s0 := HP.out.c0
            dsimp only at s0
            go_cut [55] (fun v55 wc => v55 = .int .i64 what ∧ wc = wr)
            case first =>
              go_wp2
              go_meet
              case rel => exact ⟨rfl, rfl⟩
            case rest =>
              obtain ⟨rfl, rfl⟩ := hcut
              clear d1 d1n HJ s0
              go_step
              go_cut [4] (fun v4 Wc => ∃ (l2 : List El) (m2 : Int → Option Int) (ms2 : List S30) (A2 : Option Addr) (c2 : Nat), v4 = .slice A2 ms2.length c2 ∧ Aside0 (Pl w g gx ⟨what, who, at_⟩ Wc l2 m2 m2 ms2 (.slice A2 ms2.length c2) (i + 1)))
              case first =>
                by_cases w0 : what = 0
                · subst w0
                  have s2 := HP.out.c2
                  have s1 := HP.out.c1
                  dsimp only at s1 s2
                  by_cases hf : 0 ≤ at_ ∧ at_ ≤ 1099511627776
                  · obtain ⟨h0, h1⟩ := hf
                    rcases HK.out with ⟨rfl, hno⟩ | ⟨r, hr, rfl, hwho⟩
                    · as_aux_lemma =>
                        have HN0 : Aside0 (m who = none) := ⟨HP.out.hk.noone (fun i hi => hno i hi hi)⟩
                        have HAT : Aside0 (0 ≤ at_ ∧ at_ ≤ 1099511627776) := ⟨h0, h1⟩
                        have d1 : decide (0 ≤ at_) = true := decide_eq_true h0
                        have d2 : decide (at_ ≤ 1099511627776) = true := decide_eq_true h1
                        have HL2 : Aside0 (ms.length ≤ i) := ⟨HP.out.l2⟩
                        obtain ⟨ms1, ems1⟩ : ∃ x, x = ms ++ [(⟨who, at_⟩ : S30)] := ⟨_, rfl⟩
                        have HMS := Aside0.mk ems1
                        clear hno h0 h1 ems1
                        go_wp2_with (first | (go_at_call 9; (with_reducible refine (set_w HP.out.be HP.out.hm who at_ HAT.out.1 HAT.out.2 (by have := HP.out.l1; have := HII.out; have := HN.out; omega)).mono ?_); rintro e w5 ⟨rfl, l5, hX, hM, hL, hF⟩; have HP5 := Aside0.mk (HP.out.call hX hM hL hF); have s1 := HP5.out.c1; have s2 := HP5.out.c2; dsimp only at s1 s2; clear hX hM hL hF) | ((with_reducible refine gate_builtin (b := .append) (xs := #[.tmp 87, .tmp 93]) rfl ?_); (try (refine gate_guard (by rfl) ?_; dsimp only)); at_builtin; refine Kd.R_append k30 (w0 := w) w.heap.size rfl (.tmp 87) (.tmp 93) 26 30 (.agg #[.int .i64 0, .int .i64 0]) 16 rfl Try.underlying26 info30 rfl (by decide) (by omega) (.slice A4 ms.length c4) ms ⟨who, at_⟩ [.int .i64 who, .int .i64 at_] (fun _ => True) (fun _ => False) rfl rfl ?aP (fun _ hk => hk.elim) ?aF ?aO ?aB ?aS ?aL ?_; (case aP => exact ⟨_, _, rfl, rfl, rfl⟩); (case aB => exact HP5.out.bw); (case aF => exact (fun _ _ => trivial)); (case aO => exact HP5.out.row); (case aS => exact below_size HP5.out.bw); (case aL => have := HL2.out; have := HII.out; have := HN.out; omega); intro v6 w6 ho hb hg hat; rw [← HMS.out] at ho; obtain ⟨A6, c6, rfl⟩ := Kd.R_slice ho; have HP6 := Aside0.mk (HP5.out.rowed hg (Kd.R_typed HP5.out.row) hb ho (by rw [HMS.out]; exact HP5.out.hk.add who at_ HN0.out) (by rw [HMS.out, List.length_append]; exact Nat.add_le_add_right HL2.out 1)); clear ho hb hg hat))
                        go_meet
                        case rel => exact ⟨l5, _, ms1, A6, c6, rfl, HP6⟩
                    · as_aux_lemma =>
                        have HAT : Aside0 (0 ≤ at_ ∧ at_ ≤ 1099511627776) := ⟨h0, h1⟩
                        have d1 : decide (0 ≤ at_) = true := decide_eq_true h0
                        have d2 : decide (at_ ≤ 1099511627776) = true := decide_eq_true h1
                        have q1 : (0 ≤ (r : Int)) = True := eq_true (by omega)
                        have e1 : decide (0 ≤ (r : Int)) = true := decide_eq_true (by omega)
                        have q2 : ((r : Int) < (ms.length : Int)) = True := eq_true (by omega)
                        have q2n : (r < ms.length) = True := eq_true hr
                        obtain ⟨gb, cb, ev, hgb, _, _⟩ := Kd.R_form HP.out.row (by omega)
                        injection ev with ev1 _ ev3
                        subst ev1 ev3
                        obtain ⟨ms1, ems1⟩ : ∃ x, x = ms.set r (⟨who, at_⟩ : S30) := ⟨_, rfl⟩
                        have hml : ms.length = ms1.length := by rw [ems1, List.length_set]
                        have HMS := Aside0.mk (And.intro ems1 hml)
                        have HRW : Aside0 (∃ hr : r < ms.length, ms[r].f0 = who) := ⟨hr, hwho⟩
                        have HL2 : Aside0 (ms.length ≤ i) := ⟨HP.out.l2⟩
                        clear h0 h1 ems1 hwho hgb hml hr
                        go_upto_region 20 with (first | (go_at_call 9; (with_reducible refine (set_w HP.out.be HP.out.hm who at_ HAT.out.1 HAT.out.2 (by have := HP.out.l1; have := HII.out; have := HN.out; omega)).mono ?_); rintro e w5 ⟨rfl, l5, hX, hM, hL, hF⟩; have HP5 := Aside0.mk (HP.out.call hX hM hL hF); have s1 := HP5.out.c1; have s2 := HP5.out.c2; dsimp only at s1 s2; clear hX hM hL hF))
                        obtain ⟨⟨z0, z1⟩, z2, z3, z4⟩ := row_store HP5.out.row HRW.out at_
                        have HZ := Aside0.mk (And.intro z3 z4)
                        clear z3 z4
                        go_wp2
                        go_meet
                        case rel => exact ⟨l5, _, ms1, some ⟨gb, 0, none⟩, c4, by rw [← HMS.out.2], ⟨by
                          have k := HP5.out.rowed HZ.out.2 (Kd.R_typed HP5.out.row) (HP5.out.bw.setCell (Kd.R_base HP5.out.row gb rfl) _) HZ.out.1 (HP5.out.hk.set' HRW.out at_) (by rw [List.length_set]; have := HL2.out; omega)
                          rw [← HMS.out.1] at k
                          rw [← HMS.out.2]
                          exact k⟩⟩
                  · as_aux_lemma =>
                      have HBAD : Aside0 (at_ < 0 ∨ 1099511627776 < at_) := ⟨by omega⟩
                      by_cases c : 0 ≤ at_
                      · have d1 : decide (0 ≤ at_) = true := decide_eq_true c
                        have d2 : decide (at_ ≤ 1099511627776) = false := decide_eq_false (by omega)
                        clear hf c
                        go_wp2_with (first | (go_at_call 9; (with_reducible refine (set_bad g who at_ _ HBAD.out).mono ?_); rintro e w5 ⟨rfl, rfl⟩))
                        go_meet
                        case rel => exact ⟨l, m, ms, A4, c4, rfl, ⟨HP.out.up⟩⟩
                      · have d1 : decide (0 ≤ at_) = false := decide_eq_false c
                        clear hf c
                        go_wp2_with (first | (go_at_call 9; (with_reducible refine (set_bad g who at_ _ HBAD.out).mono ?_); rintro e w5 ⟨rfl, rfl⟩))
                        go_meet
                        case rel => exact ⟨l, m, ms, A4, c4, rfl, ⟨HP.out.up⟩⟩
                · by_cases w1 : what = 1
                  · subst w1
                    clear w0
                    have s1 := HP.out.c1
                    dsimp only at s1
                    rcases HK.out with ⟨rfl, hno⟩ | ⟨r, hr, rfl, hwho⟩
                    · as_aux_lemma =>
                        have HN0 : Aside0 (m who = none) := ⟨HP.out.hk.noone (fun i hi => hno i hi hi)⟩
                        clear hno
                        go_wp2_with (first | (go_at_call 10; (with_reducible refine (stop_none HP.out.be who (hasM_not HP.out.hm HN0.out)).mono ?_); rintro e w5 ⟨rfl, rfl⟩))
                        go_meet
                        case rel => exact ⟨l, m, ms, A4, c4, rfl, ⟨HP.out.up⟩⟩
                    · as_aux_lemma =>
                        have q1 : (0 ≤ (r : Int)) = True := eq_true (by omega)
                        have e1 : decide (0 ≤ (r : Int)) = true := decide_eq_true (by omega)
                        have q2 : ((r : Int) < (ms.length : Int)) = True := eq_true (by omega)
                        have q2n : (r < ms.length) = True := eq_true hr
                        have q3 : (r ≤ c4) = True := eq_true (Nat.le_trans (Nat.le_of_lt hr) (Kd.R_reads' HP.out.row).2.1)
                        have q5 : (r + 1 ≤ ms.length) = True := eq_true hr
                        have q7 : (0 ≤ (r : Int) + 1) = True := eq_true (by omega)
                        have q8 : ((r : Int) + 1 ≤ (ms.length : Int)) = True := eq_true (by omega)
                        have q6 : ms.length ≤ c4 := (Kd.R_reads' HP.out.row).2.1
                        obtain ⟨gb, cb, ev, hgb, _, _⟩ := Kd.R_form HP.out.row (by omega)
                        injection ev with ev1 _ ev3
                        subst ev1 ev3
                        obtain ⟨ms1, ems1⟩ : ∃ x, x = [] ++ ms.take r ++ ms.drop (r + 1) := ⟨_, rfl⟩
                        have HMS := Aside0.mk ems1
                        have HL2 : Aside0 (ms.length ≤ i) := ⟨HP.out.l2⟩
                        have q4 : wrap64 ((r : Int) + 1) = ((r + 1 : Nat) : Int) := by have := HL2.out; have := HII.out; have := HN.out; unfold wrap64; omega
                        have HQ := Aside0.mk (And.intro q3 (And.intro q4 (And.intro q5 (And.intro q6 (And.intro q7 q8)))))
                        clear q3 q4 q5 q6 q7 q8
                        have HWE : Aside0 (∃ p ∈ l, p.2.2 = who) := ⟨by
                          obtain ⟨p, hp, e⟩ := (HP.out.hm _ _).1 (HP.out.hk.at hr)
                          exact ⟨p, hp, by rw [e]; exact hwho⟩⟩
                        have HRW : Aside0 (∃ hr : r < ms.length, ms[r].f0 = who) := ⟨hr, hwho⟩
                        clear hwho ems1 hgb
                        go_upto_region 28 with (first | (go_at_call 10; (with_reducible refine (stop_w HP.out.be HP.out.hm who HWE.out (by have := HP.out.l1; have := HII.out; have := HN.out; omega)).mono ?_); rintro e w5 ⟨rfl, l5, hX, hM, hL, hF⟩; have HP5 := Aside0.mk (HP.out.call hX hM (by omega) hF); clear hX hM hL hF))
                        obtain ⟨q3, q4, q5, q6, q7, q8⟩ := HQ.out
                        clear HQ
                        go_wp2_with fail
                        obtain ⟨wd, ewd⟩ : ∃ x, x = w5.drew := ⟨_, rfl⟩
                        have HPD := Aside0.mk (HP5.out.below (below_drew1 (Below.refl _ _)))
                        rw [← ewd] at HPD
                        refine start_ (n := 11) (S := fun w' => True) (ds := [9]) #[false, false, false, false, false, false, false, false, false, false, false] (by kernel_rfl) rfl rfl trivial (fun hHeld => ?_)
                        rw [← ewd] at ⊢
                        clear ewd
                        refine pure_ (i := 1) (N := some 107) (v := ?_) (a' := ?_) #[false, true, false, false, false, false, false, false, false, false, false] rfl rfl (by kernel_rfl) (fun _ _ _ h => h) (Or.inl ⟨by rfl, ?_⟩) ?_ ?_
                        rotate_left
                        · intro w'
                          go_simp
                          with_reducible rfl
                        rotate_left
                        · simp only [Act.put, List.setIfInBounds_toArray, List.set_cons_zero, List.set_cons_succ, i64_w, i32_w]
                          rfl
                        refine pure_ (i := 2) (N := some 108) (v := ?_) (a' := ?_) #[false, true, true, false, false, false, false, false, false, false, false] rfl rfl (by kernel_rfl) (fun _ _ _ h => h) (Or.inl ⟨by rfl, ?_⟩) ?_ ?_
                        rotate_left
                        · intro w'
                          go_simp
                          with_reducible rfl
                        rotate_left
                        · simp only [Act.put, List.setIfInBounds_toArray, List.set_cons_zero, List.set_cons_succ, i64_w, i32_w]
                          rfl
                        refine pure_ (i := 3) (N := some 109) (v := ?_) (a' := ?_) #[false, true, true, true, false, false, false, false, false, false, false] rfl rfl (by kernel_rfl) (fun _ _ _ h => h) (Or.inl ⟨by rfl, ?_⟩) ?_ ?_
                        rotate_left
                        · intro w'
                          go_simp
                          with_reducible rfl
                        rotate_left
                        · simp only [Act.put, List.setIfInBounds_toArray, List.set_cons_zero, List.set_cons_succ, i64_w, i32_w]
                          rfl
                        refine pure_ (i := 5) (N := some 111) (v := ?_) (a' := ?_) #[false, true, true, true, false, true, false, false, false, false, false] rfl rfl (by kernel_rfl) (fun _ _ _ h => h) (Or.inl ⟨by rfl, ?_⟩) ?_ ?_
                        rotate_left
                        · intro w'
                          go_simp
                          with_reducible rfl
                        rotate_left
                        · simp only [Act.put, List.setIfInBounds_toArray, List.set_cons_zero, List.set_cons_succ, i64_w, i32_w]
                          rfl
                        refine pure_ (i := 6) (N := some 112) (v := ?_) (a' := ?_) #[false, true, true, true, false, true, true, false, false, false, false] rfl rfl (by kernel_rfl) (fun _ _ _ h => h) (Or.inl ⟨by rfl, ?_⟩) ?_ ?_
                        rotate_left
                        · intro w'
                          go_simp
                          with_reducible rfl
                        rotate_left
                        · simp only [Act.put, List.setIfInBounds_toArray, List.set_cons_zero, List.set_cons_succ, i64_w, i32_w]
                          rfl
                        refine pure_ (i := 7) (N := some 113) (v := ?_) (a' := ?_) #[false, true, true, true, false, true, true, true, false, false, false] rfl rfl (by kernel_rfl) (fun _ _ _ h => h) (Or.inl ⟨by rfl, ?_⟩) ?_ ?_
                        rotate_left
                        · intro w'
                          go_simp
                          with_reducible rfl
                        rotate_left
                        · simp only [Act.put, List.setIfInBounds_toArray, List.set_cons_zero, List.set_cons_succ, i64_w, i32_w]
                          rfl
                        refine pure_ (i := 8) (N := some 114) (v := ?_) (a' := ?_) #[false, true, true, true, false, true, true, true, true, false, false] rfl rfl (by kernel_rfl) (fun _ _ _ h => h) (Or.inl ⟨by rfl, ?_⟩) ?_ ?_
                        rotate_left
                        · intro w'
                          go_simp
                          with_reducible rfl
                        rotate_left
                        · simp only [Act.put, List.setIfInBounds_toArray, List.set_cons_zero, List.set_cons_succ, i64_w, i32_w]
                          rfl
                        refine one_ (i := 0) (N := some 106) #[true, true, true, true, false, true, true, true, true, false, false] rfl rfl (by kernel_rfl) (by decide) (fun K hK => ?_)
                        refine Kd.R_lit_step k30 _ 30 ?hw (N := 106) ?hd (xs := ([] : List S30)) (inner := []) (ok := fun _ => True) (okp := fun _ => True) ?hr ?hp (fun _ hk => hk) trivial HPD.out.bw (below_size HPD.out.bw) (by simp) ?_
                        (case hd => rfl)
                        (case hw => rfl)
                        (case hr => first | (go_simp; done) | (go_simp; rfl))
                        (case hp => exact (Reps.none _ _))
                        intro v7 w7 ho hb hg hn
                        have HO7 := Aside0.mk ho
                        have HP7 := Aside0.mk (HPD.out.grown hg (fun k hk => by cases hk) (fun k hk => by cases hk) hb)
                        have HA7 : Aside0 (∀ k, v7.ownBlock = some k → some k ≠ (Value.slice (some ⟨gb, 0, none⟩) ms.length c4).ownBlock) := ⟨fun k hk => by obtain ⟨b, hb, hle⟩ := hn; rw [hb] at hk; obtain rfl := Option.some.inj hk; intro e; have := Kd.R_lt HPD.out.row _ e.symm; omega⟩
                        clear ho hb hg hn
                        refine hK.out _ _ trivial (fun hHeld => ?_)
                        clear hK K
                        refine norm_ (a' := ?_) ?_ ?_
                        rotate_left
                        · show Act.put _ (some 106) _ = _
                          simp only [Act.put, List.setIfInBounds_toArray, List.set_cons_zero, List.set_cons_succ, i64_w, i32_w]
                          rfl
                        refine one_ (i := 4) (N := some 110) #[true, true, true, true, true, true, true, true, true, false, false] rfl rfl (by kernel_rfl) (by decide) (fun K hK => ?_)
                        refine Kd.R_append_rows_step k30 (w0 := w) w.heap.size (by rfl) (.tmp 106) (.tmp 109) 26 30 (.agg #[.int .i64 0, .int .i64 0]) 16 rfl Try.underlying26 info30 rfl (by decide) (by omega) v7 [] (ms.take r) _ _ _ (fun _ => True) (fun _ => False) rfl rfl ?aO ?aR (fun _ _ h => h) (fun _ h => h.elim) ?aF ?aB ?aS ?aL ?_
                        (case aR => have hh := Kd.C_take (Kd.R_reads' HP7.out.row).2.2 (m := r) (Nat.le_of_lt HRW.out.1); rw [List.length_take, Nat.min_eq_left (Nat.le_of_lt HRW.out.1)] at hh; exact hh)
                        (case aO => exact HO7.out)
                        (case aB => exact HP7.out.bw)
                        (case aF => exact (fun _ _ => trivial))
                        (case aS => exact below_size HP7.out.bw)
                        (case aL => have := HL2.out; have := HII.out; have := HN.out; simp only [List.length_append, List.length_take, List.length_drop, List.length_nil]; omega)
                        intro v8 w8 ho hb hg hat
                        have HO8 := Aside0.mk ho
                        have HP8 := Aside0.mk (HP7.out.grown hg (Kd.R_typed HO7.out) HA7.out hb)
                        clear ho hb hg hat
                        refine hK.out _ _ trivial (fun hHeld => ?_)
                        clear hK K
                        refine norm_ (a' := ?_) ?_ ?_
                        rotate_left
                        · show Act.put _ (some 110) _ = _
                          simp only [Act.put, List.setIfInBounds_toArray, List.set_cons_zero, List.set_cons_succ, i64_w, i32_w]
                          rfl
                        refine last_ (i := 9) (N := some 115) #[true, true, true, true, true, true, true, true, true, true, false] rfl rfl (by kernel_rfl) (by decide) (fun K hK => ?_)
                        refine Kd.R_append_rows_step k30 (w0 := w) w.heap.size (by rfl) (.tmp 110) (.tmp 114) 26 30 (.agg #[.int .i64 0, .int .i64 0]) 16 rfl Try.underlying26 info30 rfl (by decide) (by omega) v8 ([] ++ ms.take r) (ms.drop (r + 1)) _ _ _ (fun _ => True) (fun _ => False) rfl rfl ?aO ?aR (fun _ _ h => h) (fun _ h => h.elim) ?aF ?aB ?aS ?aL ?_
                        (case aR => have hh := Kd.C_drop (Kd.R_reads' HP8.out.row).2.2 (m := r + 1) (c := c4) HRW.out.1 (Kd.R_reads' HP8.out.row).2.1; simp only [Option.map_some, add_0, List.length_drop] at hh; exact hh)
                        (case aO => exact HO8.out)
                        (case aB => exact HP8.out.bw)
                        (case aF => exact (fun _ _ => trivial))
                        (case aS => exact below_size HP8.out.bw)
                        (case aL => have := HL2.out; have := HII.out; have := HN.out; simp only [List.length_append, List.length_take, List.length_drop, List.length_nil]; omega)
                        intro v9 w9 ho hb hg hat
                        rw [← HMS.out] at ho
                        obtain ⟨A9, c9, rfl⟩ := Kd.R_slice ho
                        have HP9 := Aside0.mk (HP8.out.rowed hg (Kd.R_typed HO8.out) hb ho (by rw [HMS.out]; exact HP8.out.hk.del' HRW.out) (by rw [HMS.out]; exact del_len HRW.out.1 (Nat.le_succ_of_le HL2.out)))
                        clear ho hb hg hat
                        refine hK.out _ _ ?_
                        clear hK K
                        refine norm_ (a' := ?_) ?_ ?_
                        rotate_left
                        · show Act.put _ (some 115) _ = _
                          simp only [Act.put, List.setIfInBounds_toArray, List.set_cons_zero, List.set_cons_succ, i64_w, i32_w]
                          rfl
                        refine pure_ (i := 10) (N := some 4) (v := ?_) (a' := ?_) #[true, true, true, true, true, true, true, true, true, true, true] rfl rfl (by kernel_rfl) (fun _ _ _ h => h) (Or.inl ⟨by rfl, ?_⟩) ?_ ?_
                        rotate_left
                        · intro w'
                          go_simp
                          with_reducible rfl
                        rotate_left
                        · simp only [Act.put, List.setIfInBounds_toArray, List.set_cons_zero, List.set_cons_succ, i64_w, i32_w]
                          rfl
                        refine done_ (by kernel_rfl) ?_
                        go_wp2_with fail
                        all_goals (go_meet; (case rel => exact ⟨l5, _, ms1, A9, c9, rfl, HP9⟩))
                  · by_cases w2 : what = 2
                    · subst w2
                      clear w0 w1
                      have s2 := HP.out.c2
                      dsimp only at s2
                      by_cases hz : ms.length = 0
                      · obtain rfl := List.eq_nil_of_length_eq_zero hz
                        as_aux_lemma =>
                          have EN : Aside0 (nextB l = false) := ⟨by rw [empty_is HP.out.hm (fun y => HP.out.hk.noone (fun i hi => absurd hi (by simp)))]; rfl⟩
                          clear hz
                          go_upto_region 31 with (first | (go_at_call 11; refine (offertorylaw19_first.calls 1 A4 c4 [] (-1) _ (Kd.R_reads' HP.out.row).2.2 (by simp) first_nil).mono ?_; rintro e w6 ⟨rfl, n6, rfl⟩; have HP6 := Aside0.mk (HP.out.below (pw_below_drewN (Below.refl _ _) n6)); have s2 := HP6.out.c2; dsimp only at s2))
                          go_upto_region 32 with (first | (go_at_call 12; (with_reducible refine (strike_none HP6.out.be at_ (Or.inl EN.out)).mono ?_); rintro e w7 ⟨rfl, rfl⟩))
                          go_quiet (fail)
                          go_wp2
                          go_meet
                          case rel => exact ⟨l, m, [], A4, c4, rfl, ⟨(HP.out.below (pw_below_drewN (Below.refl _ _) _)).up⟩⟩
                      · obtain ⟨kf, r, hr, hf, hle⟩ := first_some ms (by omega) (by have := HP.out.l2; have := HII.out; have := HN.out; omega)
                        by_cases hx : ms[r].f1 ≤ at_
                        · as_aux_lemma =>
                            obtain ⟨hl2, hrt⟩ := first_root HP.out.be HP.out.hm HP.out.hk hr hle
                            have HF := Aside0.mk hf
                            have q1 : (0 ≤ (r : Int)) = True := eq_true (by omega)
                            have e1 : decide (0 ≤ (r : Int)) = true := decide_eq_true (by omega)
                            have q2 : ((r : Int) < (ms.length : Int)) = True := eq_true (by omega)
                            have q2n : (r < ms.length) = True := eq_true hr
                            have q3 : (r ≤ c4) = True := eq_true (Nat.le_trans (Nat.le_of_lt hr) (Kd.R_reads' HP.out.row).2.1)
                            have q5 : (r + 1 ≤ ms.length) = True := eq_true hr
                            have q7 : (0 ≤ (r : Int) + 1) = True := eq_true (by omega)
                            have q8 : ((r : Int) + 1 ≤ (ms.length : Int)) = True := eq_true (by omega)
                            have q6 : ms.length ≤ c4 := (Kd.R_reads' HP.out.row).2.1
                            obtain ⟨gb, cb, ev, hgb, _, _⟩ := Kd.R_form HP.out.row (by omega)
                            injection ev with ev1 _ ev3
                            subst ev1 ev3
                            obtain ⟨ms1, ems1⟩ : ∃ x, x = [] ++ ms.take r ++ ms.drop (r + 1) := ⟨_, rfl⟩
                            have HMS := Aside0.mk ems1
                            have HL2 : Aside0 (ms.length ≤ i) := ⟨HP.out.l2⟩
                            have q4 : wrap64 ((r : Int) + 1) = ((r + 1 : Nat) : Int) := by have := HL2.out; have := HII.out; have := HN.out; unfold wrap64; omega
                            have HQ := Aside0.mk (And.intro q3 (And.intro q4 (And.intro q5 (And.intro q6 (And.intro q7 q8)))))
                            clear q3 q4 q5 q6 q7 q8
                            obtain ⟨x, ex⟩ : ∃ x, x = ms[r].f1 := ⟨_, rfl⟩
                            obtain ⟨y, ey⟩ : ∃ y, y = ms[r].f0 := ⟨_, rfl⟩
                            rw [← ex, ← ey] at hrt
                            rw [← ex] at hx
                            have EN : Aside0 ((l.getD 0 d0).2.1 = x ∧ (l.getD 0 d0).2.2 = y ∧ 0 < l.length) := ⟨by rw [hrt], by rw [hrt], hl2⟩
                            have HRW : Aside0 (∃ hr : r < ms.length, ms[r].f0 = y) := ⟨hr, ey.symm⟩
                            have HRV : Aside0 (∃ hr : r < ms.length, ms[r].f0 = y ∧ ms[r].f1 = x) := ⟨hr, ey.symm, ex.symm⟩
                            have HX : Aside0 (x ≤ at_) := ⟨hx⟩
                            have d2 : decide (x ≤ at_) = true := decide_eq_true hx
                            clear hz hf hle hx hl2 hrt ex ey ems1 hgb
                            go_upto_region 31 with (first | (go_at_call 11; refine (offertorylaw19_first.calls kf (some ⟨gb, 0, none⟩) c4 ms (r : Int) _ (Kd.R_reads' HP.out.row).2.2 (Kd.R_reads' HP.out.row).2.1 HF.out).mono ?_; rintro e w6 ⟨rfl, n6, rfl⟩; have HP6 := Aside0.mk (HP.out.below (pw_below_drewN (Below.refl _ _) n6)); have s2 := HP6.out.c2; dsimp only at s2))
                            go_upto_region 32 with (first | (go_at_call 12; (with_reducible refine (strike_w HP6.out.be HP6.out.hm at_ EN.out.2.2 (by rw [EN.out.1]; exact HX.out) (by have := HP6.out.l1; have := HII.out; have := HN.out; omega)).mono ?_); rw [EN.out.2.1]; rintro e w7 ⟨rfl, l5, hX, hM, hL, hF⟩; have HP5 := Aside0.mk (HP6.out.call hX hM (by omega) hF); have s2 := HP5.out.c2; dsimp only at s2; obtain ⟨z0, z1⟩ := row_cells HP5.out.row HRV.out; clear hX hM hL hF))
                            go_quiet (fail)
                            go_upto_region 36 with fail
                            refine code_gen (fun W => Pl w g gx ⟨2, who, at_⟩ W l5 (updM m y none) m ms (Value.slice (some ⟨gb, 0, none⟩) ms.length c4) (i + 1)) (HP5.out.below (pw_below_drewN (Below.refl _ _) _)) ?_
                            clear z0 z1 HP5 HP6
                            obtain ⟨q3, q4, q5, q6, q7, q8⟩ := HQ.out
                            clear HQ
                            intro w5 hP
                            have HP5 := Aside0.mk hP
                            clear hP
                            go_wp2_with fail
                            obtain ⟨wd, ewd⟩ : ∃ x, x = w5.drew := ⟨_, rfl⟩
                            have HPD := Aside0.mk (HP5.out.below (below_drew1 (Below.refl _ _)))
                            rw [← ewd] at HPD
                            refine start_ (n := 11) (S := fun w' => True) (ds := [9]) #[false, false, false, false, false, false, false, false, false, false, false] (by kernel_rfl) rfl rfl trivial (fun hHeld => ?_)
                            rw [← ewd] at ⊢
                            clear ewd
                            refine pure_ (i := 1) (N := some 164) (v := ?_) (a' := ?_) #[false, true, false, false, false, false, false, false, false, false, false] rfl rfl (by kernel_rfl) (fun _ _ _ h => h) (Or.inl ⟨by rfl, ?_⟩) ?_ ?_
                            rotate_left
                            · intro w'
                              go_simp
                              with_reducible rfl
                            rotate_left
                            · simp only [Act.put, List.setIfInBounds_toArray, List.set_cons_zero, List.set_cons_succ, i64_w, i32_w]
                              rfl
                            refine pure_ (i := 2) (N := some 165) (v := ?_) (a' := ?_) #[false, true, true, false, false, false, false, false, false, false, false] rfl rfl (by kernel_rfl) (fun _ _ _ h => h) (Or.inl ⟨by rfl, ?_⟩) ?_ ?_
                            rotate_left
                            · intro w'
                              go_simp
                              with_reducible rfl
                            rotate_left
                            · simp only [Act.put, List.setIfInBounds_toArray, List.set_cons_zero, List.set_cons_succ, i64_w, i32_w]
                              rfl
                            refine pure_ (i := 3) (N := some 166) (v := ?_) (a' := ?_) #[false, true, true, true, false, false, false, false, false, false, false] rfl rfl (by kernel_rfl) (fun _ _ _ h => h) (Or.inl ⟨by rfl, ?_⟩) ?_ ?_
                            rotate_left
                            · intro w'
                              go_simp
                              with_reducible rfl
                            rotate_left
                            · simp only [Act.put, List.setIfInBounds_toArray, List.set_cons_zero, List.set_cons_succ, i64_w, i32_w]
                              rfl
                            refine pure_ (i := 5) (N := some 168) (v := ?_) (a' := ?_) #[false, true, true, true, false, true, false, false, false, false, false] rfl rfl (by kernel_rfl) (fun _ _ _ h => h) (Or.inl ⟨by rfl, ?_⟩) ?_ ?_
                            rotate_left
                            · intro w'
                              go_simp
                              with_reducible rfl
                            rotate_left
                            · simp only [Act.put, List.setIfInBounds_toArray, List.set_cons_zero, List.set_cons_succ, i64_w, i32_w]
                              rfl
                            refine pure_ (i := 6) (N := some 169) (v := ?_) (a' := ?_) #[false, true, true, true, false, true, true, false, false, false, false] rfl rfl (by kernel_rfl) (fun _ _ _ h => h) (Or.inl ⟨by rfl, ?_⟩) ?_ ?_
                            rotate_left
                            · intro w'
                              go_simp
                              with_reducible rfl
                            rotate_left
                            · simp only [Act.put, List.setIfInBounds_toArray, List.set_cons_zero, List.set_cons_succ, i64_w, i32_w]
                              rfl
                            refine pure_ (i := 7) (N := some 170) (v := ?_) (a' := ?_) #[false, true, true, true, false, true, true, true, false, false, false] rfl rfl (by kernel_rfl) (fun _ _ _ h => h) (Or.inl ⟨by rfl, ?_⟩) ?_ ?_
                            rotate_left
                            · intro w'
                              go_simp
                              with_reducible rfl
                            rotate_left
                            · simp only [Act.put, List.setIfInBounds_toArray, List.set_cons_zero, List.set_cons_succ, i64_w, i32_w]
                              rfl
                            refine pure_ (i := 8) (N := some 171) (v := ?_) (a' := ?_) #[false, true, true, true, false, true, true, true, true, false, false] rfl rfl (by kernel_rfl) (fun _ _ _ h => h) (Or.inl ⟨by rfl, ?_⟩) ?_ ?_
                            rotate_left
                            · intro w'
                              go_simp
                              with_reducible rfl
                            rotate_left
                            · simp only [Act.put, List.setIfInBounds_toArray, List.set_cons_zero, List.set_cons_succ, i64_w, i32_w]
                              rfl
                            refine one_ (i := 0) (N := some 163) #[true, true, true, true, false, true, true, true, true, false, false] rfl rfl (by kernel_rfl) (by decide) (fun K hK => ?_)
                            refine Kd.R_lit_step k30 _ 30 ?hw (N := 163) ?hd (xs := ([] : List S30)) (inner := []) (ok := fun _ => True) (okp := fun _ => True) ?hr ?hp (fun _ hk => hk) trivial HPD.out.bw (below_size HPD.out.bw) (by simp) ?_
                            (case hd => rfl)
                            (case hw => rfl)
                            (case hr => first | (go_simp; done) | (go_simp; rfl))
                            (case hp => exact (Reps.none _ _))
                            intro v7 w7 ho hb hg hn
                            have HO7 := Aside0.mk ho
                            have HP7 := Aside0.mk (HPD.out.grown hg (fun k hk => by cases hk) (fun k hk => by cases hk) hb)
                            have HA7 : Aside0 (∀ k, v7.ownBlock = some k → some k ≠ (Value.slice (some ⟨gb, 0, none⟩) ms.length c4).ownBlock) := ⟨fun k hk => by obtain ⟨b, hb, hle⟩ := hn; rw [hb] at hk; obtain rfl := Option.some.inj hk; intro e; have := Kd.R_lt HPD.out.row _ e.symm; omega⟩
                            clear ho hb hg hn
                            refine hK.out _ _ trivial (fun hHeld => ?_)
                            clear hK K
                            refine norm_ (a' := ?_) ?_ ?_
                            rotate_left
                            · show Act.put _ (some 163) _ = _
                              simp only [Act.put, List.setIfInBounds_toArray, List.set_cons_zero, List.set_cons_succ, i64_w, i32_w]
                              rfl
                            refine one_ (i := 4) (N := some 167) #[true, true, true, true, true, true, true, true, true, false, false] rfl rfl (by kernel_rfl) (by decide) (fun K hK => ?_)
                            refine Kd.R_append_rows_step k30 (w0 := w) w.heap.size (by rfl) (.tmp 163) (.tmp 166) 26 30 (.agg #[.int .i64 0, .int .i64 0]) 16 rfl Try.underlying26 info30 rfl (by decide) (by omega) v7 [] (ms.take r) _ _ _ (fun _ => True) (fun _ => False) rfl rfl ?aO ?aR (fun _ _ h => h) (fun _ h => h.elim) ?aF ?aB ?aS ?aL ?_
                            (case aR => have hh := Kd.C_take (Kd.R_reads' HP7.out.row).2.2 (m := r) (Nat.le_of_lt HRW.out.1); rw [List.length_take, Nat.min_eq_left (Nat.le_of_lt HRW.out.1)] at hh; exact hh)
                            (case aO => exact HO7.out)
                            (case aB => exact HP7.out.bw)
                            (case aF => exact (fun _ _ => trivial))
                            (case aS => exact below_size HP7.out.bw)
                            (case aL => have := HL2.out; have := HII.out; have := HN.out; simp only [List.length_append, List.length_take, List.length_drop, List.length_nil]; omega)
                            intro v8 w8 ho hb hg hat
                            have HO8 := Aside0.mk ho
                            have HP8 := Aside0.mk (HP7.out.grown hg (Kd.R_typed HO7.out) HA7.out hb)
                            clear ho hb hg hat
                            refine hK.out _ _ trivial (fun hHeld => ?_)
                            clear hK K
                            refine norm_ (a' := ?_) ?_ ?_
                            rotate_left
                            · show Act.put _ (some 167) _ = _
                              simp only [Act.put, List.setIfInBounds_toArray, List.set_cons_zero, List.set_cons_succ, i64_w, i32_w]
                              rfl
                            refine last_ (i := 9) (N := some 172) #[true, true, true, true, true, true, true, true, true, true, false] rfl rfl (by kernel_rfl) (by decide) (fun K hK => ?_)
                            refine Kd.R_append_rows_step k30 (w0 := w) w.heap.size (by rfl) (.tmp 167) (.tmp 171) 26 30 (.agg #[.int .i64 0, .int .i64 0]) 16 rfl Try.underlying26 info30 rfl (by decide) (by omega) v8 ([] ++ ms.take r) (ms.drop (r + 1)) _ _ _ (fun _ => True) (fun _ => False) rfl rfl ?aO ?aR (fun _ _ h => h) (fun _ h => h.elim) ?aF ?aB ?aS ?aL ?_
                            (case aR => have hh := Kd.C_drop (Kd.R_reads' HP8.out.row).2.2 (m := r + 1) (c := c4) HRW.out.1 (Kd.R_reads' HP8.out.row).2.1; simp only [Option.map_some, add_0, List.length_drop] at hh; exact hh)
                            (case aO => exact HO8.out)
                            (case aB => exact HP8.out.bw)
                            (case aF => exact (fun _ _ => trivial))
                            (case aS => exact below_size HP8.out.bw)
                            (case aL => have := HL2.out; have := HII.out; have := HN.out; simp only [List.length_append, List.length_take, List.length_drop, List.length_nil]; omega)
                            intro v9 w9 ho hb hg hat
                            rw [← HMS.out] at ho
                            obtain ⟨A9, c9, rfl⟩ := Kd.R_slice ho
                            have HP9 := Aside0.mk (HP8.out.rowed hg (Kd.R_typed HO8.out) hb ho (by rw [HMS.out]; exact HP8.out.hk.del' HRW.out) (by rw [HMS.out]; exact del_len HRW.out.1 (Nat.le_succ_of_le HL2.out)))
                            clear ho hb hg hat
                            refine hK.out _ _ ?_
                            clear hK K
                            refine norm_ (a' := ?_) ?_ ?_
                            rotate_left
                            · show Act.put _ (some 172) _ = _
                              simp only [Act.put, List.setIfInBounds_toArray, List.set_cons_zero, List.set_cons_succ, i64_w, i32_w]
                              rfl
                            refine pure_ (i := 10) (N := some 4) (v := ?_) (a' := ?_) #[true, true, true, true, true, true, true, true, true, true, true] rfl rfl (by kernel_rfl) (fun _ _ _ h => h) (Or.inl ⟨by rfl, ?_⟩) ?_ ?_
                            rotate_left
                            · intro w'
                              go_simp
                              with_reducible rfl
                            rotate_left
                            · simp only [Act.put, List.setIfInBounds_toArray, List.set_cons_zero, List.set_cons_succ, i64_w, i32_w]
                              rfl
                            refine done_ (by kernel_rfl) ?_
                            go_wp2_with fail
                            all_goals (go_meet; (case rel => exact ⟨l5, _, ms1, A9, c9, rfl, HP9⟩))
                        · as_aux_lemma =>
                            obtain ⟨hl2, hrt⟩ := first_root HP.out.be HP.out.hm HP.out.hk hr hle
                            have HF := Aside0.mk hf
                            have q1 : (0 ≤ (r : Int)) = True := eq_true (by omega)
                            have e1 : decide (0 ≤ (r : Int)) = true := decide_eq_true (by omega)
                            have q2 : ((r : Int) < (ms.length : Int)) = True := eq_true (by omega)
                            have q2n : (r < ms.length) = True := eq_true hr
                            have q3 : (r ≤ c4) = True := eq_true (Nat.le_trans (Nat.le_of_lt hr) (Kd.R_reads' HP.out.row).2.1)
                            have q5 : (r + 1 ≤ ms.length) = True := eq_true hr
                            have q7 : (0 ≤ (r : Int) + 1) = True := eq_true (by omega)
                            have q8 : ((r : Int) + 1 ≤ (ms.length : Int)) = True := eq_true (by omega)
                            have q6 : ms.length ≤ c4 := (Kd.R_reads' HP.out.row).2.1
                            obtain ⟨gb, cb, ev, hgb, _, _⟩ := Kd.R_form HP.out.row (by omega)
                            injection ev with ev1 _ ev3
                            subst ev1 ev3
                            obtain ⟨ms1, ems1⟩ : ∃ x, x = [] ++ ms.take r ++ ms.drop (r + 1) := ⟨_, rfl⟩
                            have HMS := Aside0.mk ems1
                            have HL2 : Aside0 (ms.length ≤ i) := ⟨HP.out.l2⟩
                            have q4 : wrap64 ((r : Int) + 1) = ((r + 1 : Nat) : Int) := by have := HL2.out; have := HII.out; have := HN.out; unfold wrap64; omega
                            have HQ := Aside0.mk (And.intro q3 (And.intro q4 (And.intro q5 (And.intro q6 (And.intro q7 q8)))))
                            clear q3 q4 q5 q6 q7 q8
                            obtain ⟨x, ex⟩ : ∃ x, x = ms[r].f1 := ⟨_, rfl⟩
                            obtain ⟨y, ey⟩ : ∃ y, y = ms[r].f0 := ⟨_, rfl⟩
                            rw [← ex, ← ey] at hrt
                            rw [← ex] at hx
                            have EN : Aside0 ((l.getD 0 d0).2.1 = x ∧ (l.getD 0 d0).2.2 = y ∧ 0 < l.length) := ⟨by rw [hrt], by rw [hrt], hl2⟩
                            have HRW : Aside0 (∃ hr : r < ms.length, ms[r].f0 = y) := ⟨hr, ey.symm⟩
                            have HRV : Aside0 (∃ hr : r < ms.length, ms[r].f0 = y ∧ ms[r].f1 = x) := ⟨hr, ey.symm, ex.symm⟩
                            have HX : Aside0 (at_ < x) := ⟨by omega⟩
                            have EL : Aside0 (nextA l = x) := ⟨by
                              cases l with
                              | nil => exact absurd hl2 (Nat.lt_irrefl 0)
                              | cons p q => unfold nextA; rw [if_neg (by simp), hrt]⟩
                            have d2 : decide (x ≤ at_) = false := decide_eq_false hx
                            clear hz hf hle hx hl2 hrt ex ey ems1 hgb
                            obtain ⟨z0, z1⟩ := row_cells HP.out.row HRV.out
                            go_upto_region 31 with (first | (go_at_call 11; refine (offertorylaw19_first.calls kf (some ⟨gb, 0, none⟩) c4 ms (r : Int) _ (Kd.R_reads' HP.out.row).2.2 (Kd.R_reads' HP.out.row).2.1 HF.out).mono ?_; rintro e w6 ⟨rfl, n6, rfl⟩; have HP6 := Aside0.mk (HP.out.below (pw_below_drewN (Below.refl _ _) n6)); have s2 := HP6.out.c2; dsimp only at s2))
                            go_upto_region 32 with (first | (go_at_call 12; (with_reducible refine (strike_none HP6.out.be at_ (Or.inr (by rw [EL.out]; exact HX.out))).mono ?_); rintro e w7 ⟨rfl, rfl⟩))
                            go_quiet (fail)
                            go_wp2
                            go_meet
                            case rel => exact ⟨l, m, ms, some ⟨gb, 0, none⟩, c4, rfl, ⟨(HP.out.below (pw_below_drewN (Below.refl _ _) _)).up⟩⟩
                    · as_aux_lemma =>
                        have e0 : decide (what = 0) = false := decide_eq_false (w0)
                        have e1 : decide (what = 1) = false := decide_eq_false (w1)
                        have e2 : decide (what = 2) = false := decide_eq_false (w2)
                        have b0 : (what == 0) = false := beq_eq_false_iff_ne.2 w0
                        have b1 : (what == 1) = false := beq_eq_false_iff_ne.2 w1
                        have b2 : (what == 2) = false := beq_eq_false_iff_ne.2 w2
                        clear w0 w1 w2
                        go_wp2
                        go_meet
                        case rel => exact ⟨l, m, ms, A4, c4, rfl, ⟨HP.out.up⟩⟩
              case rest =>
                clear HP HK
                obtain ⟨l2, m2, ms2, A2, c2, rfl, HP⟩ := hcut
                have EI : Aside0 (wrap64 ((i : Int) + 1) = ((i + 1 : Nat) : Int)) := ⟨by have := HII.out; have := HN.out; unfold wrap64; omega⟩
                by_cases hz : ms2.length = 0
                · as_aux_lemma =>
                    obtain rfl := List.eq_nil_of_length_eq_zero hz
                    have hl2 : l2 = [] := empty_is HP.out.hm (fun y => HP.out.hk.noone (fun i hi => absurd hi (by simp)))
                    have EN : Aside0 (nextA l2 = 0 ∧ nextB l2 = false) := ⟨by rw [hl2]; exact ⟨rfl, rfl⟩⟩
                    clear hl2 hz
                    go_upto_region 38 with (first | (go_at_call 13; (with_reducible refine (next_w HP.out.be).mono ?_); rw [EN.out.1, EN.out.2]; rintro e w5 ⟨rfl, rfl⟩))
                    go_upto_region 39 with (first | (go_at_call 11; refine (offertorylaw19_first.calls 1 A2 c2 [] (-1) _ (Kd.R_reads' HP.out.row).2.2 (by simp) first_nil).mono ?_; rintro e w6 ⟨rfl, n6, rfl⟩; have HP6 := Aside0.mk (HP.out.below (pw_below_drewN (Below.refl _ _) n6))))
                    go_wp2
                    go_roundg k1
                    case measure => omega
                    case rel => exact ⟨i + 1, l2, [], m2, A2, c2, rfl, by rw [EI.out], ⟨by have := HI.out; omega⟩, ⟨HP6.out.be, HP6.out.hm, HP6.out.hk, HP6.out.l1, HP6.out.l2, HP6.out.bw⟩, ⟨HP6.out.row⟩⟩
                · as_aux_lemma =>
                    obtain ⟨kf, r, hr, hf, hle⟩ := first_some ms2 (by omega) (by have := HP.out.l2; have := HII.out; have := HN.out; omega)
                    obtain ⟨hl2, hrt⟩ := first_root HP.out.be HP.out.hm HP.out.hk hr hle
                    have EN : Aside0 (nextA l2 = ms2[r].f1 ∧ nextB l2 = true) := ⟨by
                      cases l2 with
                      | nil => exact absurd hl2 (Nat.lt_irrefl 0)
                      | cons p q => exact ⟨by unfold nextA; rw [if_neg (by simp), hrt], rfl⟩⟩
                    have HF := Aside0.mk hf
                    obtain ⟨x, ex⟩ : ∃ x, x = ms2[r].f1 := ⟨_, rfl⟩
                    rw [← ex] at EN
                    obtain ⟨ad2, ead, _, ha1⟩ := at_T30 (Kd.R_reads' HP.out.row).2.2 (r : Int) (by omega) (by omega)
                    cases ead
                    have e2 : (rd_T30 ms2 (r : Int)).f1 = x := by rw [ex]; show (ms2.getD r z30).f1 = _; simp [List.getD, hr]
                    rw [e2, Int.toNat_natCast] at ha1
                    have HA1 := Aside0.mk ha1
                    have q1 : (0 ≤ (r : Int)) = True := eq_true (by omega)
                    have d1 : decide (0 ≤ (r : Int)) = true := decide_eq_true (by omega)
                    have q2 : ((r : Int) < (ms2.length : Int)) = True := eq_true (by omega)
                    have q2n : (r < ms2.length) = True := eq_true hr
                    clear hz hle hf hl2 hrt e2 ha1 ex hr
                    go_upto_region 38 with (first | (go_at_call 13; (with_reducible refine (next_w HP.out.be).mono ?_); rw [EN.out.1, EN.out.2]; rintro e w5 ⟨rfl, rfl⟩))
                    go_upto_region 39 with (first | (go_at_call 11; refine (offertorylaw19_first.calls kf (some ad2) c2 ms2 (r : Int) _ (Kd.R_reads' HP.out.row).2.2 (Kd.R_reads' HP.out.row).2.1 HF.out).mono ?_; rintro e w6 ⟨rfl, n6, rfl⟩; have HP6 := Aside0.mk (HP.out.below (pw_below_drewN (Below.refl _ _) n6)); have ha1 := cell_below HA1.out (pw_below_drewN (Below.refl _ _) n6)))
                    go_wp2
                    go_roundg k1
                    case measure => omega
                    case rel => exact ⟨i + 1, l2, ms2, m2, some ad2, c2, rfl, by rw [EI.out], ⟨by have := HI.out; omega⟩, ⟨HP6.out.be, HP6.out.hm, HP6.out.hk, HP6.out.l1, HP6.out.l2, HP6.out.bw⟩, ⟨HP6.out.row⟩⟩
          · as_aux_lemma =>
              obtain ⟨k2, rfl⟩ : ∃ k2, gk = k2 + 1 := ⟨gk - 1, by omega⟩
              have hj : j < ms.length := by have := HJ.out; omega
              have hml : ms.length ≤ 80 := by have := HP.out.l2; have := HII.out; have := HN.out; omega
              have d1 : decide ((j : Int) < (ms.length : Int)) = true := decide_eq_true (by omega)
              have d1n : decide (j < ms.length) = true := decide_eq_true hj
              obtain ⟨ad4, ead, ha0, _⟩ := at_T30 (Kd.R_reads' HP.out.row).2.2 (j : Int) (by omega) (by omega)
              cases ead
              have s1 := HP.out.c1
              dsimp only at s1
              obtain ⟨x, ex⟩ : ∃ x, x = (rd_T30 ms (j : Int)).f0 := ⟨_, rfl⟩
              rw [← ex, Int.toNat_natCast] at ha0
              have EX := Aside0.mk ex
              have q1 : (0 ≤ (j : Int)) = True := eq_true (by omega)
              have q2 : ((j : Int) < (ms.length : Int)) = True := eq_true (by omega)
              have q2n : (j < ms.length) = True := eq_true hj
              have EJ : Aside0 (wrap64 ((j : Int) + 1) = ((j + 1 : Nat) : Int)) := ⟨by unfold wrap64; omega⟩
              have HJ2 := Aside0.mk hj
              clear ex gz hj hml
              by_cases hw : x = who
              · have e1 : decide (x = who) = true := decide_eq_true hw
                have e2 : (x == who) = true := beq_iff_eq.2 hw
                have HW := Aside0.mk hw
                clear hw
                go_upto_region 13 with fail
                go_quiet (fail)
                go_wp2
                go_roundg k2
                case measure => omega
                case rel => exact ⟨j + 1, (j : Int), rfl, by rw [EJ.out], ⟨by have := HJ.out; omega⟩, ⟨KI.hit HJ2.out (by rw [← EX.out]; exact HW.out)⟩, ⟨HP.out.below (pw_below_drewN (Below.refl _ _) nq)⟩⟩
              · have e1 : decide (x = who) = false := decide_eq_false hw
                have e2 : (x == who) = false := beq_eq_false_iff_ne.2 hw
                have HW := Aside0.mk hw
                clear hw
                go_upto_region 13 with fail
                go_quiet (fail)
                go_wp2
                go_roundg k2
                case measure => omega
                case rel => exact ⟨j + 1, k, rfl, by rw [EJ.out], ⟨by have := HJ.out; omega⟩, ⟨KI.miss HJ2.out (by rw [← EX.out]; exact HW.out) HK.out⟩, ⟨HP.out.below (pw_below_drewN (Below.refl _ _) nq)⟩⟩
      · rw [decide_eq_false hi]
        go_wp2
        go_ret
        exact ⟨by first | rfl | (simp; done), HS.out.2.2.2.2.2⟩

end Go.Proofs.Ytjmfhlapjghipaa.PAll
