/- The Go functions that the laws reach, as Lean functions, and that each call comes to what its function says. Written by a program of this session (a turned copy of the kit's print). No condition beyond those that each theorem states. -/
import Derived.Test.YthbiijhjcoakfaaPAllx0
import Derived.Test.YthbiijhjcoakfaaPAllx1
import Derived.Test.YthbiijhjcoakfaaPAllx3
namespace Go.Proofs.Ythbiijhjcoakfaa.PAll
open Go.RowKit Go.Proofs.YthbiijhjcoakfaaW.PrintWords Go.Proofs.YthbiijhjcoakfaaW.PrintLast Go.Proofs.YthbiijhjcoakfaaW.PrintMore
attribute [local go_sem] max2_int min2_int max_two min_two max_three min_three max_four min_four   -- for this text's walks alone
set_option linter.unusedVariables false
set_option linter.unusedSimpArgs false

def u32s (xs : List Int) : List Value := xs.map (.int .u32)
/-- One more at a place. -/
def bumpU (out : List Int) (j : Nat) (d : Int) : List Int := out.set j ((out.getD j 0 + d) % 4294967296)
def loBit (x : Int) (i : Nat) : Int := Go.bits .and .u64 (x / 2 ^ i) 1
/-- The first i numbers of bits of x are taken in, from a place on. -/
def fillB (frm : Nat) (x : Int) : Nat → List Int → List Int
  | 0, out => out
  | i + 1, out => bumpU (fillB frm x i out) (frm + i) (loBit x i)
def oneB (frm n : Nat) (x : Int × Int) (out : List Int) : List Int := fillB (frm + 64) x.1 (n - 64) (fillB frm x.2 (min n 64) out)
def bitsAll (xs : List Int) (ys : List (Int × Int)) (n : Nat) : List Int := ys.foldl (fun out x => oneB xs.length n x out) (xs ++ List.replicate n 0)
theorem fillB_length (frm : Nat) (x : Int) (i : Nat) (out : List Int) : (fillB frm x i out).length = out.length := by
  induction i with
  | zero => rfl
  | succ i ih => simp [fillB, bumpU, ih]
theorem oneB_length (frm n : Nat) (x : Int × Int) (out : List Int) : (oneB frm n x out).length = out.length := by unfold oneB; rw [fillB_length, fillB_length]
theorem bitsAll_length (xs : List Int) (ys : List (Int × Int)) (n : Nat) : (bitsAll xs ys n).length = xs.length + n := by
  unfold bitsAll
  suffices ∀ out, (ys.foldl (fun out x => oneB xs.length n x out) out).length = out.length by rw [this]; simp
  intro out
  induction ys generalizing out with
  | nil => rfl
  | cons y ys ih => rw [List.foldl_cons, ih, oneB_length]
theorem w64n (m : Nat) (h : m < 9223372036854775808) : wrap64 (m : Int) = (m : Int) := by unfold wrap64; omega
theorem w64c (j : Nat) (h : j < 64) : wrap64 (64 + (j : Int) + 1) = 64 + ((j + 1 : Nat) : Int) := by unfold wrap64; omega
def Row (w : World) (base : Nat) (v : Value) (xs : List Int) : Prop := w.ownsRow base 38 1 v xs.length (u32s xs)
theorem row_cell {w : World} {base g n c : Nat} {xs : List Int} (h : Row w base (.slice (some ⟨g, 0, none⟩) n c) xs) {j : Nat} (hj : j < xs.length) : w.cell? ⟨g, j, none⟩ = some (.int .u32 (xs.getD j 0)) := by
  have := World.ownsRow.cells h (g := g) rfl j (.int .u32 (xs.getD j 0)) (by simp [u32s, List.getD, hj])
  rw [add_plain] at this
  exact this
theorem row_frozen {w : World} {base g n c : Nat} {xs : List Int} (h : Row w base (.slice (some ⟨g, 0, none⟩) n c) xs) (j : Nat) : w.frozen? ⟨g, j, none⟩ = false := by
  rcases h.2 with ⟨e, _⟩ | ⟨g', cap, cur, e, _, hg, _⟩
  · cases e
  · injection e with e1
    injection e1 with e1
    injection e1 with e1
    subst e1
    exact blk_frozen hg j
theorem row_bump {w : World} {base g n c : Nat} {xs : List Int} (h : Row w base (.slice (some ⟨g, 0, none⟩) n c) xs) (j : Nat) (x : Int) : Row (w.setCell ⟨g, j, none⟩ (.int .u32 x)) base (.slice (some ⟨g, 0, none⟩) n c) (xs.set j x) := by
  have r : (Kd.int .u32).R 38 w base (fun _ => True) (.slice (some ⟨g, 0, none⟩) n c) xs := Kd.R_of_own h (fun _ _ => trivial)
  have := (Kd.R_putg r (j : Int) x).1
  exact Kd.own_of_R this
theorem keep_far {w W : World} {p g : Nat} {row : Option Nat} (h : KeepBut w W p row) (hg : some g = row ∨ w.heap.size ≤ g) (j : Nat) (u : Value) : KeepBut w (W.setCell ⟨g, j, none⟩ u) p row :=
  ⟨by have := h.1; simpa [World.setCell] using this, fun i hi hp hr => (Below.heap_setCell W ⟨g, j, none⟩ u i (by
    rintro rfl
    rcases hg with hg | hg
    · exact hr hg
    · exact absurd hi (Nat.not_lt.2 hg))).trans (h.2 i hi hp hr)⟩
def Wides (w : World) (g : Nat) (ys : List (Int × Int)) : Prop := ∀ j (h : j < ys.length), w.cell? ⟨g, j * 2, none⟩ = some (.int .u64 ys[j].1) ∧ w.cell? ⟨g, j * 2 + 1, none⟩ = some (.int .u64 ys[j].2)
theorem heap_alloc_old' {w : World} {g : Nat} {x : Obj} (h : w.heap[g]? = some x) (o : Obj) : (w.alloc o).heap[g]? = some x := (Below.heap_alloc w o g (blk_lt h)).trans h
set_option maxHeartbeats 8000000 in
set_option maxRecDepth 100000 in
theorem tally_bits_walk (base p : Nat) (v0 : Value) (xs : List Int) (AA : Option Addr) (gA c1 : Nat) (ys : List (Int × Int)) (n : Nat) (w : World)
    (hbox : w.heap[p]? = some (.cells #[v0] 45 (0, 0))) (hR : Row w base v0 xs) (hne : v0.ownBlock ≠ some p) (hx0 : 0 < xs.length) (hn0 : 0 < n) (hn : n ≤ 128) (hxl : xs.length ≤ 1000000) (hyl : ys.length ≤ 17592186044416)
    (hys : ∀ W', KeepBut w W' p v0.ownBlock → Wides W' gA ys) (hbp : base ≤ p) (hAA : 0 < ys.length → AA = some ⟨gA, 0, none⟩) :
    Calls Try.prog 20 #[.pointer (some ⟨p, 0, none⟩), .slice AA ys.length c1, .int .i64 (n : Int)] w fun e w' => ∃ v, e = .returned v ∧ ∃ v1, w'.heap[p]? = some (.cells #[v1] 45 (0, 0)) ∧ Row w' base v1 (bitsAll xs ys n) ∧ KeepBut w w' p v0.ownBlock ∧ (v1.ownBlock = v0.ownBlock ∨ ∃ b, v1.ownBlock = some b ∧ w.heap.size ≤ b) ∧ Below base w w' := by
  have hcell : w.cell? ⟨p, 0, none⟩ = some v0 := (blk_cell hbox 0).trans rfl
  have hfz := blk_frozen hbox 0
  have HBOX := Aside0.mk hbox
  have HROW := Aside0.mk hR
  clear hbox
  obtain ⟨A0, c0, rfl⟩ : ∃ A0 c0, v0 = .slice A0 xs.length c0 := by
    rcases hR.2 with ⟨_, h⟩ | ⟨g, cap, cur, rfl, _⟩
    · omega
    · exact ⟨_, _, rfl⟩
  clear hR
  obtain ⟨I, hI, hII⟩ := Option.map_eq_some_iff.1 (show (Try.prog.info? 38).map (fun i => (i.zero, i.size, i.bytes)) = some (some (.int .u32 0), 1, 4) by kernel_rfl)
  simp only [Prod.mk.injEq] at hII
  have HI := Aside0.mk hI
  have HI2 := Aside0.mk hII
  clear hI hII
  have HSZ := Aside0.mk (blk_lt HBOX.out)
  have HN := Aside0.mk (⟨hx0, hn0, hn, hxl, hyl, hbp, hne⟩ : 0 < xs.length ∧ 0 < n ∧ n ≤ 128 ∧ xs.length ≤ 1000000 ∧ ys.length ≤ 17592186044416 ∧ base ≤ p ∧ _)
  have HYS := Aside0.mk hys
  have HAA := Aside0.mk hAA
  clear hAA
  clear hx0 hn0 hn hxl hyl hbp hys hne
  go_enter Try.func20, Try.ntmps20
  go_wp2_with (first | ((with_reducible refine gate_builtin (b := .append) (xs := #[.tmp 20, .tmp 21]) rfl ?_); at_builtin; refine wpList_appz _ rfl (.tmp 20) (.tmp 21) 32 3 rfl base 38 .i64 I (.int .u32 0) (.int .u32 0) Try.underlying32 Try.underlying3 HI.out HI2.out.1 rfl rfl HI2.out.2.1 (by rw [HI2.out.2.2]; decide) (.slice A0 xs.length c0) xs.length HN.out.1 (u32s xs) rfl HROW.out n rfl HN.out.2.1 (by have := HN.out; simp only [maxLen]; omega) (by have := HN.out; rw [HI2.out.2.2]; omega) (by have := HN.out; have := HSZ.out; omega) ?_; intro v1 w1 hrow1 hg1 hat1; have hbox1 := (hg1.block p HSZ.out (fun e => HN.out.2.2.2.2.2.2 e.symm)).trans HBOX.out; obtain ⟨g1, cap1, rfl⟩ : ∃ g1 cap1, v1 = .slice (some ⟨g1, 0, none⟩) (xs.length + n) cap1 := (by rcases hrow1.2 with ⟨_, h⟩ | ⟨g, cap, cur, rfl, _⟩; (have := HN.out; omega); exact ⟨_, _, rfl⟩); have hc1 := (blk_cell hbox1 0).trans rfl; have hfz1 := blk_frozen hbox1 0))
  have hg1p : g1 ≠ p := by
    have hn := HN.out
    have hs := HSZ.out
    rcases hat1 with h | ⟨b, h, hb⟩
    · intro e; rw [← h, e] at hn; exact hn.2.2.2.2.2.2 rfl
    · have : g1 = b := by simpa [Value.ownBlock] using h
      omega
  have BOX := Aside0.mk ((blk_set hbox1 0 (.slice (some ⟨g1, 0, none⟩) (xs.length + n) cap1)).trans rfl)
  have ROW : Aside0 (Row (w1.setCell ⟨p, 0, none⟩ (.slice (some ⟨g1, 0, none⟩) (xs.length + n) cap1)) base (.slice (some ⟨g1, 0, none⟩) (xs.length + n) cap1) (xs ++ List.replicate n 0)) := ⟨by
    have := own_setCell hrow1 (p := ⟨p, 0, none⟩) (by simpa [Value.ownBlock] using fun e => hg1p e.symm) (.slice (some ⟨g1, 0, none⟩) (xs.length + n) cap1)
    unfold Row
    rw [List.length_append, List.length_replicate]
    simpa [u32s] using this⟩
  have KB := Aside0.mk ((KeepBut.of_grown hg1 p).set_ 0 (.slice (some ⟨g1, 0, none⟩) (xs.length + n) cap1))
  have BL := Aside0.mk (((Below.refl base w).grown hg1 (by have := HN.out; have := HSZ.out; omega) (fun k hk => (World.ownsRow.lt HROW.out k hk).1)).setCell (p := ⟨p, 0, none⟩) HN.out.2.2.2.2.2.1 (.slice (some ⟨g1, 0, none⟩) (xs.length + n) cap1))
  have HAT := Aside0.mk hat1
  have HGP := Aside0.mk hg1p
  have HG : Aside0 (some g1 = (Value.slice A0 xs.length c0).ownBlock ∨ w.heap.size ≤ g1) := ⟨by
    rcases hat1 with h | ⟨b, h, hb⟩
    · exact Or.inl h
    · have : g1 = b := by simpa [Value.ownBlock] using h
      exact Or.inr (by omega)⟩
  have HGB := Aside0.mk (World.ownsRow.lt hrow1 g1 rfl).1
  clear hrow1 hg1 hat1 hbox1 hc1 hfz1 hg1p hcell hfz
  generalize w1.setCell ⟨p, 0, none⟩ (.slice (some ⟨g1, 0, none⟩) (xs.length + n) cap1) = w2 at *
  go_loopg [27] ys.length (fun kq v27 w' => ∃ (i : Nat), v27 = .int .i64 (i : Int) ∧ Aside0 (i + kq = ys.length) ∧ Aside0 (w'.heap[p]? = some (.cells #[.slice (some ⟨g1, 0, none⟩) (xs.length + n) cap1] 45 (0, 0))) ∧ Aside0 (Row w' base (.slice (some ⟨g1, 0, none⟩) (xs.length + n) cap1) (bitsAll xs (ys.take i) n)) ∧ Aside0 (KeepBut w w' p (Value.slice A0 xs.length c0).ownBlock) ∧ Aside0 (Below base w w'))
  case atStart => exact ⟨0, rfl, ⟨Nat.zero_add _⟩, BOX, ROW, KB, BL⟩
  case round =>
    clear BOX ROW KB BL
    obtain ⟨i, rfl, HI1, BOX, ROW, KB, BL⟩ := hrel
    cases gk with
    | zero =>
      have hi := HI1.out
      rw [Nat.add_zero] at hi
      subst hi
      go_wp2
      rw [List.take_length] at ROW
      exact bodyPost_end (v := .tuple #[]) (by simp [results, Try.results20, go_sem]) rfl ⟨_, rfl, _, BOX.out, ROW.out, KB.out, HAT.out, BL.out⟩
    | succ k1 =>
      have hi := HI1.out
      have hlt : i < ys.length := by omega
      have c1 : decide ((i : Int) < (ys.length : Int)) = true := decide_eq_true (by omega)
      obtain ⟨hw0, hw1⟩ := HYS.out _ KB.out i hlt
      obtain rfl := HAA.out (Nat.lt_of_le_of_lt (Nat.zero_le i) hlt)
      have hmin : (if 64 < (n : Int) then 64 else (n : Int)) = ((min n 64 : Nat) : Int) := by split <;> omega
      have p1 : 0 ≤ (i : Int) := by omega
      generalize hY : ys[i] = y at hw0 hw1
      obtain ⟨hi1, lo1⟩ := y
      have HY := Aside0.mk hY
      clear hY
      go_wp2
      have q0 := blk_new wr (.cells #[.int .u64 hi1, .int .u64 lo1] 51)
      have hps := blk_lt BOX.out
      have hgs := (World.ownsRow.lt ROW.out g1 rfl).2
      have BOX3 := Aside0.mk (heap_alloc_old' BOX.out (.cells #[.int .u64 hi1, .int .u64 lo1] 51))
      have ROW3 : Aside0 (Row (wr.alloc (.cells #[.int .u64 hi1, .int .u64 lo1] 51)) base (.slice (some ⟨g1, 0, none⟩) (xs.length + n) cap1) (fillB xs.length lo1 0 (bitsAll xs (ys.take i) n))) := ⟨own_alloc ROW.out _⟩
      have KB3 := Aside0.mk (KeepBut.trans KB.out (KeepBut.of_below (below_alloc (Below.refl wr.heap.size wr) (.cells #[.int .u64 hi1, .int .u64 lo1] 51)) p (Value.slice A0 xs.length c0).ownBlock) (Or.inl rfl))
      have BL3 := Aside0.mk (BL.out.alloc (by have := HN.out; omega) (.cells #[.int .u64 hi1, .int .u64 lo1] 51))
      have HQ := Aside0.mk (⟨by omega, by omega⟩ : wr.heap.size ≠ p ∧ wr.heap.size ≠ g1)
      have Q3 := Aside0.mk q0
      clear BOX ROW KB BL q0 hps hgs hw0 hw1 p1
      generalize wr.alloc (.cells #[.int .u64 hi1, .int .u64 lo1] 51) = w3 at *
      generalize wr.heap.size = q at *
      have HLEN : Aside0 (∀ j, (fillB xs.length lo1 j (bitsAll xs (ys.take i) n)).length = xs.length + n) := ⟨fun j => by rw [fillB_length, bitsAll_length]⟩
      go_loopg [33] (min n 64) (fun kq v33 w' => ∃ (j : Nat), v33 = .int .i64 (j : Int) ∧ Aside0 (j + kq = min n 64) ∧ Aside0 (w'.heap[p]? = some (.cells #[.slice (some ⟨g1, 0, none⟩) (xs.length + n) cap1] 45 (0, 0))) ∧ Aside0 (w'.heap[q]? = some (.cells #[.int .u64 hi1, .int .u64 lo1] 51 (0, 0))) ∧ Aside0 (Row w' base (.slice (some ⟨g1, 0, none⟩) (xs.length + n) cap1) (fillB xs.length lo1 j (bitsAll xs (ys.take i) n))) ∧ Aside0 (KeepBut w w' p (Value.slice A0 xs.length c0).ownBlock) ∧ Aside0 (Below base w w'))
      case atStart => exact ⟨0, rfl, ⟨Nat.zero_add _⟩, BOX3, Q3, ROW3, KB3, BL3⟩
      case round =>
        clear BOX3 Q3 ROW3 KB3 BL3
        obtain ⟨j, rfl, HJ, BOX, Q, ROW, KB, BL⟩ := hrel
        cases gk with
        | zero =>
          have hj := HJ.out
          rw [Nat.add_zero] at hj
          subst hj
          have HLEN2 : Aside0 (∀ j, (fillB (xs.length + 64) hi1 j (fillB xs.length lo1 (min n 64) (bitsAll xs (ys.take i) n))).length = xs.length + n) := ⟨fun j => by rw [fillB_length]; exact HLEN.out _⟩
          go_wp2
          go_loopg [10] (n - 64) (fun kq v10 w' => ∃ (j : Nat), v10 = .int .i64 (64 + (j : Int)) ∧ Aside0 (j + kq = n - 64) ∧ Aside0 (w'.heap[p]? = some (.cells #[.slice (some ⟨g1, 0, none⟩) (xs.length + n) cap1] 45 (0, 0))) ∧ Aside0 (w'.heap[q]? = some (.cells #[.int .u64 hi1, .int .u64 lo1] 51 (0, 0))) ∧ Aside0 (Row w' base (.slice (some ⟨g1, 0, none⟩) (xs.length + n) cap1) (fillB (xs.length + 64) hi1 j (fillB xs.length lo1 (min n 64) (bitsAll xs (ys.take i) n)))) ∧ Aside0 (KeepBut w w' p (Value.slice A0 xs.length c0).ownBlock) ∧ Aside0 (Below base w w'))
          case atStart => exact ⟨0, rfl, ⟨Nat.zero_add _⟩, BOX, Q, ROW, KB, BL⟩
          case round =>
            clear BOX Q ROW KB BL
            obtain ⟨j, rfl, HJ2, BOX, Q, ROW, KB, BL⟩ := hrel
            cases gk with
            | zero =>
              have hj := HJ2.out
              have d1 : decide (64 + (j : Int) < (n : Int)) = false := decide_eq_false (by omega)
              rw [Nat.add_zero] at hj
              subst hj
              have hN := HN.out
              have ei := Aside0.mk (w64n (i + 1) (Nat.lt_of_le_of_lt (Nat.le_trans hlt hN.2.2.2.2.1) (by decide)))
              have hstep : bitsAll xs (ys.take (i + 1)) n = fillB (xs.length + 64) hi1 (n - 64) (fillB xs.length lo1 (min n 64) (bitsAll xs (ys.take i) n)) := by
                have e := HY.out
                unfold bitsAll
                rw [List.take_succ_eq_append_getElem hlt, List.foldl_append, e]
                rfl
              have HSTEP := Aside0.mk hstep
              clear hN hstep
              go_wp2
              go_roundg k1
              case measure => omega
              case rel => exact ⟨i + 1, by first | rfl | (rw [← ei.out]; rfl), ⟨by have := HI1.out; omega⟩, BOX, ⟨by rw [HSTEP.out]; exact ROW.out⟩, KB, BL⟩
            | succ k2 =>
              have hj := HJ2.out
              have hN := HN.out
              have d1 : decide (64 + (j : Int) < (n : Int)) = true := decide_eq_true (by omega)
              have jn : 64 + j < n := by omega
              have j128 : xs.length + (64 + j) < 9223372036854775808 := Nat.lt_of_lt_of_le (Nat.add_lt_add_left jn _) (Nat.le_trans (Nat.add_le_add hN.2.2.2.1 hN.2.2.1) (by decide))
              have jb : j < 9223372036854775808 := Nat.lt_of_le_of_lt (Nat.le_trans (Nat.le_add_left j 64) (Nat.le_add_left _ xs.length)) j128
              have hcp : wr.cell? ⟨p, 0, none⟩ = some (.slice (some ⟨g1, 0, none⟩) (xs.length + n) cap1) := (blk_cell BOX.out 0).trans rfl
              have hcq : wr.cell? ⟨q, 0, none⟩ = some (.int .u64 hi1) := (blk_cell Q.out 0).trans rfl
              have hlen := HLEN2.out j
              have hce : wr.cell? ⟨g1, xs.length + (64 + j), none⟩ = some (.int .u32 ((fillB (xs.length + 64) hi1 j (fillB xs.length lo1 (min n 64) (bitsAll xs (ys.take i) n))).getD (xs.length + (64 + j)) 0)) := row_cell ROW.out (by rw [hlen]; omega)
              have hfe := row_frozen ROW.out (xs.length + (64 + j))
              have ea : wrap64 ((xs.length : Int) + (64 + (j : Int))) = ((xs.length + (64 + j) : Nat) : Int) := w64n (xs.length + (64 + j)) j128
              have x1 : (0 : Int) ≤ (xs.length : Int) + (64 + (j : Int)) := Int.natCast_nonneg (xs.length + (64 + j))
              have x2 : (xs.length : Int) + (64 + (j : Int)) < (xs.length : Int) + (n : Int) := Int.ofNat_lt.2 (Nat.add_lt_add_left jn _)
              have x3 : 0 ≤ (j : Int) := Int.natCast_nonneg j
              have ea2 : IntKind.i64.wrap ((xs.length : Int) + (64 + (j : Int))) = (xs.length : Int) + (64 + (j : Int)) := (i64_w _).trans ea
              have ea3 : ((xs.length : Int) + (64 + (j : Int))).toNat = xs.length + (64 + j) := rfl
              have x4 := Nat.add_lt_add_left jn xs.length
              have eb4 : IntKind.i64.wrap (j : Int) = (j : Int) := (i64_w _).trans (w64n j jb)
              have eb2 : IntKind.i64.wrap (64 + (j : Int) - 64) = (j : Int) := by rw [show 64 + (j : Int) - 64 = (j : Int) by omega]; exact eb4
              have j64 : j < 64 := Nat.lt_of_add_lt_add_left (show 64 + j < 64 + 64 from Nat.lt_of_lt_of_le jn hN.2.2.1)
              have eb5 := Aside0.mk (w64c j j64)
              clear hj hN
              generalize hel : (fillB (xs.length + 64) hi1 j (fillB xs.length lo1 (min n 64) (bitsAll xs (ys.take i) n))).getD (xs.length + (64 + j)) 0 = el at hce
              go_wp2
              go_still_tail 17, (by kernel_rfl)
              change wpList _ _ _ _ _ wr.drew
              go_wp2
              go_roundg k2
              case measure => omega
              case rel => exact ⟨j + 1, by first | rfl | (rw [eb5.out]; done) | (rw [← eb5.out]; done) | (rw [← eb5.out]; rfl), ⟨by have := HJ2.out; omega⟩, ⟨blk_far BOX.out (fun e => HGP.out e.symm) _⟩, ⟨blk_far Q.out (fun e => HQ.out.2 e) _⟩, ⟨by
                have hnew : fillB (xs.length + 64) hi1 (j + 1) (fillB xs.length lo1 (min n 64) (bitsAll xs (ys.take i) n)) = (fillB (xs.length + 64) hi1 j (fillB xs.length lo1 (min n 64) (bitsAll xs (ys.take i) n))).set (xs.length + (64 + j)) ((el + Go.bits .and .u64 (hi1 / 2 ^ j) 1) % 4294967296) := by
                  rw [← hel, ← Nat.add_assoc]; rfl
                rw [hnew]
                exact row_bump ROW.out _ _⟩, ⟨keep_far KB.out HG.out _ _⟩, ⟨(BL.out.setCell (p := ⟨g1, xs.length + (64 + j), none⟩) HGB.out _).drew⟩⟩
        | succ k2 =>
          have hj := HJ.out
          have hN := HN.out
          have d1 : decide ((j : Int) < ((min n 64 : Nat) : Int)) = true := decide_eq_true (by omega)
          have d1n : j < min n 64 := by omega
          have hcp : wr.cell? ⟨p, 0, none⟩ = some (.slice (some ⟨g1, 0, none⟩) (xs.length + n) cap1) := (blk_cell BOX.out 0).trans rfl
          have hcq : wr.cell? ⟨q, 1, none⟩ = some (.int .u64 lo1) := (blk_cell Q.out 1).trans rfl
          have hlen : (fillB xs.length lo1 j (bitsAll xs (ys.take i) n)).length = xs.length + n := HLEN.out j
          have hce : wr.cell? ⟨g1, xs.length + j, none⟩ = some (.int .u32 ((fillB xs.length lo1 j (bitsAll xs (ys.take i) n)).getD (xs.length + j) 0)) := row_cell ROW.out (by rw [hlen]; omega)
          have hfe := row_frozen ROW.out (xs.length + j)
          have jn : j < n := Nat.lt_of_lt_of_le d1n (Nat.min_le_left _ _)
          have j64 : j < 64 := Nat.lt_of_lt_of_le d1n (Nat.min_le_right _ _)
          have ea : wrap64 ((xs.length : Int) + (j : Int)) = ((xs.length + j : Nat) : Int) := w64n (xs.length + j) (Nat.lt_of_lt_of_le (Nat.add_lt_add_of_le_of_lt hN.2.2.2.1 j64) (by decide))
          have x1 : (0 : Int) ≤ (xs.length : Int) + (j : Int) := Int.natCast_nonneg (xs.length + j)
          have x2 : (xs.length : Int) + (j : Int) < (xs.length : Int) + (n : Int) := Int.ofNat_lt.2 (Nat.add_lt_add_left jn _)
          have x3 : 0 ≤ (j : Int) := Int.natCast_nonneg j
          have ea2 : IntKind.i64.wrap ((xs.length : Int) + (j : Int)) = (xs.length : Int) + (j : Int) := (i64_w _).trans (ea.trans (Int.natCast_add _ _))
          have ea3 : ((xs.length : Int) + (j : Int)).toNat = xs.length + j := rfl
          have x4 := Nat.add_lt_add_left jn xs.length
          clear hi hj hN d1n
          generalize hel : (fillB xs.length lo1 j (bitsAll xs (ys.take i) n)).getD (xs.length + j) 0 = el at hce
          go_wp2
          go_still_tail 16, (by kernel_rfl)
          change wpList _ _ _ _ _ wr.drew
          go_wp2
          go_roundg k2
          case measure => omega
          case rel => exact ⟨j + 1, rfl, ⟨by have := HJ.out; omega⟩, ⟨blk_far BOX.out (fun e => HGP.out e.symm) _⟩, ⟨blk_far Q.out (fun e => HQ.out.2 e) _⟩, ⟨by
            have hnew : fillB xs.length lo1 (j + 1) (bitsAll xs (ys.take i) n) = (fillB xs.length lo1 j (bitsAll xs (ys.take i) n)).set (xs.length + j) ((el + Go.bits .and .u64 (lo1 / 2 ^ j) 1) % 4294967296) := by rw [← hel]; rfl
            rw [hnew]
            exact row_bump ROW.out _ _⟩, ⟨keep_far KB.out HG.out _ _⟩, ⟨(BL.out.setCell (p := ⟨g1, xs.length + j, none⟩) HGB.out _).drew⟩⟩

/-! ### tally_Encode: function 12 -/
/-! ### tally_Encode -/
def flatW (ys : List (Int × Int)) : List Value := ys.flatMap fun y => [.int .u64 y.1, .int .u64 y.2]
theorem flatW_length (ys : List (Int × Int)) : (flatW ys).length = ys.length * 2 := by
  induction ys with
  | nil => rfl
  | cons y ys ih => simp only [flatW, List.flatMap_cons, List.length_append, List.length_cons, List.length_nil] at ih ⊢; omega
theorem flatW_get : ∀ (ys : List (Int × Int)) (j : Nat) (h : j < ys.length), (flatW ys)[j * 2]? = some (.int .u64 ys[j].1) ∧ (flatW ys)[j * 2 + 1]? = some (.int .u64 ys[j].2)
  | [], j, h => by simp at h
  | y :: ys, 0, h => by simp [flatW]
  | y :: ys, j + 1, h => by
    have ih := flatW_get ys j (by simpa using h)
    have e : flatW (y :: ys) = .int .u64 y.1 :: .int .u64 y.2 :: flatW ys := rfl
    rw [e, show (j + 1) * 2 = j * 2 + 2 by omega, show j * 2 + 2 + 1 = j * 2 + 1 + 2 by omega]
    exact ih
theorem flatW_append (ys : List (Int × Int)) (y : Int × Int) : flatW (ys ++ [y]) = flatW ys ++ [.int .u64 y.1, .int .u64 y.2] := by simp [flatW]
def WRow (w : World) (base : Nat) (v : Value) (ys : List (Int × Int)) : Prop := w.ownsRow base 51 2 v ys.length (flatW ys)
theorem WRow.wides {w : World} {base g n c : Nat} {ys : List (Int × Int)} (h : WRow w base (.slice (some ⟨g, 0, none⟩) n c) ys) : Wides w g ys := by
  intro j hj
  obtain ⟨e0, e1⟩ := flatW_get ys j hj
  have c0 := World.ownsRow.cells h (g := g) rfl _ _ e0
  have c1 := World.ownsRow.cells h (g := g) rfl _ _ e1
  rw [add_plain] at c0 c1
  exact ⟨c0, c1⟩
/-- Two rows apart. -/
def Dis (u v : Value) : Prop := u.ownBlock = none ∨ u.ownBlock ≠ v.ownBlock
theorem Dis.new {u v v1 : Value} {W : World} (hd : Dis u v) (hlt : ∀ k, u.ownBlock = some k → k < W.heap.size) (hat : v1.ownBlock = v.ownBlock ∨ ∃ b, v1.ownBlock = some b ∧ W.heap.size ≤ b) : Dis u v1 := by
  rcases hat with h | ⟨b, h, hb⟩
  · unfold Dis; rw [h]; exact hd
  · cases hu : u.ownBlock with
    | none => exact Or.inl hu
    | some k =>
      right
      rw [hu, h]
      intro e
      injection e with e
      have := hlt k hu
      omega
theorem Dis.symm {u v : Value} (h : Dis u v) : Dis v u := by
  cases hv : v.ownBlock with
  | none => exact Or.inl hv
  | some k =>
    right
    rw [hv]
    rcases h with h | h
    · rw [h]; intro e; cases e
    · rw [hv] at h; exact fun e => h e.symm
def offP (v : Value) (p : Nat) : Prop := v.ownBlock ≠ some p
theorem offP.new {v v1 : Value} {p : Nat} {W : World} (hd : offP v p) (hp : p < W.heap.size) (hat : v1.ownBlock = v.ownBlock ∨ ∃ b, v1.ownBlock = some b ∧ W.heap.size ≤ b) : offP v1 p := by
  rcases hat with h | ⟨b, h, hb⟩
  · unfold offP; rw [h]; exact hd
  · unfold offP; rw [h]; intro e; injection e with e; omega
theorem kept_row {w w' : World} {base e size n : Nat} {u v : Value} {xs : List Value} (h : w.ownsRow base e size u n xs) (hg : w.grownBy w' v.ownBlock) (hd : Dis u v) : w'.ownsRow base e size u n xs := h.kept hg hd
theorem below_grown {w w' : World} (hb : Below w.heap.size w w') (row : Option Nat) : w.grownBy w' row := ⟨hb.os, hb.tape, hb.output, hb.size, fun k hk _ => hb.block k hk⟩
theorem own_below {w w' : World} {base e size n : Nat} {v : Value} {xs : List Value} (h : w.ownsRow base e size v n xs) (hb : Below w.heap.size w w') : w'.ownsRow base e size v n xs := by
  refine h.kept (below_grown hb none) ?_
  cases hv : v.ownBlock
  · exact Or.inl rfl
  · right; intro e; cases e
theorem row_of {w : World} {base n : Nat} {v : Value} {xs : List Int} {x : Int} (hn : xs.length = n) (h : w.ownsRow base 38 1 v (n + 1) (u32s xs ++ [.int .u32 x])) : Row w base v (xs ++ [x]) := by
  subst hn
  unfold Row
  rw [List.length_append, show u32s (xs ++ [x]) = u32s xs ++ [.int .u32 x] by simp [u32s]]
  exact h
theorem wrow_of {w : World} {base n : Nat} {v : Value} {ys : List (Int × Int)} {a b : Int} (hn : ys.length = n) (h : w.ownsRow base 51 2 v (n + 1) (flatW ys ++ [.int .u64 a, .int .u64 b])) : WRow w base v (ys ++ [(a, b)]) := by
  subst hn
  unfold WRow
  rw [List.length_append, flatW_append]
  exact h
theorem slice_of {w : World} {base e size n : Nat} {v : Value} {xs : List Value} (h : w.ownsRow base e size v (n + 1) xs) : ∃ g c, v = .slice (some ⟨g, 0, none⟩) (n + 1) c := by
  rcases h.2 with ⟨_, h⟩ | ⟨g, cap, cur, rfl, _⟩
  · omega
  · exact ⟨_, _, rfl⟩
/-- What is known of the writer and of both lists. -/
structure St (p : Nat) (w1 w' : World) (v2 vP vS : Value) (XS : List Int) (Ps Qs : List (Int × Int)) : Prop where
  box : w'.heap[p]? = some (.cells #[v2] 45 (0, 0))
  row : Row w' w1.heap.size v2 XS
  rp : WRow w' w1.heap.size vP Ps
  rs : WRow w' w1.heap.size vS Qs
  dps : Dis vP vS
  dp : Dis vP v2
  ds : Dis vS v2
  op : offP vP p
  os : offP vS p
  o2 : offP v2 p
  bel : Below w1.heap.size w1 w'
theorem St.below {p : Nat} {w1 w w' : World} {v2 vP vS : Value} {XS : List Int} {Ps Qs : List (Int × Int)} (s : St p w1 w v2 vP vS XS Ps Qs) (hb : Below w.heap.size w w') : St p w1 w' v2 vP vS XS Ps Qs :=
  ⟨(hb.block p (blk_lt s.box)).trans s.box, own_below s.row hb, own_below s.rp hb, own_below s.rs hb, s.dps, s.dp, s.ds, s.op, s.os, s.o2, below_step s.bel hb⟩
theorem St.pushP {p : Nat} {w1 w w' : World} {v2 vP vS vP' : Value} {XS : List Int} {Ps Qs : List (Int × Int)} {a b : Int} (s : St p w1 w v2 vP vS XS Ps Qs)
    {n : Nat} (hn : Ps.length = n) (ho : w'.ownsRow w1.heap.size 51 2 vP' (n + 1) (flatW Ps ++ [.int .u64 a, .int .u64 b])) (hb : Below w1.heap.size w1 w') (hg : w.grownBy w' vP.ownBlock) (hat : vP'.ownBlock = vP.ownBlock ∨ ∃ b, vP'.ownBlock = some b ∧ w.heap.size ≤ b) :
    St p w1 w' v2 vP' vS XS (Ps ++ [(a, b)]) Qs :=
  ⟨(hg.block p (blk_lt s.box) (fun e => s.op e.symm)).trans s.box, kept_row s.row hg s.dp.symm, wrow_of hn ho, kept_row s.rs hg s.dps.symm,
   (Dis.new s.dps.symm (fun k hk => (World.ownsRow.lt s.rs k hk).2) hat).symm, (Dis.new s.dp.symm (fun k hk => (World.ownsRow.lt s.row k hk).2) hat).symm, s.ds, s.op.new (blk_lt s.box) hat, s.os, s.o2, hb⟩
theorem St.pushS {p : Nat} {w1 w w' : World} {v2 vP vS vS' : Value} {XS : List Int} {Ps Qs : List (Int × Int)} {a b : Int} (s : St p w1 w v2 vP vS XS Ps Qs)
    {n : Nat} (hn : Qs.length = n) (ho : w'.ownsRow w1.heap.size 51 2 vS' (n + 1) (flatW Qs ++ [.int .u64 a, .int .u64 b])) (hb : Below w1.heap.size w1 w') (hg : w.grownBy w' vS.ownBlock) (hat : vS'.ownBlock = vS.ownBlock ∨ ∃ b, vS'.ownBlock = some b ∧ w.heap.size ≤ b) :
    St p w1 w' v2 vP vS' XS Ps (Qs ++ [(a, b)]) :=
  ⟨(hg.block p (blk_lt s.box) (fun e => s.os e.symm)).trans s.box, kept_row s.row hg s.ds.symm, kept_row s.rp hg s.dps, wrow_of hn ho,
   Dis.new s.dps (fun k hk => (World.ownsRow.lt s.rp k hk).2) hat, s.dp, (Dis.new s.ds.symm (fun k hk => (World.ownsRow.lt s.row k hk).2) hat).symm, s.op, s.os.new (blk_lt s.box) hat, s.o2, hb⟩
theorem wrow_form {w : World} {base : Nat} {v : Value} {ys : List (Int × Int)} (h : WRow w base v ys) : ∃ AA g c, v = .slice AA ys.length c ∧ (0 < ys.length → AA = some ⟨g, 0, none⟩) := by
  rcases h.2 with ⟨rfl, hn⟩ | ⟨g, cap, cur, rfl, _⟩
  · exact ⟨none, 0, 0, by rw [hn], fun hp => by omega⟩
  · exact ⟨_, g, cap, rfl, fun _ => rfl⟩
theorem wides_any {w : World} {base g c : Nat} {AA : Option Addr} {ys : List (Int × Int)} (h : WRow w base (.slice AA ys.length c) ys) (hA : 0 < ys.length → AA = some ⟨g, 0, none⟩) : Wides w g ys := by
  intro j hj
  obtain rfl := hA (by omega)
  exact WRow.wides h j hj
theorem tally_bits_at (base p : Nat) (v0 : Value) (xs : List Int) (AA : Option Addr) (gA c1 : Nat) (ys : List (Int × Int)) (n : Nat) (nI : Int) (w : World) (hnI : nI = (n : Int))
    (hbox : w.heap[p]? = some (.cells #[v0] 45 (0, 0))) (hR : Row w base v0 xs) (hne : offP v0 p) (hx0 : 0 < xs.length) (hn0 : 0 < n) (hn : n ≤ 128) (hxl : xs.length ≤ 1000000) (hyl : ys.length ≤ 17592186044416)
    (hys : ∀ W', KeepBut w W' p v0.ownBlock → Wides W' gA ys) (hbp : base ≤ p) (hAA : 0 < ys.length → AA = some ⟨gA, 0, none⟩) :
    Calls Try.prog 20 #[.pointer (some ⟨p, 0, none⟩), .slice AA ys.length c1, .int .i64 nI] w fun e w' => ∃ v, e = .returned v ∧ ∃ v1, w'.heap[p]? = some (.cells #[v1] 45 (0, 0)) ∧ Row w' base v1 (bitsAll xs ys n) ∧ KeepBut w w' p v0.ownBlock ∧ (v1.ownBlock = v0.ownBlock ∨ ∃ b, v1.ownBlock = some b ∧ w.heap.size ≤ b) ∧ Below base w w' := by
  subst hnI
  exact tally_bits_walk base p v0 xs AA gA c1 ys n w hbox hR hne hx0 hn0 hn hxl hyl hys hbp hAA
/-- Each sample's place, and its square. -/
def encPl (k : Nat) (a b c : Int) (l : List Int) : List Int → Option (List (Int × Int) × List (Int × Int))
  | [] => some ([], [])
  | x :: r => (clamp_Place.f k a b c l x).bind fun t => (wide_Mul.f t.1 t.1).bind fun m => (encPl k a b c l r).bind fun q => some ((0, t.1) :: q.1, m :: q.2)
theorem encPl_mono (k : Nat) (a b c : Int) (l : List Int) : ∀ s, LeO (encPl k a b c l s) (encPl (k + 1) a b c l s)
  | [] => LeO.refl _
  | x :: r => by
    have ih := encPl_mono k a b c l r
    unfold encPl
    refine LeO.bind (clamp_Place.mono _ _ _ _ _ _) fun t => LeO.bind (LeO.refl _) fun m => LeO.bind ih fun q => LeO.refl _
theorem encPl_get {k : Nat} {a b c : Int} {l : List Int} : ∀ {s : List Int} {P Q : List (Int × Int)}, encPl k a b c l s = some (P, Q) → P.length = s.length ∧ Q.length = s.length ∧ ∀ i (h : i < s.length) (h1 : i < P.length) (h2 : i < Q.length), ∃ t e, clamp_Place.f k a b c l s[i] = some (t, e) ∧ wide_Mul.f t t = some Q[i] ∧ P[i] = (0, t)
  | [], P, Q, h => by
    simp only [encPl, Option.some.injEq, Prod.mk.injEq] at h
    obtain ⟨rfl, rfl⟩ := h
    exact ⟨rfl, rfl, fun i h => by simp at h⟩
  | x :: r, P, Q, h => by
    unfold encPl at h
    obtain ⟨⟨t, e⟩, h1, h⟩ := Option.bind_eq_some_iff.mp h
    obtain ⟨m, h2, h⟩ := Option.bind_eq_some_iff.mp h
    obtain ⟨⟨P', Q'⟩, h3, h⟩ := Option.bind_eq_some_iff.mp h
    simp only [Option.some.injEq, Prod.mk.injEq] at h
    obtain ⟨rfl, rfl⟩ := h
    obtain ⟨g1, g2, g3⟩ := encPl_get h3
    refine ⟨by simp [g1], by simp [g2], fun i hi hp hq => ?_⟩
    cases i with
    | zero => exact ⟨t, e, h1, h2, rfl⟩
    | succ i => exact g3 i (by simpa using hi) (by simpa using hp) (by simpa using hq)
def u32of (x : Int) : Int := x % 4294967296
def tally_Encode.f (k : Nat) (a0_0 : Int) (a0_1 : Int) (a0_2 : Int) (l0_3 : List Int) (l1 : List Int) : Option (List Int × Int) :=
  (bin_Count.f k a0_0 a0_1 a0_2 l0_3 l1).bind fun be => if be.2 = 0 then ((encPl k a0_0 a0_1 a0_2 l0_3 l1).bind fun q => (clamp_Bits.f k a0_0 a0_1 a0_2 l0_3).bind fun ne =>
    if 0 < ne.1 ∧ ne.1 ≤ 64 ∧ be.1.length ≤ 1000 ∧ l1.length ≤ 100000 then some (bitsAll (bitsAll (be.1.map u32of ++ [u32of l1.length]) q.1 ne.1.toNat) q.2 (2 * ne.1.toNat), 0) else none) else some ([], be.2)
theorem tally_Encode.mono : ∀ a0 a1 a2 a3 a4 k, LeO (tally_Encode.f k a0 a1 a2 a3 a4) (tally_Encode.f (k + 1) a0 a1 a2 a3 a4) := by
  intro a0 a1 a2 a3 a4 k
  unfold tally_Encode.f
  refine LeO.bind (bin_Count.mono _ _ _ _ _ _) fun be => LeO.ite (LeO.bind (encPl_mono _ _ _ _ _ _) fun q => LeO.bind (clamp_Bits.mono _ _ _ _ _) fun ne => LeO.refl _) (LeO.refl _)
theorem info51 : (Try.prog.info? 51).map (fun i => (i.zero, i.size, i.bytes)) = some (some (.agg #[.int .u64 0, .int .u64 0]), 2, 16) := by kernel_rfl
theorem info38' : (Try.prog.info? 38).map (fun i => (i.zero, i.size, i.bytes)) = some (some (.int .u32 0), 1, 4) := by kernel_rfl
set_option maxHeartbeats 16000000 in
set_option maxRecDepth 100000 in
theorem tally_Encode.calls (k : Nat) (a0_0 : Int) (a0_1 : Int) (a0_2 : Int) (A0_3 : Option Addr) (c0_3 : Nat) (l0_3 : List Int) (A1 : Option Addr) (c1 : Nat) (l1 : List Int) (r1 : List Int) (r2 : Int) (w : World) (hr0_3 : Kd.C (Kd.int .i64) w A0_3 l0_3.length l0_3) (hc0_3 : l0_3.length ≤ c0_3) (hr1 : Kd.C (Kd.int .i64) w A1 l1.length l1) (hc1 : l1.length ≤ c1) (h : tally_Encode.f k a0_0 a0_1 a0_2 l0_3 l1 = some (r1, r2)) :
    Calls Try.prog 12 #[.agg #[.int .i64 a0_0, .int .i64 a0_1, .int .i64 a0_2, .slice A0_3 l0_3.length c0_3], .slice A1 l1.length c1] w fun e w' => ∃ v0_ : Value, e = .returned (.tuple #[v0_, .int .i64 r2]) ∧ Kd.R (Kd.int .u32) 38 w' w.heap.size (fun _ => True) v0_ r1 ∧ Below w.heap.size w w' := by
  have hu24 := Try.underlying24
  have hu45 := Try.underlying45
  have hu51 := Try.underlying51
  have HR0 := Aside0.mk hr0_3
  have HC0 := Aside0.mk hc0_3
  have HR1 := Aside0.mk hr1
  have HC1 := Aside0.mk hc1
  clear hr0_3 hc0_3 hr1 hc1
  unfold tally_Encode.f at h
  obtain ⟨⟨tb, te⟩, A1', h⟩ := Option.bind_eq_some_iff.mp h
  have AC := Aside0.mk A1'
  clear A1'
  by_cases hte : te = 0
  · subst hte
    rw [if_pos rfl] at h
    obtain ⟨⟨P, Q⟩, A2', h⟩ := Option.bind_eq_some_iff.mp h
    obtain ⟨⟨nb, ne⟩, A3', h⟩ := Option.bind_eq_some_iff.mp h
    have AB := Aside0.mk A3'
    have AP := Aside0.mk (encPl_get A2')
    clear A2' A3'
    split at h
    case isFalse => cases h
    rename_i hcond
    obtain ⟨rfl, rfl⟩ := Prod.mk.inj (Option.some.inj h)
    clear h
    obtain ⟨n, rfl⟩ : ∃ n : Nat, nb = (n : Int) := ⟨nb.toNat, by omega⟩
    simp only [Int.toNat_natCast] at hcond ⊢
    have HN : Aside0 (0 < n ∧ n ≤ 64 ∧ tb.length ≤ 1000 ∧ l1.length ≤ 100000) := ⟨by omega, by omega, hcond.2.2.1, hcond.2.2.2⟩
    clear hcond
    go_enter Try.func12, Try.ntmps12
    go_wp2_with (first | (go_at_call 17; (with_reducible refine (bin_Count.calls k a0_0 a0_1 a0_2 A0_3 c0_3 l0_3 A1 c1 l1 tb 0 _ ?s1 ?s2 ?s3 ?s4 AC.out).mono ?_); (case s1 => exact Kd.C_below HR0.out (below_alloc (Below.refl _ _) _)); (case s2 => exact HC0.out); (case s3 => exact Kd.C_below HR1.out (below_alloc (Below.refl _ _) _)); (case s4 => exact HC1.out); rintro e w1 ⟨vb, rfl, hRb, hb1⟩; obtain ⟨Ab, cb, rfl⟩ := Kd.R_slice hRb))
    have HBX := Aside0.mk ((hb1.block w.heap.size (by show _ < (w.heap.push _).size; simp)).trans (blk_new w (.cells #[.int .i64 a0_0, .int .i64 a0_1, .int .i64 a0_2, .slice A0_3 l0_3.length c0_3] 24)))
    have HB1 := Aside0.mk (below_step (below_alloc (Below.refl w.heap.size w) (.cells #[.int .i64 a0_0, .int .i64 a0_1, .int .i64 a0_2, .slice A0_3 l0_3.length c0_3] 24)) hb1)
    have HCB := Aside0.mk (Kd.R_reads' hRb).2.2
    have BOX := Aside0.mk (blk_new w1 (.cells #[.slice none 0 0] 45))
    have ROW : Aside0 (Row (w1.alloc (.cells #[.slice none 0 0] 45)) w1.heap.size (.slice none 0 0) ((tb.take 0).map u32of)) := ⟨World.ownsRow_nil _ _ _ _⟩
    have OFF : Aside0 (offP (.slice none 0 0) w1.heap.size) := ⟨by unfold offP; simp [Value.ownBlock]⟩
    have BEL := Aside0.mk (below_alloc (Below.refl w1.heap.size w1) (.cells #[.slice none 0 0] 45))
    have PLT : Aside0 (w1.heap.size < (w1.alloc (.cells #[.slice none 0 0] 45)).heap.size) := ⟨by show _ < (w1.heap.push _).size; simp⟩
    clear hRb hb1
    generalize w1.alloc (.cells #[.slice none 0 0] 45) = w2 at *
    go_loopg [33] tb.length (fun kq v33 w' => ∃ (i : Nat) (v : Value), v33 = .int .i64 (i : Int) ∧ Aside0 (i + kq = tb.length) ∧ Aside0 (w'.heap[w1.heap.size]? = some (.cells #[v] 45 (0, 0))) ∧ Aside0 (Row w' w1.heap.size v ((tb.take i).map u32of)) ∧ Aside0 (offP v w1.heap.size) ∧ Aside0 (Below w1.heap.size w1 w'))
    case atStart => exact ⟨0, _, rfl, ⟨Nat.zero_add _⟩, BOX, ROW, OFF, BEL⟩
    case round =>
      clear BOX ROW OFF BEL PLT
      obtain ⟨i, v, rfl, HI, BOX, ROW, OFF, BEL⟩ := hrel
      cases gk with
      | zero =>
        have hi := HI.out
        rw [Nat.add_zero] at hi
        subst hi
        rw [List.take_length] at ROW
        have HOWN : Aside0 (wr.ownsRow w1.heap.size 38 1 v tb.length (u32s (tb.map u32of))) := ⟨by have := ROW.out; unfold Row at this; rw [List.length_map] at this; exact this⟩
        have hcp := (blk_cell BOX.out 0).trans (show (#[v] : Array Value)[0]? = some v from rfl)
        go_wp2_with (first | ((with_reducible refine gate_builtin (b := .append) (xs := #[.tmp 53, .tmp 57]) rfl ?_); at_builtin; refine print_append_cells (w0 := w1) w1.heap.size rfl (.tmp 53) (.tmp 57) 32 38 (.int .u32 0) 1 4 rfl Try.underlying32 info38' rfl (by decide) (by decide) v tb.length (u32s (tb.map u32of)) [.int .u32 (u32of (l1.length : Int))] rfl rfl rfl (by intro u hu; rw [List.mem_singleton.1 hu]; rfl) HOWN.out BEL.out BEL.out.size (by have := HN.out; omega) ?_; intro v1 w3 hrow3 hb3 hg3 hat3; have hp3 := (hg3.block _ (blk_lt BOX.out) (fun e => OFF.out e.symm)).trans BOX.out; obtain ⟨gv, cv, rfl⟩ := slice_of hrow3; have hc3 := (blk_cell hp3 0).trans rfl; have hf3 := blk_frozen hp3 0; have PLT3 := Aside0.mk (blk_lt BOX.out)))
        have hoff := OFF.out.new PLT3.out hat3
        have S0 : Aside0 (St w1.heap.size w1 (w3.setCell ⟨w1.heap.size, 0, none⟩ (.slice (some ⟨gv, 0, none⟩) (tb.length + 1) cv)) (.slice (some ⟨gv, 0, none⟩) (tb.length + 1) cv) (.slice none 0 0) (.slice none 0 0) (tb.map u32of ++ [u32of (l1.length : Int)]) (P.take 0) (Q.take 0)) := ⟨⟨(blk_set hp3 0 _).trans rfl, row_of (List.length_map ..) (own_setCell hrow3 (p := ⟨w1.heap.size, 0, none⟩) (fun e => hoff e.symm) _), World.ownsRow_nil _ _ _ _, World.ownsRow_nil _ _ _ _, Or.inl rfl, Or.inl rfl, Or.inl rfl, (by unfold offP; simp [Value.ownBlock]), (by unfold offP; simp [Value.ownBlock]), hoff, hb3.setCell (p := ⟨w1.heap.size, 0, none⟩) (Nat.le_refl _) _⟩⟩
        clear hrow3 hb3 hg3 hat3 hp3 hc3 hf3 PLT3 hoff BOX ROW OFF BEL hcp
        generalize w3.setCell ⟨w1.heap.size, 0, none⟩ (.slice (some ⟨gv, 0, none⟩) (tb.length + 1) cv) = w4 at *
        go_loopg [11, 12, 63] l1.length (fun kq v11 v12 v63 w' => ∃ (i : Nat), v63 = .int .i64 (i : Int) ∧ Aside0 (i + kq = l1.length) ∧ Aside0 (St w1.heap.size w1 w' (.slice (some ⟨gv, 0, none⟩) (tb.length + 1) cv) v11 v12 (tb.map u32of ++ [u32of (l1.length : Int)]) (P.take i) (Q.take i)))
        case atStart => exact ⟨0, rfl, ⟨Nat.zero_add _⟩, S0⟩
        case round =>
          clear S0
          obtain ⟨i, rfl, HI, S⟩ := hrel
          have hb0 := (S.out.bel.block w.heap.size (blk_lt HBX.out)).trans HBX.out
          have hz0 : wr.cell? ⟨w.heap.size, 0, none⟩ = some (.int .i64 a0_0) := (blk_cell hb0 0).trans rfl
          have hz1 : wr.cell? ⟨w.heap.size, 1, none⟩ = some (.int .i64 a0_1) := (blk_cell hb0 1).trans rfl
          have hz2 : wr.cell? ⟨w.heap.size, 2, none⟩ = some (.int .i64 a0_2) := (blk_cell hb0 2).trans rfl
          have hz3 : wr.cell? ⟨w.heap.size, 3, none⟩ = some (.slice A0_3 l0_3.length c0_3) := (blk_cell hb0 3).trans rfl
          clear hb0
          cases gk with
          | zero =>
            have hi := HI.out
            rw [Nat.add_zero] at hi
            subst hi
            have gp := AP.out
            rw [List.take_of_length_le (by omega), List.take_of_length_le (by omega)] at S
            obtain ⟨AP1, gP, cP, rfl, hAP⟩ := wrow_form S.out.rp
            obtain ⟨AS1, gS, cS, rfl, hAS⟩ := wrow_form S.out.rs
            have HAP := Aside0.mk hAP
            have HAS := Aside0.mk hAS
            have GP := Aside0.mk gp
            clear hAP hAS gp
            have EM := Aside0.mk ((show wrap64 (2 * (n : Int)) = ((2 * n : Nat) : Int) from w64n (2 * n) (by have := HN.out; omega)))
            go_wp2_with (first | (go_at_call 15; (with_reducible refine (clamp_Bits.calls k a0_0 a0_1 a0_2 A0_3 c0_3 l0_3 (n : Int) ne _ ?s1 ?s2 AB.out).mono ?_); (case s1 => exact Kd.C_below HR0.out (below_step HB1.out S.out.bel)); (case s2 => exact HC0.out); rintro e w5 ⟨rfl, hb5⟩; have S5 := Aside0.mk (S.out.below hb5); clear hb5) | (go_at_call 20; (with_reducible refine (tally_bits_at w1.heap.size w1.heap.size (.slice (some ⟨gv, 0, none⟩) (tb.length + 1) cv) (tb.map u32of ++ [u32of (l1.length : Int)]) AP1 gP cP P n _ _ ?hn S5.out.box S5.out.row S5.out.o2 ?x0 ?n0 ?n1 ?n2 ?n3 ?n4 (Nat.le_refl _) HAP.out).mono ?_); (case hn => rfl); (case x0 => simp); (case n0 => exact HN.out.1); (case n1 => have := HN.out; omega); (case n2 => have := HN.out; simp only [List.length_append, List.length_map, List.length_cons, List.length_nil]; omega); (case n3 => have := HN.out; have := GP.out.1; omega); (case n4 => exact fun W' hk => wides_any (KeepBut.own hk S5.out.rp S5.out.op S5.out.dp) HAP.out); rintro e w6 ⟨ve, rfl, v3, hbx, hrow, hkb, hat, hbel⟩; have BX3 := Aside0.mk hbx; have ROW3 := Aside0.mk hrow; have O3 := Aside0.mk (S5.out.o2.new (blk_lt S5.out.box) hat); have RS3 := Aside0.mk (KeepBut.own hkb S5.out.rs S5.out.os S5.out.ds); have D3 := Aside0.mk (Dis.new S5.out.ds (fun k hk => (World.ownsRow.lt S5.out.rs k hk).2) hat); have BEL3 := Aside0.mk (S5.out.bel.trans hbel); clear hbx hrow hkb hat hbel))
            go_at_call 20
            with_reducible refine (tally_bits_at w1.heap.size w1.heap.size v3 (bitsAll (tb.map u32of ++ [u32of (l1.length : Int)]) P n) AS1 gS cS Q (2 * n) _ _ ?hn BX3.out ROW3.out O3.out ?x0 ?n0 ?n1 ?n2 ?n3 ?n4 (Nat.le_refl _) HAS.out).mono ?_
            case hn => exact EM.out
            case x0 =>
              have := HN.out
              rw [bitsAll_length]
              omega
            case n0 =>
              have := HN.out
              omega
            case n1 =>
              have := HN.out
              omega
            case n2 =>
              have := HN.out
              rw [bitsAll_length]
              simp only [List.length_append, List.length_map, List.length_cons, List.length_nil]
              omega
            case n3 =>
              have := HN.out
              have := GP.out.2.1
              omega
            case n4 => exact fun W' hk => wides_any (KeepBut.own hk RS3.out S5.out.os D3.out) HAS.out
            rintro e w7 ⟨ve2, rfl, v4, hbx, hrow, hkb, hat, hbel⟩
            have BX4 := Aside0.mk hbx
            have ROW4 := Aside0.mk hrow
            have BEL4 := Aside0.mk (BEL3.out.trans hbel)
            have hc7 := (blk_cell hbx 0).trans (show (#[v4] : Array Value)[0]? = some v4 from rfl)
            clear hbx hrow hkb hat hbel
            go_wp2
            go_ret2
            exact ⟨v4, by first | rfl | (simp; done), Kd.R_lower (Kd.R_of_own ROW4.out (fun _ _ => trivial)) HB1.out.size, below_step HB1.out BEL4.out⟩
          | succ k2 =>
            have hi := HI.out
            have hlt : i < l1.length := by omega
            have d1 : decide ((i : Int) < (l1.length : Int)) = true := decide_eq_true (by omega)
            have p1 : 0 ≤ (i : Int) := by omega
            have q1 : (i : Int) < (l1.length : Int) := by omega
            have eg : rd l1 (i : Int) = l1[i] := by unfold rd; simp [List.getD, List.getElem?_eq_getElem hlt]
            obtain ⟨ad1, e1, hx1⟩ := Kd.at_int (Kd.C_below HR1.out (below_step HB1.out S.out.bel)) (i : Int) p1 q1
            cases e1
            rw [eg, Int.toNat_natCast] at hx1
            replace p1 := eq_true p1
            replace q1 := eq_true q1
            obtain ⟨g1, g2, g3⟩ := AP.out
            have hPl : i < P.length := by omega
            have hQl : i < Q.length := by omega
            obtain ⟨tp, tpe, hpl, hml, hpi⟩ := g3 i hlt hPl hQl
            have lP : (P.take i).length = i := by rw [List.length_take]; omega
            have lQ : (Q.take i).length = i := by rw [List.length_take]; omega
            have eP : P.take (i + 1) = P.take i ++ [(0, tp)] := by rw [List.take_succ_eq_append_getElem hPl, hpi]
            generalize hQi : Q[i] = qi at hml
            obtain ⟨qh, ql⟩ := qi
            have eQ : Q.take (i + 1) = Q.take i ++ [(qh, ql)] := by rw [List.take_succ_eq_append_getElem hQl, hQi]
            generalize l1[i] = x at hx1 hpl
            have HPL := Aside0.mk hpl
            have HML := Aside0.mk hml
            have LP := Aside0.mk lP
            have LQ := Aside0.mk lQ
            have EP := Aside0.mk eP
            have EQ := Aside0.mk eQ
            have EW := Aside0.mk (w64n (i + 1) (by have := HN.out; omega))
            clear eg hi hpl hml lP lQ eP eQ g1 g2 g3 hpi hQi hPl hQl hlt
            go_wp2_with (first | (go_at_call 18; (with_reducible refine (clamp_Place.calls k a0_0 a0_1 a0_2 A0_3 c0_3 l0_3 x tp tpe _ ?s1 ?s2 HPL.out).mono ?_); (case s1 => exact Kd.C_below HR0.out (below_step HB1.out S.out.bel)); (case s2 => exact HC0.out); rintro e w5 ⟨rfl, hb5⟩; have S5 := Aside0.mk (S.out.below hb5); clear hb5) | (go_at_call 19; (with_reducible refine (wide_Mul.calls tp tp qh ql _ HML.out).mono ?_); rintro e w7 ⟨rfl, hb7⟩; have S7 := Aside0.mk (S6.out.below hb7); clear hb7) | ((with_reducible refine gate_builtin (b := .append) (xs := #[.tmp 73, .tmp 76]) rfl ?_); at_builtin; refine print_append_cells (w0 := w1) w1.heap.size rfl (.tmp 73) (.tmp 76) 46 51 (.agg #[.int .u64 0, .int .u64 0]) 2 16 rfl Try.underlying46 info51 rfl (by decide) (by decide) u11 i (flatW (P.take i)) [.int .u64 0, .int .u64 tp] rfl rfl rfl (by intro u hu; simp only [List.mem_cons, List.mem_nil_iff, or_false] at hu; rcases hu with rfl | rfl <;> rfl) (by have := S5.out.rp; unfold WRow at this; rw [LP.out] at this; exact this) S5.out.bel S5.out.bel.size (by have := HN.out; have := HI.out; omega) ?_; intro vP w6 hrow hb hg hat; have S6 := Aside0.mk (S5.out.pushP LP.out hrow hb hg hat); clear hrow hb hg hat) | ((with_reducible refine gate_builtin (b := .append) (xs := #[.tmp 78, .tmp 82]) rfl ?_); at_builtin; refine print_append_cells (w0 := w1) w1.heap.size rfl (.tmp 78) (.tmp 82) 46 51 (.agg #[.int .u64 0, .int .u64 0]) 2 16 rfl Try.underlying46 info51 rfl (by decide) (by decide) u12 i (flatW (Q.take i)) [.int .u64 qh, .int .u64 ql] rfl rfl rfl (by intro u hu; simp only [List.mem_cons, List.mem_nil_iff, or_false] at hu; rcases hu with rfl | rfl <;> rfl) (by have := S7.out.rs; unfold WRow at this; rw [LQ.out] at this; exact this) S7.out.bel S7.out.bel.size (by have := HN.out; have := HI.out; omega) ?_; intro vS w8 hrow hb hg hat; have S8 := Aside0.mk (S7.out.pushS LQ.out hrow hb hg hat); clear hrow hb hg hat))
            go_roundg k2
            case measure => omega
            case rel => exact ⟨i + 1, by first | rfl | (rw [← EW.out]; rfl), ⟨by have := HI.out; omega⟩, ⟨by rw [EP.out, EQ.out]; exact S8.out⟩⟩
      | succ k1 =>
        have hi := HI.out
        have hlt : i < tb.length := by omega
        have d1 : decide ((i : Int) < (tb.length : Int)) = true := decide_eq_true (by omega)
        have p1 : 0 ≤ (i : Int) := by omega
        have q1 : (i : Int) < (tb.length : Int) := by omega
        have eg : rd tb (i : Int) = tb[i] := by unfold rd; simp [List.getD, List.getElem?_eq_getElem hlt]
        obtain ⟨ad1, e1, hx1⟩ := Kd.at_int (Kd.C_below HCB.out BEL.out) (i : Int) p1 q1
        cases e1
        rw [eg, Int.toNat_natCast] at hx1
        replace p1 := eq_true p1
        replace q1 := eq_true q1
        have hcp := (blk_cell BOX.out 0).trans (show (#[v] : Array Value)[0]? = some v from rfl)
        have li : ((tb.take i).map u32of).length = i := by rw [List.length_map, List.length_take]; omega
        have HOWN : Aside0 (wr.ownsRow w1.heap.size 38 1 v i (u32s ((tb.take i).map u32of))) := ⟨by have := ROW.out; unfold Row at this; rw [li] at this; exact this⟩
        have LI := Aside0.mk li
        have HLT := Aside0.mk hlt
        clear eg hi li
        go_wp2_with (first | ((with_reducible refine gate_builtin (b := .append) (xs := #[.tmp 41, .tmp 44]) rfl ?_); at_builtin; refine print_append_cells (w0 := w1) w1.heap.size rfl (.tmp 41) (.tmp 44) 32 38 (.int .u32 0) 1 4 rfl Try.underlying32 info38' rfl (by decide) (by decide) v i (u32s ((tb.take i).map u32of)) [.int .u32 (tb[i] % 4294967296)] rfl rfl rfl (by intro u hu; rw [List.mem_singleton.1 hu]; rfl) HOWN.out BEL.out BEL.out.size (by have := HN.out; omega) ?_; intro v1 w3 hrow3 hb3 hg3 hat3; have hp3 := (hg3.block _ (blk_lt BOX.out) (fun e => OFF.out e.symm)).trans BOX.out; obtain ⟨gv, cv, rfl⟩ := slice_of hrow3; have hc3 := (blk_cell hp3 0).trans rfl; have hf3 := blk_frozen hp3 0; have PLT3 := Aside0.mk (blk_lt BOX.out)))
        have hoff := OFF.out.new PLT3.out hat3
        have e4 : (tb.take (i + 1)).map u32of = (tb.take i).map u32of ++ [u32of tb[i]] := by rw [List.take_succ_eq_append_getElem hlt, List.map_append]; rfl
        have ROWn := Aside0.mk (row_of LI.out (own_setCell hrow3 (p := ⟨w1.heap.size, 0, none⟩) (fun e => hoff e.symm) (.slice (some ⟨gv, 0, none⟩) (i + 1) cv)))
        have ew := Aside0.mk (w64n (i + 1) (by have := HN.out; omega))
        go_roundg k1
        case measure => omega
        case rel => exact ⟨i + 1, _, by first | rfl | (rw [← ew.out]; rfl), ⟨by have := HI.out; omega⟩, ⟨(blk_set hp3 0 _).trans rfl⟩, ⟨by rw [e4]; exact ROWn.out⟩, ⟨hoff⟩, ⟨hb3.setCell (p := ⟨w1.heap.size, 0, none⟩) (Nat.le_refl _) _⟩⟩
  · rw [if_neg hte] at h
    obtain ⟨rfl, rfl⟩ := Prod.mk.inj (Option.some.inj h)
    clear h
    have z1 : (te == 0) = false := beq_eq_false_iff_ne.mpr hte
    have z2 : (te != 0) = true := bne_iff_ne.mpr hte
    clear hte
    go_enter Try.func12, Try.ntmps12
    go_wp2_with (first | (go_at_call 17; (with_reducible refine (bin_Count.calls k a0_0 a0_1 a0_2 A0_3 c0_3 l0_3 A1 c1 l1 tb te _ ?s1 ?s2 ?s3 ?s4 AC.out).mono ?_); (case s1 => exact Kd.C_below HR0.out (below_alloc (Below.refl _ _) _)); (case s2 => exact HC0.out); (case s3 => exact Kd.C_below HR1.out (below_alloc (Below.refl _ _) _)); (case s4 => exact HC1.out); rintro e w1 ⟨vb, rfl, hRb, hb1⟩))
    go_ret2
    exact ⟨_, by first | rfl | (simp; done), Kd.R_nil _ _ _ _ _, below_step (below_alloc (Below.refl w.heap.size w) _) hb1⟩

/-! ### offertoryref01_Cells: function 13 -/
def offertoryref01_Cells.l0 : Nat → List Int → List Int → Int → Option (Bool)
  | 0, _, _, _ => none
  | k + 1, x0, x1, x5 => if x5 < (x0.length : Int) then (if 0 ≤ x5 then (if x5 < (x1.length : Int) then (if (rd x0 x5) = (rd x1 x5) then (offertoryref01_Cells.l0 k x0 x1 (wrap64 (x5 + 1))) else (some false)) else (none)) else (none)) else (some true)
def offertoryref01_Cells.f (k : Nat) (l0 : List Int) (l1 : List Int) : Option (Bool) := if (l0.length : Int) = (l1.length : Int) then (offertoryref01_Cells.l0 k l0 l1 0) else (some false)
theorem offertoryref01_Cells.mono_l : ∀ k, (∀ y0 y1 y2, LeO (offertoryref01_Cells.l0 k y0 y1 y2) (offertoryref01_Cells.l0 (k + 1) y0 y1 y2))
  | 0 => fun _ _ _ r h => by simp [offertoryref01_Cells.l0] at h
  | k + 1 => by
    have ih0 := offertoryref01_Cells.mono_l k
    · intro y0 y1 y2
      unfold offertoryref01_Cells.l0
      repeat' first
      | (with_reducible exact ih0 _ _ _)
      | (with_reducible exact LeO.refl _)
      | (with_reducible exact LeO.none _)
      | (with_reducible refine LeO.ite ?_ ?_)
      | (with_reducible refine LeO.bind ?_ (fun _ => ?_))
      | exact ih0 _ _ _
      | exact LeO.none _
      | refine LeO.ite ?_ ?_
      | refine LeO.bind ?_ (fun _ => ?_)
theorem offertoryref01_Cells.mono : ∀ a0 a1 k, LeO (offertoryref01_Cells.f k a0 a1) (offertoryref01_Cells.f (k + 1) a0 a1) := by
  intro a0 a1 k
  have ih0 := offertoryref01_Cells.mono_l k
  unfold offertoryref01_Cells.f
  repeat' first
      | (with_reducible exact ih0 _ _ _)
      | (with_reducible exact LeO.refl _)
      | (with_reducible exact LeO.none _)
      | (with_reducible refine LeO.ite ?_ ?_)
      | (with_reducible refine LeO.bind ?_ (fun _ => ?_))
      | exact ih0 _ _ _
      | exact LeO.none _
      | refine LeO.ite ?_ ?_
      | refine LeO.bind ?_ (fun _ => ?_)
set_option maxHeartbeats 8000000 in
set_option maxRecDepth 100000 in
theorem offertoryref01_Cells.calls (k : Nat) (A0 : Option Addr) (c0 : Nat) (l0 : List Int) (A1 : Option Addr) (c1 : Nat) (l1 : List Int) (r : Bool) (w : World) (hr0 : Kd.C (Kd.int .u32) w A0 l0.length l0) (hc0 : l0.length ≤ c0) (hr1 : Kd.C (Kd.int .u32) w A1 l1.length l1) (hc1 : l1.length ≤ c1) (h : offertoryref01_Cells.f k l0 l1 = some r) :
    Calls Try.prog 13 #[.slice A0 l0.length c0, .slice A1 l1.length c1] w fun e w' => e = .returned (.bool r) ∧ Drawn0 w w' := by
  have HR0 := Aside0.mk hr0
  have HC0 := Aside0.mk hc0
  clear hr0 hc0
  have HR1 := Aside0.mk hr1
  have HC1 := Aside0.mk hc1
  clear hr1 hc1
  have H : (if (l0.length : Int) = (l1.length : Int) then (offertoryref01_Cells.l0 k l0 l1 0) else (some false)) = some r := h
  clear h
  by_cases c3 : (l0.length : Int) = (l1.length : Int)
  · rw [if_pos c3] at H
    have c3b0 : ((l0.length : Int) == (l1.length : Int)) = true := beq_iff_eq.mpr c3
    have c3b1 : ((l0.length : Int) != (l1.length : Int)) = false := bne_eq_false_iff_eq.mpr c3
    have c3b2 : (l0.length == l1.length) = true := by first | simpa using c3 | (simp at c3 ⊢; omega)
    clear c3
    have H' := Aside0.mk H
    clear H
    go_enter Try.func13, Try.ntmps13
    go_wp2
    repeat (go_quiet (fail); try go_wp2)
    go_loopg [5] k (fun kq v5 w' => ∃ (x5_1 : Int), v5 = .int .i64 x5_1 ∧ Aside0 (offertoryref01_Cells.l0 kq l0 l1 x5_1 = some r) ∧ Aside0 (kq ≤ k) ∧ Drawn0 w w')
    case atStart => exact ⟨(0), (by first | rfl | (simp; done) | (simp [*]; done)), H', ⟨Nat.le_refl _⟩, by repeat (first | exact Drawn0.refl _ | apply Drawn0.step)⟩
    case round =>
      clear H'
      try clear c1
      try clear p2
      try clear c3
      try clear c3b0
      try clear c3b1
      try clear c3b2
      obtain ⟨x5_1, rfl, HA, HK1, ⟨m1, rfl⟩⟩ := hrel
      cases gk with
      | zero => exact absurd HA.out (by simp [offertoryref01_Cells.l0])
      | succ k1 =>
        have H := HA.out
        clear HA
        simp only [offertoryref01_Cells.l0] at H
        by_cases c4 : x5_1 < (l0.length : Int)
        · rw [if_pos c4] at H
          have c4b0 : decide (x5_1 < (l0.length : Int)) = true := decide_eq_true c4
          clear c4
          by_cases c5 : 0 ≤ x5_1
          · rw [if_pos c5] at H
            have c5b0 : decide (0 ≤ x5_1) = true := decide_eq_true c5
            clear c5
            by_cases c6 : x5_1 < (l1.length : Int)
            · rw [if_pos c6] at H
              have c6b0 : decide (x5_1 < (l1.length : Int)) = true := decide_eq_true c6
              clear c6
              by_cases c7 : (rd l0 x5_1) = (rd l1 x5_1)
              · rw [if_pos c7] at H
                have c7b0 : ((rd l0 x5_1) == (rd l1 x5_1)) = true := beq_iff_eq.mpr c7
                have c7b1 : ((rd l0 x5_1) != (rd l1 x5_1)) = false := bne_eq_false_iff_eq.mpr c7
                clear c7
                have H' := Aside0.mk H
                clear H
                have p149 : 0 ≤ (x5_1 : Int) := of_decide_eq_true (by first | (with_reducible assumption) | assumption)
                have q149 : x5_1 < (l0.length : Int) := of_decide_eq_true (by first | (with_reducible assumption) | assumption)
                obtain ⟨ad149, e149, hx149_0⟩ := Kd.at_int HR0.out x5_1 p149 q149
                cases e149
                replace p149 := eq_true p149
                replace q149 := eq_true q149
                have p150 : 0 ≤ (x5_1 : Int) := of_decide_eq_true (by first | (with_reducible assumption) | assumption)
                have q150 : x5_1 < (l1.length : Int) := of_decide_eq_true (by first | (with_reducible assumption) | assumption)
                obtain ⟨ad150, e150, hx150_0⟩ := Kd.at_int HR1.out x5_1 p150 q150
                cases e150
                replace p150 := eq_true p150
                replace q150 := eq_true q150
                go_wp2
                repeat (go_quiet (fail); try go_wp2)
                go_roundg k1
                case measure => have := HK1.out; omega
                case rel => exact ⟨(wrap64 (x5_1 + 1)), (by first | rfl | (simp; done) | (simp [*]; done)), H', ⟨by have := HK1.out; omega⟩, by repeat (first | exact Drawn0.refl _ | apply Drawn0.step)⟩
              · rw [if_neg c7] at H
                have c7b0 : ((rd l0 x5_1) == (rd l1 x5_1)) = false := beq_eq_false_iff_ne.mpr c7
                have c7b1 : ((rd l0 x5_1) != (rd l1 x5_1)) = true := bne_iff_ne.mpr c7
                obtain rfl := Option.some.inj H
                have p149 : 0 ≤ (x5_1 : Int) := of_decide_eq_true (by first | (with_reducible assumption) | assumption)
                have q149 : x5_1 < (l0.length : Int) := of_decide_eq_true (by first | (with_reducible assumption) | assumption)
                obtain ⟨ad149, e149, hx149_0⟩ := Kd.at_int HR0.out x5_1 p149 q149
                cases e149
                replace p149 := eq_true p149
                replace q149 := eq_true q149
                have p150 : 0 ≤ (x5_1 : Int) := of_decide_eq_true (by first | (with_reducible assumption) | assumption)
                have q150 : x5_1 < (l1.length : Int) := of_decide_eq_true (by first | (with_reducible assumption) | assumption)
                obtain ⟨ad150, e150, hx150_0⟩ := Kd.at_int HR1.out x5_1 p150 q150
                cases e150
                replace p150 := eq_true p150
                replace q150 := eq_true q150
                go_wp2
                repeat (go_quiet (fail); try go_wp2)
                go_ret
                exact ⟨by first | rfl | (simp; done) | (simp [*]; done), by repeat (first | exact Drawn0.refl _ | apply Drawn0.step)⟩
            · rw [if_neg c6] at H
              exact absurd H (by simp)
          · rw [if_neg c5] at H
            exact absurd H (by simp)
        · rw [if_neg c4] at H
          have c4b0 : decide (x5_1 < (l0.length : Int)) = false := decide_eq_false c4
          clear c4
          obtain rfl := Option.some.inj H
          go_wp2
          repeat (go_quiet (fail); try go_wp2)
          go_ret
          exact ⟨by first | rfl | (simp; done) | (simp [*]; done), by repeat (first | exact Drawn0.refl _ | apply Drawn0.step)⟩
  · rw [if_neg c3] at H
    have c3b0 : ((l0.length : Int) == (l1.length : Int)) = false := beq_eq_false_iff_ne.mpr c3
    have c3b1 : ((l0.length : Int) != (l1.length : Int)) = true := bne_iff_ne.mpr c3
    have c3b2 : (l0.length == l1.length) = false := by first | simpa using c3 | (simp at c3 ⊢; omega)
    obtain rfl := Option.some.inj H
    go_enter Try.func13, Try.ntmps13
    go_wp2
    repeat (go_quiet (fail); try go_wp2)
    go_ret
    exact ⟨by first | rfl | (simp; done) | (simp [*]; done), by repeat (first | exact Drawn0.refl _ | apply Drawn0.step)⟩

/-! ### offertorylaw12_awake: function 10 -/
def offertorylaw12_awake.f (k : Nat)  : Option (Bool) := (some (([2] : List Int) : List Int)).bind fun y151 => ((tally_Len.f k 0 3 3 y151).bind fun bt155 => ((tally_Encode.f k 0 3 3 y151 (([3, 1] : List Int))).bind fun bt160 => (if bt155.2 = 0 then (if bt160.2 = 0 then (if bt155.1 = 9 then ((offertoryref01_Cells.f k bt160.1 (([1, 1, 2, 2, 1, 2, 0, 0, 1] : List Int))).bind fun t167 => (some t167)) else (none)) else (none)) else (none))))
theorem offertorylaw12_awake.mono : ∀ k, LeO (offertorylaw12_awake.f k ) (offertorylaw12_awake.f (k + 1) ) := by
  intro  k
  unfold offertorylaw12_awake.f
  repeat' first
      | (with_reducible exact offertoryref01_Cells.mono _ _ _)
      | (with_reducible exact tally_Encode.mono _ _ _ _ _ _)
      | (with_reducible exact tally_Len.mono _ _ _ _ _)
      | (with_reducible exact LeO.refl _)
      | (with_reducible exact LeO.none _)
      | (with_reducible refine LeO.ite ?_ ?_)
      | (with_reducible refine LeO.bind ?_ (fun _ => ?_))
      | exact offertoryref01_Cells.mono _ _ _
      | exact tally_Encode.mono _ _ _ _ _ _
      | exact tally_Len.mono _ _ _ _ _
      | exact LeO.none _
      | refine LeO.ite ?_ ?_
      | refine LeO.bind ?_ (fun _ => ?_)
set_option maxHeartbeats 8000000 in
set_option maxRecDepth 100000 in
theorem offertorylaw12_awake.calls (k : Nat)  (r : Bool) (w : World) (h : offertorylaw12_awake.f k  = some r) :
    Calls Try.prog 10 #[] w fun e w' => e = .returned (.bool r) ∧ Below w.heap.size w w' := by
  have hu24 := Try.underlying24
  have HB := Aside0.mk (Below.refl w.heap.size w)
  have H : ((some (([2] : List Int) : List Int)).bind fun y151 => ((tally_Len.f k 0 3 3 y151).bind fun bt155 => ((tally_Encode.f k 0 3 3 y151 (([3, 1] : List Int))).bind fun bt160 => (if bt155.2 = 0 then (if bt160.2 = 0 then (if bt155.1 = 9 then ((offertoryref01_Cells.f k bt160.1 (([1, 1, 2, 2, 1, 2, 0, 0, 1] : List Int))).bind fun t167 => (some t167)) else (none)) else (none)) else (none))))) = some r := h
  clear h
  obtain ⟨y151, hy151⟩ : ∃ y_ : List Int, y_ = (([2] : List Int)) := ⟨_, rfl⟩
  replace H : ((tally_Len.f k 0 3 3 y151).bind fun bt155 => ((tally_Encode.f k 0 3 3 y151 (([3, 1] : List Int))).bind fun bt160 => (if bt155.2 = 0 then (if bt160.2 = 0 then (if bt155.1 = 9 then ((offertoryref01_Cells.f k bt160.1 (([1, 1, 2, 2, 1, 2, 0, 0, 1] : List Int))).bind fun t167 => (some t167)) else (none)) else (none)) else (none)))) = some r := by first | (rw [hy151]; with_reducible exact H) | (have H2_ := (Option.bind_some _ _).symm.trans H; rw [hy151]; with_reducible exact H2_) | (have H2_ := (Option.bind_some _ _).symm.trans H; with_reducible exact H2_) | with_reducible exact H | (rw [hy151]; exact H) | exact H
  have Ny151 := Aside0.mk hy151
  clear hy151
  replace H := Option.bind_eq_some_iff.mp H
  obtain ⟨⟨t155, t156⟩, A10, H⟩ := H
  replace H : ((tally_Encode.f k 0 3 3 y151 (([3, 1] : List Int))).bind fun bt160 => (if t156 = 0 then (if bt160.2 = 0 then (if t155 = 9 then ((offertoryref01_Cells.f k bt160.1 (([1, 1, 2, 2, 1, 2, 0, 0, 1] : List Int))).bind fun t167 => (some t167)) else (none)) else (none)) else (none))) = some r := H
  have A1 := Aside0.mk A10
  clear A10
  obtain ⟨y157, hy157⟩ : ∃ y_ : List Int, y_ = (([3, 1] : List Int)) := ⟨_, rfl⟩
  replace H : ((tally_Encode.f k 0 3 3 y151 y157).bind fun bt160 => (if t156 = 0 then (if bt160.2 = 0 then (if t155 = 9 then ((offertoryref01_Cells.f k bt160.1 (([1, 1, 2, 2, 1, 2, 0, 0, 1] : List Int))).bind fun t167 => (some t167)) else (none)) else (none)) else (none))) = some r := by first | (rw [hy157]; with_reducible exact H) | (have H2_ := (Option.bind_some _ _).symm.trans H; rw [hy157]; with_reducible exact H2_) | (have H2_ := (Option.bind_some _ _).symm.trans H; with_reducible exact H2_) | with_reducible exact H | (rw [hy157]; exact H) | exact H
  have Ny157 := Aside0.mk hy157
  clear hy157
  replace H := Option.bind_eq_some_iff.mp H
  obtain ⟨⟨t160, t163⟩, A20, H⟩ := H
  replace H : (if t156 = 0 then (if t163 = 0 then (if t155 = 9 then ((offertoryref01_Cells.f k t160 (([1, 1, 2, 2, 1, 2, 0, 0, 1] : List Int))).bind fun t167 => (some t167)) else (none)) else (none)) else (none)) = some r := H
  have A2 := Aside0.mk A20
  clear A20
  by_cases c3 : t156 = 0
  · rw [if_pos c3] at H
    have c3b0 : (t156 == 0) = true := beq_iff_eq.mpr c3
    have c3b1 : (t156 != 0) = false := bne_eq_false_iff_eq.mpr c3
    clear c3
    by_cases c4 : t163 = 0
    · rw [if_pos c4] at H
      have c4b0 : (t163 == 0) = true := beq_iff_eq.mpr c4
      have c4b1 : (t163 != 0) = false := bne_eq_false_iff_eq.mpr c4
      clear c4
      by_cases c5 : t155 = 9
      · rw [if_pos c5] at H
        have c5b0 : (t155 == 9) = true := beq_iff_eq.mpr c5
        have c5b1 : (t155 != 9) = false := bne_eq_false_iff_eq.mpr c5
        clear c5
        obtain ⟨y164, hy164⟩ : ∃ y_ : List Int, y_ = (([1, 1, 2, 2, 1, 2, 0, 0, 1] : List Int)) := ⟨_, rfl⟩
        replace H : ((offertoryref01_Cells.f k t160 y164).bind fun t167 => (some t167)) = some r := by first | (rw [hy164]; with_reducible exact H) | (have H2_ := (Option.bind_some _ _).symm.trans H; rw [hy164]; with_reducible exact H2_) | (have H2_ := (Option.bind_some _ _).symm.trans H; with_reducible exact H2_) | with_reducible exact H | (rw [hy164]; exact H) | exact H
        have Ny164 := Aside0.mk hy164
        clear hy164
        replace H := Option.bind_eq_some_iff.mp H
        obtain ⟨t167, A60, H⟩ := H
        replace H : (some t167) = some r := H
        have A6 := Aside0.mk A60
        clear A60
        obtain rfl := Option.some.inj H
        go_enter Try.func10, Try.ntmps10
        go_wp2_with (first | ((with_reducible refine gate_dst (N := 6) rfl ?_); (try (refine gate_guard (by rfl) ?_; dsimp only)); refine Kd.R_lit (Kd.int .i64) _ 3 ?hg (N := 6) ?hd (xs := ([2] : List Int)) (inner := [.int .i64 2]) (ok := fun _ => True) (okp := fun _ => True) ?hr ?hp (fun _ hk => hk) trivial (Below.refl _ _) (Nat.le_refl _) (by simp) ?_; (case hd => rfl); (case hg => rfl); (case hr => first | (go_simp; done) | (go_simp; rfl)); (case hp => exact (Reps.one (show Kd.M (Kd.int .i64) _ _ _ 2 [.int .i64 2] from rfl) (Reps.none _ _))); intro v152 w7 ho8 hb hg_ hnew_; clear hg_ hnew_; (first | rw [← Ny151.out] at ho8 | (simp only [Int.reduceToNat] at ho8; rw [← Ny151.out] at ho8)); have n0_ := Aside0.mk (Kd.R_lower ho8 (below_size (by repeat (first | (with_reducible first | exact HB.out | apply below_alloc | apply pw_below_drewN | apply below_drew1) | exact HB.out)))); have n1_ := Aside0.mk (below_step (by repeat (first | (with_reducible first | exact HB.out | apply below_alloc | apply pw_below_drewN | apply below_drew1) | exact HB.out)) hb); clear HB; have HO153 := n0_; have HB := n1_; clear n0_ n1_; clear hb ho8; obtain ⟨Ao9, co9, eo9⟩ := Kd.R_slice HO153.out; subst eo9) | ((with_reducible refine gate_dst (N := 1) rfl ?_); (try (refine gate_guard (by rfl) ?_; dsimp only)); refine box_event ?hg (N := 1) ?hd (cs := #[.int .i64 0, .int .i64 0, .int .i64 0, .slice none 0 0]) (t := 24) ?hr ?_; (case hd => rfl); (case hg => rfl); (case hr => first | (go_simp; done) | (go_simp; rfl)); intro gb154 hg w10 hbox hb; have n0_ := Aside0.mk (Kd.R_below (by (with_reducible repeat (first | apply Kd.R_alloc | apply Kd.R_drewN | apply Kd.R_drew)); exact HO153.out) hb); have n1_ := Aside0.mk (below_step (by repeat (first | (with_reducible first | exact HB.out | apply below_alloc | apply pw_below_drewN | apply below_drew1) | exact HB.out)) hb); have n2_ := Aside0.mk (hbox); have n3_ := Aside0.mk ((by rw [hg]; exact (below_size (by repeat (first | (with_reducible first | exact HB.out | apply below_alloc | apply pw_below_drewN | apply below_drew1) | exact HB.out))) : w.heap.size ≤ gb154)); have n4_ := Aside0.mk ((by rw [hg]; exact (below_size (by repeat (first | (with_reducible first | exact HB.out | apply below_alloc | apply pw_below_drewN | apply below_drew1) | exact HB.out))) : w.heap.size ≤ gb154)); clear HO153; clear HB; have HO153 := n0_; have HB := n1_; have BK154 := n2_; have GW154 := n3_; have GE154 := n4_; clear n0_ n1_ n2_ n3_ n4_; clear hb hbox hg; have hcz11_0 : w10.cell? ⟨gb154, 0, none⟩ = some (.int .i64 0) := (blk_cell BK154.out 0).trans rfl; have hcz11_1 : w10.cell? ⟨gb154, 1, none⟩ = some (.int .i64 0) := (blk_cell BK154.out 1).trans rfl; have hcz11_2 : w10.cell? ⟨gb154, 2, none⟩ = some (.int .i64 0) := (blk_cell BK154.out 2).trans rfl; have hcz11_3 : w10.cell? ⟨gb154, 3, none⟩ = some (.slice none 0 0) := (blk_cell BK154.out 3).trans rfl; have hfz11_0 := blk_frozen BK154.out 0; have hfz11_1 := blk_frozen BK154.out 1; have hfz11_2 := blk_frozen BK154.out 2; have hfz11_3 := blk_frozen BK154.out 3) | ((with_reducible refine gate_callee (f := 8) rfl ?_); refine goesL_ (some 10) rfl rfl Try.func8 (by kernel_rfl) rfl #[.agg #[.int .i64 0, .int .i64 3, .int .i64 3, .slice Ao9 y151.length co9]] rfl (by (try simp only [List.map_toArray, List.map_cons, List.map_nil]); first | done | rfl | (simp only [List.length_drop, List.length_take]; rfl)) ?_; (with_reducible refine (tally_Len.calls k 0 3 3 _ _ y151 t155 t156 _ ?side1 ?side2 A1.out).mono ?_); (case side1 => refine (Kd.R_reads' (e := 3) (base := w.heap.size) (ok := fun k_ => True) (n := y151.length) (c := co9) ?_).2.2; exact (by (with_reducible repeat (first | apply Kd.R_alloc | apply Kd.R_drewN | apply Kd.R_drew)); exact (Kd.R_mono (Kd.R_far (p := ⟨gb154, 3, none⟩) (Kd.R_far (p := ⟨gb154, 2, none⟩) (Kd.R_far (p := ⟨gb154, 1, none⟩) (Kd.R_far (p := ⟨gb154, 0, none⟩) (Kd.R_types HO153.out BK154.out (by decide)) (fun _ hk => hk.2) (.int .i64 0)) (fun _ hk => hk.2) (.int .i64 3)) (fun _ hk => hk.2) (.int .i64 3)) (fun _ hk => hk.2) (.slice Ao9 y151.length co9)) (fun _ h_ => h_.1)))); (case side2 => exact (Kd.R_reads' HO153.out).2.1); rintro e w12 ⟨rfl, hb⟩; refine ⟨_, rfl, ?_⟩; have n0_ := Aside0.mk (Kd.R_below (by (with_reducible repeat (first | apply Kd.R_alloc | apply Kd.R_drewN | apply Kd.R_drew)); exact (Kd.R_mono (Kd.R_far (p := ⟨gb154, 3, none⟩) (Kd.R_far (p := ⟨gb154, 2, none⟩) (Kd.R_far (p := ⟨gb154, 1, none⟩) (Kd.R_far (p := ⟨gb154, 0, none⟩) (Kd.R_types HO153.out BK154.out (by decide)) (fun _ hk => hk.2) (.int .i64 0)) (fun _ hk => hk.2) (.int .i64 3)) (fun _ hk => hk.2) (.int .i64 3)) (fun _ hk => hk.2) (.slice Ao9 y151.length co9)) (fun _ h_ => h_.1))) hb); have n1_ := Aside0.mk (blk_below (g := gb154) (o := .cells #[.int .i64 0, .int .i64 3, .int .i64 3, .slice Ao9 y151.length co9] 24 (0, 0)) (by (with_reducible repeat (first | refine blk_drewN ?_ _ | refine blk_drew ?_ | refine blk_alloc ?_ _)); refine blk_put (cs := #[.int .i64 0, .int .i64 3, .int .i64 3, .slice none 0 0]) ?_ 3 _ rfl; (with_reducible repeat (first | refine blk_drewN ?_ _ | refine blk_drew ?_ | refine blk_alloc ?_ _)); refine blk_put (cs := #[.int .i64 0, .int .i64 3, .int .i64 0, .slice none 0 0]) ?_ 2 _ rfl; (with_reducible repeat (first | refine blk_drewN ?_ _ | refine blk_drew ?_ | refine blk_alloc ?_ _)); refine blk_put (cs := #[.int .i64 0, .int .i64 0, .int .i64 0, .slice none 0 0]) ?_ 1 _ rfl; (with_reducible repeat (first | refine blk_drewN ?_ _ | refine blk_drew ?_ | refine blk_alloc ?_ _)); refine blk_put (cs := #[.int .i64 0, .int .i64 0, .int .i64 0, .slice none 0 0]) ?_ 0 _ rfl; (with_reducible repeat (first | refine blk_drewN ?_ _ | refine blk_drew ?_ | refine blk_alloc ?_ _)); exact BK154.out) hb); have n2_ := Aside0.mk (below_step (by repeat (first | (with_reducible first | exact HB.out | apply below_alloc | apply pw_below_drewN | apply below_drew1 | refine below_set ?_ GE154.out) | exact HB.out)) hb); clear HO153; clear BK154; clear HB; have HO153 := n0_; have BK154 := n1_; have HB := n2_; clear n0_ n1_ n2_; (try clear hb); (try clear hb2); (try clear hk); (try clear hi); have hcz13_0 : w12.cell? ⟨gb154, 0, none⟩ = some (.int .i64 0) := (blk_cell BK154.out 0).trans rfl; have hcz13_1 : w12.cell? ⟨gb154, 1, none⟩ = some (.int .i64 3) := (blk_cell BK154.out 1).trans rfl; have hcz13_2 : w12.cell? ⟨gb154, 2, none⟩ = some (.int .i64 3) := (blk_cell BK154.out 2).trans rfl; have hcz13_3 : w12.cell? ⟨gb154, 3, none⟩ = some (.slice Ao9 y151.length co9) := (blk_cell BK154.out 3).trans rfl; have hfz13_0 := blk_frozen BK154.out 0; have hfz13_1 := blk_frozen BK154.out 1; have hfz13_2 := blk_frozen BK154.out 2; have hfz13_3 := blk_frozen BK154.out 3) | ((with_reducible refine gate_dst (N := 15) rfl ?_); (try (refine gate_guard (by rfl) ?_; dsimp only)); refine Kd.R_lit (Kd.int .i64) _ 3 ?hg (N := 15) ?hd (xs := ([3, 1] : List Int)) (inner := [.int .i64 3, .int .i64 1]) (ok := fun _ => True) (okp := fun _ => True) ?hr ?hp (fun _ hk => hk) trivial (Below.refl _ _) (Nat.le_refl _) (by simp) ?_; (case hd => rfl); (case hg => rfl); (case hr => first | (go_simp; done) | (go_simp; rfl)); (case hp => exact (Reps.one (show Kd.M (Kd.int .i64) _ _ _ 3 [.int .i64 3] from rfl) (Reps.one (show Kd.M (Kd.int .i64) _ _ _ 1 [.int .i64 1] from rfl) (Reps.none _ _)))); intro v158 w14 ho15 hb hg_ hnew_; clear hg_ hnew_; (first | rw [← Ny157.out] at ho15 | (simp only [Int.reduceToNat] at ho15; rw [← Ny157.out] at ho15)); have n0_ := Aside0.mk (Kd.R_elder' (by (with_reducible repeat (first | apply Kd.R_alloc | apply Kd.R_drewN | apply Kd.R_drew)); exact HO153.out) (Kd.R_base ho15) hb); have n1_ := Aside0.mk (Kd.R_lower (Kd.R_new' ho15 (Kd.R_lt (by (with_reducible repeat (first | apply Kd.R_alloc | apply Kd.R_drewN | apply Kd.R_drew)); exact HO153.out))) (below_size (by repeat (first | (with_reducible first | exact HB.out | apply below_alloc | apply pw_below_drewN | apply below_drew1 | refine below_set ?_ GE154.out) | exact HB.out)))); have n2_ := Aside0.mk (blk_below (g := gb154) (o := .cells #[.int .i64 0, .int .i64 3, .int .i64 3, .slice Ao9 y151.length co9] 24 (0, 0)) (by (with_reducible repeat (first | refine blk_drewN ?_ _ | refine blk_drew ?_ | refine blk_alloc ?_ _)); exact BK154.out) hb); have n3_ := Aside0.mk (below_step (by repeat (first | (with_reducible first | exact HB.out | apply below_alloc | apply pw_below_drewN | apply below_drew1 | refine below_set ?_ GE154.out) | exact HB.out)) hb); clear HO153; clear BK154; clear HB; have HO153 := n0_; have HO159 := n1_; have BK154 := n2_; have HB := n3_; clear n0_ n1_ n2_ n3_; clear hb ho15; obtain ⟨Ao16, co16, eo16⟩ := Kd.R_slice HO159.out; subst eo16) | ((with_reducible refine gate_callee (f := 12) rfl ?_); refine goesL_ (some 16) rfl rfl Try.func12 (by kernel_rfl) rfl #[.agg #[.int .i64 0, .int .i64 3, .int .i64 3, .slice Ao9 y151.length co9], .slice Ao16 y157.length co16] rfl (by (try simp only [List.map_toArray, List.map_cons, List.map_nil]); first | done | rfl | (simp only [List.length_drop, List.length_take]; rfl)) ?_; (with_reducible refine (tally_Encode.calls k 0 3 3 _ _ y151 _ _ y157 t160 t163 _ ?side1 ?side2 ?side3 ?side4 A2.out).mono ?_); (case side1 => repeat (first | exact (Kd.R_reads' HO153.out).2.2 | (with_reducible refine Kd.C_alloc ?_ _) | (with_reducible refine Kd.C_drewN ?_ _) | (with_reducible refine Kd.C_drew ?_))); (case side2 => exact (Kd.R_reads' HO153.out).2.1); (case side3 => repeat (first | exact (Kd.R_reads' HO159.out).2.2 | (with_reducible refine Kd.C_alloc ?_ _) | (with_reducible refine Kd.C_drewN ?_ _) | (with_reducible refine Kd.C_drew ?_))); (case side4 => exact (Kd.R_reads' HO159.out).2.1); rintro e w17 ⟨v161, rfl, ho0, hb⟩; refine ⟨_, rfl, ?_⟩; have n0_ := Aside0.mk (Kd.R_below (by (with_reducible repeat (first | apply Kd.R_alloc | apply Kd.R_drewN | apply Kd.R_drew)); exact HO153.out) hb); have n1_ := Aside0.mk (Kd.R_below (by (with_reducible repeat (first | apply Kd.R_alloc | apply Kd.R_drewN | apply Kd.R_drew)); exact HO159.out) hb); have n2_ := Aside0.mk (Kd.R_lower ho0 (below_size (by repeat (first | (with_reducible first | exact HB.out | apply below_alloc | apply pw_below_drewN | apply below_drew1 | refine below_set ?_ GE154.out) | exact HB.out)))); have n3_ := Aside0.mk (blk_below (g := gb154) (o := .cells #[.int .i64 0, .int .i64 3, .int .i64 3, .slice Ao9 y151.length co9] 24 (0, 0)) (by (with_reducible repeat (first | refine blk_drewN ?_ _ | refine blk_drew ?_ | refine blk_alloc ?_ _)); exact BK154.out) hb); have n4_ := Aside0.mk (below_step (by repeat (first | (with_reducible first | exact HB.out | apply below_alloc | apply pw_below_drewN | apply below_drew1 | refine below_set ?_ GE154.out) | exact HB.out)) hb); clear HO153; clear HO159; clear BK154; clear HB; have HO153 := n0_; have HO159 := n1_; have HO162 := n2_; have BK154 := n3_; have HB := n4_; clear n0_ n1_ n2_ n3_ n4_; (try clear hb); (try clear hb2); (try clear hk); (try clear hi); (try clear ho0)) | ((with_reducible refine gate_dst (N := 31) rfl ?_); (try (refine gate_guard (by rfl) ?_; dsimp only)); refine Kd.R_lit (Kd.int .u32) _ 38 ?hg (N := 31) ?hd (xs := ([1, 1, 2, 2, 1, 2, 0, 0, 1] : List Int)) (inner := [.int .u32 1, .int .u32 1, .int .u32 2, .int .u32 2, .int .u32 1, .int .u32 2, .int .u32 0, .int .u32 0, .int .u32 1]) (ok := fun _ => True) (okp := fun _ => True) ?hr ?hp (fun _ hk => hk) trivial (Below.refl _ _) (Nat.le_refl _) (by simp) ?_; (case hd => rfl); (case hg => rfl); (case hr => first | (go_simp; done) | (go_simp; rfl)); (case hp => exact (Reps.one (show Kd.M (Kd.int .u32) _ _ _ 1 [.int .u32 1] from rfl) (Reps.one (show Kd.M (Kd.int .u32) _ _ _ 1 [.int .u32 1] from rfl) (Reps.one (show Kd.M (Kd.int .u32) _ _ _ 2 [.int .u32 2] from rfl) (Reps.one (show Kd.M (Kd.int .u32) _ _ _ 2 [.int .u32 2] from rfl) (Reps.one (show Kd.M (Kd.int .u32) _ _ _ 1 [.int .u32 1] from rfl) (Reps.one (show Kd.M (Kd.int .u32) _ _ _ 2 [.int .u32 2] from rfl) (Reps.one (show Kd.M (Kd.int .u32) _ _ _ 0 [.int .u32 0] from rfl) (Reps.one (show Kd.M (Kd.int .u32) _ _ _ 0 [.int .u32 0] from rfl) (Reps.one (show Kd.M (Kd.int .u32) _ _ _ 1 [.int .u32 1] from rfl) (Reps.none _ _))))))))))); intro v165 w18 ho19 hb hg_ hnew_; clear hg_ hnew_; (first | rw [← Ny164.out] at ho19 | (simp only [Int.reduceToNat] at ho19; rw [← Ny164.out] at ho19)); have n0_ := Aside0.mk (Kd.R_below (by (with_reducible repeat (first | apply Kd.R_alloc | apply Kd.R_drewN | apply Kd.R_drew)); exact HO153.out) hb); have n1_ := Aside0.mk (Kd.R_below (by (with_reducible repeat (first | apply Kd.R_alloc | apply Kd.R_drewN | apply Kd.R_drew)); exact HO159.out) hb); have n2_ := Aside0.mk (Kd.R_elder' (by (with_reducible repeat (first | apply Kd.R_alloc | apply Kd.R_drewN | apply Kd.R_drew)); exact HO162.out) (Kd.R_base ho19) hb); have n3_ := Aside0.mk (Kd.R_lower (Kd.R_new' ho19 (Kd.R_lt (by (with_reducible repeat (first | apply Kd.R_alloc | apply Kd.R_drewN | apply Kd.R_drew)); exact HO162.out))) (below_size (by repeat (first | (with_reducible first | exact HB.out | apply below_alloc | apply pw_below_drewN | apply below_drew1 | refine below_set ?_ GE154.out) | exact HB.out)))); have n4_ := Aside0.mk (blk_below (g := gb154) (o := .cells #[.int .i64 0, .int .i64 3, .int .i64 3, .slice Ao9 y151.length co9] 24 (0, 0)) (by (with_reducible repeat (first | refine blk_drewN ?_ _ | refine blk_drew ?_ | refine blk_alloc ?_ _)); exact BK154.out) hb); have n5_ := Aside0.mk (below_step (by repeat (first | (with_reducible first | exact HB.out | apply below_alloc | apply pw_below_drewN | apply below_drew1 | refine below_set ?_ GE154.out) | exact HB.out)) hb); clear HO153; clear HO159; clear HO162; clear BK154; clear HB; have HO153 := n0_; have HO159 := n1_; have HO162 := n2_; have HO166 := n3_; have BK154 := n4_; have HB := n5_; clear n0_ n1_ n2_ n3_ n4_ n5_; clear hb ho19; obtain ⟨Ao20, co20, eo20⟩ := Kd.R_slice HO162.out; subst eo20; obtain ⟨Ao21, co21, eo21⟩ := Kd.R_slice HO166.out; subst eo21) | (go_at_call 13; (with_reducible refine (offertoryref01_Cells.calls k _ _ t160 _ _ y164 t167 _ ?side1 ?side2 ?side3 ?side4 A6.out).mono ?_); (case side1 => repeat (first | exact (Kd.R_reads' HO162.out).2.2 | (with_reducible refine Kd.C_alloc ?_ _) | (with_reducible refine Kd.C_drewN ?_ _) | (with_reducible refine Kd.C_drew ?_))); (case side2 => exact (Kd.R_reads' HO162.out).2.1); (case side3 => repeat (first | exact (Kd.R_reads' HO166.out).2.2 | (with_reducible refine Kd.C_alloc ?_ _) | (with_reducible refine Kd.C_drewN ?_ _) | (with_reducible refine Kd.C_drew ?_))); (case side4 => exact (Kd.R_reads' HO166.out).2.1); rintro e w' ⟨rfl, ⟨nd, rfl⟩⟩))
        go_ret
        exact ⟨by first | rfl | (simp [errW_none, errW_some] <;> rfl) | (simp [*, errW_none, errW_some] <;> rfl), by repeat (first | (with_reducible first | exact HB.out | apply below_alloc | apply pw_below_drewN | apply below_drew1 | refine below_set ?_ GE154.out) | exact HB.out)⟩
      · rw [if_neg c5] at H
        exact absurd H (by simp)
    · rw [if_neg c4] at H
      exact absurd H (by simp)
  · rw [if_neg c3] at H
    exact absurd H (by simp)

end Go.Proofs.Ythbiijhjcoakfaa.PAll
