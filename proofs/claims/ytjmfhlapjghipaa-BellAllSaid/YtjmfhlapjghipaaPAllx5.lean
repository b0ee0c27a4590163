/- The Go functions that the laws reach, as Lean functions, and that each call comes to what its function says. Written by a program of this session (a turned copy of the kit's print). No condition beyond those that each theorem states. -/
import Derived.Test.YtjmfhlapjghipaaPAllx0
import Derived.Test.YtjmfhlapjghipaaPAllx1
import Derived.Test.YtjmfhlapjghipaaPAllx2
import Derived.Test.YtjmfhlapjghipaaPAllx3
import Derived.Test.YtjmfhlapjghipaaPAllx4
namespace Go.Proofs.Ytjmfhlapjghipaa.PAll
open Go.RowKit Go.Proofs.YtjmfhlapjghipaaW.PrintWords Go.Proofs.YtjmfhlapjghipaaW.PrintLast Go.Proofs.YtjmfhlapjghipaaW.PrintMore
attribute [local go_sem] max2_int min2_int max_two min_two max_three min_three max_four min_four   -- for this text's walks alone
set_option linter.unusedVariables false
set_option linter.unusedSimpArgs false

/-! ### offertorylaw19_BellAll: function 4 -/
/-! ### BellAll -/
def offertorylaw19_BellAll.f (l0 : List Int) : Option Bool := if (l0.all fun x => decide (0 ≤ x) && decide (x ≤ 65535)) = true ∧ l0.length ≤ 4611686018427387904 then some true else none
def mU (l0 : List Int) (i : Nat) : Int → Option Int := fun w => if 0 ≤ w ∧ w < (i : Int) then some (rd l0 w) else none
theorem mU_step (l0 : List Int) (i : Nat) : updM (mU l0 i) (i : Int) (some (rd l0 (i : Int))) = mU l0 (i + 1) := by
  funext w
  unfold updM mU
  by_cases h : w = (i : Int)
  · rw [if_pos h, if_pos (by omega), h]
  · rw [if_neg h]
    by_cases h2 : 0 ≤ w ∧ w < (i : Int)
    · rw [if_pos h2, if_pos (by omega)]
    · rw [if_neg h2, if_neg (by omega)]
def mS (l0 : List Int) (bl : List Bool) : Int → Option Int := fun w => if 0 ≤ w ∧ w < (bl.length : Int) ∧ bl.getD w.toNat true = false then some (rd l0 w) else none
theorem mS_start (l0 : List Int) (n : Nat) : mU l0 n = mS l0 (List.replicate n false) := by
  funext w
  unfold mU mS
  rw [List.length_replicate]
  by_cases h : 0 ≤ w ∧ w < (n : Int)
  · have e : (List.replicate n false).getD w.toNat true = false := by
      rw [List.getD_eq_getElem?_getD, List.getElem?_replicate, if_pos (by omega)]
      rfl
    rw [if_pos h, if_pos ⟨h.1, h.2, e⟩]
  · rw [if_neg h, if_neg (fun h2 => h ⟨h2.1, h2.2.1⟩)]
theorem mS_step (l0 : List Int) (bl : List Bool) (v : Int) (h0 : 0 ≤ v) (h1 : v < (bl.length : Int)) : updM (mS l0 bl) v none = mS l0 (bl.set v.toNat true) := by
  funext w
  unfold updM mS
  rw [List.length_set]
  by_cases h : w = v
  · subst h
    rw [if_pos rfl, if_neg (fun h2 => ?_)]
    have := h2.2.2
    simp [List.getD_eq_getElem?_getD, (by omega : w.toNat < bl.length)] at this
  · rw [if_neg h]
    by_cases h2 : 0 ≤ w
    · have e : (bl.set v.toNat true).getD w.toNat true = bl.getD w.toNat true := by
        rw [List.getD_eq_getElem?_getD, List.getD_eq_getElem?_getD, List.getElem?_set_ne (by omega)]
      rw [e]
    · rw [if_neg (fun h3 => h2 h3.1), if_neg (fun h3 => h2 h3.1)]
theorem count_step (bl : List Bool) (i : Nat) (h : i < bl.length) (hf : bl.getD i true = false) : (bl.set i true).count false + 1 = bl.count false := by
  induction bl generalizing i with
  | nil => simp at h
  | cons b bl ih =>
    cases i with
    | zero =>
      have hb : b = false := hf
      subst hb
      simp [List.count_cons]
    | succ i =>
      have := ih i (by simpa using h) (by simpa using hf)
      simp only [List.set_cons_succ, List.count_cons]
      omega
theorem some_false (bl : List Bool) (h : 0 < bl.count false) : ∃ i : Nat, i < bl.length ∧ bl.getD i true = false := by
  obtain ⟨i, hi, e⟩ := List.getElem_of_mem (List.count_pos_iff.1 h)
  exact ⟨i, hi, by rw [List.getD_eq_getElem?_getD, List.getElem?_eq_getElem hi, e]; rfl⟩
theorem Be.far {b : Nat} {W : World} {g mb : Nat} {A : Option Addr} {c : Nat} {l : List El} (h : Be b W g mb A c l) {g2 t : Nat} {cs : Array Value} (hg2 : W.heap[g2]? = some (.cells cs t (0, 0))) (h49 : t ≠ 49) (h50 : t ≠ 50) (h53 : t ≠ 53) (i : Nat) (u : Value) : Be b (W.setCell ⟨g2, i, none⟩ u) g mb A c l :=
  ⟨blk_far h.hg (blk_ne h.hg hg2 (Ne.symm h49)) u, h.bg, h.bm, h.mo.far hg2 h50 h53 i u, (by
    obtain ⟨es, ck, ks, h1, h2⟩ := h.mp
    refine ⟨es, ck, ks, ?_, h2⟩
    rw [Below.heap_setCell W ⟨g2, i, none⟩ u mb (fun e => by rw [show mb = g2 from e, hg2] at h1; cases h1)]
    exact h1), h.who, h.hp⟩
theorem BeX.far {b : Nat} {W : World} {g : Nat} {l : List El} (h : BeX b W g l) {g2 t : Nat} {cs : Array Value} (hg2 : W.heap[g2]? = some (.cells cs t (0, 0))) (h49 : t ≠ 49) (h50 : t ≠ 50) (h53 : t ≠ 53) (i : Nat) (u : Value) : BeX b (W.setCell ⟨g2, i, none⟩ u) g l := by
  obtain ⟨mb, A, c, h⟩ := h
  exact ⟨mb, A, c, h.far hg2 h49 h50 h53 i u⟩
/-- The first one of a bell that is not empty. -/
theorem root_of {b : Nat} {W : World} {g : Nat} {l : List El} {m : Int → Option Int} (h : BeX b W g l) (hm : HasM l m) {w a : Int} (h1 : m w = some a) : 0 < l.length ∧ m (l.getD 0 d0).2.2 = some (l.getD 0 d0).2.1 ∧ ∀ w' a' : Int, m w' = some a' → (l.getD 0 d0).2.1 ≤ a' := by
  obtain ⟨mb, A, c, h⟩ := h
  obtain ⟨p, hp, e⟩ := (hm w a).1 h1
  obtain ⟨i, hi, rfl⟩ := List.getElem_of_mem hp
  have hl : 0 < l.length := by omega
  have hr : l.getD 0 d0 ∈ l := by rw [getD_of hl]; exact List.getElem_mem hl
  refine ⟨hl, (hm _ _).2 ⟨_, hr, rfl⟩, fun w' a' h' => ?_⟩
  obtain ⟨q, hq, e'⟩ := (hm w' a').1 h'
  obtain ⟨j, hj, rfl⟩ := List.getElem_of_mem hq
  have h3 := root_least h.hp j hj
  rw [getD_of hj] at h3
  unfold leE at h3
  rw [e'] at h3
  simp only at h3
  omega
theorem madeB (n : Nat) : madeCells #[.bool false] n = (List.replicate n (Value.bool false)).toArray := by
  apply Array.ext
  · simp [madeCells]
  · intro i h1 h2
    simp [madeCells, Nat.mod_one]
theorem infoB : (Try.prog.info? 4).map (fun i => (i.zero, i.size, i.bytes)) = some (some (.bool false), 1, 1) := by kernel_rfl
theorem make41 (n : Nat) (hn : n ≤ 1000000) (W : World) : (Instr.makeSlice 41 (.int .i64 (n : Int)) (.int .i64 (n : Int))).run Try.prog W = .ok (.slice (some ⟨W.heap.size, 0, none⟩) n n) (W.alloc (.cells (List.replicate n (.bool false)).toArray 4)) := by
  rw [← madeB]
  exact print_make_of 41 4 (.bool false) 1 Try.underlying41 infoB rfl (by decide) n (by omega) W
set_option maxHeartbeats 8000000 in
set_option maxRecDepth 100000 in
theorem offertorylaw19_BellAll.calls (A0 : Option Addr) (c0 : Nat) (l0 : List Int) (r : Bool) (w : World) (hr0 : Kd.C (Kd.int .u16) w A0 l0.length l0) (hc0 : l0.length ≤ c0) (h : offertorylaw19_BellAll.f l0 = some r) :
    Calls Try.prog 4 #[.slice A0 l0.length c0] w fun e w' => e = .returned (.bool r) ∧ Below w.heap.size w w' := by
  unfold offertorylaw19_BellAll.f at h
  split at h
  case isFalse => cases h
  rename_i hb
  obtain rfl := Option.some.inj h
  have hu : ∀ x : Int, 0 ≤ x → x < (l0.length : Int) → 0 ≤ rd l0 x ∧ rd l0 x ≤ 65535 := fun x h1 h2 => by
    have hlt : x.toNat < l0.length := by omega
    have := List.all_eq_true.1 hb.1 l0[x.toNat] (List.getElem_mem hlt)
    rw [Bool.and_eq_true, decide_eq_true_eq, decide_eq_true_eq] at this
    have e : rd l0 x = l0[x.toNat] := by unfold rd; simp [List.getD, hlt]
    rw [e]
    exact this
  have HU := Aside0.mk hu
  have HR := Aside0.mk hr0
  have HLL := Aside0.mk hb.2
  obtain ⟨N, eN⟩ : ∃ n, n = min l0.length 100 := ⟨_, rfl⟩
  have HN : Aside0 (N ≤ 100 ∧ N ≤ l0.length ∧ (N = 100 ∨ N = l0.length)) := ⟨by omega⟩
  clear h hb hu hr0 hc0 eN
  go_enter Try.func4, Try.ntmps4
  go_upto_region 2 with (first | (go_at_call 7; (with_reducible refine (new_w w.heap.size w (Nat.le_refl _)).mono ?_); rintro e w1 ⟨g, rfl, hX, hB⟩; have HX := Aside0.mk hX; have HB := Aside0.mk hB; clear hX hB))
  go_upto_region 4 with (first | (go_at_call 8; (with_reducible refine (awake_w _).mono ?_); rintro e w2 ⟨rfl, hb⟩; have HX1 := Aside0.mk (HX.out.below hb); have HB1 := Aside0.mk (below_step HB.out hb); clear hb HX HB))
  go_wp2_with fail
  go_loopg [4, 5] N (fun kq v4 v5 W => ∃ (i : Nat) (l : List El), v4 = .int .i64 (i : Int) ∧ v5 = .int .i64 (i : Int) ∧ Aside0 (i + kq = N) ∧ Aside0 (BeX w.heap.size W g l ∧ HasM l (mU l0 i) ∧ l.length ≤ i ∧ Below w.heap.size w W))
  case atStart => exact ⟨0, [], rfl, rfl, ⟨Nat.zero_add _⟩, ⟨HX1.out, (by have e : mU l0 0 = fun _ => none := (by funext x; unfold mU; rw [if_neg (by omega)]); rw [e]; exact hasM_nil), Nat.le_refl _, HB1.out⟩⟩
  case round =>
    clear HX1 HB1
    obtain ⟨i, l, rfl, rfl, HI, HS⟩ := hrel
    go_upto_region 6 with fail
    go_cut [27] (fun v27 wc => v27 = .bool (decide (i < N)) ∧ wc = wr)
    case first =>
      by_cases h1 : i < l0.length
      · have d1 : decide ((i : Int) < (l0.length : Int)) = true := decide_eq_true (by omega)
        have d1n : decide (i < l0.length) = true := decide_eq_true h1
        have e : decide ((i : Int) < 100) = decide (i < N) := by
          by_cases h2 : i < N
          · rw [decide_eq_true h2]; exact decide_eq_true (by have := HN.out; omega)
          · rw [decide_eq_false h2]; exact decide_eq_false (by have := HN.out; have := HI.out; omega)
        have E := Aside0.mk e
        clear e h1
        go_wp2
        go_meet
        case rel => exact ⟨by first | rw [E.out] | (rw [← E.out]), rfl⟩
      · have d1 : decide ((i : Int) < (l0.length : Int)) = false := decide_eq_false (by omega)
        have d1n : decide (i < l0.length) = false := decide_eq_false h1
        have e : decide (i < N) = false := decide_eq_false (by have := HN.out; omega)
        have E := Aside0.mk e
        clear e h1
        go_wp2
        go_meet
        case rel => exact ⟨by rw [E.out], rfl⟩
    case rest =>
      obtain ⟨rfl, rfl⟩ := hcut
      by_cases hi : i < N
      · rw [decide_eq_true hi]
        obtain ⟨k1, rfl⟩ : ∃ k1, gk = k1 + 1 := ⟨gk - 1, by have := HI.out; omega⟩
        have hI := HI.out
        obtain ⟨ad, ead, hc⟩ := Kd.at_int (Kd.C_below HR.out HS.out.2.2.2) (i : Int) (by omega) (by have := HN.out; omega)
        cases ead
        have hx := HU.out (i : Int) (by omega) (by have := HN.out; omega)
        have hstep := mU_step l0 i
        rw [Int.toNat_natCast] at hc
        generalize rd l0 (i : Int) = x at hc hx hstep
        have HX := Aside0.mk (And.intro hx hstep)
        have q1 : (0 ≤ (i : Int)) = True := eq_true (by omega)
        have q2 : ((i : Int) < (l0.length : Int)) = True := eq_true (by have := HN.out; omega)
        have q2n : (i < l0.length) = True := eq_true (by have := HN.out; omega)
        have ex : wrap64 x = x := by unfold wrap64; omega
        have ei : wrap64 ((i : Int) + 1) = ((i + 1 : Nat) : Int) := by have := HN.out; unfold wrap64; omega
        have EI := Aside0.mk ei
        clear hx hstep ei hi hI
        go_wp2_with (first | (go_at_call 9; (with_reducible refine (set_w HS.out.1 HS.out.2.1 (i : Int) x HX.out.1.1 (by have := HX.out.1; omega) (by have := HS.out.2.2.1; have := HN.out; have := HI.out; omega)).mono ?_); rintro e w3 ⟨rfl, l2, hX2, hM2, hL2, hF2⟩; rw [HX.out.2] at hM2; have H2 := Aside0.mk (And.intro hX2 (And.intro hM2 (And.intro (Nat.le_trans hL2 (Nat.succ_le_succ HS.out.2.2.1)) (HS.out.2.2.2.trans hF2.hb)))); clear hX2 hM2 hL2 hF2))
        go_roundg k1
        case measure => omega
        case rel => exact ⟨i + 1, l2, by rw [EI.out], by rw [EI.out], ⟨by have := HI.out; omega⟩, H2⟩
      · rw [decide_eq_false hi]
        obtain rfl : i = N := by have := HI.out; omega
        clear hi
        have ei : ((i : Int) < 0) = False := eq_false (by omega)
        have hmk := make41 i (by have := HN.out; omega)
        go_upto_region 12 with fail
        clear hmk ei
        obtain ⟨gS, egS⟩ : ∃ y, y = wc.heap.size := ⟨_, rfl⟩
        rw [← egS]
        refine code_gen (fun W => BeX w.heap.size W g l ∧ HasM l (mS l0 (List.replicate i false)) ∧ Below w.heap.size w W ∧ W.heap[gS]? = some (.cells (((List.replicate i false).map Value.bool).toArray) 4 (0, 0))) ⟨?_, ?_, ?_, ?_⟩ ?_
        · exact HS.out.1.below (below_alloc (Below.refl _ _) _)
        · rw [← mS_start]; exact HS.out.2.1
        · exact below_step HS.out.2.2.2 (below_alloc (Below.refl _ _) _)
        · rw [List.map_replicate, egS]
          exact blk_new wc _
        rintro w4 hE
        have H0 := Aside0.mk hE
        have HGS : Aside0 (w.heap.size ≤ gS) := ⟨by rw [egS]; exact HS.out.2.2.2.size⟩
        have HL0 := Aside0.mk HS.out.2.2.1
        clear hE egS HS HI
        go_wp2_with fail
        go_loopg [7, 8] i (fun kq v7 v8 W => ∃ (j : Nat) (bl : List Bool) (l : List El) (last : Int), v7 = .int .i64 last ∧ v8 = .int .i64 (j : Int) ∧ Aside0 (j + kq = i ∧ bl.length = i ∧ bl.count false + j = i ∧ l.length ≤ i) ∧ Aside0 (∀ y a : Int, mS l0 bl y = some a → last ≤ a) ∧ Aside0 (BeX w.heap.size W g l ∧ HasM l (mS l0 bl) ∧ Below w.heap.size w W ∧ W.heap[gS]? = some (.cells ((bl.map Value.bool).toArray) 4 (0, 0))))
        case atStart => exact ⟨0, List.replicate i false, l, 0, rfl, rfl, ⟨by simp; exact HL0.out⟩, ⟨fun y a hy => by
          unfold mS at hy
          split at hy
          · rename_i hc
            injection hy with hy
            rw [← hy]
            exact (HU.out y hc.1 (by have := hc.2.1; rw [List.length_replicate] at this; have := HN.out; omega)).1
          · cases hy⟩, H0⟩
        case round =>
          clear H0
          obtain ⟨j, bl, l2, last, rfl, rfl, HJ, HLS, HS⟩ := hrel
          by_cases gz : gk = 0
          · subst gz
            have d1 : decide ((j : Int) < (i : Int)) = false := decide_eq_false (by have := HJ.out; omega)
            have d1n : decide (j < i) = false := decide_eq_false (by have := HJ.out; omega)
            have hnil := empty_is HS.out.2.1 (fun y => by
              unfold mS
              rw [if_neg (fun h => ?_)]
              have hcz : bl.count false = 0 := by have := HJ.out; omega
              have hlt : y.toNat < bl.length := by have := h.2.1; omega
              have hm : false ∈ bl := by
                have := h.2.2
                rw [List.getD_eq_getElem?_getD, List.getElem?_eq_getElem hlt] at this
                have e : bl[y.toNat] = false := this
                rw [← e]
                exact List.getElem_mem hlt
              exact absurd (List.count_pos_iff.2 hm) (by omega))
            have NB : Aside0 (nextB l2 = false) := ⟨by rw [hnil]; rfl⟩
            clear hnil
            go_wp2_with (first | (go_at_call 12; (with_reducible refine (strike_none HS.out.1 131072 (Or.inl NB.out)).mono ?_); rintro e w8 ⟨rfl, rfl⟩))
            go_ret
            exact ⟨by first | rfl | (simp; done) | (simp [*]; done), HS.out.2.2.1⟩
          · obtain ⟨k1, rfl⟩ : ∃ k1, gk = k1 + 1 := ⟨gk - 1, by omega⟩
            have d1 : decide ((j : Int) < (i : Int)) = true := decide_eq_true (by have := HJ.out; omega)
            have d1n : decide (j < i) = true := decide_eq_true (by have := HJ.out; omega)
            obtain ⟨y, hy, hyf⟩ := some_false bl (by have := HJ.out; omega)
            have hmy : mS l0 bl (y : Int) = some (rd l0 (y : Int)) := by
              unfold mS
              rw [if_pos ⟨by omega, by omega, by rw [Int.toNat_natCast]; exact hyf⟩]
            obtain ⟨r1, r2, r3⟩ := root_of HS.out.1 HS.out.2.1 hmy
            have hlast := HLS.out _ _ r2
            have hroot : (0 ≤ (l2.getD 0 d0).2.2 ∧ (l2.getD 0 d0).2.2 < (bl.length : Int) ∧ bl.getD (l2.getD 0 d0).2.2.toNat true = false) ∧ rd l0 (l2.getD 0 d0).2.2 = (l2.getD 0 d0).2.1 := by
              unfold mS at r2
              split at r2
              · rename_i hc
                exact ⟨hc, Option.some.inj r2⟩
              · cases r2
            obtain ⟨p, ep⟩ : ∃ q, q = l2.getD 0 d0 := ⟨_, rfl⟩
            rw [← ep] at r2 r3 hlast hroot
            obtain ⟨gp, ap, wp⟩ := p
            have HP : Aside0 ((l2.getD 0 d0).2.2 = wp ∧ (l2.getD 0 d0).2.1 = ap ∧ 0 < l2.length) := ⟨by rw [← ep]; exact ⟨rfl, rfl, r1⟩⟩
            dsimp only at r2 r3 hlast hroot
            obtain ⟨⟨w0, w1, wf⟩, wa⟩ := hroot
            have hbl : (bl.length : Int) = (i : Int) := by have := HJ.out.2.1; omega
            have hau := HU.out wp w0 (by have := HN.out; omega)
            rw [wa] at hau
            obtain ⟨ad, ead, hcA⟩ := Kd.at_int HR.out wp w0 (by have := HN.out; omega)
            cases ead
            rw [wa] at hcA
            have HW := Aside0.mk (And.intro w0 (And.intro w1 (And.intro wf (And.intro hau (And.intro wa r3)))))
            have HCA : Aside0 (∀ W, Below w.heap.size w W → W.cell? (ad.add wp.toNat) = some (.int .u16 ap)) := ⟨fun W hW => by
              have := hW.block (ad.add wp.toNat).block (World.block_lt_of_cell? w _ hcA)
              simpa [World.cell?, this] using hcA⟩
            have e1 : decide (wp < 0) = false := decide_eq_false (by omega)
            have e1p : (wp < 0) = False := eq_false (by omega)
            have e2 : decide ((i : Int) ≤ wp) = false := decide_eq_false (by omega)
            have e3 : (0 ≤ wp) = True := eq_true w0
            have e4 : (wp < (i : Int)) = True := eq_true (by omega)
            have e5 : (wp < (l0.length : Int)) = True := eq_true (by have := HN.out; omega)
            have e6 : wrap64 ap = ap := by unfold wrap64; omega
            have e7 : decide (ap < last) = false := decide_eq_false (by omega)
            have EA := Aside0.mk e6
            have EJ : Aside0 (wrap64 ((j : Int) + 1) = ((j + 1 : Nat) : Int)) := ⟨by have := HJ.out; have := HN.out; unfold wrap64; omega⟩
            have hcell : ∀ W : World, W.heap[gS]? = some (.cells ((bl.map Value.bool).toArray) 4 (0, 0)) → W.cell? ⟨gS, wp.toNat, none⟩ = some (.bool false) := fun W hW => by
              have hlt : wp.toNat < bl.length := by omega
              have e : bl[wp.toNat]? = some false := by
                have := wf
                rw [List.getD_eq_getElem?_getD, List.getElem?_eq_getElem hlt] at this
                rw [List.getElem?_eq_getElem hlt]
                exact congrArg some this
              rw [blk_cell hW]
              simp [e]
            have HCS := Aside0.mk hcell
            clear gz hy hyf hmy r1 r2 r3 hlast w0 w1 wf wa hbl hau hcA hcell ep
            go_upto_region 20 with (first | (go_at_call 12; (with_reducible refine (strike_w HS.out.1 HS.out.2.1 131072 HP.out.2.2 (by rw [HP.out.2.1]; have := HW.out.2.2.2.1; omega) (by have := HJ.out; have := HN.out; omega)).mono ?_); rw [HP.out.1]; rintro e w5 ⟨rfl, l3, hX2, hM2, hL2, hF2⟩; have hS5 := hF2.kp _ _ _ _ HS.out.2.2.2 (by decide) (by decide) (by decide); have cS := HCS.out w5 hS5; have fS := blk_frozen hS5 wp.toNat; have cA := HCA.out w5 (HS.out.2.2.1.trans hF2.hb); have H5 := Aside0.mk (And.intro hX2 (And.intro hM2 (And.intro hL2 (And.intro (HS.out.2.2.1.trans hF2.hb) hS5)))); clear hX2 hM2 hL2 hF2 hS5))
            clear cS fS cA e1 e1p e2 e7 d1 d1n
            refine code_gen (fun W => BeX w.heap.size W g l3 ∧ HasM l3 (mS l0 (bl.set wp.toNat true)) ∧ Below w.heap.size w W ∧ W.heap[gS]? = some (.cells (((bl.set wp.toNat true).map Value.bool).toArray) 4 (0, 0))) ⟨?_, ?_, ?_, ?_⟩ ?_
            · exact H5.out.1.far H5.out.2.2.2.2 (by decide) (by decide) (by decide) _ _
            · rw [← mS_step l0 bl wp HW.out.1 HW.out.2.1]; exact H5.out.2.1
            · exact H5.out.2.2.2.1.setCell HGS.out _
            · have := blk_set H5.out.2.2.2.2 wp.toNat (.bool true)
              rw [this]
              simp [List.map_set]
            rintro w6 hE
            have H6 := Aside0.mk hE
            have cA := HCA.out w6 hE.2.2.1
            clear hE
            go_wp2
            go_roundg k1
            case measure => omega
            case rel => exact ⟨j + 1, bl.set wp.toNat true, l3, ap, by rw [EA.out], by rw [EJ.out], ⟨by have := HJ.out; omega, by rw [List.length_set]; exact HJ.out.2.1, by have := count_step bl wp.toNat (by have := HW.out; omega) HW.out.2.2.1; have := HJ.out; omega, by have := HJ.out; have := H5.out.2.2.1; omega⟩, ⟨fun y a hy => HW.out.2.2.2.2.2 y a (by
              unfold mS at hy ⊢
              rw [List.length_set] at hy
              split at hy
              · rename_i hc
                by_cases hyw : y = wp
                · subst hyw
                  have := hc.2.2
                  simp [List.getD_eq_getElem?_getD, (by omega : y.toNat < bl.length)] at this
                · have e : bl.getD y.toNat true = false := by
                    have := hc.2.2
                    rw [List.getD_eq_getElem?_getD, List.getElem?_set_ne (by have := HW.out; omega)] at this
                    rw [List.getD_eq_getElem?_getD]
                    exact this
                  exact (if_pos ⟨hc.1, hc.2.1, e⟩).trans hy
              · cases hy)⟩, H6⟩

/-! ### offertorylaw19_BellNone: function 5 -/
def offertorylaw19_BellNone.f (a0 : Int) (a1 : Int) : Option Bool := some true
set_option maxHeartbeats 8000000 in
set_option maxRecDepth 100000 in
theorem offertorylaw19_BellNone.calls (a0 : Int) (a1 : Int) (r : Bool) (w : World) (h : offertorylaw19_BellNone.f a0 a1 = some r) :
    Calls Try.prog 5 #[.int .i64 a0, .int .i64 a1] w fun e w' => e = .returned (.bool r) ∧ Below w.heap.size w w' := by
  obtain rfl := Option.some.inj h
  clear h
  go_enter Try.func5, Try.ntmps5
  go_wp2_with (first
    | (go_at_call 12; (with_reducible refine (strike_nil a1 _).mono ?_); rintro e w1 ⟨rfl, rfl⟩)
    | (go_at_call 13; (with_reducible refine (next_nil _).mono ?_); rintro e w2 ⟨rfl, rfl⟩)
    | (go_at_call 8; (with_reducible refine (awake_w _).mono ?_); rintro e w3 ⟨rfl, hb⟩; have HB := Aside0.mk hb; clear hb)
    | (go_at_call 9; (with_reducible refine (set_nil a0 a1 _).mono ?_); rintro e w4 ⟨rfl, rfl⟩)
    | (go_at_call 10; (with_reducible refine (stop_nil a0 _).mono ?_); rintro e w5 ⟨rfl, rfl⟩))
  go_ret
  exact ⟨by first | rfl | (simp; done), HB.out⟩

/-! ### offertorylaw19_BellMoves: function 6 -/
def offertorylaw19_BellMoves.f (a0 : Int) (a1 : Int) (a2 : Int) (a3 : Bool) : Option Bool := if (0 ≤ a0 ∧ a0 ≤ 65535) ∧ (0 ≤ a1 ∧ a1 ≤ 65535) ∧ (0 ≤ a2 ∧ a2 ≤ 65535) then some true else none
set_option maxHeartbeats 8000000 in
set_option maxRecDepth 100000 in
theorem offertorylaw19_BellMoves.calls (a0 : Int) (a1 : Int) (a2 : Int) (a3 : Bool) (r : Bool) (w : World) (h : offertorylaw19_BellMoves.f a0 a1 a2 a3 = some r) :
    Calls Try.prog 6 #[.int .u16 a0, .int .u16 a1, .int .u16 a2, .bool a3] w fun e w' => e = .returned (.bool r) ∧ Below w.heap.size w w' := by
  unfold offertorylaw19_BellMoves.f at h
  split at h
  case isFalse => cases h
  rename_i hb
  obtain rfl := Option.some.inj h
  have HA := Aside0.mk hb
  have e0 : wrap64 a0 = a0 := by unfold wrap64; omega
  have e1 : wrap64 a1 = a1 := by unfold wrap64; omega
  have e2 : wrap64 a2 = a2 := by unfold wrap64; omega
  clear h hb
  go_enter Try.func6, Try.ntmps6
  go_upto_region 2 with (first | (go_at_call 7; (with_reducible refine (new_w w.heap.size w (Nat.le_refl _)).mono ?_); rintro e w1 ⟨g, rfl, hX, hB⟩; have HX := Aside0.mk hX; have HB := Aside0.mk hB; clear hX hB))
  go_upto_region 4 with (first
    | (go_at_call 8; (with_reducible refine (awake_w _).mono ?_); rintro e w2 ⟨rfl, hb⟩; have HX1 := Aside0.mk (HX.out.below hb); have HB1 := Aside0.mk (below_step HB.out hb); clear hb HX)
    | (go_at_call 9; (with_reducible refine (set_w HX1.out hasM_nil 1 a0 HA.out.1.1 (by have := HA.out.1; omega) (by simp)).mono ?_); rintro e w3 ⟨rfl, l2, hX2, hM2, hL2, hF2⟩; have H2 := Aside0.mk (And.intro hX2 (And.intro hM2 (And.intro hL2 hF2))); clear hX2 hM2 hL2 hF2)
    | (go_at_call 9; (with_reducible refine (set_w H2.out.1 H2.out.2.1 2 a2 HA.out.2.2.1 (by have := HA.out.2.2; omega) (by have := H2.out.2.2.1; simp at this; omega)).mono ?_); rintro e w4 ⟨rfl, l3, hX2, hM2, hL2, hF2⟩; have H3 := Aside0.mk (And.intro hX2 (And.intro hM2 (And.intro (Nat.le_trans hL2 (Nat.succ_le_succ H2.out.2.2.1)) (H2.out.2.2.2.trans hF2)))); clear hX2 hM2 hL2 hF2)
    | (go_at_call 9; (with_reducible refine (set_w H3.out.1 H3.out.2.1 1 a1 HA.out.2.1.1 (by have := HA.out.2.1; omega) (by have := H3.out.2.2.1; simp at this; omega)).mono ?_); rintro e w5 ⟨rfl, l4, hX2, hM2, hL2, hF2⟩; have H4 := Aside0.mk (And.intro hX2 (And.intro hM2 (And.intro (Nat.le_trans hL2 (Nat.succ_le_succ H3.out.2.2.1)) (H3.out.2.2.2.trans hF2)))); clear hX2 hM2 hL2 hF2))
  have HB4 : Aside0 (l4.length ≤ 3) := ⟨by have := H4.out.2.2.1; simpa using this⟩
  have H5 := Aside0.mk (And.intro H4.out.1 (And.intro H4.out.2.1 (And.intro HB4.out H4.out.2.2.2)))
  clear HX1 H2 H3 H4
  cases a3
  · by_cases hc : a2 < a1
    · have d1 : decide (a2 < a1) = true := decide_eq_true hc
      have d2 : (a2 < a1) = True := eq_true hc
      have HC := Aside0.mk hc
      have r := root_is H5.out.1 H5.out.2.1 a2 2 rfl (fun w' a' h => by simp only [updM] at h; (repeat' split at h) <;> first | (cases h; done) | (injection h with h; omega)); have RH5 : Aside0 (0 < l4.length ∧ (l4.getD 0 d0).2.2 = 2 ∧ (l4.getD 0 d0).2.1 = a2 ∧ l4.length ≤ 1000) := ⟨r.1, by rw [r.2], by rw [r.2], by have := H5.out.2.2.1; omega⟩; clear r
      clear hc
      go_wp2_with (first | (go_at_call 12; (with_reducible refine (strike_w H5.out.1 H5.out.2.1 a1 RH5.out.1 (by rw [RH5.out.2.2.1]; have := HA.out; have := HC.out; omega) RH5.out.2.2.2).mono ?_); rw [RH5.out.2.1]; rintro e w6 ⟨rfl, l6, hX2, hM2, hL2, hF2⟩; have H6 := Aside0.mk (And.intro hX2 (And.intro hM2 (And.intro (show l6.length ≤ 3 by have := RH5.out.2.2.2; have := H5.out.2.2.1; omega) (H5.out.2.2.2.trans hF2)))); clear hX2 hM2 hL2 hF2; have r := root_is H6.out.1 H6.out.2.1 a1 1 rfl (fun w' a' h => by simp only [updM] at h; (repeat' split at h) <;> first | (cases h; done) | (injection h with h; omega)); have RH6 : Aside0 (0 < l6.length ∧ (l6.getD 0 d0).2.2 = 1 ∧ (l6.getD 0 d0).2.1 = a1 ∧ l6.length ≤ 1000) := ⟨r.1, by rw [r.2], by rw [r.2], by have := H6.out.2.2.1; omega⟩; clear r) | (go_at_call 12; (with_reducible refine (strike_w H6.out.1 H6.out.2.1 131072 RH6.out.1 (by rw [RH6.out.2.2.1]; have := HA.out; omega) RH6.out.2.2.2).mono ?_); rw [RH6.out.2.1]; rintro e w7 ⟨rfl, l7, hX2, hM2, hL2, hF2⟩; have H7 := Aside0.mk (And.intro hX2 (And.intro hM2 (And.intro (show l7.length ≤ 3 by have := RH6.out.2.2.2; have := H6.out.2.2.1; omega) (H6.out.2.2.2.trans hF2)))); clear hX2 hM2 hL2 hF2))
      go_ret
      exact ⟨by first | rfl | (simp; done) | (simp [*]; done), HB1.out.trans H7.out.2.2.2.hb⟩
    · have HC := Aside0.mk hc
      have d1 : decide (a2 < a1) = false := decide_eq_false hc
      have d2 : (a2 < a1) = False := eq_false hc
      have r := root_is H5.out.1 H5.out.2.1 a1 1 rfl (fun w' a' h => by simp only [updM] at h; (repeat' split at h) <;> first | (cases h; done) | (injection h with h; omega)); have RH5 : Aside0 (0 < l4.length ∧ (l4.getD 0 d0).2.2 = 1 ∧ (l4.getD 0 d0).2.1 = a1 ∧ l4.length ≤ 1000) := ⟨r.1, by rw [r.2], by rw [r.2], by have := H5.out.2.2.1; omega⟩; clear r
      clear hc
      go_wp2_with (first | (go_at_call 12; (with_reducible refine (strike_w H5.out.1 H5.out.2.1 a1 RH5.out.1 (by rw [RH5.out.2.2.1]; have := HA.out; have := HC.out; omega) RH5.out.2.2.2).mono ?_); rw [RH5.out.2.1]; rintro e w6 ⟨rfl, l6, hX2, hM2, hL2, hF2⟩; have H6 := Aside0.mk (And.intro hX2 (And.intro hM2 (And.intro (show l6.length ≤ 3 by have := RH5.out.2.2.2; have := H5.out.2.2.1; omega) (H5.out.2.2.2.trans hF2)))); clear hX2 hM2 hL2 hF2; have r := root_is H6.out.1 H6.out.2.1 a2 2 rfl (fun w' a' h => by simp only [updM] at h; (repeat' split at h) <;> first | (cases h; done) | (injection h with h; omega)); have RH6 : Aside0 (0 < l6.length ∧ (l6.getD 0 d0).2.2 = 2 ∧ (l6.getD 0 d0).2.1 = a2 ∧ l6.length ≤ 1000) := ⟨r.1, by rw [r.2], by rw [r.2], by have := H6.out.2.2.1; omega⟩; clear r) | (go_at_call 12; (with_reducible refine (strike_w H6.out.1 H6.out.2.1 131072 RH6.out.1 (by rw [RH6.out.2.2.1]; have := HA.out; omega) RH6.out.2.2.2).mono ?_); rw [RH6.out.2.1]; rintro e w7 ⟨rfl, l7, hX2, hM2, hL2, hF2⟩; have H7 := Aside0.mk (And.intro hX2 (And.intro hM2 (And.intro (show l7.length ≤ 3 by have := RH6.out.2.2.2; have := H6.out.2.2.1; omega) (H6.out.2.2.2.trans hF2)))); clear hX2 hM2 hL2 hF2))
      go_ret
      exact ⟨by first | rfl | (simp; done) | (simp [*]; done), HB1.out.trans H7.out.2.2.2.hb⟩
  · go_wp2_with (first | (go_at_call 10; (with_reducible refine (stop_w H5.out.1 H5.out.2.1 2 (hasM_of H5.out.2.1 (a := a2) rfl) (by have := H5.out.2.2.1; omega)).mono ?_); rintro e w6 ⟨rfl, l6, hX2, hM2, hL2, hF2⟩; have H6 := Aside0.mk (And.intro hX2 (And.intro hM2 (And.intro (show l6.length ≤ 3 by have := H5.out.2.2.1; omega) (H5.out.2.2.2.trans hF2)))); clear hX2 hM2 hL2 hF2; have r := root_is H6.out.1 H6.out.2.1 a1 1 rfl (fun w' a' h => by simp only [updM] at h; (repeat' split at h) <;> first | (cases h; done) | (injection h with h; omega)); have RH6 : Aside0 (0 < l6.length ∧ (l6.getD 0 d0).2.2 = 1 ∧ (l6.getD 0 d0).2.1 = a1 ∧ l6.length ≤ 1000) := ⟨r.1, by rw [r.2], by rw [r.2], by have := H6.out.2.2.1; omega⟩; clear r) | (go_at_call 12; (with_reducible refine (strike_w H6.out.1 H6.out.2.1 a1 RH6.out.1 (by rw [RH6.out.2.2.1]; have := HA.out; omega) RH6.out.2.2.2).mono ?_); rw [RH6.out.2.1]; rintro e w7 ⟨rfl, l7, hX2, hM2, hL2, hF2⟩; have H7 := Aside0.mk (And.intro hX2 (And.intro hM2 (And.intro (show l7.length ≤ 3 by have := RH6.out.2.2.2; have := H6.out.2.2.1; omega) (H6.out.2.2.2.trans hF2)))); clear hX2 hM2 hL2 hF2; have hnil := empty_is H7.out.2.1 (fun w' => by simp only [updM]; (repeat' split) <;> first | rfl | omega); have NB : Aside0 (nextB l7 = false) := ⟨by rw [hnil]; rfl⟩; clear hnil) | (go_at_call 12; (with_reducible refine (strike_none H7.out.1 131072 (Or.inl NB.out)).mono ?_); rintro e w8 ⟨rfl, rfl⟩))
    go_ret
    exact ⟨by first | rfl | (simp; done) | (simp [*]; done), HB1.out.trans H7.out.2.2.2.hb⟩

end Go.Proofs.Ytjmfhlapjghipaa.PAll
