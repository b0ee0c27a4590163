/- The Go functions that the laws reach, as Lean functions, and that each call comes to what its function says. Written by a program of this session (a turned copy of the kit's print). No condition beyond those that each theorem states. -/
import Derived.Test.YtdpekjffjobabaaPAllx0
import Derived.Test.YtdpekjffjobabaaPAllx3
import Derived.Test.YtdpekjffjobabaaPAllx4
import Derived.Test.YtdpekjffjobabaaPAllx5
import Derived.Test.YtdpekjffjobabaaPAllx6
namespace Go.Proofs.Ytdpekjffjobabaa.PAll
open Go.RowKit Go.Proofs.YtdpekjffjobabaaW.PrintWords Go.Proofs.YtdpekjffjobabaaW.PrintLast Go.Proofs.YtdpekjffjobabaaW.PrintMore
attribute [local go_sem] max2_int min2_int max_two min_two max_three min_three max_four min_four   -- for this text's walks alone
set_option linter.unusedVariables false
set_option linter.unusedSimpArgs false

/-! ### stats_Decode: function 13 -/
/-! ### stats_Decode -/
abbrev zero29 : Array Value := #[.slice none 0 0, .int .i64 0, .int .u64 0, .int .u64 0, .int .u64 0, .int .u64 0, .bool false]
theorem cells4 {w : World} {g : Nat} {t : TypeId} {a b c d : Value} (h : w.heap[g]? = some (.cells #[a, b, c, d] t (0, 0))) :
    w.cell? ⟨g, 0, none⟩ = some a ∧ w.cell? ⟨g, 1, none⟩ = some b ∧ w.cell? ⟨g, 2, none⟩ = some c ∧ w.cell? ⟨g, 3, none⟩ = some d :=
  ⟨(blk_cell h 0).trans rfl, (blk_cell h 1).trans rfl, (blk_cell h 2).trans rfl, (blk_cell h 3).trans rfl⟩
theorem cells7 {w : World} {g : Nat} {t : TypeId} {a b c d e f i : Value} (h : w.heap[g]? = some (.cells #[a, b, c, d, e, f, i] t (0, 0))) :
    w.cell? ⟨g, 0, none⟩ = some a ∧ w.cell? ⟨g, 1, none⟩ = some b ∧ w.cell? ⟨g, 2, none⟩ = some c ∧ w.cell? ⟨g, 3, none⟩ = some d ∧ w.cell? ⟨g, 4, none⟩ = some e ∧ w.cell? ⟨g, 5, none⟩ = some f ∧ w.cell? ⟨g, 6, none⟩ = some i :=
  ⟨(blk_cell h 0).trans rfl, (blk_cell h 1).trans rfl, (blk_cell h 2).trans rfl, (blk_cell h 3).trans rfl, (blk_cell h 4).trans rfl, (blk_cell h 5).trans rfl, (blk_cell h 6).trans rfl⟩
theorem frees7 {w : World} {g : Nat} {t : TypeId} {cs : Array Value} (h : w.heap[g]? = some (.cells cs t (0, 0))) :
    w.frozen? ⟨g, 0, none⟩ = false ∧ w.frozen? ⟨g, 1, none⟩ = false ∧ w.frozen? ⟨g, 2, none⟩ = false ∧ w.frozen? ⟨g, 3, none⟩ = false ∧ w.frozen? ⟨g, 4, none⟩ = false ∧ w.frozen? ⟨g, 5, none⟩ = false ∧ w.frozen? ⟨g, 6, none⟩ = false :=
  ⟨blk_frozen h 0, blk_frozen h 1, blk_frozen h 2, blk_frozen h 3, blk_frozen h 4, blk_frozen h 5, blk_frozen h 6⟩
abbrev set7 (w : World) (g : Nat) (a b c d e f i : Value) : World := ((((((w.setCell ⟨g, 0, none⟩ a).setCell ⟨g, 1, none⟩ b).setCell ⟨g, 2, none⟩ c).setCell ⟨g, 3, none⟩ d).setCell ⟨g, 4, none⟩ e).setCell ⟨g, 5, none⟩ f).setCell ⟨g, 6, none⟩ i
theorem put7 {w : World} {g : Nat} {t : TypeId} {a0 b0 c0 d0 e0 f0 i0 : Value} (h : w.heap[g]? = some (.cells #[a0, b0, c0, d0, e0, f0, i0] t (0, 0))) (a b c d e f i : Value) :
    (set7 w g a b c d e f i).heap[g]? = some (.cells #[a, b, c, d, e, f, i] t (0, 0)) :=
  blk_put (cs := #[a, b, c, d, e, f, i0]) (blk_put (cs := #[a, b, c, d, e, f0, i0]) (blk_put (cs := #[a, b, c, d, e0, f0, i0]) (blk_put (cs := #[a, b, c, d0, e0, f0, i0]) (blk_put (cs := #[a, b, c0, d0, e0, f0, i0]) (blk_put (cs := #[a, b0, c0, d0, e0, f0, i0]) (blk_put h 0 a rfl) 1 b rfl) 2 c rfl) 3 d rfl) 4 e rfl) 5 f rfl) 6 i rfl
theorem below7 {w W : World} {g : Nat} (h : Below w.heap.size w W) (hg : w.heap.size ≤ g) (a b c d e f i : Value) : Below w.heap.size w (set7 W g a b c d e f i) :=
  below_set (below_set (below_set (below_set (below_set (below_set (below_set h hg) hg) hg) hg) hg) hg) hg
theorem far7 {w : World} {g g' : Nat} {t : TypeId} {cs : Array Value} (h : w.heap[g']? = some (.cells cs t (0, 0))) (hne : g' ≠ g) (a b c d e f i : Value) : (set7 w g a b c d e f i).heap[g']? = some (.cells cs t (0, 0)) :=
  blk_far (blk_far (blk_far (blk_far (blk_far (blk_far (blk_far h hne _) hne _) hne _) hne _) hne _) hne _) hne _
/-- What stands while the reader reads: the plan's box, the result's, the reader's. -/
structure Rd (w0 : World) (gp gr gq : Nat) (pl : Array Value) (A : Option Addr) (L c : Nat) (w : World) : Prop where
  hp : w.heap[gp]? = some (.cells pl 24 (0, 0))
  hr : w.heap[gr]? = some (.cells zero29 29 (0, 0))
  hq : w.heap[gq]? = some (.cells #[.slice A L c] 64 (0, 0))
  hb : Below w0.heap.size w0 w
  hl : w0.heap.size ≤ gq
  lr : w0.heap.size ≤ gr
theorem Rd.below {w0 w w' : World} {gp gr gq : Nat} {pl : Array Value} {A : Option Addr} {L c : Nat} (h : Rd w0 gp gr gq pl A L c w) (hb : Below w.heap.size w w') : Rd w0 gp gr gq pl A L c w' :=
  ⟨blk_below h.hp hb, blk_below h.hr hb, blk_below h.hq hb, below_step h.hb hb, h.hl, h.lr⟩
theorem next_rd {w0 w : World} {gp gr gq : Nat} {pl : Array Value} {A : Option Addr} {L c : Nat} (h : Rd w0 gp gr gq pl A L c w) (n : Nat) (nI : Int) (hnI : nI = (n : Int)) (hn : n ≤ L) (hL : L ≤ c) :
    Calls Try.prog 35 #[.pointer (some ⟨gq, 0, none⟩), .int .i64 nI] w fun e w' => e = .returned (.slice A n c) ∧ Rd w0 gp gr gq pl (leftA A c n) (L - n) (c - n) w' := by
  refine (next_at gq A L c n nI w hnI h.hq hn hL).mono ?_
  rintro e w' ⟨rfl, rfl⟩
  exact ⟨rfl, blk_far h.hp (blk_ne h.hp h.hq (by decide)) _, blk_far h.hr (blk_ne h.hr h.hq (by decide)) _, (blk_set h.hq 0 _).trans rfl, h.hb.setCell h.hl _, h.hl, h.lr⟩
theorem next_rds {w0 w : World} {gp gr gq : Nat} {pl : Array Value} {ad ad' : Addr} {L c : Nat} (n : Nat) (had : ad' = ad.add n) (h : Rd w0 gp gr gq pl (some ad) L c w) (nI : Int) (hnI : nI = (n : Int)) (hn : n < L) (hL : L ≤ c) :
    Calls Try.prog 35 #[.pointer (some ⟨gq, 0, none⟩), .int .i64 nI] w fun e w' => e = .returned (.slice (some ad) n c) ∧ Rd w0 gp gr gq pl (some ad') (L - n) (c - n) w' := by
  subst had
  refine (next_rd h n nI hnI (by omega) hL).mono ?_
  rintro e w' ⟨rfl, h'⟩
  refine ⟨rfl, ?_⟩
  have e : leftA (some ad) c n = some (ad.add n) := by unfold leftA; rw [if_neg (by omega), Nat.mul_one]; rfl
  rw [e] at h'
  exact h'
theorem getD_in32 {l : List Int} (h : ∀ x ∈ l, 0 ≤ x ∧ x ≤ 4294967295) (i : Nat) : 0 ≤ l.getD i 0 ∧ l.getD i 0 ≤ 4294967295 := by
  rw [List.getD_eq_getElem?_getD]
  by_cases hi : i < l.length
  · rw [List.getElem?_eq_getElem hi]; exact h _ (List.getElem_mem hi)
  · rw [List.getElem?_eq_none (by omega)]; exact ⟨by decide, by decide⟩
theorem w64s (m : Nat) (h : m < 9223372036854775807) : wrap64 ((m : Int) + 1) = ((m + 1 : Nat) : Int) := by unfold wrap64; omega
theorem w64d (m : Nat) (h : m ≤ 1000000) : wrap64 (2 * (m : Int)) = ((2 * m : Nat) : Int) := by unfold wrap64; omega
theorem goesB_ {P : Program} {ops : Array Oper} {Q : Exit → Act → World → Prop} {oi : Oper} {N : Option Tmp} {a : Act} {w : World} {K : Act → World → Prop} {f : FuncId} {fn : Func} {x : Operand} {ars : Array Operand} {ts : Array TypeId} (hf : P.funcs[f]? = some fn) (hname : (fn.name == "runtime.NumGoroutine") = false) (hb : fn.body.isSome = true) (first args all : Array Value) (hall : first ++ args = all)
    (hw : Region.wanted oi (yielded ops a.tmps) = true) (hN : oi.dst = N) (hop : oi.op = .call { callee := .value x, args := ars, argTypes := ts }) (hx : a.eval x = .func (.func f) first #[]) (hargs : ars.map a.eval = args)
    (h : Calls P f all w fun e w' => ∃ v, e = .returned v ∧ K (a.put N v) w') : if Region.wanted oi (yielded ops a.tmps) = true then Oper.wp P oi a w K Q else K (a.put N undef) w := by
  subst hall
  refine call_ f (first ++ args) hw hN ?_ h
  have he := enters_ hf hname hb (first ++ args) w
  unfold execOp
  simp [hop, resolve, Deferred.ofValue, invoke, hx, hargs, he]
abbrev i64s (xs : List Int) : List Value := xs.map (Value.int .i64)
/-- What stands behind the reader: the plan's box, the result's, the other stats', and their row of bins. -/
structure Dc (w0 : World) (gp gr g6 base : Nat) (pl : Array Value) (v : Value) (cw s1 s2 q1 q2 : Int) (b : Bool) (xs : List Int) (w : World) : Prop where
  hp : w.heap[gp]? = some (.cells pl 24 (0, 0))
  hr : w.heap[gr]? = some (.cells zero29 29 (0, 0))
  h6 : w.heap[g6]? = some (.cells #[v, .int .i64 cw, .int .u64 s1, .int .u64 s2, .int .u64 q1, .int .u64 q2, .bool b] 29 (0, 0))
  ho : w.ownsRow base 3 1 v xs.length (i64s xs)
  nr : g6 ≠ gr
  hb : Below w0.heap.size w0 w
  l6 : w0.heap.size ≤ g6
  lr : w0.heap.size ≤ gr
  lb : w0.heap.size ≤ base
  bs : base ≤ w.heap.size
theorem own_below_ {w w' : World} {base e size n : Nat} {v : Value} {xs : List Value} (h : w.ownsRow base e size v n xs) (hb : Below w.heap.size w w') : w'.ownsRow base e size v n xs := by
  refine h.kept (⟨hb.os, hb.tape, hb.output, hb.size, fun k hk _ => hb.block k hk⟩ : w.grownBy w' none) ?_
  cases hv : v.ownBlock
  · exact Or.inl rfl
  · right; intro e; cases e
theorem Dc.below {w0 w w' : World} {gp gr g6 base : Nat} {pl : Array Value} {v : Value} {cw s1 s2 q1 q2 : Int} {b : Bool} {xs : List Int} (h : Dc w0 gp gr g6 base pl v cw s1 s2 q1 q2 b xs w) (hb : Below w.heap.size w w') : Dc w0 gp gr g6 base pl v cw s1 s2 q1 q2 b xs w' :=
  ⟨blk_below h.hp hb, blk_below h.hr hb, blk_below h.h6 hb, own_below_ h.ho hb, h.nr, below_step h.hb hb, h.l6, h.lr, h.lb, Nat.le_trans h.bs hb.size⟩
theorem Dc.far {w0 w : World} {gp gr g6 base : Nat} {pl : Array Value} {v : Value} {cw s1 s2 q1 q2 : Int} {b : Bool} {xs : List Int} (h : Dc w0 gp gr g6 base pl v cw s1 s2 q1 q2 b xs w) {g : Nat} {cs : Array Value} (hg : w.heap[g]? = some (.cells cs 27 (0, 0))) (hl : w0.heap.size ≤ g) (j : Nat) (u : Value) : Dc w0 gp gr g6 base pl v cw s1 s2 q1 q2 b xs (w.setCell ⟨g, j, none⟩ u) :=
  ⟨blk_far h.hp (blk_ne h.hp hg (by decide)) _, blk_far h.hr (blk_ne h.hr hg (by decide)) _, blk_far h.h6 (blk_ne h.h6 hg (by decide)) _, own_setCell h.ho (own_ne h.ho hg (by decide)) _, h.nr, h.hb.setCell hl _, h.l6, h.lr, h.lb, by simpa [World.setCell] using h.bs⟩
theorem Dc.start {w0 w9 w : World} {gp gr gq g6 : Nat} {pl : Array Value} {A : Option Addr} {L c : Nat} (h : Rd w0 gp gr gq pl A L c w9) (hb : Below w9.heap.size w9 w) (h6 : w.heap[g6]? = some (.cells zero29 29 (0, 0))) (g6e : g6 = w9.heap.size) (cw : Int) :
    Dc w0 gp gr g6 w.heap.size pl (.slice none 0 0) cw 0 0 0 0 false [] (set7 w g6 (.slice none 0 0) (.int .i64 cw) (.int .u64 0) (.int .u64 0) (.int .u64 0) (.int .u64 0) (.bool false)) := by
  have hr := blk_below h.hr hb
  have hp := blk_below h.hp hb
  have n6 : gr ≠ g6 := by rw [g6e]; exact Nat.ne_of_lt (blk_lt h.hr)
  have l6 : w0.heap.size ≤ g6 := by rw [g6e]; exact below_size h.hb
  exact ⟨far7 hp (blk_ne hp h6 (by decide)) _ _ _ _ _ _ _, far7 hr n6 _ _ _ _ _ _ _, put7 h6 _ _ _ _ _ _ _, World.ownsRow_nil _ _ _ _, fun e => n6 e.symm, below7 (below_step h.hb hb) l6 _ _ _ _ _ _ _, l6, h.lr, Nat.le_trans (below_size h.hb) hb.size, by simp [World.setCell]⟩
theorem Dc.push {w0 w w3 : World} {gp gr g6 base n : Nat} {pl : Array Value} {v v1 : Value} {cw s1 s2 q1 q2 : Int} {b : Bool} {xs : List Int} {y : Int} (h : Dc w0 gp gr g6 base pl v cw s1 s2 q1 q2 b xs w) (hn : xs.length = n)
    (ho : w3.ownsRow base 3 1 v1 (n + 1) (i64s xs ++ [.int .i64 y])) (hg : w.grownBy w3 v.ownBlock) : Dc w0 gp gr g6 base pl v1 cw s1 s2 q1 q2 b (xs ++ [y]) (w3.setCell ⟨g6, 0, none⟩ v1) := by
  subst hn
  have e6 := (hg.block g6 (blk_lt h.h6) (own_ne h.ho h.h6 (by decide))).trans h.h6
  have er := (hg.block gr (blk_lt h.hr) (own_ne h.ho h.hr (by decide))).trans h.hr
  have ep := (hg.block gp (blk_lt h.hp) (own_ne h.ho h.hp (by decide))).trans h.hp
  refine ⟨blk_far ep (blk_ne ep e6 (by decide)) _, blk_far er (fun e => h.nr e.symm) _, (blk_set e6 0 _).trans rfl, ?_, h.nr, (h.hb.grown hg (Nat.le_trans h.lb h.bs) (fun k hk => Nat.le_trans h.lb (World.ownsRow.lt h.ho k hk).1)).setCell h.l6 _, h.l6, h.lr, h.lb, ?_⟩
  · have := own_setCell ho (p := ⟨g6, 0, none⟩) (own_ne ho e6 (by decide)) v1
    simpa [i64s] using this
  · have := h.bs
    have := hg.size
    simp only [World.setCell, Array.size_modify]
    omega
/-- The same with three wide numbers in boxes of their own. -/
structure Dw (w0 : World) (gp gr g6 base : Nat) (pl : Array Value) (v : Value) (cw s1 s2 q1 q2 : Int) (b : Bool) (xs : List Int) (ga gb gc : Nat) (x1 x2 y1 y2 z1 z2 : Int) (w : World) : Prop where
  dc : Dc w0 gp gr g6 base pl v cw s1 s2 q1 q2 b xs w
  ha : w.heap[ga]? = some (.cells #[.int .u64 x1, .int .u64 x2] 27 (0, 0))
  hb : w.heap[gb]? = some (.cells #[.int .u64 y1, .int .u64 y2] 27 (0, 0))
  hc : w.heap[gc]? = some (.cells #[.int .u64 z1, .int .u64 z2] 27 (0, 0))
theorem Dw.below {w0 w w' : World} {gp gr g6 base ga gb gc : Nat} {pl : Array Value} {v : Value} {cw s1 s2 q1 q2 x1 x2 y1 y2 z1 z2 : Int} {b : Bool} {xs : List Int} (h : Dw w0 gp gr g6 base pl v cw s1 s2 q1 q2 b xs ga gb gc x1 x2 y1 y2 z1 z2 w) (hb : Below w.heap.size w w') : Dw w0 gp gr g6 base pl v cw s1 s2 q1 q2 b xs ga gb gc x1 x2 y1 y2 z1 z2 w' :=
  ⟨h.dc.below hb, blk_below h.ha hb, blk_below h.hb hb, blk_below h.hc hb⟩
theorem cells2 {w : World} {g : Nat} {t : TypeId} {a b : Value} (h : w.heap[g]? = some (.cells #[a, b] t (0, 0))) : w.cell? ⟨g, 0, none⟩ = some a ∧ w.cell? ⟨g, 1, none⟩ = some b := ⟨(blk_cell h 0).trans rfl, (blk_cell h 1).trans rfl⟩
theorem Dw.start {w0 w : World} {gp gr g6 base ga gb gc : Nat} {pl : Array Value} {v : Value} {cw s1 s2 q1 q2 : Int} {b : Bool} {xs : List Int} {a1 a2 b1 b2 c1 c2 : Value} (h : Dc w0 gp gr g6 base pl v cw s1 s2 q1 q2 b xs w)
    (ha : w.heap[ga]? = some (.cells #[a1, a2] 27 (0, 0))) (hb : w.heap[gb]? = some (.cells #[b1, b2] 27 (0, 0))) (hc : w.heap[gc]? = some (.cells #[c1, c2] 27 (0, 0))) (nab : ga ≠ gb) (nac : ga ≠ gc) (nbc : gb ≠ gc) (la : w0.heap.size ≤ ga) (lb : w0.heap.size ≤ gb) (lc : w0.heap.size ≤ gc) (x1 x2 y1 y2 z1 z2 : Int) :
    Dw w0 gp gr g6 base pl v cw s1 s2 q1 q2 b xs ga gb gc x1 x2 y1 y2 z1 z2 ((((((w.setCell ⟨ga, 0, none⟩ (.int .u64 x1)).setCell ⟨ga, 1, none⟩ (.int .u64 x2)).setCell ⟨gb, 0, none⟩ (.int .u64 y1)).setCell ⟨gb, 1, none⟩ (.int .u64 y2)).setCell ⟨gc, 0, none⟩ (.int .u64 z1)).setCell ⟨gc, 1, none⟩ (.int .u64 z2)) := by
  have e1 := blk_set ha 0 (.int .u64 x1)
  have D1 := h.far ha la 0 (.int .u64 x1)
  have e2 := (blk_set e1 1 (.int .u64 x2)).trans (show _ = some (Obj.cells #[.int .u64 x1, .int .u64 x2] 27 (0, 0)) from rfl)
  have D2 := D1.far e1 la 1 (.int .u64 x2)
  have f2 := blk_far (blk_far hb (fun e => nab e.symm) (p := ⟨ga, 0, none⟩) (.int .u64 x1)) (fun e => nab e.symm) (p := ⟨ga, 1, none⟩) (.int .u64 x2)
  have g2 := blk_far (blk_far hc (fun e => nac e.symm) (p := ⟨ga, 0, none⟩) (.int .u64 x1)) (fun e => nac e.symm) (p := ⟨ga, 1, none⟩) (.int .u64 x2)
  have f3 := blk_set f2 0 (.int .u64 y1)
  have D3 := D2.far f2 lb 0 (.int .u64 y1)
  have f4 := (blk_set f3 1 (.int .u64 y2)).trans (show _ = some (Obj.cells #[.int .u64 y1, .int .u64 y2] 27 (0, 0)) from rfl)
  have D4 := D3.far f3 lb 1 (.int .u64 y2)
  have e4 := blk_far (blk_far e2 nab (p := ⟨gb, 0, none⟩) (.int .u64 y1)) nab (p := ⟨gb, 1, none⟩) (.int .u64 y2)
  have g4 := blk_far (blk_far g2 (fun e => nbc e.symm) (p := ⟨gb, 0, none⟩) (.int .u64 y1)) (fun e => nbc e.symm) (p := ⟨gb, 1, none⟩) (.int .u64 y2)
  have g5 := blk_set g4 0 (.int .u64 z1)
  have D5 := D4.far g4 lc 0 (.int .u64 z1)
  have g6_ := (blk_set g5 1 (.int .u64 z2)).trans (show _ = some (Obj.cells #[.int .u64 z1, .int .u64 z2] 27 (0, 0)) from rfl)
  have D6 := D5.far g5 lc 1 (.int .u64 z2)
  exact ⟨D6, blk_far (blk_far e4 nac _) nac _, blk_far (blk_far f4 nbc _) nbc _, g6_⟩
theorem Dw.square {w0 w : World} {gp gr g6 base ga gb gc : Nat} {pl : Array Value} {v : Value} {cw s1 s2 q1 q2 x1 x2 y1 y2 z1 z2 : Int} {b : Bool} {xs : List Int} (h : Dw w0 gp gr g6 base pl v cw s1 s2 q1 q2 b xs ga gb gc x1 x2 y1 y2 z1 z2 w) (m1 m2 : Int) :
    Dw w0 gp gr g6 base pl v cw s1 s2 m1 m2 b xs ga gb gc x1 x2 y1 y2 z1 z2 ((w.setCell ⟨g6, 4, none⟩ (.int .u64 m1)).setCell ⟨g6, 5, none⟩ (.int .u64 m2)) := by
  have far : ∀ {g t : Nat} {cs : Array Value}, w.heap[g]? = some (.cells cs t (0, 0)) → g ≠ g6 → ((w.setCell ⟨g6, 4, none⟩ (.int .u64 m1)).setCell ⟨g6, 5, none⟩ (.int .u64 m2)).heap[g]? = some (.cells cs t (0, 0)) := fun hg hne => blk_far (blk_far hg hne _) hne _
  have D := h.dc
  refine ⟨⟨far D.hp (blk_ne D.hp D.h6 (by decide)), far D.hr (fun e => D.nr e.symm), blk_put (blk_put D.h6 4 _ rfl) 5 _ rfl, own_setCell (own_setCell D.ho (p := ⟨g6, 4, none⟩) (own_ne D.ho D.h6 (by decide)) _) (p := ⟨g6, 5, none⟩) (own_ne D.ho D.h6 (by decide)) _, D.nr, (D.hb.setCell D.l6 _).setCell D.l6 _, D.l6, D.lr, D.lb, by simpa [World.setCell] using D.bs⟩, far h.ha (blk_ne h.ha D.h6 (by decide)), far h.hb (blk_ne h.hb D.h6 (by decide)), far h.hc (blk_ne h.hc D.h6 (by decide))⟩
theorem Dc.sum {w0 w : World} {gp gr g6 base : Nat} {pl : Array Value} {v : Value} {cw s1 s2 q1 q2 : Int} {b : Bool} {xs : List Int} (h : Dc w0 gp gr g6 base pl v cw s1 s2 q1 q2 b xs w) (m1 m2 : Int) (b' : Bool) :
    Dc w0 gp gr g6 base pl v cw m1 m2 q1 q2 b' xs (((w.setCell ⟨g6, 2, none⟩ (.int .u64 m1)).setCell ⟨g6, 3, none⟩ (.int .u64 m2)).setCell ⟨g6, 6, none⟩ (.bool b')) := by
  refine ⟨blk_far (blk_far (blk_far h.hp (blk_ne h.hp h.h6 (by decide)) _) (blk_ne h.hp h.h6 (by decide)) _) (blk_ne h.hp h.h6 (by decide)) _, blk_far (blk_far (blk_far h.hr (fun e => h.nr e.symm) _) (fun e => h.nr e.symm) _) (fun e => h.nr e.symm) _, blk_put (blk_put (blk_put h.h6 2 _ rfl) 3 _ rfl) 6 _ rfl, own_setCell (own_setCell (own_setCell h.ho (p := ⟨g6, 2, none⟩) (own_ne h.ho h.h6 (by decide)) _) (p := ⟨g6, 3, none⟩) (own_ne h.ho h.h6 (by decide)) _) (p := ⟨g6, 6, none⟩) (own_ne h.ho h.h6 (by decide)) _, h.nr, ((h.hb.setCell h.l6 _).setCell h.l6 _).setCell h.l6 _, h.l6, h.lr, h.lb, by simpa [World.setCell] using h.bs⟩
/-- The end: the stats are copied into the result. -/
theorem Dc.last {w0 w : World} {gp gr g6 base : Nat} {pl : Array Value} {v : Value} {cw s1 s2 q1 q2 : Int} {b : Bool} {xs : List Int} (h : Dc w0 gp gr g6 base pl v cw s1 s2 q1 q2 b xs w) :
    Kd.R (Kd.int .i64) 3 (set7 w gr v (.int .i64 cw) (.int .u64 s1) (.int .u64 s2) (.int .u64 q1) (.int .u64 q2) (.bool b)) w0.heap.size (fun _ => True) v xs ∧ Below w0.heap.size w0 (set7 w gr v (.int .i64 cw) (.int .u64 s1) (.int .u64 s2) (.int .u64 q1) (.int .u64 q2) (.bool b)) := by
  have hne := own_ne h.ho h.hr (by decide)
  refine ⟨Kd.R_lower (Kd.R_of_own ?_ (fun _ _ => trivial)) h.lb, below7 h.hb h.lr _ _ _ _ _ _ _⟩
  exact own_setCell (own_setCell (own_setCell (own_setCell (own_setCell (own_setCell (own_setCell h.ho (p := ⟨gr, 0, none⟩) hne _) (p := ⟨gr, 1, none⟩) hne _) (p := ⟨gr, 2, none⟩) hne _) (p := ⟨gr, 3, none⟩) hne _) (p := ⟨gr, 4, none⟩) hne _) (p := ⟨gr, 5, none⟩) hne _) (p := ⟨gr, 6, none⟩) hne _
theorem above_at (A0 : Option Addr) (c0 m : Nat) (l0 : List Int) (a1 : Int) (r : Bool) (w : World) (hm : l0.length = m) (hr0 : Kd.C (Kd.int .u32) w A0 m l0) (hc0 : m ≤ c0) (h : stats_above.f l0 a1 = some r) :
    Calls Try.prog 36 #[.slice A0 m c0, .int .u32 a1] w fun e w' => e = .returned (.bool r) ∧ Below w.heap.size w w' := by
  subst hm
  exact stats_above.calls A0 c0 l0 a1 r w hr0 hc0 h
theorem powers_at (k : Nat) (A0 : Option Addr) (c0 m : Nat) (l0 : List Int) (r1 r2 : Int) (w : World) (hm : l0.length = m) (hr0 : Kd.C (Kd.int .u32) w A0 m l0) (hc0 : m ≤ c0) (h : stats_powers.f k l0 = some (r1, r2)) :
    Calls Try.prog 37 #[.slice A0 m c0] w fun e w' => e = .returned (.agg #[.int .u64 r1, .int .u64 r2]) ∧ Below w.heap.size w w' := by
  subst hm
  exact stats_powers.calls k A0 c0 l0 r1 r2 w hr0 hc0 h
theorem of_at (a a' : Int) (r1 r2 : Int) (w : World) (e : a' = a) (h : stats_of.f a = some (r1, r2)) :
    Calls Try.prog 25 #[.int .i64 a'] w fun e w' => e = .returned (.agg #[.int .u64 r1, .int .u64 r2]) ∧ Below w.heap.size w w' := by
  subst e
  exact stats_of.calls a' r1 r2 w h
theorem w64i {x : Int} (h : 0 ≤ x ∧ x ≤ 4294967295) : wrap64 x = x := by unfold wrap64; omega
theorem sum32 : ∀ {l : List Int}, (∀ x ∈ l, 0 ≤ x ∧ x ≤ 4294967295) → 0 ≤ l.sum ∧ l.sum ≤ l.length * 4294967295
  | [], _ => by simp
  | x :: l, h => by
    have ih := sum32 (l := l) fun y hy => h y (List.mem_cons_of_mem _ hy)
    have hx := h x (List.mem_cons_self ..)
    rw [List.sum_cons, List.length_cons]
    omega
theorem infoI : (Try.prog.info? 3).map (fun i => (i.zero, i.size, i.bytes)) = some (some (.int .i64 0), 1, 8) := by kernel_rfl
theorem slice_of_ {w : World} {base e size n : Nat} {v : Value} {xs : List Value} (h : w.ownsRow base e size v (n + 1) xs) : ∃ g c, v = .slice (some ⟨g, 0, none⟩) (n + 1) c := by
  rcases h.2 with ⟨_, h⟩ | ⟨g, cap, cur, rfl, _⟩
  · omega
  · exact ⟨_, _, rfl⟩
def decOk (e : Nat) (n : Int) (l : List Int) : Prop := 1 ≤ n ∧ n ≤ 1000 ∧ e ≤ 1000 ∧ l.length = e + 2 + 3 * n.toNat ∧ ∀ x ∈ l, 0 ≤ x ∧ x ≤ 4294967295
instance (e : Nat) (n : Int) (l : List Int) : Decidable (decOk e n l) := by unfold decOk; infer_instance
def decSums (k : Nat) (lo : Int) (bins : List Int) (cnt : Int) (places squares : List Int) : Option (List Int × Int × Int × Int × Int × Int × Bool × Int) :=
  (stats_of.f lo).bind fun low => (stats_powers.f k places).bind fun sum => (stats_of.f cnt).bind fun many => (stats_powers.f k squares).bind fun ps =>
  (wide_Shift.f low.1 low.2 1).bind fun sh => (stats_product.f sh.1 sh.2 sum.1 sum.2).bind fun p1 => (wide_Add.f ps.1 ps.2 p1.1 p1.2).bind fun q1 =>
  (stats_product.f low.1 low.2 low.1 low.2).bind fun p2 => (stats_product.f many.1 many.2 p2.1 p2.2).bind fun p3 => (wide_Add.f q1.1 q1.2 p3.1 p3.2).bind fun sq =>
  (stats_product.f many.1 many.2 low.1 low.2).bind fun p4 => (wide_Add.f sum.1 sum.2 p4.1 p4.2).bind fun s => (stats_signed.f s.1 s.2).bind fun r =>
  some (bins, cnt, r.1, r.2.1, sq.1, sq.2, r.2.2, 0)
def decBody (k : Nat) (lo : Int) (bins : List Int) (cnt : Int) (places squares : List Int) : Option (List Int × Int × Int × Int × Int × Int × Bool × Int) :=
  (stats_above.f places cnt).bind fun u => (stats_above.f squares cnt).bind fun v =>
    if bins.sum = cnt then (if u = true then some ([], 0, 0, 0, 0, 0, false, 11) else if v = true then some ([], 0, 0, 0, 0, 0, false, 11) else decSums k lo bins cnt places squares) else some ([], 0, 0, 0, 0, 0, false, 11)
def stats_Decode.f (k : Nat) (a0_0 : Int) (a0_1 : Int) (a0_2 : Int) (l0_3 : List Int) (l1 : List Int) : Option (List Int × Int × Int × Int × Int × Int × Bool × Int) :=
  (tally_Len.f k a0_0 a0_1 a0_2 l0_3).bind fun se => if se.2 = 0 then (if (l1.length : Int) = se.1 then
    ((clamp_Bits.f k a0_0 a0_1 a0_2 l0_3).bind fun ne => if decOk l0_3.length ne.1 l1 then
      decBody k a0_0 (l1.take (l0_3.length + 1)) (l1.getD (l0_3.length + 1) 0) ((l1.drop (l0_3.length + 2)).take ne.1.toNat) (l1.drop (l0_3.length + 2 + ne.1.toNat)) else none)
    else some ([], 0, 0, 0, 0, 0, false, 1)) else some ([], 0, 0, 0, 0, 0, false, se.2)
theorem stats_Decode.mono : ∀ a0 a1 a2 a3 a4 k, LeO (stats_Decode.f k a0 a1 a2 a3 a4) (stats_Decode.f (k + 1) a0 a1 a2 a3 a4) := by
  intro a0 a1 a2 a3 a4 k
  unfold stats_Decode.f
  refine LeO.bind (tally_Len.mono _ _ _ _ _) fun se => LeO.ite (LeO.ite (LeO.bind (clamp_Bits.mono _ _ _ _ _) fun ne => LeO.ite ?_ (LeO.refl _)) (LeO.refl _)) (LeO.refl _)
  unfold decBody
  refine LeO.bind (LeO.refl _) fun u => LeO.bind (LeO.refl _) fun v => LeO.ite (LeO.ite (LeO.refl _) (LeO.ite (LeO.refl _) ?_)) (LeO.refl _)
  unfold decSums
  refine LeO.bind (LeO.refl _) fun low => LeO.bind (stats_powers.mono _ _) fun sum => LeO.bind (LeO.refl _) fun many => LeO.bind (stats_powers.mono _ _) fun ps => LeO.refl _
set_option maxHeartbeats 16000000 in
set_option maxRecDepth 100000 in
theorem stats_Decode.go (k : Nat) (a0_0 : Int) (a0_1 : Int) (a0_2 : Int) (A0_3 : Option Addr) (c0_3 : Nat) (l0_3 : List Int) (A1 : Option Addr) (c1 : Nat) (l1 : List Int) (r1 : List Int) (r2 : Int) (r3 : Int) (r4 : Int) (r5 : Int) (r6 : Int) (r7 : Bool) (r8 : Int) (w : World) (hr0_3 : Kd.C (Kd.int .i64) w A0_3 l0_3.length l0_3) (hc0_3 : l0_3.length ≤ c0_3) (hr1 : Kd.C (Kd.int .u32) w A1 l1.length l1) (hc1 : l1.length ≤ c1)
    (nI ne : Int) (hlen : tally_Len.f k a0_0 a0_1 a0_2 l0_3 = some ((l1.length : Int), 0)) (hbits : clamp_Bits.f k a0_0 a0_1 a0_2 l0_3 = some (nI, ne)) (hok : decOk l0_3.length nI l1)
    (h : decBody k a0_0 (l1.take (l0_3.length + 1)) (l1.getD (l0_3.length + 1) 0) ((l1.drop (l0_3.length + 2)).take nI.toNat) (l1.drop (l0_3.length + 2 + nI.toNat)) = some (r1, r2, r3, r4, r5, r6, r7, r8)) :
    Calls Try.prog 13 #[.agg #[.int .i64 a0_0, .int .i64 a0_1, .int .i64 a0_2, .slice A0_3 l0_3.length c0_3], .slice A1 l1.length c1] w fun e w' => ∃ v0_ : Value, e = .returned (.tuple #[.agg #[v0_, .int .i64 r2, .int .u64 r3, .int .u64 r4, .int .u64 r5, .int .u64 r6, .bool r7], .int .i64 r8]) ∧ Kd.R (Kd.int .i64) 3 w' w.heap.size (fun _ => True) v0_ r1 ∧ Below w.heap.size w w' := by
  have hu24 := Try.underlying24
  have hu29 := Try.underlying29
  have hu27 := Try.underlying27
  have hu64 := Try.underlying64
  have hmf : ∀ (fn : Fn) (first cap : Array Value) (w : World), (Instr.makeFunc fn first cap).run Try.prog w = .ok (.func fn first cap) w := fun _ _ _ _ => rfl
  obtain ⟨ok1, ok2, ok3, ok4, ok5⟩ := hok
  obtain ⟨n, rfl⟩ : ∃ n : Nat, nI = (n : Int) := ⟨nI.toNat, by omega⟩
  simp only [Int.toNat_natCast] at h ok4
  obtain ⟨ad, rfl, hcell⟩ := Kd.at_int hr1 ((l0_3.length + 1 : Nat) : Int) (by omega) (by omega)
  have hcl : c1 ≠ l0_3.length + 1 := by omega
  rw [Int.toNat_natCast, show rd l1 ((l0_3.length + 1 : Nat) : Int) = l1.getD (l0_3.length + 1) 0 from rfl] at hcell
  have hcnt : 0 ≤ l1.getD (l0_3.length + 1) 0 ∧ l1.getD (l0_3.length + 1) 0 ≤ 4294967295 := getD_in32 ok5 (l0_3.length + 1)
  generalize hC : l1.getD (l0_3.length + 1) 0 = cnt at *
  have CC := Aside0.mk hC
  clear hC
  have HR0 := Aside0.mk hr0_3
  have HC0 := Aside0.mk hc0_3
  have HR1 := Aside0.mk hr1
  have HC1 := Aside0.mk hc1
  have ALen := Aside0.mk hlen
  have ABits := Aside0.mk hbits
  have OK := Aside0.mk (⟨by omega, by omega, ok3, ok4, ok5⟩ : 1 ≤ n ∧ n ≤ 1000 ∧ l0_3.length ≤ 1000 ∧ l1.length = l0_3.length + 2 + 3 * n ∧ ∀ x ∈ l1, 0 ≤ x ∧ x ≤ 4294967295)
  obtain ⟨ad1, had1⟩ : ∃ a, a = ad.add (l0_3.length + 1) := ⟨_, rfl⟩
  obtain ⟨ad2, had2⟩ : ∃ a, a = ad1.add 1 := ⟨_, rfl⟩
  obtain ⟨ad3, had3⟩ : ∃ a, a = ad2.add n := ⟨_, rfl⟩
  rw [← had1] at hcell
  have HC := Aside0.mk hcell
  have AD1 := Aside0.mk had1
  have AD2 := Aside0.mk had2
  have AD3 := Aside0.mk had3
  clear had1 had2 had3
  have HCN := Aside0.mk hcnt
  have H := Aside0.mk h
  clear hr0_3 hc0_3 hr1 hc1 hlen hbits ok1 ok2 ok3 ok4 ok5 hcell hcl h hcnt
  go_enter Try.func13, Try.ntmps13
  go_wp2_with (first | ((with_reducible refine gate_dst (N := 2) rfl ?_); refine box_event ?hg (N := 2) ?hd (cs := #[.int .i64 a0_0, .int .i64 a0_1, .int .i64 a0_2, .slice A0_3 l0_3.length c0_3]) (t := 24) ?hr ?_; (case hd => rfl); (case hg => rfl); (case hr => first | (go_simp; done) | (go_simp; rfl)); intro gp hg w1 hbox hb; have HB1 := Aside0.mk hb; have HP := Aside0.mk hbox; have GP := Aside0.mk (Nat.le_of_eq hg.symm); clear hb hbox hg) | ((with_reducible refine gate_dst (N := 4) rfl ?_); refine box_event ?hg (N := 4) ?hd (cs := zero29) (t := 29) ?hr ?_; (case hd => rfl); (case hg => rfl); (case hr => first | (go_simp; done) | (go_simp; rfl)); intro gr hg w2 hbox hb; have HB2 := Aside0.mk (below_step HB1.out hb); have HP2 := Aside0.mk (blk_below HP.out hb); have HR2 := Aside0.mk hbox; have GR := Aside0.mk (Nat.le_trans (below_size HB1.out) (Nat.le_of_eq hg.symm)); clear hb hbox hg; obtain ⟨hz0, hz1, hz2, hz3⟩ := cells4 HP2.out) | (go_at_call 33; (with_reducible refine (tally_Len.calls k a0_0 a0_1 a0_2 A0_3 c0_3 l0_3 (l1.length : Int) 0 _ ?s1 ?s2 ALen.out).mono ?_); (case s1 => exact Kd.C_below HR0.out HB2.out); (case s2 => exact HC0.out); rintro e w3 ⟨rfl, hb⟩; have HB3 := Aside0.mk (below_step HB2.out hb); have HP3 := Aside0.mk (blk_below HP2.out hb); have HR3 := Aside0.mk (blk_below HR2.out hb); clear hb hz0 hz1 hz2 hz3; obtain ⟨hz0, hz1, hz2, hz3⟩ := cells4 HP3.out) | (go_at_call 34; (with_reducible refine (clamp_Bits.calls k a0_0 a0_1 a0_2 A0_3 c0_3 l0_3 (n : Int) ne _ ?s1 ?s2 ABits.out).mono ?_); (case s1 => exact Kd.C_below HR0.out HB3.out); (case s2 => exact HC0.out); rintro e w4 ⟨rfl, hb⟩; have HB4 := Aside0.mk (below_step HB3.out hb); have HP4 := Aside0.mk (blk_below HP3.out hb); have HR4 := Aside0.mk (blk_below HR3.out hb); clear hb hz0 hz1 hz2 hz3) | ((with_reducible refine gate_dst (N := 43) rfl ?_); refine box_event ?hg (N := 43) ?hd (cs := #[.slice (some ad) l1.length c1]) (t := 64) ?hr ?_; (case hd => rfl); (case hg => rfl); (case hr => first | (go_simp; done) | (go_simp; rfl)); intro gq hg w5 hbox hb; have RD := Aside0.mk (⟨blk_below HP4.out hb, blk_below HR4.out hb, hbox, below_step HB4.out hb, Nat.le_trans (below_size HB4.out) (Nat.le_of_eq hg.symm), GR.out⟩ : Rd w gp gr gq _ (some ad) l1.length c1 w5); clear hb hbox hg))
  refine start_ (n := 12) (S := fun w' => w'.cell? ⟨gp, 3, none⟩ = some (.slice A0_3 l0_3.length c0_3) ∧ w'.cell? ad1 = some (.int .u32 cnt)) (ds := []) #[false, false, false, false, false, false, false, false, false, false, false, false] (by kernel_rfl) rfl rfl ⟨(cells4 RD.out.hp).2.2.2, (pw_cell_below (below_drew1 RD.out.hb) HC.out)⟩ (fun hHeld => ?_)
  refine pure_ (i := 0) (N := some 45) (v := ?_) (a' := ?_) #[true, false, false, false, false, false, false, false, false, false, false, false] rfl rfl (by kernel_rfl) (fun _ _ _ h => h) (Or.inl ⟨by rfl, ?_⟩) ?_ ?_
  rotate_left
  · intro w'
    go_simp
    with_reducible rfl
  rotate_left
  · simp only [Act.put, List.setIfInBounds_toArray, List.set_cons_zero, List.set_cons_succ, i64_w, i32_w]
    rfl
  refine pure_ (i := 1) (N := some 46) (v := ?_) (a' := ?_) #[true, true, false, false, false, false, false, false, false, false, false, false] rfl rfl (by kernel_rfl) (fun _ _ _ h => h) (Or.inl ⟨by rfl, ?_⟩) ?_ ?_
  rotate_left
  · intro w'
    go_simp
    with_reducible rfl
  rotate_left
  · simp only [Act.put, List.setIfInBounds_toArray, List.set_cons_zero, List.set_cons_succ, i64_w, i32_w]
    rfl
  refine pure_ (i := 6) (N := some 51) (v := ?_) (a' := ?_) #[true, true, false, false, false, false, true, false, false, false, false, false] rfl rfl (by kernel_rfl) (fun _ _ _ h => h) (Or.inl ⟨by rfl, ?_⟩) ?_ ?_
  rotate_left
  · intro w'
    go_simp
    with_reducible rfl
  rotate_left
  · simp only [Act.put, List.setIfInBounds_toArray, List.set_cons_zero, List.set_cons_succ, i64_w, i32_w]
    rfl
  refine take_ (i := 2) (N := some 47) (v := ?_) (a' := ?_) #[true, true, true, false, false, false, true, false, false, false, false, false] rfl rfl (by kernel_rfl) (fun _ _ _ h => h) (Or.inl ⟨by rfl, ?_⟩) hHeld ?_ ?_
  rotate_left
  · rintro w' ⟨s0, s1⟩
    go_simp
    with_reducible rfl
  rotate_left
  · simp only [Act.put, List.setIfInBounds_toArray, List.set_cons_zero, List.set_cons_succ, i64_w, i32_w]
    rfl
  refine pure_ (i := 3) (N := some 48) (v := ?_) (a' := ?_) #[true, true, true, true, false, false, true, false, false, false, false, false] rfl rfl (by kernel_rfl) (fun _ _ _ h => h) (Or.inl ⟨by rfl, ?_⟩) ?_ ?_
  rotate_left
  · intro w'
    go_simp
    with_reducible rfl
  rotate_left
  · simp only [Act.put, List.setIfInBounds_toArray, List.set_cons_zero, List.set_cons_succ, i64_w, i32_w]
    rfl
  refine pure_ (i := 4) (N := some 49) (v := ?_) (a' := ?_) #[true, true, true, true, true, false, true, false, false, false, false, false] rfl rfl (by kernel_rfl) (fun _ _ _ h => h) (Or.inl ⟨by rfl, ?_⟩) ?_ ?_
  rotate_left
  · intro w'
    go_simp
    with_reducible rfl
  rotate_left
  · simp only [Act.put, List.setIfInBounds_toArray, List.set_cons_zero, List.set_cons_succ, i64_w, i32_w]
    rfl
  refine one_ (i := 5) (N := some 50) #[true, true, true, true, true, true, true, false, false, false, false, false] rfl rfl (by kernel_rfl) (by decide) (fun K hK => ?_)
  refine goesB_ Try.func35 (by kernel_rfl) rfl #[.pointer (some ⟨gq, 0, none⟩)] #[.int .i64 (wrap64 ((l0_3.length : Int) + 1))] #[.pointer (some ⟨gq, 0, none⟩), .int .i64 (wrap64 ((l0_3.length : Int) + 1))] rfl (by rfl) rfl rfl rfl (by go_simp; first | done | rfl) ?_
  with_reducible refine (next_rds (l0_3.length + 1) AD1.out (RD.out.below (below_drew1 (Below.refl _ _))) _ (w64s l0_3.length (by have := OK.out; omega)) (by have := OK.out; omega) (by have := HC1.out; omega)).mono ?_
  rintro e w6 ⟨rfl, hrd⟩
  have RD6 := Aside0.mk hrd
  clear hrd
  refine ⟨_, rfl, ?_⟩
  refine hK.out _ _ ⟨(cells4 RD6.out.hp).2.2.2, (pw_cell_below RD6.out.hb HC.out)⟩ (fun hHeld => ?_)
  clear hK K
  refine norm_ (a' := ?_) ?_ ?_
  rotate_left
  · show Act.put _ (some 50) _ = _
    simp only [Act.put, List.setIfInBounds_toArray, List.set_cons_zero, List.set_cons_succ, i64_w, i32_w]
    rfl
  refine one_ (i := 7) (N := some 52) #[true, true, true, true, true, true, true, true, false, false, false, false] rfl rfl (by kernel_rfl) (by decide) (fun K hK => ?_)
  refine goesB_ Try.func35 (by kernel_rfl) rfl #[.pointer (some ⟨gq, 0, none⟩)] #[.int .i64 1] #[.pointer (some ⟨gq, 0, none⟩), .int .i64 1] rfl (by rfl) rfl rfl rfl (by go_simp; first | done | rfl) ?_
  with_reducible refine (next_rds 1 AD2.out RD6.out (1 : Int) rfl (by have := OK.out; omega) (by have := HC1.out; omega)).mono ?_
  rintro e w7 ⟨rfl, hrd⟩
  have RD7 := Aside0.mk hrd
  clear hrd
  refine ⟨_, rfl, ?_⟩
  refine hK.out _ _ ⟨(cells4 RD7.out.hp).2.2.2, (pw_cell_below RD7.out.hb HC.out)⟩ (fun hHeld => ?_)
  clear hK K
  refine norm_ (a' := ?_) ?_ ?_
  rotate_left
  · show Act.put _ (some 52) _ = _
    simp only [Act.put, List.setIfInBounds_toArray, List.set_cons_zero, List.set_cons_succ, i64_w, i32_w]
    rfl
  refine pure_ (i := 8) (N := some 53) (v := ?_) (a' := ?_) #[true, true, true, true, true, true, true, true, true, false, false, false] rfl rfl (by kernel_rfl) (fun _ _ _ h => h) (Or.inl ⟨by rfl, ?_⟩) ?_ ?_
  rotate_left
  · intro w'
    go_simp
    with_reducible rfl
  rotate_left
  · simp only [Act.put, List.setIfInBounds_toArray, List.set_cons_zero, List.set_cons_succ, i64_w, i32_w]
    rfl
  refine pure_ (i := 10) (N := some 11) (v := ?_) (a' := ?_) #[true, true, true, true, true, true, true, true, true, false, true, false] rfl rfl (by kernel_rfl) (fun _ _ _ h => h) (Or.inl ⟨by rfl, ?_⟩) ?_ ?_
  rotate_left
  · intro w'
    go_simp
    with_reducible rfl
  rotate_left
  · simp only [Act.put, List.setIfInBounds_toArray, List.set_cons_zero, List.set_cons_succ, i64_w, i32_w]
    rfl
  refine take_ (i := 9) (N := some 54) (v := ?_) (a' := ?_) #[true, true, true, true, true, true, true, true, true, true, true, false] rfl rfl (by kernel_rfl) (fun _ _ _ h => h) (Or.inl ⟨by rfl, ?_⟩) hHeld ?_ ?_
  rotate_left
  · rintro w' ⟨s0, s1⟩
    go_simp
    with_reducible rfl
  rotate_left
  · simp only [Act.put, List.setIfInBounds_toArray, List.set_cons_zero, List.set_cons_succ, i64_w, i32_w]
    rfl
  refine pure_ (i := 11) (N := some 12) (v := ?_) (a' := ?_) #[true, true, true, true, true, true, true, true, true, true, true, true] rfl rfl (by kernel_rfl) (fun _ _ _ h => h) (Or.inl ⟨by rfl, ?_⟩) ?_ ?_
  rotate_left
  · intro w'
    go_simp
    with_reducible rfl
  rotate_left
  · simp only [Act.put, List.setIfInBounds_toArray, List.set_cons_zero, List.set_cons_succ, i64_w, i32_w]
    rfl
  refine done_ (by kernel_rfl) ?_
  go_wp2_with fail
  go_at_call 35
  with_reducible refine (next_rds n AD3.out RD7.out (n : Int) rfl (by have := OK.out; omega) (by have := HC1.out; omega)).mono ?_
  rintro e w8 ⟨rfl, hrd⟩
  have RD8 := Aside0.mk hrd
  clear hrd
  go_wp2_with fail
  go_at_call 35
  with_reducible refine (next_rd RD8.out (2 * n) _ ?hn2 (by have := OK.out; omega) (by have := HC1.out; omega)).mono ?_
  case hn2 => exact w64d n (by have := OK.out; omega)
  rintro e w9 ⟨rfl, hrd⟩
  have RD9 := Aside0.mk hrd
  clear hrd
  go_wp2_with (first | ((with_reducible refine gate_dst (N := 16) rfl ?_); refine box_event ?hg (N := 16) ?hd (cs := zero29) (t := 29) ?hr ?_; (case hd => rfl); (case hg => rfl); (case hr => first | (go_simp; done) | (go_simp; rfl)); intro g6 hg w10 hbox hb; have RD10 := Aside0.mk (RD9.out.below hb); have H6 := Aside0.mk hbox; have G6 := Aside0.mk (hg); have HB6 := Aside0.mk hb; clear hb hbox hg; obtain ⟨hy0, hy1, hy2, hy3, hy4, hy5, hy6⟩ := cells7 H6.out; obtain ⟨hf0, hf1, hf2, hf3, hf4, hf5, hf6⟩ := frees7 H6.out))
  have D0 : Aside0 (Dc w gp gr g6 w10.heap.size #[.int .i64 a0_0, .int .i64 a0_1, .int .i64 a0_2, .slice A0_3 l0_3.length c0_3] (.slice none 0 0) (wrap64 cnt) 0 0 0 0 false (l1.take 0) (((((((w10.setCell ⟨g6, 0, none⟩ (.slice none 0 0)).setCell ⟨g6, 1, none⟩ (.int .i64 (wrap64 cnt))).setCell ⟨g6, 2, none⟩ (.int .u64 0)).setCell ⟨g6, 3, none⟩ (.int .u64 0)).setCell ⟨g6, 4, none⟩ (.int .u64 0)).setCell ⟨g6, 5, none⟩ (.int .u64 0)).setCell ⟨g6, 6, none⟩ (.bool false))) := ⟨Dc.start RD9.out HB6.out H6.out G6.out (wrap64 cnt)⟩
  clear hy0 hy1 hy2 hy3 hy4 hy5 hy6 hf0 hf1 hf2 hf3 hf4 hf5 hf6 RD RD6 RD7 RD8 RD9 RD10 HP HP2 HP3 HP4 HR2 HR3 HR4 HB1 HB2 HB3 HB4 HB6 H6 G6
  have TL : Aside0 ((l1.take (l0_3.length + 1)).length = l0_3.length + 1) := ⟨by have := OK.out; rw [List.length_take]; omega⟩
  generalize (((((((w10.setCell ⟨g6, 0, none⟩ (.slice none 0 0)).setCell ⟨g6, 1, none⟩ (.int .i64 (wrap64 cnt))).setCell ⟨g6, 2, none⟩ (.int .u64 0)).setCell ⟨g6, 3, none⟩ (.int .u64 0)).setCell ⟨g6, 4, none⟩ (.int .u64 0)).setCell ⟨g6, 5, none⟩ (.int .u64 0)).setCell ⟨g6, 6, none⟩ (.bool false)) = wb at *
  generalize w10.heap.size = base at *
  go_loopg [15, 67] (l0_3.length + 1) (fun kq v15 v67 w' => ∃ (i : Nat) (v : Value), v15 = .int .i64 ((l1.take i).sum) ∧ v67 = .int .i64 (i : Int) ∧ Aside0 (i + kq = l0_3.length + 1) ∧ Aside0 (Dc w gp gr g6 base #[.int .i64 a0_0, .int .i64 a0_1, .int .i64 a0_2, .slice A0_3 l0_3.length c0_3] v (wrap64 cnt) 0 0 0 0 false (l1.take i) w'))
  case atStart => exact ⟨0, _, rfl, rfl, ⟨Nat.zero_add _⟩, D0⟩
  case round =>
    clear D0
    obtain ⟨i, v, rfl, rfl, HI, D⟩ := hrel
    cases gk with
    | zero =>
      have hi := HI.out
      rw [Nat.add_zero] at hi
      subst hi
      obtain ⟨gv, cv, rfl⟩ : ∃ g c, v = .slice (some ⟨g, 0, none⟩) (l0_3.length + 1) c := slice_of_ (by have := D.out.ho; rw [TL.out] at this; exact this)
      have d1 : decide (((l0_3.length + 1 : Nat) : Int) < (l0_3.length : Int) + 1) = false := decide_eq_false (by omega)
      have h := H.out
      unfold decBody at h
      obtain ⟨u, AU0, h⟩ := Option.bind_eq_some_iff.mp h
      obtain ⟨uu, AV0, h⟩ := Option.bind_eq_some_iff.mp h
      have AU := Aside0.mk AU0
      have AV := Aside0.mk AV0
      have CW := Aside0.mk (w64i HCN.out)
      have LP : Aside0 (((l1.drop (l0_3.length + 2)).take n).length = n) := ⟨by have := OK.out; rw [List.length_take, List.length_drop]; omega⟩
      have LS : Aside0 ((l1.drop (l0_3.length + 2 + n)).length = 2 * n) := ⟨by have := OK.out; rw [List.length_drop]; omega⟩
      have CP : Aside0 (Kd.C (Kd.int .u32) w (some ad2) n ((l1.drop (l0_3.length + 2)).take n)) := ⟨by
        have := OK.out
        refine C_take_ (n := l1.length - (l0_3.length + 2)) (C_drop_ HR1.out (by omega) fun _ => ?_) (by omega)
        rw [AD2.out, AD1.out, Addr.add_add]
        show _ = some (ad.add ((l0_3.length + 2) * 1))
        rw [Nat.mul_one]⟩
      have CS : Aside0 (Kd.C (Kd.int .u32) w (some ad3) (2 * n) (l1.drop (l0_3.length + 2 + n))) := ⟨by
        have := OK.out
        have hh := C_drop_ (B := some ad3) HR1.out (m := l0_3.length + 2 + n) (by omega) fun _ => (by
          rw [AD3.out, AD2.out, AD1.out, Addr.add_add, Addr.add_add]
          show some (ad.add (l0_3.length + 1 + (1 + n))) = some (ad.add ((l0_3.length + 2 + n) * 1))
          rw [Nat.mul_one, show l0_3.length + 1 + (1 + n) = l0_3.length + 2 + n by omega])
        rwa [show l1.length - (l0_3.length + 2 + n) = 2 * n by omega] at hh⟩
      clear AU0 AV0 H
      by_cases hall : (l1.take (l0_3.length + 1)).sum = cnt
      case neg =>
        rw [if_neg hall] at h
        simp only [Option.some.injEq, Prod.mk.injEq] at h
        obtain ⟨rfl, rfl, rfl, rfl, rfl, rfl, rfl, rfl⟩ := h
        have z1 : ((l1.take (l0_3.length + 1)).sum == wrap64 cnt) = false := beq_eq_false_iff_ne.mpr (by rw [CW.out]; exact hall)
        have z2 : ((l1.take (l0_3.length + 1)).sum != wrap64 cnt) = true := bne_iff_ne.mpr (by rw [CW.out]; exact hall)
        clear hall
        obtain ⟨hy0, hy1, hy2, hy3, hy4, hy5, hy6⟩ := cells7 D.out.hr
        obtain ⟨hf0, hf1, hf2, hf3, hf4, hf5, hf6⟩ := frees7 D.out.hr
        go_wp2
        refine bodyPost_ret (results_ct rfl _ _ gr 29 zero29 (0, 0) _ rfl (put7 D.out.hr _ _ _ _ _ _ _) Try.underlying29 rfl (by kernel_rfl)) rfl ?_
        exact ⟨_, by first | rfl | (simp; done), Kd.R_nil _ _ _ _ _, below7 D.out.hb GR.out _ _ _ _ _ _ _⟩
      rw [if_pos hall] at h
      have z1 : ((l1.take (l0_3.length + 1)).sum == wrap64 cnt) = true := beq_iff_eq.mpr (by rw [CW.out]; exact hall)
      have z2 : ((l1.take (l0_3.length + 1)).sum != wrap64 cnt) = false := by rw [bne_eq_false_iff_eq, CW.out]; exact hall
      clear hall
      by_cases hu : u = true
      · subst hu
        rw [if_pos rfl] at h
        simp only [Option.some.injEq, Prod.mk.injEq] at h
        obtain ⟨rfl, rfl, rfl, rfl, rfl, rfl, rfl, rfl⟩ := h
        go_wp2_with (first | (go_at_call 36; (with_reducible refine (above_at (some ad2) _ n _ cnt true _ LP.out (Kd.C_below CP.out D.out.hb) (by have := OK.out; have := HC1.out; omega) AU.out).mono ?_); rintro e w11 ⟨rfl, hb⟩; have D1 := Aside0.mk (D.out.below hb); clear hb; obtain ⟨hy0, hy1, hy2, hy3, hy4, hy5, hy6⟩ := cells7 D1.out.hr; obtain ⟨hf0, hf1, hf2, hf3, hf4, hf5, hf6⟩ := frees7 D1.out.hr))
        refine bodyPost_ret (results_ct rfl _ _ gr 29 zero29 (0, 0) _ rfl (put7 D1.out.hr _ _ _ _ _ _ _) Try.underlying29 rfl (by kernel_rfl)) rfl ?_
        exact ⟨_, by first | rfl | (simp; done), Kd.R_nil _ _ _ _ _, below7 D1.out.hb GR.out _ _ _ _ _ _ _⟩
      have hu' : u = false := by simpa using hu
      subst hu'
      rw [if_neg (by decide)] at h
      clear hu
      by_cases hv : uu = true
      · subst hv
        rw [if_pos rfl] at h
        simp only [Option.some.injEq, Prod.mk.injEq] at h
        obtain ⟨rfl, rfl, rfl, rfl, rfl, rfl, rfl, rfl⟩ := h
        go_wp2_with fail
        go_at_call 36
        with_reducible refine (above_at (some ad2) _ n _ cnt false _ LP.out (Kd.C_below CP.out D.out.hb) (by have := OK.out; have := HC1.out; omega) AU.out).mono ?_
        rintro e w11 ⟨rfl, hb⟩
        have D1 := Aside0.mk (D.out.below hb)
        clear hb
        go_wp2_with fail
        go_at_call 36
        with_reducible refine (above_at (some ad3) _ (2 * n) _ cnt true _ LS.out (Kd.C_below CS.out D1.out.hb) (by have := OK.out; have := HC1.out; omega) AV.out).mono ?_
        rintro e w12 ⟨rfl, hb⟩
        have D2 := Aside0.mk (D1.out.below hb)
        clear hb
        obtain ⟨hy0, hy1, hy2, hy3, hy4, hy5, hy6⟩ := cells7 D2.out.hr
        obtain ⟨hf0, hf1, hf2, hf3, hf4, hf5, hf6⟩ := frees7 D2.out.hr
        go_wp2
        refine bodyPost_ret (results_ct rfl _ _ gr 29 zero29 (0, 0) _ rfl (put7 D2.out.hr _ _ _ _ _ _ _) Try.underlying29 rfl (by kernel_rfl)) rfl ?_
        exact ⟨_, by first | rfl | (simp; done), Kd.R_nil _ _ _ _ _, below7 D2.out.hb GR.out _ _ _ _ _ _ _⟩
      have hv' : uu = false := by simpa using hv
      subst hv'
      rw [if_neg (by decide)] at h
      clear hv
      unfold decSums at h
      obtain ⟨⟨low1, low2⟩, A0, h⟩ := Option.bind_eq_some_iff.mp h
      have ALow := Aside0.mk A0
      obtain ⟨⟨sum1, sum2⟩, A0, h⟩ := Option.bind_eq_some_iff.mp h
      have ASum := Aside0.mk A0
      obtain ⟨⟨many1, many2⟩, A0, h⟩ := Option.bind_eq_some_iff.mp h
      have AMany := Aside0.mk A0
      obtain ⟨⟨ps1, ps2⟩, A0, h⟩ := Option.bind_eq_some_iff.mp h
      have APs := Aside0.mk A0
      obtain ⟨⟨sh1, sh2⟩, A0, h⟩ := Option.bind_eq_some_iff.mp h
      have ASh := Aside0.mk A0
      obtain ⟨⟨pa1, pa2⟩, A0, h⟩ := Option.bind_eq_some_iff.mp h
      have APa := Aside0.mk A0
      obtain ⟨⟨qa1, qa2⟩, A0, h⟩ := Option.bind_eq_some_iff.mp h
      have AQa := Aside0.mk A0
      obtain ⟨⟨pb1, pb2⟩, A0, h⟩ := Option.bind_eq_some_iff.mp h
      have APb := Aside0.mk A0
      obtain ⟨⟨pc1, pc2⟩, A0, h⟩ := Option.bind_eq_some_iff.mp h
      have APc := Aside0.mk A0
      obtain ⟨⟨sq1, sq2⟩, A0, h⟩ := Option.bind_eq_some_iff.mp h
      have ASq := Aside0.mk A0
      obtain ⟨⟨pd1, pd2⟩, A0, h⟩ := Option.bind_eq_some_iff.mp h
      have APd := Aside0.mk A0
      obtain ⟨⟨sm1, sm2⟩, A0, h⟩ := Option.bind_eq_some_iff.mp h
      have ASm := Aside0.mk A0
      obtain ⟨⟨si1, si2, sib⟩, A0, h⟩ := Option.bind_eq_some_iff.mp h
      have ASi := Aside0.mk A0
      simp only [Option.some.injEq, Prod.mk.injEq] at h
      obtain ⟨rfl, rfl, rfl, rfl, rfl, rfl, rfl, rfl⟩ := h
      clear A0
      go_wp2_with fail
      go_at_call 36
      with_reducible refine (above_at (some ad2) _ n _ cnt false _ LP.out (Kd.C_below CP.out D.out.hb) (by have := OK.out; have := HC1.out; omega) AU.out).mono ?_
      rintro e w11 ⟨rfl, hb⟩
      have D1 := Aside0.mk (D.out.below hb)
      clear hb
      go_wp2_with fail
      go_at_call 36
      with_reducible refine (above_at (some ad3) _ (2 * n) _ cnt false _ LS.out (Kd.C_below CS.out D1.out.hb) (by have := OK.out; have := HC1.out; omega) AV.out).mono ?_
      rintro e w12 ⟨rfl, hb⟩
      have D2 := Aside0.mk (D1.out.below hb)
      clear hb
      obtain ⟨hz0, hz1, hz2, hz3⟩ := cells4 D2.out.hp
      go_wp2_with fail
      go_at_call 25
      with_reducible refine (of_at a0_0 _ low1 low2 _ rfl ALow.out).mono ?_
      rintro e w13 ⟨rfl, hb⟩
      have D3 := Aside0.mk (D2.out.below hb)
      clear hb
      go_wp2_with fail
      go_at_call 37
      with_reducible refine (powers_at k (some ad2) _ n _ sum1 sum2 _ LP.out (Kd.C_below CP.out D3.out.hb) (by have := OK.out; have := HC1.out; omega) ASum.out).mono ?_
      rintro e w14 ⟨rfl, hb⟩
      have D4 := Aside0.mk (D3.out.below hb)
      clear hb
      go_wp2_with fail
      go_at_call 25
      with_reducible refine (of_at cnt _ many1 many2 _ CW.out AMany.out).mono ?_
      rintro e w15 ⟨rfl, hb⟩
      have D5 := Aside0.mk (D4.out.below hb)
      clear hb hz0 hz1 hz2 hz3
      go_wp2_with (first | ((with_reducible refine gate_dst (N := 19) rfl ?_); refine box_event ?hg (N := 19) ?hd (cs := #[.int .u64 0, .int .u64 0]) (t := 27) ?hr ?_; (case hd => rfl); (case hg => rfl); (case hr => first | (go_simp; done) | (go_simp; rfl)); intro ga hg wa hbox hb; have D6 := Aside0.mk (D5.out.below hb); have Bga := Aside0.mk hbox; have Lga := Aside0.mk (Nat.le_trans (below_size D5.out.hb) (Nat.le_of_eq hg.symm)); clear hb hbox hg) | ((with_reducible refine gate_dst (N := 20) rfl ?_); refine box_event ?hg (N := 20) ?hd (cs := #[.int .u64 0, .int .u64 0]) (t := 27) ?hr ?_; (case hd => rfl); (case hg => rfl); (case hr => first | (go_simp; done) | (go_simp; rfl)); intro gb hg wc hbox hb; have D7 := Aside0.mk (D6.out.below hb); have Bgb := Aside0.mk hbox; have Ba2 := Aside0.mk (blk_below Bga.out hb); have Lgb := Aside0.mk (Nat.le_trans (below_size D6.out.hb) (Nat.le_of_eq hg.symm)); have hab : ga ≠ gb := (by rw [hg]; exact Nat.ne_of_lt (blk_lt Bga.out)); have hba : gb ≠ ga := (fun e => hab e.symm); clear hb hbox hg) | ((with_reducible refine gate_dst (N := 21) rfl ?_); refine box_event ?hg (N := 21) ?hd (cs := #[.int .u64 0, .int .u64 0]) (t := 27) ?hr ?_; (case hd => rfl); (case hg => rfl); (case hr => first | (go_simp; done) | (go_simp; rfl)); intro gc hg we hbox hb; have D8 := Aside0.mk (D7.out.below hb); have Bgc := Aside0.mk hbox; have Ba3 := Aside0.mk (blk_below Ba2.out hb); have Bb3 := Aside0.mk (blk_below Bgb.out hb); have Lgc := Aside0.mk (Nat.le_trans (below_size D7.out.hb) (Nat.le_of_eq hg.symm)); have hac : ga ≠ gc := (by rw [hg]; exact Nat.ne_of_lt (blk_lt Ba2.out)); have hca : gc ≠ ga := (fun e => hac e.symm); have hbc : gb ≠ gc := (by rw [hg]; exact Nat.ne_of_lt (blk_lt Bgb.out)); have hcb : gc ≠ gb := (fun e => hbc e.symm); clear hb hbox hg; obtain ⟨hca0, hca1⟩ := cells2 Ba3.out; obtain ⟨hcb0, hcb1⟩ := cells2 Bb3.out; obtain ⟨hcc0, hcc1⟩ := cells2 Bgc.out; have fa0 := blk_frozen Ba3.out 0; have fa1 := blk_frozen Ba3.out 1; have fb0 := blk_frozen Bb3.out 0; have fb1 := blk_frozen Bb3.out 1; have fc0 := blk_frozen Bgc.out 0; have fc1 := blk_frozen Bgc.out 1))
      have W0 : Aside0 (Dw w gp gr g6 base #[.int .i64 a0_0, .int .i64 a0_1, .int .i64 a0_2, .slice A0_3 l0_3.length c0_3] (.slice (some ⟨gv, 0, none⟩) (l0_3.length + 1) cv) (wrap64 cnt) 0 0 0 0 false (l1.take (l0_3.length + 1)) ga gb gc low1 low2 sum1 sum2 many1 many2 ((((((we.setCell ⟨ga, 0, none⟩ (.int .u64 low1)).setCell ⟨ga, 1, none⟩ (.int .u64 low2)).setCell ⟨gb, 0, none⟩ (.int .u64 sum1)).setCell ⟨gb, 1, none⟩ (.int .u64 sum2)).setCell ⟨gc, 0, none⟩ (.int .u64 many1)).setCell ⟨gc, 1, none⟩ (.int .u64 many2))) := ⟨Dw.start D8.out Ba3.out Bb3.out Bgc.out hab hac hbc Lga.out Lgb.out Lgc.out _ _ _ _ _ _⟩
      clear hca0 hca1 hcb0 hcb1 hcc0 hcc1 fa0 fa1 fb0 fb1 fc0 fc1 hab hba hac hca hbc hcb Ba2 Ba3 Bb3 Bga Bgb Bgc D6 D7 D8
      generalize ((((((we.setCell ⟨ga, 0, none⟩ (.int .u64 low1)).setCell ⟨ga, 1, none⟩ (.int .u64 low2)).setCell ⟨gb, 0, none⟩ (.int .u64 sum1)).setCell ⟨gb, 1, none⟩ (.int .u64 sum2)).setCell ⟨gc, 0, none⟩ (.int .u64 many1)).setCell ⟨gc, 1, none⟩ (.int .u64 many2)) = w20 at *
      refine start_ (n := 15) (S := fun w' => w'.cell? ⟨ga, 0, none⟩ = some (.int .u64 low1) ∧ w'.cell? ⟨ga, 1, none⟩ = some (.int .u64 low2) ∧ w'.cell? ⟨gb, 0, none⟩ = some (.int .u64 sum1) ∧ w'.cell? ⟨gb, 1, none⟩ = some (.int .u64 sum2) ∧ w'.cell? ⟨gc, 0, none⟩ = some (.int .u64 many1) ∧ w'.cell? ⟨gc, 1, none⟩ = some (.int .u64 many2)) (ds := [14]) #[false, false, false, false, false, false, false, false, false, false, false, false, false, false, false] (by kernel_rfl) rfl rfl ⟨(cells2 W0.out.ha).1, (cells2 W0.out.ha).2, (cells2 W0.out.hb).1, (cells2 W0.out.hb).2, (cells2 W0.out.hc).1, (cells2 W0.out.hc).2⟩ (fun hHeld => ?_)
      refine pure_ (i := 0) (N := some 106) (v := ?_) (a' := ?_) #[true, false, false, false, false, false, false, false, false, false, false, false, false, false, false] rfl rfl (by kernel_rfl) (fun _ _ _ h => h) (Or.inl ⟨by rfl, ?_⟩) ?_ ?_
      rotate_left
      · intro w'
        go_simp
        with_reducible rfl
      rotate_left
      · simp only [Act.put, List.setIfInBounds_toArray, List.set_cons_zero, List.set_cons_succ, i64_w, i32_w]
        rfl
      refine take_ (i := 2) (N := some 108) (v := ?_) (a' := ?_) #[true, false, true, false, false, false, false, false, false, false, false, false, false, false, false] rfl rfl (by kernel_rfl) (fun _ _ _ h => h) (Or.inl ⟨by rfl, ?_⟩) hHeld ?_ ?_
      rotate_left
      · rintro w' ⟨s0, s1, s2, s3, s4, s5⟩
        go_simp
        with_reducible rfl
      rotate_left
      · simp only [Act.put, List.setIfInBounds_toArray, List.set_cons_zero, List.set_cons_succ, i64_w, i32_w]
        rfl
      refine take_ (i := 4) (N := some 110) (v := ?_) (a' := ?_) #[true, false, true, false, true, false, false, false, false, false, false, false, false, false, false] rfl rfl (by kernel_rfl) (fun _ _ _ h => h) (Or.inl ⟨by rfl, ?_⟩) hHeld ?_ ?_
      rotate_left
      · rintro w' ⟨s0, s1, s2, s3, s4, s5⟩
        go_simp
        with_reducible rfl
      rotate_left
      · simp only [Act.put, List.setIfInBounds_toArray, List.set_cons_zero, List.set_cons_succ, i64_w, i32_w]
        rfl
      refine take_ (i := 7) (N := some 113) (v := ?_) (a' := ?_) #[true, false, true, false, true, false, false, true, false, false, false, false, false, false, false] rfl rfl (by kernel_rfl) (fun _ _ _ h => h) (Or.inl ⟨by rfl, ?_⟩) hHeld ?_ ?_
      rotate_left
      · rintro w' ⟨s0, s1, s2, s3, s4, s5⟩
        go_simp
        with_reducible rfl
      rotate_left
      · simp only [Act.put, List.setIfInBounds_toArray, List.set_cons_zero, List.set_cons_succ, i64_w, i32_w]
        rfl
      refine take_ (i := 8) (N := some 114) (v := ?_) (a' := ?_) #[true, false, true, false, true, false, false, true, true, false, false, false, false, false, false] rfl rfl (by kernel_rfl) (fun _ _ _ h => h) (Or.inl ⟨by rfl, ?_⟩) hHeld ?_ ?_
      rotate_left
      · rintro w' ⟨s0, s1, s2, s3, s4, s5⟩
        go_simp
        with_reducible rfl
      rotate_left
      · simp only [Act.put, List.setIfInBounds_toArray, List.set_cons_zero, List.set_cons_succ, i64_w, i32_w]
        rfl
      refine take_ (i := 9) (N := some 115) (v := ?_) (a' := ?_) #[true, false, true, false, true, false, false, true, true, true, false, false, false, false, false] rfl rfl (by kernel_rfl) (fun _ _ _ h => h) (Or.inl ⟨by rfl, ?_⟩) hHeld ?_ ?_
      rotate_left
      · rintro w' ⟨s0, s1, s2, s3, s4, s5⟩
        go_simp
        with_reducible rfl
      rotate_left
      · simp only [Act.put, List.setIfInBounds_toArray, List.set_cons_zero, List.set_cons_succ, i64_w, i32_w]
        rfl
      refine one_ (i := 1) (N := some 107) #[true, true, true, false, true, false, false, true, true, true, false, false, false, false, false] rfl rfl (by kernel_rfl) (by decide) (fun K hK => ?_)
      refine goes_ Try.func37 (by kernel_rfl) rfl #[.slice (some ad3) (2 * n) (c1 - (l0_3.length + 1) - 1 - n)] (by rfl) rfl rfl (by (try simp only [List.map_toArray, List.map_cons, List.map_nil]); first | done | rfl) ?_
      with_reducible refine (powers_at k (some ad3) _ (2 * n) _ ps1 ps2 _ LS.out (Kd.C_below CS.out (below_drew1 W0.out.dc.hb)) (by have := OK.out; have := HC1.out; omega) APs.out).mono ?_
      rintro e x1 ⟨rfl, hb⟩
      have W1 := Aside0.mk ((W0.out.below (below_drew1 (Below.refl _ _))).below hb)
      clear hb
      refine ⟨_, rfl, ?_⟩
      refine hK.out _ _ ⟨(cells2 W1.out.ha).1, (cells2 W1.out.ha).2, (cells2 W1.out.hb).1, (cells2 W1.out.hb).2, (cells2 W1.out.hc).1, (cells2 W1.out.hc).2⟩ (fun hHeld => ?_)
      clear hK K
      refine norm_ (a' := ?_) ?_ ?_
      rotate_left
      · show Act.put _ (some 107) _ = _
        simp only [Act.put, List.setIfInBounds_toArray, List.set_cons_zero, List.set_cons_succ, i64_w, i32_w]
        rfl
      refine one_ (i := 3) (N := some 109) #[true, true, true, true, true, false, false, true, true, true, false, false, false, false, false] rfl rfl (by kernel_rfl) (by decide) (fun K hK => ?_)
      refine goes_ Try.func38 (by kernel_rfl) rfl #[.agg #[.int .u64 low1, .int .u64 low2], .int .i64 1] (by rfl) rfl rfl (by (try simp only [List.map_toArray, List.map_cons, List.map_nil]); first | done | rfl) ?_
      with_reducible refine (wide_Shift.calls low1 low2 1 sh1 sh2 _ ASh.out).mono ?_
      rintro e x2 ⟨rfl, hb⟩
      have W2 := Aside0.mk (W1.out.below hb)
      clear hb
      refine ⟨_, rfl, ?_⟩
      refine hK.out _ _ ⟨(cells2 W2.out.ha).1, (cells2 W2.out.ha).2, (cells2 W2.out.hb).1, (cells2 W2.out.hb).2, (cells2 W2.out.hc).1, (cells2 W2.out.hc).2⟩ (fun hHeld => ?_)
      clear hK K
      refine norm_ (a' := ?_) ?_ ?_
      rotate_left
      · show Act.put _ (some 109) _ = _
        simp only [Act.put, List.setIfInBounds_toArray, List.set_cons_zero, List.set_cons_succ, i64_w, i32_w]
        rfl
      refine one_ (i := 5) (N := some 111) #[true, true, true, true, true, true, false, true, true, true, false, false, false, false, false] rfl rfl (by kernel_rfl) (by decide) (fun K hK => ?_)
      refine goes_ Try.func26 (by kernel_rfl) rfl #[.agg #[.int .u64 sh1, .int .u64 sh2], .agg #[.int .u64 sum1, .int .u64 sum2]] (by rfl) rfl rfl (by (try simp only [List.map_toArray, List.map_cons, List.map_nil]); first | done | rfl) ?_
      with_reducible refine (stats_product.calls sh1 sh2 sum1 sum2 pa1 pa2 _ APa.out).mono ?_
      rintro e x3 ⟨rfl, hb⟩
      have W3 := Aside0.mk (W2.out.below hb)
      clear hb
      refine ⟨_, rfl, ?_⟩
      refine hK.out _ _ ⟨(cells2 W3.out.ha).1, (cells2 W3.out.ha).2, (cells2 W3.out.hb).1, (cells2 W3.out.hb).2, (cells2 W3.out.hc).1, (cells2 W3.out.hc).2⟩ (fun hHeld => ?_)
      clear hK K
      refine norm_ (a' := ?_) ?_ ?_
      rotate_left
      · show Act.put _ (some 111) _ = _
        simp only [Act.put, List.setIfInBounds_toArray, List.set_cons_zero, List.set_cons_succ, i64_w, i32_w]
        rfl
      refine one_ (i := 6) (N := some 112) #[true, true, true, true, true, true, true, true, true, true, false, false, false, false, false] rfl rfl (by kernel_rfl) (by decide) (fun K hK => ?_)
      refine goes_ Try.func24 (by kernel_rfl) rfl #[.agg #[.int .u64 ps1, .int .u64 ps2], .agg #[.int .u64 pa1, .int .u64 pa2]] (by rfl) rfl rfl (by (try simp only [List.map_toArray, List.map_cons, List.map_nil]); first | done | rfl) ?_
      with_reducible refine (wide_Add.calls ps1 ps2 pa1 pa2 qa1 qa2 _ AQa.out).mono ?_
      rintro e x4 ⟨rfl, hb⟩
      have W4 := Aside0.mk (W3.out.below hb)
      clear hb
      refine ⟨_, rfl, ?_⟩
      refine hK.out _ _ ⟨(cells2 W4.out.ha).1, (cells2 W4.out.ha).2, (cells2 W4.out.hb).1, (cells2 W4.out.hb).2, (cells2 W4.out.hc).1, (cells2 W4.out.hc).2⟩ (fun hHeld => ?_)
      clear hK K
      refine norm_ (a' := ?_) ?_ ?_
      rotate_left
      · show Act.put _ (some 112) _ = _
        simp only [Act.put, List.setIfInBounds_toArray, List.set_cons_zero, List.set_cons_succ, i64_w, i32_w]
        rfl
      refine one_ (i := 10) (N := some 116) #[true, true, true, true, true, true, true, true, true, true, true, false, false, false, false] rfl rfl (by kernel_rfl) (by decide) (fun K hK => ?_)
      refine goes_ Try.func26 (by kernel_rfl) rfl #[.agg #[.int .u64 low1, .int .u64 low2], .agg #[.int .u64 low1, .int .u64 low2]] (by rfl) rfl rfl (by (try simp only [List.map_toArray, List.map_cons, List.map_nil]); first | done | rfl) ?_
      with_reducible refine (stats_product.calls low1 low2 low1 low2 pb1 pb2 _ APb.out).mono ?_
      rintro e x5 ⟨rfl, hb⟩
      have W5 := Aside0.mk (W4.out.below hb)
      clear hb
      refine ⟨_, rfl, ?_⟩
      refine hK.out _ _ ⟨(cells2 W5.out.ha).1, (cells2 W5.out.ha).2, (cells2 W5.out.hb).1, (cells2 W5.out.hb).2, (cells2 W5.out.hc).1, (cells2 W5.out.hc).2⟩ (fun hHeld => ?_)
      clear hK K
      refine norm_ (a' := ?_) ?_ ?_
      rotate_left
      · show Act.put _ (some 116) _ = _
        simp only [Act.put, List.setIfInBounds_toArray, List.set_cons_zero, List.set_cons_succ, i64_w, i32_w]
        rfl
      refine one_ (i := 11) (N := some 117) #[true, true, true, true, true, true, true, true, true, true, true, true, false, false, false] rfl rfl (by kernel_rfl) (by decide) (fun K hK => ?_)
      refine goes_ Try.func26 (by kernel_rfl) rfl #[.agg #[.int .u64 many1, .int .u64 many2], .agg #[.int .u64 pb1, .int .u64 pb2]] (by rfl) rfl rfl (by (try simp only [List.map_toArray, List.map_cons, List.map_nil]); first | done | rfl) ?_
      with_reducible refine (stats_product.calls many1 many2 pb1 pb2 pc1 pc2 _ APc.out).mono ?_
      rintro e x6 ⟨rfl, hb⟩
      have W6 := Aside0.mk (W5.out.below hb)
      clear hb
      refine ⟨_, rfl, ?_⟩
      refine hK.out _ _ ⟨(cells2 W6.out.ha).1, (cells2 W6.out.ha).2, (cells2 W6.out.hb).1, (cells2 W6.out.hb).2, (cells2 W6.out.hc).1, (cells2 W6.out.hc).2⟩ (fun hHeld => ?_)
      clear hK K
      refine norm_ (a' := ?_) ?_ ?_
      rotate_left
      · show Act.put _ (some 117) _ = _
        simp only [Act.put, List.setIfInBounds_toArray, List.set_cons_zero, List.set_cons_succ, i64_w, i32_w]
        rfl
      refine one_ (i := 12) (N := some 118) #[true, true, true, true, true, true, true, true, true, true, true, true, true, false, false] rfl rfl (by kernel_rfl) (by decide) (fun K hK => ?_)
      refine goes_ Try.func24 (by kernel_rfl) rfl #[.agg #[.int .u64 qa1, .int .u64 qa2], .agg #[.int .u64 pc1, .int .u64 pc2]] (by rfl) rfl rfl (by (try simp only [List.map_toArray, List.map_cons, List.map_nil]); first | done | rfl) ?_
      with_reducible refine (wide_Add.calls qa1 qa2 pc1 pc2 sq1 sq2 _ ASq.out).mono ?_
      rintro e x7 ⟨rfl, hb⟩
      have W7 := Aside0.mk (W6.out.below hb)
      clear hb
      obtain ⟨hy0, hy1, hy2, hy3, hy4, hy5, hy6⟩ := cells7 W7.out.dc.h6
      obtain ⟨hf0, hf1, hf2, hf3, hf4, hf5, hf6⟩ := frees7 W7.out.dc.h6
      refine ⟨_, rfl, ?_⟩
      refine hK.out _ _ ⟨(cells2 W7.out.ha).1, (cells2 W7.out.ha).2, (cells2 W7.out.hb).1, (cells2 W7.out.hb).2, (cells2 W7.out.hc).1, (cells2 W7.out.hc).2⟩ (fun hHeld => ?_)
      clear hK K
      refine norm_ (a' := ?_) ?_ ?_
      rotate_left
      · show Act.put _ (some 118) _ = _
        simp only [Act.put, List.setIfInBounds_toArray, List.set_cons_zero, List.set_cons_succ, i64_w, i32_w]
        rfl
      refine pure_ (i := 13) (N := some 119) (v := ?_) (a' := ?_) #[true, true, true, true, true, true, true, true, true, true, true, true, true, true, false] rfl rfl (by kernel_rfl) (fun _ _ _ h => h) (Or.inl ⟨by rfl, ?_⟩) ?_ ?_
      rotate_left
      · intro w'
        go_simp
        with_reducible rfl
      rotate_left
      · simp only [Act.put, List.setIfInBounds_toArray, List.set_cons_zero, List.set_cons_succ, i64_w, i32_w]
        rfl
      refine last_ (i := 14) (N := none) #[true, true, true, true, true, true, true, true, true, true, true, true, true, true, true] rfl rfl (by kernel_rfl) (by decide) (fun K hK => ?_)
      refine skip_ (w1 := ?_) (by rfl) rfl ?_ ?_
      rotate_left
      · go_simp
        rfl
      refine hK.out _ _ ?_
      clear hK K
      refine done_ (by kernel_rfl) ?_
      have W8 := Aside0.mk (W7.out.square sq1 sq2)
      clear W0 W1 W2 W3 W4 W5 W6 W7 hy0 hy1 hy2 hy3 hy4 hy5 hy6 hf0 hf1 hf2 hf3 hf4 hf5 hf6
      generalize (x7.setCell ⟨g6, 4, none⟩ (.int .u64 sq1)).setCell ⟨g6, 5, none⟩ (.int .u64 sq2) = w21 at *
      (try go_wp2)
      refine start_ (n := 13) (S := fun w' => w'.cell? ⟨ga, 0, none⟩ = some (.int .u64 low1) ∧ w'.cell? ⟨ga, 1, none⟩ = some (.int .u64 low2) ∧ w'.cell? ⟨gb, 0, none⟩ = some (.int .u64 sum1) ∧ w'.cell? ⟨gb, 1, none⟩ = some (.int .u64 sum2) ∧ w'.cell? ⟨gc, 0, none⟩ = some (.int .u64 many1) ∧ w'.cell? ⟨gc, 1, none⟩ = some (.int .u64 many2)) (ds := [10, 12]) #[false, false, false, false, false, false, false, false, false, false, false, false, false] (by kernel_rfl) rfl rfl ⟨(cells2 W8.out.ha).1, (cells2 W8.out.ha).2, (cells2 W8.out.hb).1, (cells2 W8.out.hb).2, (cells2 W8.out.hc).1, (cells2 W8.out.hc).2⟩ (fun hHeld => ?_)
      refine take_ (i := 0) (N := some 121) (v := ?_) (a' := ?_) #[true, false, false, false, false, false, false, false, false, false, false, false, false] rfl rfl (by kernel_rfl) (fun _ _ _ h => h) (Or.inl ⟨by rfl, ?_⟩) hHeld ?_ ?_
      rotate_left
      · rintro w' ⟨s0, s1, s2, s3, s4, s5⟩
        go_simp
        with_reducible rfl
      rotate_left
      · simp only [Act.put, List.setIfInBounds_toArray, List.set_cons_zero, List.set_cons_succ, i64_w, i32_w]
        rfl
      refine take_ (i := 1) (N := some 122) (v := ?_) (a' := ?_) #[true, true, false, false, false, false, false, false, false, false, false, false, false] rfl rfl (by kernel_rfl) (fun _ _ _ h => h) (Or.inl ⟨by rfl, ?_⟩) hHeld ?_ ?_
      rotate_left
      · rintro w' ⟨s0, s1, s2, s3, s4, s5⟩
        go_simp
        with_reducible rfl
      rotate_left
      · simp only [Act.put, List.setIfInBounds_toArray, List.set_cons_zero, List.set_cons_succ, i64_w, i32_w]
        rfl
      refine take_ (i := 2) (N := some 123) (v := ?_) (a' := ?_) #[true, true, true, false, false, false, false, false, false, false, false, false, false] rfl rfl (by kernel_rfl) (fun _ _ _ h => h) (Or.inl ⟨by rfl, ?_⟩) hHeld ?_ ?_
      rotate_left
      · rintro w' ⟨s0, s1, s2, s3, s4, s5⟩
        go_simp
        with_reducible rfl
      rotate_left
      · simp only [Act.put, List.setIfInBounds_toArray, List.set_cons_zero, List.set_cons_succ, i64_w, i32_w]
        rfl
      refine one_ (i := 3) (N := some 124) #[true, true, true, true, false, false, false, false, false, false, false, false, false] rfl rfl (by kernel_rfl) (by decide) (fun K hK => ?_)
      refine goes_ Try.func26 (by kernel_rfl) rfl #[.agg #[.int .u64 many1, .int .u64 many2], .agg #[.int .u64 low1, .int .u64 low2]] (by rfl) rfl rfl (by (try simp only [List.map_toArray, List.map_cons, List.map_nil]); first | done | rfl) ?_
      with_reducible refine (stats_product.calls many1 many2 low1 low2 pd1 pd2 _ APd.out).mono ?_
      rintro e x8 ⟨rfl, hb⟩
      have W8b := Aside0.mk ((W8.out.below (below_drew1 (Below.refl _ _))).below hb)
      clear hb
      refine ⟨_, rfl, ?_⟩
      refine hK.out _ _ ⟨(cells2 W8b.out.ha).1, (cells2 W8b.out.ha).2, (cells2 W8b.out.hb).1, (cells2 W8b.out.hb).2, (cells2 W8b.out.hc).1, (cells2 W8b.out.hc).2⟩ (fun hHeld => ?_)
      clear hK K
      refine norm_ (a' := ?_) ?_ ?_
      rotate_left
      · show Act.put _ (some 124) _ = _
        simp only [Act.put, List.setIfInBounds_toArray, List.set_cons_zero, List.set_cons_succ, i64_w, i32_w]
        rfl
      refine one_ (i := 4) (N := some 125) #[true, true, true, true, true, false, false, false, false, false, false, false, false] rfl rfl (by kernel_rfl) (by decide) (fun K hK => ?_)
      refine goes_ Try.func24 (by kernel_rfl) rfl #[.agg #[.int .u64 sum1, .int .u64 sum2], .agg #[.int .u64 pd1, .int .u64 pd2]] (by rfl) rfl rfl (by (try simp only [List.map_toArray, List.map_cons, List.map_nil]); first | done | rfl) ?_
      with_reducible refine (wide_Add.calls sum1 sum2 pd1 pd2 sm1 sm2 _ ASm.out).mono ?_
      rintro e x9 ⟨rfl, hb⟩
      have W9 := Aside0.mk (W8b.out.below hb)
      clear hb
      refine ⟨_, rfl, ?_⟩
      refine hK.out _ _ ⟨(cells2 W9.out.ha).1, (cells2 W9.out.ha).2, (cells2 W9.out.hb).1, (cells2 W9.out.hb).2, (cells2 W9.out.hc).1, (cells2 W9.out.hc).2⟩ (fun hHeld => ?_)
      clear hK K
      refine norm_ (a' := ?_) ?_ ?_
      rotate_left
      · show Act.put _ (some 125) _ = _
        simp only [Act.put, List.setIfInBounds_toArray, List.set_cons_zero, List.set_cons_succ, i64_w, i32_w]
        rfl
      refine one_ (i := 5) (N := some 126) #[true, true, true, true, true, true, false, false, false, false, false, false, false] rfl rfl (by kernel_rfl) (by decide) (fun K hK => ?_)
      refine goes_ Try.func27 (by kernel_rfl) rfl #[.agg #[.int .u64 sm1, .int .u64 sm2]] (by rfl) rfl rfl (by (try simp only [List.map_toArray, List.map_cons, List.map_nil]); first | done | rfl) ?_
      with_reducible refine (stats_signed.calls sm1 sm2 si1 si2 sib _ ASi.out).mono ?_
      rintro e x10 ⟨rfl, hb⟩
      have W10 := Aside0.mk (W9.out.below hb)
      clear hb
      obtain ⟨hy0, hy1, hy2, hy3, hy4, hy5, hy6⟩ := cells7 W10.out.dc.h6
      obtain ⟨hf0, hf1, hf2, hf3, hf4, hf5, hf6⟩ := frees7 W10.out.dc.h6
      refine ⟨_, rfl, ?_⟩
      refine hK.out _ _ ⟨(cells2 W10.out.ha).1, (cells2 W10.out.ha).2, (cells2 W10.out.hb).1, (cells2 W10.out.hb).2, (cells2 W10.out.hc).1, (cells2 W10.out.hc).2⟩ (fun hHeld => ?_)
      clear hK K
      refine norm_ (a' := ?_) ?_ ?_
      rotate_left
      · show Act.put _ (some 126) _ = _
        simp only [Act.put, List.setIfInBounds_toArray, List.set_cons_zero, List.set_cons_succ, i64_w, i32_w]
        rfl
      refine pure_ (i := 6) (N := some 120) (v := ?_) (a' := ?_) #[true, true, true, true, true, true, true, false, false, false, false, false, false] rfl rfl (by kernel_rfl) (fun _ _ _ h => h) (Or.inl ⟨by rfl, ?_⟩) ?_ ?_
      rotate_left
      · intro w'
        go_simp
        with_reducible rfl
      rotate_left
      · simp only [Act.put, List.setIfInBounds_toArray, List.set_cons_zero, List.set_cons_succ, i64_w, i32_w]
        rfl
      refine pure_ (i := 7) (N := some 127) (v := ?_) (a' := ?_) #[true, true, true, true, true, true, true, true, false, false, false, false, false] rfl rfl (by kernel_rfl) (fun _ _ _ h => h) (Or.inl ⟨by rfl, ?_⟩) ?_ ?_
      rotate_left
      · intro w'
        go_simp
        with_reducible rfl
      rotate_left
      · simp only [Act.put, List.setIfInBounds_toArray, List.set_cons_zero, List.set_cons_succ, i64_w, i32_w]
        rfl
      refine pure_ (i := 8) (N := some 128) (v := ?_) (a' := ?_) #[true, true, true, true, true, true, true, true, true, false, false, false, false] rfl rfl (by kernel_rfl) (fun _ _ _ h => h) (Or.inl ⟨by rfl, ?_⟩) ?_ ?_
      rotate_left
      · intro w'
        go_simp
        with_reducible rfl
      rotate_left
      · simp only [Act.put, List.setIfInBounds_toArray, List.set_cons_zero, List.set_cons_succ, i64_w, i32_w]
        rfl
      refine pure_ (i := 9) (N := some 129) (v := ?_) (a' := ?_) #[true, true, true, true, true, true, true, true, true, true, false, false, false] rfl rfl (by kernel_rfl) (fun _ _ _ h => h) (Or.inl ⟨by rfl, ?_⟩) ?_ ?_
      rotate_left
      · intro w'
        go_simp
        with_reducible rfl
      rotate_left
      · simp only [Act.put, List.setIfInBounds_toArray, List.set_cons_zero, List.set_cons_succ, i64_w, i32_w]
        rfl
      refine last_ (i := 10) (N := none) #[true, true, true, true, true, true, true, true, true, true, true, false, false] rfl rfl (by kernel_rfl) (by decide) (fun K hK => ?_)
      refine skip_ (w1 := ?_) (by rfl) rfl ?_ ?_
      rotate_left
      · go_simp
        rfl
      refine hK.out _ _ ?_
      clear hK K
      refine pure_ (i := 11) (N := some 130) (v := ?_) (a' := ?_) #[true, true, true, true, true, true, true, true, true, true, true, true, false] rfl rfl (by kernel_rfl) (fun _ _ _ h => h) (Or.inl ⟨by rfl, ?_⟩) ?_ ?_
      rotate_left
      · intro w'
        go_simp
        with_reducible rfl
      rotate_left
      · simp only [Act.put, List.setIfInBounds_toArray, List.set_cons_zero, List.set_cons_succ, i64_w, i32_w]
        rfl
      refine last_ (i := 12) (N := none) #[true, true, true, true, true, true, true, true, true, true, true, true, true] rfl rfl (by kernel_rfl) (by decide) (fun K hK => ?_)
      refine skip_ (w1 := ?_) (by rfl) rfl ?_ ?_
      rotate_left
      · go_simp
        rfl
      refine hK.out _ _ ?_
      clear hK K
      refine done_ (by kernel_rfl) ?_
      have D11 := Aside0.mk (W10.out.dc.sum si1 si2 sib)
      clear W8 W9 W10 hy0 hy1 hy2 hy3 hy4 hy5 hy6 hf0 hf1 hf2 hf3 hf4 hf5 hf6
      generalize ((x10.setCell ⟨g6, 2, none⟩ (.int .u64 si1)).setCell ⟨g6, 3, none⟩ (.int .u64 si2)).setCell ⟨g6, 6, none⟩ (.bool sib) = w22 at *
      obtain ⟨hy0, hy1, hy2, hy3, hy4, hy5, hy6⟩ := cells7 D11.out.h6
      obtain ⟨hx0, hx1, hx2, hx3, hx4, hx5, hx6⟩ := cells7 D11.out.hr
      obtain ⟨hf0, hf1, hf2, hf3, hf4, hf5, hf6⟩ := frees7 D11.out.hr
      have hnr := D11.out.nr
      go_wp2
      refine bodyPost_ret (results_ct rfl _ _ gr 29 #[.slice (some ⟨gv, 0, none⟩) (l0_3.length + 1) cv, .int .i64 (wrap64 cnt), .int .u64 si1, .int .u64 si2, .int .u64 sq1, .int .u64 sq2, .bool sib] (0, 0) _ rfl (put7 D11.out.hr _ _ _ _ _ _ _) Try.underlying29 rfl (by kernel_rfl)) rfl ?_
      exact ⟨_, by rw [← CW.out]; first | rfl | (simp [CW.out]; done), D11.out.last.1, D11.out.last.2⟩
    | succ k1 =>
      have hi := HI.out
      have hlt : i < l0_3.length + 1 := by omega
      have hlt1 : i < l1.length := by have := OK.out; omega
      have d1 : decide ((i : Int) < (l0_3.length : Int) + 1) = true := decide_eq_true (by omega)
      have p1 : 0 ≤ (i : Int) := by omega
      have q1 : (i : Int) < (l0_3.length : Int) + 1 := by omega
      have q2 : (i : Int) < ((l0_3.length + 1 : Nat) : Int) := by omega
      have eg : rd l1 (i : Int) = l1[i] := by unfold rd; simp [List.getD, List.getElem?_eq_getElem hlt1]
      obtain ⟨ad9, e9, hx1⟩ := Kd.at_int (Kd.C_below HR1.out D.out.hb) (i : Int) p1 (by omega)
      obtain rfl := Option.some.inj e9
      rw [eg, Int.toNat_natCast] at hx1
      replace p1 := eq_true p1
      replace q1 := eq_true q1
      replace q2 := eq_true q2
      have hts : l1.take (i + 1) = l1.take i ++ [l1[i]] := List.take_succ_eq_append_getElem hlt1
      have hxb := OK.out.2.2.2.2 _ (List.getElem_mem hlt1)
      have hsb := sum32 (l := l1.take i) fun x hx => OK.out.2.2.2.2 x (List.mem_of_mem_take hx)
      have hli : (l1.take i).length = i := by rw [List.length_take]; omega
      generalize l1[i] = x at *
      have ES : Aside0 (wrap64 ((l1.take i).sum + wrap64 x) = (l1.take (i + 1)).sum) := ⟨by have := OK.out; rw [w64i hxb, hts, List.sum_append, List.sum_singleton]; rw [hli] at hsb; unfold wrap64; omega⟩
      have EX := Aside0.mk (w64i hxb)
      have ETS := Aside0.mk hts
      have ELI := Aside0.mk hli
      have EI := Aside0.mk (w64s i (by have := OK.out; omega))
      have hcv := (blk_cell D.out.h6 0).trans (show (#[v, .int .i64 (wrap64 cnt), .int .u64 0, .int .u64 0, .int .u64 0, .int .u64 0, .bool false] : Array Value)[0]? = some v from rfl)
      have HOWN : Aside0 (wr.ownsRow base 3 1 v i (i64s (l1.take i))) := ⟨by have := D.out.ho; rw [hli] at this; exact this⟩
      clear eg hi hlt hlt1 hts hxb hsb hli
      go_wp2_with (first | ((with_reducible refine gate_builtin (b := .append) (xs := #[.tmp 76, .tmp 79]) rfl ?_); at_builtin; refine print_append_cells (w0 := wr) base rfl (.tmp 76) (.tmp 79) 22 3 (.int .i64 0) 1 8 rfl Try.underlying22 infoI rfl (by decide) (by decide) v i (i64s (l1.take i)) [.int .i64 (wrap64 x)] rfl rfl rfl (by intro u hu; rw [List.mem_singleton.1 hu]; rfl) HOWN.out (Below.refl base wr) D.out.bs (by have := OK.out; have := HI.out; omega) ?_; intro v1 w3 hrow3 hb3 hg3 hat3; obtain ⟨gv, cv, rfl⟩ := slice_of_ hrow3; have D3 := Aside0.mk (D.out.push ELI.out hrow3 hg3); have hc3 := ((hg3.block g6 (blk_lt D.out.h6) (own_ne D.out.ho D.out.h6 (by decide))).trans D.out.h6); have hc30 := (blk_cell hc3 0).trans rfl; have hf30 := blk_frozen hc3 0; clear hrow3 hb3 hg3 hat3 hc3))
      go_roundg k1
      case measure => omega
      case rel => exact ⟨i + 1, _, by first | rfl | (rw [← ES.out]; done) | (rw [← ES.out]; rfl), by first | rfl | (rw [← EI.out]; done) | (rw [← EI.out]; rfl), ⟨by have := HI.out; omega⟩, ⟨by rw [ETS.out]; have := D3.out; rw [EX.out] at this; exact this⟩⟩
set_option maxHeartbeats 16000000 in
set_option maxRecDepth 100000 in
theorem stats_Decode.calls (k : Nat) (a0_0 : Int) (a0_1 : Int) (a0_2 : Int) (A0_3 : Option Addr) (c0_3 : Nat) (l0_3 : List Int) (A1 : Option Addr) (c1 : Nat) (l1 : List Int) (r1 : List Int) (r2 : Int) (r3 : Int) (r4 : Int) (r5 : Int) (r6 : Int) (r7 : Bool) (r8 : Int) (w : World) (hr0_3 : Kd.C (Kd.int .i64) w A0_3 l0_3.length l0_3) (hc0_3 : l0_3.length ≤ c0_3) (hr1 : Kd.C (Kd.int .u32) w A1 l1.length l1) (hc1 : l1.length ≤ c1) (h : stats_Decode.f k a0_0 a0_1 a0_2 l0_3 l1 = some (r1, r2, r3, r4, r5, r6, r7, r8)) :
    Calls Try.prog 13 #[.agg #[.int .i64 a0_0, .int .i64 a0_1, .int .i64 a0_2, .slice A0_3 l0_3.length c0_3], .slice A1 l1.length c1] w fun e w' => ∃ v0_ : Value, e = .returned (.tuple #[.agg #[v0_, .int .i64 r2, .int .u64 r3, .int .u64 r4, .int .u64 r5, .int .u64 r6, .bool r7], .int .i64 r8]) ∧ Kd.R (Kd.int .i64) 3 w' w.heap.size (fun _ => True) v0_ r1 ∧ Below w.heap.size w w' := by
  have hu24 := Try.underlying24
  have hu29 := Try.underlying29
  have hu27 := Try.underlying27
  have hu64 := Try.underlying64
  have HR0 := Aside0.mk hr0_3
  have HC0 := Aside0.mk hc0_3
  have HR1 := Aside0.mk hr1
  have HC1 := Aside0.mk hc1
  clear hr0_3 hc0_3 hr1 hc1
  unfold stats_Decode.f at h
  obtain ⟨⟨sz, se⟩, ALen0, h⟩ := Option.bind_eq_some_iff.mp h
  have ALen := Aside0.mk ALen0
  clear ALen0
  by_cases hse : se = 0
  case neg =>
    rw [if_neg hse] at h
    simp only [Option.some.injEq, Prod.mk.injEq] at h
    obtain ⟨rfl, rfl, rfl, rfl, rfl, rfl, rfl, rfl⟩ := h
    have z1 : (se == 0) = false := beq_eq_false_iff_ne.mpr hse
    have z2 : (se != 0) = true := bne_iff_ne.mpr hse
    clear hse
    go_enter Try.func13, Try.ntmps13
    go_wp2_with (first | ((with_reducible refine gate_dst (N := 2) rfl ?_); refine box_event ?hg (N := 2) ?hd (cs := #[.int .i64 a0_0, .int .i64 a0_1, .int .i64 a0_2, .slice A0_3 l0_3.length c0_3]) (t := 24) ?hr ?_; (case hd => rfl); (case hg => rfl); (case hr => first | (go_simp; done) | (go_simp; rfl)); intro gp hg w1 hbox hb; have HB1 := Aside0.mk hb; have HP := Aside0.mk hbox; have GP := Aside0.mk (Nat.le_of_eq hg.symm); clear hb hbox hg) | ((with_reducible refine gate_dst (N := 4) rfl ?_); refine box_event ?hg (N := 4) ?hd (cs := zero29) (t := 29) ?hr ?_; (case hd => rfl); (case hg => rfl); (case hr => first | (go_simp; done) | (go_simp; rfl)); intro gr hg w2 hbox hb; have HB2 := Aside0.mk (below_step HB1.out hb); have HP2 := Aside0.mk (blk_below HP.out hb); have HR2 := Aside0.mk hbox; have GR := Aside0.mk (Nat.le_trans (below_size HB1.out) (Nat.le_of_eq hg.symm)); clear hb hbox hg; obtain ⟨hz0, hz1, hz2, hz3⟩ := cells4 HP2.out) | (go_at_call 33; (with_reducible refine (tally_Len.calls k a0_0 a0_1 a0_2 A0_3 c0_3 l0_3 sz se _ ?s1 ?s2 ALen.out).mono ?_); (case s1 => exact Kd.C_below HR0.out HB2.out); (case s2 => exact HC0.out); rintro e w3 ⟨rfl, hb⟩; have HB3 := Aside0.mk (below_step HB2.out hb); have HP3 := Aside0.mk (blk_below HP2.out hb); have HR3 := Aside0.mk (blk_below HR2.out hb); clear hb hz0 hz1 hz2 hz3; obtain ⟨hz0, hz1, hz2, hz3⟩ := cells4 HP3.out; obtain ⟨hy0, hy1, hy2, hy3, hy4, hy5, hy6⟩ := cells7 HR3.out; obtain ⟨hf0, hf1, hf2, hf3, hf4, hf5, hf6⟩ := frees7 HR3.out))
    refine bodyPost_ret (results_ct rfl _ _ gr 29 zero29 (0, 0) _ rfl (put7 HR3.out _ _ _ _ _ _ _) Try.underlying29 rfl (by kernel_rfl)) rfl ?_
    exact ⟨_, by first | rfl | (simp; done), Kd.R_nil _ _ _ _ _, below7 HB3.out GR.out _ _ _ _ _ _ _⟩
  subst hse
  rw [if_pos rfl] at h
  by_cases hsz : (l1.length : Int) = sz
  case neg =>
    rw [if_neg hsz] at h
    simp only [Option.some.injEq, Prod.mk.injEq] at h
    obtain ⟨rfl, rfl, rfl, rfl, rfl, rfl, rfl, rfl⟩ := h
    have z1 : ((l1.length : Int) == sz) = false := beq_eq_false_iff_ne.mpr hsz
    have z2 : ((l1.length : Int) != sz) = true := bne_iff_ne.mpr hsz
    clear hsz
    go_enter Try.func13, Try.ntmps13
    go_wp2_with (first | ((with_reducible refine gate_dst (N := 2) rfl ?_); refine box_event ?hg (N := 2) ?hd (cs := #[.int .i64 a0_0, .int .i64 a0_1, .int .i64 a0_2, .slice A0_3 l0_3.length c0_3]) (t := 24) ?hr ?_; (case hd => rfl); (case hg => rfl); (case hr => first | (go_simp; done) | (go_simp; rfl)); intro gp hg w1 hbox hb; have HB1 := Aside0.mk hb; have HP := Aside0.mk hbox; have GP := Aside0.mk (Nat.le_of_eq hg.symm); clear hb hbox hg) | ((with_reducible refine gate_dst (N := 4) rfl ?_); refine box_event ?hg (N := 4) ?hd (cs := zero29) (t := 29) ?hr ?_; (case hd => rfl); (case hg => rfl); (case hr => first | (go_simp; done) | (go_simp; rfl)); intro gr hg w2 hbox hb; have HB2 := Aside0.mk (below_step HB1.out hb); have HP2 := Aside0.mk (blk_below HP.out hb); have HR2 := Aside0.mk hbox; have GR := Aside0.mk (Nat.le_trans (below_size HB1.out) (Nat.le_of_eq hg.symm)); clear hb hbox hg; obtain ⟨hz0, hz1, hz2, hz3⟩ := cells4 HP2.out) | (go_at_call 33; (with_reducible refine (tally_Len.calls k a0_0 a0_1 a0_2 A0_3 c0_3 l0_3 sz 0 _ ?s1 ?s2 ALen.out).mono ?_); (case s1 => exact Kd.C_below HR0.out HB2.out); (case s2 => exact HC0.out); rintro e w3 ⟨rfl, hb⟩; have HB3 := Aside0.mk (below_step HB2.out hb); have HP3 := Aside0.mk (blk_below HP2.out hb); have HR3 := Aside0.mk (blk_below HR2.out hb); clear hb hz0 hz1 hz2 hz3; obtain ⟨hz0, hz1, hz2, hz3⟩ := cells4 HP3.out; obtain ⟨hy0, hy1, hy2, hy3, hy4, hy5, hy6⟩ := cells7 HR3.out; obtain ⟨hf0, hf1, hf2, hf3, hf4, hf5, hf6⟩ := frees7 HR3.out))
    refine bodyPost_ret (results_ct rfl _ _ gr 29 zero29 (0, 0) _ rfl (put7 HR3.out _ _ _ _ _ _ _) Try.underlying29 rfl (by kernel_rfl)) rfl ?_
    exact ⟨_, by first | rfl | (simp; done), Kd.R_nil _ _ _ _ _, below7 HB3.out GR.out _ _ _ _ _ _ _⟩
  subst hsz
  rw [if_pos rfl] at h
  obtain ⟨⟨n, ne⟩, ABits0, h⟩ := Option.bind_eq_some_iff.mp h
  have ABits := Aside0.mk ABits0
  clear ABits0
  split at h
  case isFalse => cases h
  rename_i hok
  exact stats_Decode.go k a0_0 a0_1 a0_2 A0_3 c0_3 l0_3 A1 c1 l1 r1 r2 r3 r4 r5 r6 r7 r8 w HR0.out HC0.out HR1.out HC1.out n ne ALen.out ABits.out hok h

end Go.Proofs.Ytdpekjffjobabaa.PAll
