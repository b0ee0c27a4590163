/- The Go functions that the laws reach, as Lean functions, and that each call comes to what its function says. Written by a program of this session (a turned copy of the kit's print). No condition beyond those that each theorem states. -/
import Derived.Test.YtjmfhlapjghipaaPAllx0
import Derived.Test.YtjmfhlapjghipaaPAllx1
import Derived.Test.YtjmfhlapjghipaaPAllx2
import Derived.Test.YtjmfhlapjghipaaPAllx3
namespace Go.Proofs.Ytjmfhlapjghipaa.PAll
open Go.RowKit Go.Proofs.YtjmfhlapjghipaaW.PrintWords Go.Proofs.YtjmfhlapjghipaaW.PrintLast Go.Proofs.YtjmfhlapjghipaaW.PrintMore
attribute [local go_sem] max2_int min2_int max_two min_two max_three min_three max_four min_four   -- for this text's walks alone
set_option linter.unusedVariables false
set_option linter.unusedSimpArgs false

/-! ### Set -/
/-- What is no row of pointers, no moment and no bell is kept. -/
structure FrL (b : Nat) (W W' : World) : Prop where
  hb : Below b W W'
  kp : ∀ (k : Nat) (cs : Array Value) (t : TypeId) (z : Nat × Nat), W.heap[k]? = some (.cells cs t z) → t ≠ 49 → t ≠ 50 → t ≠ 53 → W'.heap[k]? = some (.cells cs t z)
theorem FrL.trans {b : Nat} {W W' W2 : World} (h : FrL b W W') (k : FrL b W' W2) : FrL b W W2 := ⟨h.hb.trans k.hb, fun i cs t z hi h1 h2 h3 => k.kp i cs t z (h.kp i cs t z hi h1 h2 h3) h1 h2 h3⟩
theorem FrL.of {b : Nat} {W W' : World} (h : Below W.heap.size W W') (hb : b ≤ W.heap.size) : FrL b W W' := ⟨h.mono hb, fun _ _ _ _ hi _ _ _ => blk_below hi h⟩
theorem FrG.l {b g : Nat} {W W' : World} (h : FrG b g W W') {cs : Array Value} (hg : W.heap[g]? = some (.cells cs 49 (0, 0))) : FrL b W W' := ⟨h.hb, fun k c t z hk h1 h2 h3 => h.kp k _ (fun e => by
  subst e
  rw [hg] at hk
  injection hk with hk
  injection hk with _ ht
  exact h1 ht.symm) hk ⟨h2, h3⟩⟩
theorem wput_below {b mb : Nat} {W : World} {es : Array MapEntry} {ck : Nat} (hb : W.heap[mb]? = some (.map es ck)) (hm : b ≤ mb) (o : Obj) : Below b W (wput W mb o) := ⟨rfl, rfl, rfl, by simp [wput], fun k hk => (Go.MapKept.heap_set (o' := o) hb).2 k (by omega)⟩
theorem wput_at {mb : Nat} {W : World} {es : Array MapEntry} {ck : Nat} (hb : W.heap[mb]? = some (.map es ck)) (o : Obj) : (wput W mb o).heap[mb]? = some o := (Go.MapKept.heap_set hb).1
theorem wput_far {mb k t : Nat} {W : World} {es : Array MapEntry} {ck : Nat} (hb : W.heap[mb]? = some (.map es ck)) (o : Obj) {cs : Array Value} {z : Nat × Nat} (hk : W.heap[k]? = some (.cells cs t z)) : (wput W mb o).heap[k]? = some (.cells cs t z) :=
  ((Go.MapKept.heap_set (o' := o) hb).2 k (fun e => by subst e; rw [hb] at hk; cases hk)).trans hk
theorem MoP.wput {b mb : Nat} {W : World} {v : Value} {l : List El} {pl : Nat → Int} (h : MoP b W v l pl) {es : Array MapEntry} {ck : Nat} (hb : W.heap[mb]? = some (.map es ck)) (o : Obj) : MoP b (wput W mb o) v l pl := by
  refine ⟨⟨h.row.1, ?_⟩, fun x e hx => ⟨wput_far hb o (h.mom x e hx).1, (h.mom x e hx).2⟩, h.nd⟩
  rcases h.row.2 with h1 | ⟨ga, cap, cur, h1, h2, h3, h4⟩
  · exact Or.inl h1
  · exact Or.inr ⟨ga, cap, cur, h1, h2, wput_far hb o h3, h4⟩
set_option maxHeartbeats 8000000 in
set_option maxRecDepth 100000 in
theorem set_nil (who at_ : Int) (w : World) : Calls Try.prog 9 #[.pointer none, .int .i64 who, .int .i64 at_] w fun e w' => e = .returned (.int .i64 1) ∧ w' = w := by
  go_enter Try.func9, Try.ntmps9
  go_wp2
  go_ret
  exact ⟨rfl, rfl⟩
set_option maxHeartbeats 8000000 in
set_option maxRecDepth 100000 in
theorem set_bad (g : Nat) (who at_ : Int) (w : World) (h : at_ < 0 ∨ 1099511627776 < at_) : Calls Try.prog 9 #[.pointer (some ⟨g, 0, none⟩), .int .i64 who, .int .i64 at_] w fun e w' => e = .returned (.int .i64 1) ∧ w' = w := by
  by_cases h1 : at_ < 0
  · have d1 : decide (at_ < 0) = true := decide_eq_true h1
    have d2 : (at_ < 0) = True := eq_true h1
    clear h
    go_enter Try.func9, Try.ntmps9
    go_wp2
    go_ret
    exact ⟨rfl, rfl⟩
  · have h2 : 1099511627776 < at_ := by omega
    have d1 : decide (at_ < 0) = false := decide_eq_false h1
    have d2 : decide (1099511627776 < at_) = true := decide_eq_true h2
    clear h
    go_enter Try.func9, Try.ntmps9
    go_wp2
    go_ret
    exact ⟨rfl, rfl⟩
set_option maxHeartbeats 8000000 in
set_option maxRecDepth 100000 in
theorem set_w {b : Nat} {w : World} {g : Nat} {l : List El} {m : Int → Option Int} (h : BeX b w g l) (hm : HasM l m) (who at_ : Int) (h0 : 0 ≤ at_) (h1 : at_ ≤ 1099511627776) (hlm : l.length ≤ 1000) :
    Calls Try.prog 9 #[.pointer (some ⟨g, 0, none⟩), .int .i64 who, .int .i64 at_] w fun e w' => e = .returned (.int .i64 0) ∧ ∃ l', BeX b w' g l' ∧ HasM l' (updM m who (some at_)) ∧ l'.length ≤ l.length + 1 ∧ FrL b w w' := by
  obtain ⟨mb, A, c, h⟩ := h
  obtain ⟨es, ck, ks, hmb, hes, hks⟩ := h.mp
  have d1 : decide (at_ < 0) = false := decide_eq_false (by omega)
  have d2 : decide (1099511627776 < at_) = false := decide_eq_false (by omega)
  have d3 : (at_ < 0) = False := eq_false (by omega)
  have d4 : (1099511627776 < at_) = False := eq_false (by omega)
  have cg1 : w.cell? ⟨g, 1, none⟩ = some (.map (some mb)) := (blk_cell h.hg 1).trans rfl
  have HH := Aside0.mk h
  have HLM := Aside0.mk hlm
  have HMM := Aside0.mk hm
  have hkw : whoN ks := h.who.perm hks
  by_cases hw : ∃ p ∈ ks, p.2.2 = who
  · obtain ⟨p, hp, hpw⟩ := hw
    have hlk := look_some hmb hes hkw hp hpw true
    obtain ⟨x, hx, hxp⟩ := List.getElem_of_mem (hks.mem_iff.1 hp)
    have hxp' : l.getD x d0 = p := by rw [getD_of hx, hxp]
    obtain ⟨cp0, _, cp2⟩ := h.mo.cells hx
    have fp0 := h.mo.frz hx 0
    have hM1 := h.mo.anew hx at_
    have hF1 := h.mo.fset (Fr.refl b w) hx 0 (.int .i64 at_)
    rw [hxp'] at cp0 cp2 fp0 hM1 hF1
    obtain ⟨gp, egp⟩ : ∃ y, y = p.1 := ⟨_, rfl⟩
    rw [← egp] at cp0 cp2 fp0 hM1 hF1
    unfold ptrE at hlk
    rw [← egp] at hlk
    have HW := Aside0.mk (And.intro hM1 hF1)
    have HP := Aside0.mk (And.intro hp (And.intro hpw (And.intro hxp' (And.intro egp (And.intro hx (And.intro hmb (And.intro hes hks)))))))
    have HC2 := Aside0.mk cp2
    clear h hlm hm hkw hp hpw hx hxp hxp' hM1 hF1 egp hmb hes hks h0 h1 cp2
    simp only [if_true] at hlk
    go_enter Try.func9, Try.ntmps9
    go_upto_region 6 with fail
    obtain ⟨l1, el1⟩ : ∃ y, y = l.set x (gp, at_, p.2.2) := ⟨_, rfl⟩
    have hl1 : l1.length = l.length := by rw [el1, List.length_set]
    have E1 := Aside0.mk (And.intro el1 hl1)
    refine code_gen (fun W => W.cell? ⟨gp, 2, none⟩ = some (.int .i64 (x : Int)) ∧ Mo b W (.slice A l1.length c) l1 ∧ Fr b w W) ⟨?_, ?_, HW.out.2⟩ ?_
    · have := (HW.out.1.cells (x := x) (by rw [List.length_set]; exact HP.out.2.2.2.2.1)).2.2
      have e : (l.set x (gp, at_, p.2.2)).getD x d0 = (gp, at_, p.2.2) := by simp [List.getD_eq_getElem?_getD, HP.out.2.2.2.2.1]
      rw [e] at this
      exact this
    · rw [hl1, el1]
      exact HW.out.1
    clear hlk cp0 fp0 HC2 HW el1 hl1 cg1 d1 d2 d3 d4
    rintro w1 ⟨hc, hM, hF⟩
    have HC := Aside0.mk hc
    have HM1 := Aside0.mk hM
    have HF1 := Aside0.mk hF
    have HG1 : Aside0 (w1.heap[g]? = some (.cells #[.slice A l1.length c, .map (some mb)] 49 (0, 0))) := ⟨by rw [E1.out.2]; exact hF.kp _ _ HH.out.hg ⟨by decide, by decide⟩⟩
    have HB0 : Aside0 (b ≤ w1.heap.size) := ⟨Nat.le_trans HH.out.bg (Nat.le_of_lt (blk_lt HG1.out))⟩
    have HX : Aside0 (x < l1.length) := ⟨by rw [E1.out.2]; exact HP.out.2.2.2.2.1⟩
    have HLM1 : Aside0 (l1.length ≤ 1000) := ⟨by rw [E1.out.2]; exact HLM.out⟩
    clear hc hM hF
    go_wp2_with fail
    obtain ⟨wd, ewd⟩ : ∃ x, x = w1.drew := ⟨_, rfl⟩
    have HBD : Aside0 (Below w1.heap.size w1 wd) := ⟨by rw [ewd]; exact below_drew1 (Below.refl _ _)⟩
    refine start_ (n := 9) (S := fun w' => w'.cell? ⟨gp, 2, none⟩ = some (.int .i64 (x : Int))) (ds := [8]) #[false, false, false, false, false, false, false, false, false] (by kernel_rfl) rfl rfl (by rw [← ewd]; exact pw_cell_below HBD.out HC.out) (fun hHeld => ?_)
    rw [← ewd] at hHeld ⊢
    clear ewd
    refine pure_ (i := 0) (N := some 33) (v := ?_) (a' := ?_) #[true, false, false, false, false, false, false, false, false] rfl rfl (by kernel_rfl) (fun _ _ _ h => h) (Or.inl ⟨by rfl, ?_⟩) ?_ ?_
    rotate_left
    · intro w'
      go_simp
      with_reducible rfl
    rotate_left
    · simp only [Act.put, List.setIfInBounds_toArray, List.set_cons_zero, List.set_cons_succ, i64_w, i32_w]
      rfl
    refine pure_ (i := 1) (N := some 34) (v := ?_) (a' := ?_) #[true, true, false, false, false, false, false, false, false] rfl rfl (by kernel_rfl) (fun _ _ _ h => h) (Or.inl ⟨by rfl, ?_⟩) ?_ ?_
    rotate_left
    · intro w'
      go_simp
      with_reducible rfl
    rotate_left
    · simp only [Act.put, List.setIfInBounds_toArray, List.set_cons_zero, List.set_cons_succ, i64_w, i32_w]
      rfl
    refine pure_ (i := 2) (N := some 35) (v := ?_) (a' := ?_) #[true, true, true, false, false, false, false, false, false] rfl rfl (by kernel_rfl) (fun _ _ _ h => h) (Or.inl ⟨by rfl, ?_⟩) ?_ ?_
    rotate_left
    · intro w'
      go_simp
      with_reducible rfl
    rotate_left
    · simp only [Act.put, List.setIfInBounds_toArray, List.set_cons_zero, List.set_cons_succ, i64_w, i32_w]
      rfl
    refine pure_ (i := 3) (N := some 36) (v := ?_) (a' := ?_) #[true, true, true, true, false, false, false, false, false] rfl rfl (by kernel_rfl) (fun _ _ _ h => h) (Or.inl ⟨by rfl, ?_⟩) ?_ ?_
    rotate_left
    · intro w'
      go_simp
      with_reducible rfl
    rotate_left
    · simp only [Act.put, List.setIfInBounds_toArray, List.set_cons_zero, List.set_cons_succ, i64_w, i32_w]
      rfl
    refine pure_ (i := 4) (N := some 37) (v := ?_) (a' := ?_) #[true, true, true, true, true, false, false, false, false] rfl rfl (by kernel_rfl) (fun _ _ _ h => h) (Or.inl ⟨by rfl, ?_⟩) ?_ ?_
    rotate_left
    · intro w'
      go_simp
      with_reducible rfl
    rotate_left
    · simp only [Act.put, List.setIfInBounds_toArray, List.set_cons_zero, List.set_cons_succ, i64_w, i32_w]
      rfl
    refine pure_ (i := 5) (N := some 38) (v := ?_) (a' := ?_) #[true, true, true, true, true, true, false, false, false] rfl rfl (by kernel_rfl) (fun _ _ _ h => h) (Or.inl ⟨by rfl, ?_⟩) ?_ ?_
    rotate_left
    · intro w'
      go_simp
      with_reducible rfl
    rotate_left
    · simp only [Act.put, List.setIfInBounds_toArray, List.set_cons_zero, List.set_cons_succ, i64_w, i32_w]
      rfl
    refine pure_ (i := 6) (N := some 39) (v := ?_) (a' := ?_) #[true, true, true, true, true, true, true, false, false] rfl rfl (by kernel_rfl) (fun _ _ _ h => h) (Or.inl ⟨by rfl, ?_⟩) ?_ ?_
    rotate_left
    · intro w'
      go_simp
      with_reducible rfl
    rotate_left
    · simp only [Act.put, List.setIfInBounds_toArray, List.set_cons_zero, List.set_cons_succ, i64_w, i32_w]
      rfl
    refine take_ (i := 7) (N := some 40) (v := ?_) (a' := ?_) #[true, true, true, true, true, true, true, true, false] rfl rfl (by kernel_rfl) (fun _ _ _ h => h) (Or.inl ⟨by rfl, ?_⟩) hHeld ?_ ?_
    rotate_left
    · intro w' s0
      go_simp
      with_reducible rfl
    rotate_left
    · simp only [Act.put, List.setIfInBounds_toArray, List.set_cons_zero, List.set_cons_succ, i64_w, i32_w]
      rfl
    refine last_ (i := 8) (N := some 41) #[true, true, true, true, true, true, true, true, true] rfl rfl (by kernel_rfl) (by decide) (fun K hK => ?_)
    refine goes_ Try.func14 (by kernel_rfl) rfl #[.iface 55 (.pointer (some ⟨g, 0, none⟩)), .int .i64 (x : Int)] (by rfl) rfl rfl (by (try simp only [List.map_toArray, List.map_cons, List.map_nil]); first | done | rfl) ?_
    with_reducible refine (fix_w (blk_below HG1.out HBD.out) (HM1.out.below HBD.out) (Nat.le_trans HB0.out HBD.out.size) x HX.out (by have := HLM1.out; omega)).mono ?_
    rintro e w2 ⟨rfl, hM, hF⟩
    have HM2 := Aside0.mk hM
    have HF2 := Aside0.mk hF
    clear hM hF
    refine ⟨_, rfl, ?_⟩
    refine hK.out _ _ ?_
    clear hK K
    refine norm_ (a' := ?_) ?_ ?_
    rotate_left
    · show Act.put _ (some 41) _ = _
      simp only [Act.put, List.setIfInBounds_toArray, List.set_cons_zero, List.set_cons_succ, i64_w, i32_w]
      rfl
    refine done_ (by kernel_rfl) ?_
    go_wp2
    go_ret
    have hr : l.map (reset who at_) = l1 := by
      have := reset_set HH.out.who HP.out.2.2.2.2.1 at_
      rw [HP.out.2.2.1, HP.out.2.1, ← HP.out.2.2.2.1] at this
      rw [this, E1.out.1, HP.out.2.1]
    have hpm := fix_perm l1 x l1.length HX.out (Nat.le_refl _)
    have hfl := fix_len l1 x l1.length
    have hwl : whoN l1 := by unfold whoN; rw [← hr, reset_who]; exact HH.out.who
    have hF := HF1.out.trans ((Fr.of HBD.out HB0.out).trans HF2.out)
    have hmp : w2.heap[mb]? = some (.map es ck) := hF.kp _ _ HP.out.2.2.2.2.2.1 trivial
    refine ⟨rfl, fixE l1 x l1.length, ⟨mb, A, c, ⟨?_, HH.out.bg, HH.out.bm, ?_, ⟨es, ck, ks.map (reset who at_), hmp, esOf_reset HP.out.2.2.2.2.2.2.1 who at_, ?_⟩, hwl.perm hpm, ?_⟩⟩, ?_, ?_, (hF.g g).l HH.out.hg⟩
    · rw [hfl, E1.out.2]
      exact hF.kp _ _ HH.out.hg ⟨by decide, by decide⟩
    · rw [hfl]
      exact HM2.out
    · have := (HP.out.2.2.2.2.2.2.2).map (reset who at_)
      rw [hr] at this
      exact this.trans hpm.symm
    · rw [hfl]
      have := set_hp HH.out.hp x HP.out.2.2.2.2.1 (gp, at_, p.2.2)
      rw [← E1.out.1, ← E1.out.2] at this
      exact this
    · have := reset_has HMM.out who at_ ⟨p, HP.out.2.2.2.2.2.2.2.mem_iff.1 HP.out.1, HP.out.2.1⟩
      rw [hr] at this
      exact this.perm hpm
    · rw [hfl, E1.out.2]
      omega
  · have hn : ∀ p ∈ ks, p.2.2 ≠ who := fun p hp e => hw ⟨p, hp, e⟩
    have hlk := look_none hmb hes hn true
    simp only [if_true] at hlk
    have HN := Aside0.mk hn
    have HP := Aside0.mk (And.intro hmb (And.intro hes hks))
    have HKW := Aside0.mk hkw
    clear h hlm hm hkw hmb hes hks h0 h1 hn hw
    go_enter Try.func9, Try.ntmps9
    go_upto_region 9 with (first | ((with_reducible refine gate_dst (N := 50) rfl ?_); (try (refine gate_guard (by rfl) ?_; dsimp only)); refine box_event ?hg (N := 50) ?hd (cs := #[.int .i64 at_, .int .i64 who, .int .i64 0]) (t := 53) ?hr ?_; (case hd => rfl); (case hg => rfl); (case hr => first | (go_simp; done) | (go_simp; rfl)); intro gx hgx wb hbox hb; have HBX := Aside0.mk (And.intro hgx (And.intro hbox hb)); have hup := update_w (blk_below HP.out.1 hb) HP.out.2.1 HN.out (.pointer (some ⟨gx, 0, none⟩)); clear hgx hbox hb))
    clear hlk hup cg1 d1 d2 d3 d4
    obtain ⟨x, ex⟩ : ∃ y : El, y = (gx, at_, who) := ⟨_, rfl⟩
    have hmbb := blk_below HP.out.1 HBX.out.2.2
    have hes2 : EsOf (es.push { key := .int .i64 who, val := .pointer (some ⟨gx, 0, none⟩), born := ck }) (ks ++ [(gx, at_, who)]) := HP.out.2.1.push (gx, at_, who) ck
    have hne : ∀ (y : Nat) (e : El), l[y]? = some e → e.1 ≠ gx := fun y e hy e2 => by
      have := blk_lt (HH.out.mo.mom y e hy).1
      have := HBX.out.1
      omega
    have hwn : whoN (ks ++ [(gx, at_, who)]) := by
      unfold whoN
      rw [List.map_append, List.nodup_append]
      refine ⟨HKW.out, by simp, fun a ha b hb e => ?_⟩
      obtain ⟨p, hp, rfl⟩ := List.mem_map.1 ha
      simp only [List.map_cons, List.map_nil, List.mem_singleton] at hb
      exact HN.out p hp (by rw [e, hb])
    have HX2 := Aside0.mk (And.intro hes2 (And.intro hne hwn))
    have hbg : b ≤ gx := by have := HBX.out.1; have := blk_lt HH.out.hg; have := HH.out.bg; omega
    refine code_gen (fun W => W.heap[g]? = some (.cells #[.slice A l.length c, .map (some mb)] 49 (0, 0)) ∧ Mo b W (.slice A l.length c) l ∧ W.heap[gx]? = some (.cells #[.int .i64 at_, .int .i64 who, .int .i64 0] 53 (0, 0)) ∧ W.heap[mb]? = some (.map (es.push { key := .int .i64 who, val := .pointer (some ⟨gx, 0, none⟩), born := ck }) (ck + 1)) ∧ FrL b w W) ⟨?_, ?_, ?_, ?_, ?_⟩ ?_
    · exact wput_far hmbb _ (blk_below HH.out.hg HBX.out.2.2)
    · exact (HH.out.mo.below HBX.out.2.2).wput hmbb _
    · exact wput_far hmbb _ HBX.out.2.1
    · exact wput_at hmbb _
    · have hbw : b ≤ w.heap.size := Nat.le_trans HH.out.bg (Nat.le_of_lt (blk_lt HH.out.hg))
      exact (FrL.of HBX.out.2.2 hbw).trans ⟨wput_below hmbb HH.out.bm _, fun k cs t z hk _ _ _ => wput_far hmbb _ hk⟩
    have HXB := Aside0.mk hbg
    clear hmbb hes2 hne hwn hbg ex
    rintro w1 ⟨hg1, hM, hx1, hmp, hFL⟩
    have HC : Aside0 (w1.cell? ⟨g, 1, none⟩ = some (.map (some mb))) := ⟨(blk_cell hg1 1).trans rfl⟩
    have HG1 := Aside0.mk hg1
    have HM1 := Aside0.mk hM
    have HX1 := Aside0.mk hx1
    have HMP := Aside0.mk hmp
    have HFL := Aside0.mk hFL
    have HBG := Aside0.mk HH.out.bg
    have HNE := Aside0.mk HX2.out.2.1
    have HLK : Aside0 (∀ W, Below w1.heap.size w1 W → (Instr.lookup 45 (.map (some mb)) (.int .i64 who) false).run Try.prog W = .ok (.pointer (some ⟨gx, 0, none⟩)) W) := ⟨fun W hW => by
      have := look_some (blk_below hmp hW) HX2.out.1 HX2.out.2.2 (p := (gx, at_, who)) (by simp) rfl false
      exact this⟩
    clear hg1 hM hx1 hmp hFL
    go_wp2_with fail
    obtain ⟨wd, ewd⟩ : ∃ x, x = w1.drew := ⟨_, rfl⟩
    have HBD : Aside0 (Below w1.heap.size w1 wd) := ⟨by rw [ewd]; exact below_drew1 (Below.refl _ _)⟩
    refine start_ (n := 12) (S := fun w' => w'.cell? ⟨g, 1, none⟩ = some (.map (some mb)) ∧ (Instr.lookup 45 (.map (some mb)) (.int .i64 who) false).run Try.prog w' = .ok (.pointer (some ⟨gx, 0, none⟩)) w') (ds := [11]) #[false, false, false, false, false, false, false, false, false, false, false, false] (by kernel_rfl) rfl rfl (by rw [← ewd]; exact ⟨pw_cell_below HBD.out HC.out, HLK.out wd HBD.out⟩) (fun hHeld => ?_)
    rw [← ewd] at hHeld ⊢
    clear ewd
    refine pure_ (i := 0) (N := some 51) (v := ?_) (a' := ?_) #[true, false, false, false, false, false, false, false, false, false, false, false] rfl rfl (by kernel_rfl) (fun _ _ _ h => h) (Or.inl ⟨by rfl, ?_⟩) ?_ ?_
    rotate_left
    · intro w'
      go_simp
      with_reducible rfl
    rotate_left
    · simp only [Act.put, List.setIfInBounds_toArray, List.set_cons_zero, List.set_cons_succ, i64_w, i32_w]
      rfl
    refine pure_ (i := 1) (N := some 52) (v := ?_) (a' := ?_) #[true, true, false, false, false, false, false, false, false, false, false, false] rfl rfl (by kernel_rfl) (fun _ _ _ h => h) (Or.inl ⟨by rfl, ?_⟩) ?_ ?_
    rotate_left
    · intro w'
      go_simp
      with_reducible rfl
    rotate_left
    · simp only [Act.put, List.setIfInBounds_toArray, List.set_cons_zero, List.set_cons_succ, i64_w, i32_w]
      rfl
    refine pure_ (i := 2) (N := some 53) (v := ?_) (a' := ?_) #[true, true, true, false, false, false, false, false, false, false, false, false] rfl rfl (by kernel_rfl) (fun _ _ _ h => h) (Or.inl ⟨by rfl, ?_⟩) ?_ ?_
    rotate_left
    · intro w'
      go_simp
      with_reducible rfl
    rotate_left
    · simp only [Act.put, List.setIfInBounds_toArray, List.set_cons_zero, List.set_cons_succ, i64_w, i32_w]
      rfl
    refine pure_ (i := 3) (N := some 54) (v := ?_) (a' := ?_) #[true, true, true, true, false, false, false, false, false, false, false, false] rfl rfl (by kernel_rfl) (fun _ _ _ h => h) (Or.inl ⟨by rfl, ?_⟩) ?_ ?_
    rotate_left
    · intro w'
      go_simp
      with_reducible rfl
    rotate_left
    · simp only [Act.put, List.setIfInBounds_toArray, List.set_cons_zero, List.set_cons_succ, i64_w, i32_w]
      rfl
    refine pure_ (i := 4) (N := some 55) (v := ?_) (a' := ?_) #[true, true, true, true, true, false, false, false, false, false, false, false] rfl rfl (by kernel_rfl) (fun _ _ _ h => h) (Or.inl ⟨by rfl, ?_⟩) ?_ ?_
    rotate_left
    · intro w'
      go_simp
      with_reducible rfl
    rotate_left
    · simp only [Act.put, List.setIfInBounds_toArray, List.set_cons_zero, List.set_cons_succ, i64_w, i32_w]
      rfl
    refine pure_ (i := 5) (N := some 56) (v := ?_) (a' := ?_) #[true, true, true, true, true, true, false, false, false, false, false, false] rfl rfl (by kernel_rfl) (fun _ _ _ h => h) (Or.inl ⟨by rfl, ?_⟩) ?_ ?_
    rotate_left
    · intro w'
      go_simp
      with_reducible rfl
    rotate_left
    · simp only [Act.put, List.setIfInBounds_toArray, List.set_cons_zero, List.set_cons_succ, i64_w, i32_w]
      rfl
    refine pure_ (i := 6) (N := some 57) (v := ?_) (a' := ?_) #[true, true, true, true, true, true, true, false, false, false, false, false] rfl rfl (by kernel_rfl) (fun _ _ _ h => h) (Or.inl ⟨by rfl, ?_⟩) ?_ ?_
    rotate_left
    · intro w'
      go_simp
      with_reducible rfl
    rotate_left
    · simp only [Act.put, List.setIfInBounds_toArray, List.set_cons_zero, List.set_cons_succ, i64_w, i32_w]
      rfl
    refine pure_ (i := 8) (N := some 59) (v := ?_) (a' := ?_) #[true, true, true, true, true, true, true, false, true, false, false, false] rfl rfl (by kernel_rfl) (fun _ _ _ h => h) (Or.inl ⟨by rfl, ?_⟩) ?_ ?_
    rotate_left
    · intro w'
      go_simp
      with_reducible rfl
    rotate_left
    · simp only [Act.put, List.setIfInBounds_toArray, List.set_cons_zero, List.set_cons_succ, i64_w, i32_w]
      rfl
    refine take_ (i := 7) (N := some 58) (v := ?_) (a' := ?_) #[true, true, true, true, true, true, true, true, true, false, false, false] rfl rfl (by kernel_rfl) (fun _ _ _ h => h) (Or.inl ⟨by rfl, ?_⟩) hHeld ?_ ?_
    rotate_left
    · rintro w' ⟨s0, s1⟩
      go_simp
      with_reducible rfl
    rotate_left
    · simp only [Act.put, List.setIfInBounds_toArray, List.set_cons_zero, List.set_cons_succ, i64_w, i32_w]
      rfl
    refine take_ (i := 9) (N := some 60) (v := ?_) (a' := ?_) #[true, true, true, true, true, true, true, true, true, true, false, false] rfl rfl (by kernel_rfl) (fun _ _ _ h => h) (Or.inl ⟨by rfl, ?_⟩) hHeld ?_ ?_
    rotate_left
    · rintro w' ⟨s0, s1⟩
      go_simp
      with_reducible rfl
    rotate_left
    · simp only [Act.put, List.setIfInBounds_toArray, List.set_cons_zero, List.set_cons_succ, i64_w, i32_w]
      rfl
    refine pure_ (i := 10) (N := some 61) (v := ?_) (a' := ?_) #[true, true, true, true, true, true, true, true, true, true, true, false] rfl rfl (by kernel_rfl) (fun _ _ _ h => h) (Or.inl ⟨by rfl, ?_⟩) ?_ ?_
    rotate_left
    · intro w'
      go_simp
      with_reducible rfl
    rotate_left
    · simp only [Act.put, List.setIfInBounds_toArray, List.set_cons_zero, List.set_cons_succ, i64_w, i32_w]
      rfl
    refine last_ (i := 11) (N := some 62) #[true, true, true, true, true, true, true, true, true, true, true, true] rfl rfl (by kernel_rfl) (by decide) (fun K hK => ?_)
    refine goes_ Try.func15 (by kernel_rfl) rfl #[.iface 55 (.pointer (some ⟨g, 0, none⟩)), .iface 50 (.pointer (some ⟨gx, 0, none⟩))] (by rfl) rfl rfl (by (try simp only [List.map_toArray, List.map_cons, List.map_nil]); first | done | rfl) ?_
    with_reducible refine (push_w (blk_below HG1.out HBD.out) HBG.out (HM1.out.below HBD.out) (gx, at_, who) 0 (blk_below HX1.out HBD.out) HXB.out HNE.out (by have := HLM.out; omega)).mono ?_
    rintro e w3 ⟨rfl, A', c', hg3, hM, hF⟩
    have HG3 := Aside0.mk hg3
    have HM3 := Aside0.mk hM
    have HF3 := Aside0.mk hF
    clear hg3 hM hF
    refine ⟨_, rfl, ?_⟩
    refine hK.out _ _ ?_
    clear hK K
    refine norm_ (a' := ?_) ?_ ?_
    rotate_left
    · show Act.put _ (some 62) _ = _
      simp only [Act.put, List.setIfInBounds_toArray, List.set_cons_zero, List.set_cons_succ, i64_w, i32_w]
      rfl
    refine done_ (by kernel_rfl) ?_
    go_wp2
    go_ret
    have hpm := upE_perm l.length (l ++ [(gx, at_, who)]) l.length (by simp)
    have hul := upE_len l.length (l ++ [(gx, at_, who)]) l.length
    rw [List.length_append] at hul
    have hul' : (upE l.length (l ++ [(gx, at_, who)]) l.length).length = l.length + 1 := hul
    have hgd := blk_below HG1.out HBD.out
    have hgm : mb ≠ g := fun e => by have := HMP.out; rw [e, HG1.out] at this; cases this
    have hmp3 := HF3.out.kp mb _ hgm (blk_below HMP.out HBD.out) trivial
    have hperm : (ks ++ [(gx, at_, who)]).Perm (l ++ [(gx, at_, who)]) := HP.out.2.2.append_right _
    refine ⟨rfl, _, ⟨mb, A', c', ⟨by rw [hul']; exact HG3.out, HH.out.bg, HH.out.bm, by rw [hul']; exact HM3.out, ⟨_, _, _, hmp3, HX2.out.1, hperm.trans hpm.symm⟩, (HX2.out.2.2.perm hperm.symm).perm hpm, by rw [hul']; exact push_ok l _ HH.out.hp⟩⟩, ?_, by omega, ?_⟩
    · exact (add_has HMM.out (gx, at_, who) (fun p hp => HN.out p (HP.out.2.2.mem_iff.2 hp))).perm hpm
    · have hb1 : b ≤ w1.heap.size := Nat.le_trans HH.out.bg (Nat.le_of_lt (blk_lt HG1.out))
      exact HFL.out.trans ((FrL.of HBD.out hb1).trans (HF3.out.l hgd))

/-! ### Stop, Strike -/
set_option maxHeartbeats 8000000 in
set_option maxRecDepth 100000 in
theorem stop_nil (who : Int) (w : World) : Calls Try.prog 10 #[.pointer none, .int .i64 who] w fun e w' => e = .returned (.bool false) ∧ w' = w := by
  go_enter Try.func10, Try.ntmps10
  go_wp2
  go_ret
  exact ⟨rfl, rfl⟩
set_option maxHeartbeats 8000000 in
set_option maxRecDepth 100000 in
theorem stop_none {b : Nat} {w : World} {g : Nat} {l : List El} (h : BeX b w g l) (who : Int) (hn : ∀ p ∈ l, p.2.2 ≠ who) : Calls Try.prog 10 #[.pointer (some ⟨g, 0, none⟩), .int .i64 who] w fun e w' => e = .returned (.bool false) ∧ w' = w := by
  obtain ⟨mb, A, c, h⟩ := h
  obtain ⟨es, ck, ks, hmb, hes, hks⟩ := h.mp
  have cg1 : w.cell? ⟨g, 1, none⟩ = some (.map (some mb)) := (blk_cell h.hg 1).trans rfl
  have hlk := look_none hmb hes (fun p hp => hn p (hks.mem_iff.1 hp)) false
  simp only [Bool.false_eq_true, if_false] at hlk
  clear h hmb hes hks hn
  go_enter Try.func10, Try.ntmps10
  go_wp2
  go_ret
  exact ⟨rfl, rfl⟩
set_option maxHeartbeats 8000000 in
set_option maxRecDepth 100000 in
theorem stop_w {b : Nat} {w : World} {g : Nat} {l : List El} {m : Int → Option Int} (h : BeX b w g l) (hm : HasM l m) (who : Int) (hw : ∃ p ∈ l, p.2.2 = who) (hlm : l.length ≤ 1000) :
    Calls Try.prog 10 #[.pointer (some ⟨g, 0, none⟩), .int .i64 who] w fun e w' => e = .returned (.bool true) ∧ ∃ l', BeX b w' g l' ∧ HasM l' (updM m who none) ∧ l'.length + 1 = l.length ∧ FrL b w w' := by
  obtain ⟨mb, A, c, h⟩ := h
  obtain ⟨es, ck, ks, hmb, hes, hks⟩ := h.mp
  obtain ⟨p, hp, hpw⟩ := hw
  have hkw : whoN ks := h.who.perm hks
  have hlk := look_some hmb hes hkw (hks.mem_iff.2 hp) hpw false
  simp only [Bool.false_eq_true, if_false] at hlk
  obtain ⟨x, hx, hxp⟩ := List.getElem_of_mem hp
  have hxp' : l.getD x d0 = p := by rw [getD_of hx, hxp]
  have cp2 := (h.mo.cells hx).2.2
  have cg1 : w.cell? ⟨g, 1, none⟩ = some (.map (some mb)) := (blk_cell h.hg 1).trans rfl
  rw [hxp'] at cp2
  obtain ⟨gp, egp⟩ : ∃ y, y = p.1 := ⟨_, rfl⟩
  rw [← egp] at cp2
  unfold ptrE at hlk
  rw [← egp] at hlk
  obtain ⟨k, hk⟩ : ∃ k, l.length = k + 1 := ⟨l.length - 1, by omega⟩
  have HH := Aside0.mk h
  have HLM := Aside0.mk hlm
  have HMM := Aside0.mk hm
  have HC := Aside0.mk (And.intro cg1 cp2)
  have HX := Aside0.mk (And.intro hx hk)
  have HP := Aside0.mk (And.intro hmb (And.intro hes (And.intro hks (And.intro hkw (And.intro hp (And.intro hpw (And.intro hxp' egp)))))))
  have HLK : Aside0 (∀ W, Below w.heap.size w W → (Instr.lookup 45 (.map (some mb)) (.int .i64 who) false).run Try.prog W = .ok (.pointer (some ⟨gp, 0, none⟩)) W) := ⟨fun W hW => by
    have := look_some (blk_below hmb hW) hes hkw (hks.mem_iff.2 hp) hpw false
    simp only [Bool.false_eq_true, if_false] at this
    rw [this, egp]
    rfl⟩
  clear h hm hlm hmb hes hks hkw hp hpw hx hxp hxp' egp hk cp2
  go_enter Try.func10, Try.ntmps10
  go_upto_region 3 with fail
  clear hlk cg1
  go_wp2_with fail
  obtain ⟨wd, ewd⟩ : ∃ x, x = w.drew := ⟨_, rfl⟩
  have HBD : Aside0 (Below w.heap.size w wd) := ⟨by rw [ewd]; exact below_drew1 (Below.refl _ _)⟩
  refine start_ (n := 14) (S := fun w' => w'.cell? ⟨g, 1, none⟩ = some (.map (some mb)) ∧ (Instr.lookup 45 (.map (some mb)) (.int .i64 who) false).run Try.prog w' = .ok (.pointer (some ⟨gp, 0, none⟩)) w' ∧ w'.cell? ⟨gp, 2, none⟩ = some (.int .i64 (x : Int))) (ds := [13]) #[false, false, false, false, false, false, false, false, false, false, false, false, false, false] (by kernel_rfl) rfl rfl (by rw [← ewd]; exact ⟨pw_cell_below HBD.out HC.out.1, HLK.out wd HBD.out, pw_cell_below HBD.out HC.out.2⟩) (fun hHeld => ?_)
  rw [← ewd] at hHeld ⊢
  clear ewd
  refine pure_ (i := 0) (N := some 16) (v := ?_) (a' := ?_) #[true, false, false, false, false, false, false, false, false, false, false, false, false, false] rfl rfl (by kernel_rfl) (fun _ _ _ h => h) (Or.inl ⟨by rfl, ?_⟩) ?_ ?_
  rotate_left
  · intro w'
    go_simp
    with_reducible rfl
  rotate_left
  · simp only [Act.put, List.setIfInBounds_toArray, List.set_cons_zero, List.set_cons_succ, i64_w, i32_w]
    rfl
  refine pure_ (i := 1) (N := some 17) (v := ?_) (a' := ?_) #[true, true, false, false, false, false, false, false, false, false, false, false, false, false] rfl rfl (by kernel_rfl) (fun _ _ _ h => h) (Or.inl ⟨by rfl, ?_⟩) ?_ ?_
  rotate_left
  · intro w'
    go_simp
    with_reducible rfl
  rotate_left
  · simp only [Act.put, List.setIfInBounds_toArray, List.set_cons_zero, List.set_cons_succ, i64_w, i32_w]
    rfl
  refine pure_ (i := 2) (N := some 18) (v := ?_) (a' := ?_) #[true, true, true, false, false, false, false, false, false, false, false, false, false, false] rfl rfl (by kernel_rfl) (fun _ _ _ h => h) (Or.inl ⟨by rfl, ?_⟩) ?_ ?_
  rotate_left
  · intro w'
    go_simp
    with_reducible rfl
  rotate_left
  · simp only [Act.put, List.setIfInBounds_toArray, List.set_cons_zero, List.set_cons_succ, i64_w, i32_w]
    rfl
  refine pure_ (i := 3) (N := some 19) (v := ?_) (a' := ?_) #[true, true, true, true, false, false, false, false, false, false, false, false, false, false] rfl rfl (by kernel_rfl) (fun _ _ _ h => h) (Or.inl ⟨by rfl, ?_⟩) ?_ ?_
  rotate_left
  · intro w'
    go_simp
    with_reducible rfl
  rotate_left
  · simp only [Act.put, List.setIfInBounds_toArray, List.set_cons_zero, List.set_cons_succ, i64_w, i32_w]
    rfl
  refine pure_ (i := 4) (N := some 20) (v := ?_) (a' := ?_) #[true, true, true, true, true, false, false, false, false, false, false, false, false, false] rfl rfl (by kernel_rfl) (fun _ _ _ h => h) (Or.inl ⟨by rfl, ?_⟩) ?_ ?_
  rotate_left
  · intro w'
    go_simp
    with_reducible rfl
  rotate_left
  · simp only [Act.put, List.setIfInBounds_toArray, List.set_cons_zero, List.set_cons_succ, i64_w, i32_w]
    rfl
  refine pure_ (i := 5) (N := some 21) (v := ?_) (a' := ?_) #[true, true, true, true, true, true, false, false, false, false, false, false, false, false] rfl rfl (by kernel_rfl) (fun _ _ _ h => h) (Or.inl ⟨by rfl, ?_⟩) ?_ ?_
  rotate_left
  · intro w'
    go_simp
    with_reducible rfl
  rotate_left
  · simp only [Act.put, List.setIfInBounds_toArray, List.set_cons_zero, List.set_cons_succ, i64_w, i32_w]
    rfl
  refine pure_ (i := 6) (N := some 22) (v := ?_) (a' := ?_) #[true, true, true, true, true, true, true, false, false, false, false, false, false, false] rfl rfl (by kernel_rfl) (fun _ _ _ h => h) (Or.inl ⟨by rfl, ?_⟩) ?_ ?_
  rotate_left
  · intro w'
    go_simp
    with_reducible rfl
  rotate_left
  · simp only [Act.put, List.setIfInBounds_toArray, List.set_cons_zero, List.set_cons_succ, i64_w, i32_w]
    rfl
  refine pure_ (i := 8) (N := some 24) (v := ?_) (a' := ?_) #[true, true, true, true, true, true, true, false, true, false, false, false, false, false] rfl rfl (by kernel_rfl) (fun _ _ _ h => h) (Or.inl ⟨by rfl, ?_⟩) ?_ ?_
  rotate_left
  · intro w'
    go_simp
    with_reducible rfl
  rotate_left
  · simp only [Act.put, List.setIfInBounds_toArray, List.set_cons_zero, List.set_cons_succ, i64_w, i32_w]
    rfl
  refine take_ (i := 7) (N := some 23) (v := ?_) (a' := ?_) #[true, true, true, true, true, true, true, true, true, false, false, false, false, false] rfl rfl (by kernel_rfl) (fun _ _ _ h => h) (Or.inl ⟨by rfl, ?_⟩) hHeld ?_ ?_
  rotate_left
  · rintro w' ⟨s0, s1, s2⟩
    go_simp
    with_reducible rfl
  rotate_left
  · simp only [Act.put, List.setIfInBounds_toArray, List.set_cons_zero, List.set_cons_succ, i64_w, i32_w]
    rfl
  refine take_ (i := 9) (N := some 25) (v := ?_) (a' := ?_) #[true, true, true, true, true, true, true, true, true, true, false, false, false, false] rfl rfl (by kernel_rfl) (fun _ _ _ h => h) (Or.inl ⟨by rfl, ?_⟩) hHeld ?_ ?_
  rotate_left
  · rintro w' ⟨s0, s1, s2⟩
    go_simp
    with_reducible rfl
  rotate_left
  · simp only [Act.put, List.setIfInBounds_toArray, List.set_cons_zero, List.set_cons_succ, i64_w, i32_w]
    rfl
  refine pure_ (i := 10) (N := some 26) (v := ?_) (a' := ?_) #[true, true, true, true, true, true, true, true, true, true, true, false, false, false] rfl rfl (by kernel_rfl) (fun _ _ _ h => h) (Or.inl ⟨by rfl, ?_⟩) ?_ ?_
  rotate_left
  · intro w'
    go_simp
    with_reducible rfl
  rotate_left
  · simp only [Act.put, List.setIfInBounds_toArray, List.set_cons_zero, List.set_cons_succ, i64_w, i32_w]
    rfl
  refine pure_ (i := 11) (N := some 27) (v := ?_) (a' := ?_) #[true, true, true, true, true, true, true, true, true, true, true, true, false, false] rfl rfl (by kernel_rfl) (fun _ _ _ h => h) (Or.inl ⟨by rfl, ?_⟩) ?_ ?_
  rotate_left
  · intro w'
    go_simp
    with_reducible rfl
  rotate_left
  · simp only [Act.put, List.setIfInBounds_toArray, List.set_cons_zero, List.set_cons_succ, i64_w, i32_w]
    rfl
  refine take_ (i := 12) (N := some 28) (v := ?_) (a' := ?_) #[true, true, true, true, true, true, true, true, true, true, true, true, true, false] rfl rfl (by kernel_rfl) (fun _ _ _ h => h) (Or.inl ⟨by rfl, ?_⟩) hHeld ?_ ?_
  rotate_left
  · rintro w' ⟨s0, s1, s2⟩
    go_simp
    with_reducible rfl
  rotate_left
  · simp only [Act.put, List.setIfInBounds_toArray, List.set_cons_zero, List.set_cons_succ, i64_w, i32_w]
    rfl
  refine last_ (i := 13) (N := some 29) #[true, true, true, true, true, true, true, true, true, true, true, true, true, true] rfl rfl (by kernel_rfl) (by decide) (fun K hK => ?_)
  refine goes_ Try.func16 (by kernel_rfl) rfl #[.iface 55 (.pointer (some ⟨g, 0, none⟩)), .int .i64 (x : Int)] (by rfl) rfl rfl (by (try simp only [List.map_toArray, List.map_cons, List.map_nil]); first | done | rfl) ?_
  with_reducible refine (remove_w (blk_below HH.out.hg HBD.out) HH.out.bg (HH.out.mo.below HBD.out) x k HX.out.1 HX.out.2 (by have := HLM.out; omega)).mono ?_
  rintro e w2 ⟨⟨rv, rfl⟩, hg2, hM, hF⟩
  have HG2 := Aside0.mk hg2
  have HM2 := Aside0.mk hM
  have HF2 := Aside0.mk hF
  clear hg2 hM hF
  refine ⟨_, rfl, ?_⟩
  refine hK.out _ _ ?_
  clear hK K
  refine norm_ (a' := ?_) ?_ ?_
  rotate_left
  · show Act.put _ (some 29) _ = _
    simp only [Act.put, List.setIfInBounds_toArray, List.set_cons_zero, List.set_cons_succ, i64_w, i32_w]
    rfl
  refine done_ (by kernel_rfl) ?_
  have hb0 : b ≤ w.heap.size := Nat.le_trans HH.out.bg (Nat.le_of_lt (blk_lt HH.out.hg))
  have hgd := blk_below HH.out.hg HBD.out
  have hgm : mb ≠ g := fun e => by have := HP.out.1; rw [e, HH.out.hg] at this; cases this
  have hmp2 := HF2.out.kp mb _ hgm (blk_below HP.out.1 HBD.out) trivial
  obtain ⟨j, hj, hdel⟩ := delete_w hmp2 HP.out.2.1 HP.out.2.2.2.1 (HP.out.2.2.1.mem_iff.2 HP.out.2.2.2.2.1) HP.out.2.2.2.2.2.1
  have cg1 : w2.cell? ⟨g, 1, none⟩ = some (.map (some mb)) := (blk_cell HG2.out 1).trans rfl
  have HFin := Aside0.mk (And.intro hb0 (And.intro hgd (And.intro hmp2 hj)))
  clear hb0 hgd hgm hmp2 hj
  go_wp2
  go_ret
  have hrl := rem_len l x k HX.out.2
  have hpm := rem_perm l x k HX.out.1 HX.out.2
  rw [HP.out.2.2.2.2.2.2.1] at hpm
  have hnw : whoN (remE l x k) := by
    have := HH.out.who.perm hpm
    unfold whoN at *
    rw [List.map_append, List.nodup_append] at this
    exact this.1
  have hmp := HFin.out.2.2.1
  have hkp : (ks.eraseIdx j).Perm (remE l x k) := by
    have h1 := erase_perm HFin.out.2.2.2
    exact (List.perm_append_right_iff [p]).1 (h1.trans (HP.out.2.2.1.trans hpm.symm))
  refine ⟨rfl, remE l x k, ⟨mb, A, c, ⟨?_, HH.out.bg, HH.out.bm, ?_, ⟨_, _, _, wput_at hmp _, HP.out.2.1.erase HFin.out.2.2.2, hkp⟩, hnw, ?_⟩⟩, ?_, by rw [hrl]; exact HX.out.2.symm, ?_⟩
  · rw [hrl]
    exact wput_far hmp _ HG2.out
  · rw [hrl]
    exact HM2.out.wput hmp _
  · rw [hrl]
    exact rem_hp HH.out.hp x k HX.out.1 HX.out.2
  · have := del_has HMM.out p hpm HH.out.who
    rw [HP.out.2.2.2.2.2.1] at this
    exact this
  · exact (FrL.of HBD.out HFin.out.1).trans ((HF2.out.l HFin.out.2.1).trans ⟨wput_below hmp HH.out.bm _, fun k cs t z hk _ _ _ => wput_far hmp _ hk⟩)
set_option maxHeartbeats 8000000 in
set_option maxRecDepth 100000 in
theorem strike_nil (now : Int) (w : World) : Calls Try.prog 12 #[.pointer none, .int .i64 now] w fun e w' => e = .returned (.tuple #[.int .i64 0, .bool false]) ∧ w' = w := by
  go_enter Try.func12, Try.ntmps12
  go_wp2_with (first | (go_at_call 13; (with_reducible refine (next_nil _).mono ?_); rintro e w1 ⟨rfl, rfl⟩))
  exact bodyPost_ret (results_tmp2 rfl _ _ _) rfl ⟨rfl, rfl⟩
set_option maxHeartbeats 8000000 in
set_option maxRecDepth 100000 in
theorem strike_none {b : Nat} {w : World} {g : Nat} {l : List El} (h : BeX b w g l) (now : Int) (hn : nextB l = false ∨ now < nextA l) : Calls Try.prog 12 #[.pointer (some ⟨g, 0, none⟩), .int .i64 now] w fun e w' => e = .returned (.tuple #[.int .i64 0, .bool false]) ∧ w' = w := by
  have HH := Aside0.mk h
  clear h
  cases hb : nextB l
  · clear hn
    go_enter Try.func12, Try.ntmps12
    go_wp2_with (first | (go_at_call 13; (with_reducible refine (next_w HH.out).mono ?_); rintro e w1 ⟨rfl, rfl⟩; rw [hb]))
    exact bodyPost_ret (results_tmp2 rfl _ _ _) rfl ⟨rfl, rfl⟩
  · have hlt : now < nextA l := hn.resolve_left (by rw [hb]; decide)
    generalize ha : nextA l = a at *
    have d1 : decide (now < a) = true := decide_eq_true hlt
    have d2 : (now < a) = True := eq_true hlt
    have HA := Aside0.mk ha
    have HB := Aside0.mk hb
    clear hn hlt ha hb
    go_enter Try.func12, Try.ntmps12
    go_wp2_with (first | (go_at_call 13; (with_reducible refine (next_w HH.out).mono ?_); rintro e w1 ⟨rfl, rfl⟩; rw [HB.out, HA.out]))
    exact bodyPost_ret (results_tmp2 rfl _ _ _) rfl ⟨rfl, rfl⟩
set_option maxHeartbeats 8000000 in
set_option maxRecDepth 100000 in
theorem strike_w {b : Nat} {w : World} {g : Nat} {l : List El} {m : Int → Option Int} (h : BeX b w g l) (hm : HasM l m) (now : Int) (hl : 0 < l.length) (hn : (l.getD 0 d0).2.1 ≤ now) (hlm : l.length ≤ 1000) :
    Calls Try.prog 12 #[.pointer (some ⟨g, 0, none⟩), .int .i64 now] w fun e w' => e = .returned (.tuple #[.int .i64 (l.getD 0 d0).2.2, .bool true]) ∧ ∃ l', BeX b w' g l' ∧ HasM l' (updM m (l.getD 0 d0).2.2 none) ∧ l'.length + 1 = l.length ∧ FrL b w w' := by
  have hX := h
  obtain ⟨mb, A, c, h⟩ := h
  obtain ⟨ga, cap, cur, e, _, _⟩ := h.mo.rowAt hl
  injection e with e1 e2 e3
  subst e1 e3
  have c0 : w.cell? ⟨g, 0, none⟩ = some (.slice (some ⟨ga, 0, none⟩) l.length c) := (blk_cell h.hg 0).trans rfl
  have c1 := (h.mo.ptr hl).1
  have c2 := (h.mo.cells hl).2.1
  have hmem : l.getD 0 d0 ∈ l := by rw [getD_of hl]; exact List.getElem_mem hl
  have hA : nextA l = (l.getD 0 d0).2.1 := by unfold nextA; rw [if_neg (fun e => by rw [e] at hl; exact Nat.lt_irrefl 0 hl)]
  have hB : nextB l = true := by cases l with | nil => exact absurd hl (Nat.lt_irrefl 0) | cons _ _ => rfl
  unfold ptrE at c1
  obtain ⟨p, ep⟩ : ∃ y, y = l.getD 0 d0 := ⟨_, rfl⟩
  rw [← ep] at c1 c2 hmem hA hn ⊢
  obtain ⟨gp, ap, wp⟩ := p
  have HX := Aside0.mk hX
  have HAB := Aside0.mk (And.intro hA hB)
  have HS := Aside0.mk (stop_w hX hm wp ⟨_, hmem, rfl⟩ hlm)
  have d1 : decide (now < ap) = false := decide_eq_false (by show ¬ now < ap; have : ap ≤ now := hn; omega)
  have d2 : (now < ap) = False := eq_false (by have : ap ≤ now := hn; omega)
  have q1 : ((0 : Int) < ((l.length : Nat) : Int)) = True := eq_true (by omega)
  have q2 : (0 < l.length) = True := eq_true hl
  clear hX h hm hl hn hlm hmem hA hB ep
  dsimp only at c1 c2
  go_enter Try.func12, Try.ntmps12
  go_wp2_with (first | (go_at_call 13; (with_reducible refine (next_w HX.out).mono ?_); rintro e w1 ⟨rfl, rfl⟩; rw [HAB.out.1, HAB.out.2]) | (go_at_call 10; (with_reducible refine HS.out.mono ?_); rintro e w2 ⟨rfl, hE⟩; have HE := Aside0.mk hE; clear hE))
  exact bodyPost_ret (results_tmp2 rfl _ _ _) rfl ⟨rfl, HE.out⟩

/-! ### awake -/
theorem root_is {b : Nat} {W : World} {g : Nat} {l : List El} {m : Int → Option Int} (h : BeX b W g l) (hm : HasM l m) (a w : Int) (h1 : m w = some a) (hmin : ∀ w' a' : Int, m w' = some a' → a < a' ∨ (a = a' ∧ w ≤ w')) : 0 < l.length ∧ (l.getD 0 d0).2 = (a, w) := by
  obtain ⟨mb, A, c, h⟩ := h
  obtain ⟨p, hp, e⟩ := (hm w a).1 h1
  obtain ⟨i, hi, rfl⟩ := List.getElem_of_mem hp
  have hl : 0 < l.length := by omega
  have hr : l.getD 0 d0 ∈ l := by rw [getD_of hl]; exact List.getElem_mem hl
  have h2 := hmin _ _ ((hm (l.getD 0 d0).2.2 (l.getD 0 d0).2.1).2 ⟨_, hr, rfl⟩)
  have h3 := root_least h.hp i hi
  rw [getD_of hi] at h3
  unfold leE at h3
  rw [e] at h3
  refine ⟨hl, ?_⟩
  generalize l.getD 0 d0 = q at *
  obtain ⟨q1, q2, q3⟩ := q
  simp only at h2 h3
  show (q2, q3) = (a, w)
  rw [Prod.mk.injEq]
  omega
theorem empty_is {l : List El} {m : Int → Option Int} (hm : HasM l m) (h : ∀ w, m w = none) : l = [] := by
  cases l with
  | nil => rfl
  | cons p l =>
    have := (hm p.2.2 p.2.1).2 ⟨p, by simp, rfl⟩
    rw [h] at this
    cases this
theorem hasM_nil : HasM [] (fun _ => none) := fun w a => ⟨fun h => (by cases h), fun ⟨p, hp, _⟩ => (by cases hp)⟩
theorem hasM_of {l : List El} {m : Int → Option Int} (h : HasM l m) {w a : Int} (e : m w = some a) : ∃ p ∈ l, p.2.2 = w := by
  obtain ⟨p, hp, e1⟩ := (h w a).1 e
  exact ⟨p, hp, by rw [e1]⟩
theorem hasM_not {l : List El} {m : Int → Option Int} (h : HasM l m) {w : Int} (e : m w = none) : ∀ p ∈ l, p.2.2 ≠ w := fun p hp e1 => by
  have := (h p.2.2 p.2.1).2 ⟨p, hp, rfl⟩
  rw [e1, e] at this
  cases this
set_option maxHeartbeats 8000000 in
set_option maxRecDepth 100000 in
theorem awake_w (w : World) : Calls Try.prog 8 #[] w fun e w' => e = .returned (.bool true) ∧ Below w.heap.size w w' := by
  go_enter Try.func8, Try.ntmps8
  go_upto_region 2 with (first | (go_at_call 7; (with_reducible refine (new_w w.heap.size w (Nat.le_refl _)).mono ?_); rintro e w1 ⟨g, rfl, hX, hB⟩; have HX := Aside0.mk hX; have HB := Aside0.mk hB; clear hX hB))
  go_upto_region 4 with (first
    | (go_at_call 9; (with_reducible refine (set_w HX.out hasM_nil 2 5 (by decide) (by decide) (by simp)).mono ?_); rintro e w2 ⟨rfl, l2, hX2, hM2, hL2, hF2⟩; have H2 := Aside0.mk (And.intro hX2 (And.intro hM2 (And.intro hL2 hF2))); clear hX2 hM2 hL2 hF2)
    | (go_at_call 9; (with_reducible refine (set_w H2.out.1 H2.out.2.1 1 5 (by decide) (by decide) (by have := H2.out.2.2.1; simp at this; omega)).mono ?_); rintro e w3 ⟨rfl, l3, hX2, hM2, hL2, hF2⟩; have H3 := Aside0.mk (And.intro hX2 (And.intro hM2 (And.intro (Nat.le_trans hL2 (Nat.succ_le_succ H2.out.2.2.1)) (H2.out.2.2.2.trans hF2)))); clear hX2 hM2 hL2 hF2)
    | (go_at_call 9; (with_reducible refine (set_w H3.out.1 H3.out.2.1 3 4 (by decide) (by decide) (by have := H3.out.2.2.1; simp at this; omega)).mono ?_); rintro e w4 ⟨rfl, l4, hX2, hM2, hL2, hF2⟩; have H4 := Aside0.mk (And.intro hX2 (And.intro hM2 (And.intro (Nat.le_trans hL2 (Nat.succ_le_succ H3.out.2.2.1)) (H3.out.2.2.2.trans hF2)))); clear hX2 hM2 hL2 hF2)
    | (go_at_call 9; (with_reducible refine (set_w H4.out.1 H4.out.2.1 3 9 (by decide) (by decide) (by have := H4.out.2.2.1; simp at this; omega)).mono ?_); rintro e w5 ⟨rfl, l5, hX2, hM2, hL2, hF2⟩; have H5 := Aside0.mk (And.intro hX2 (And.intro hM2 (And.intro (Nat.le_trans hL2 (Nat.succ_le_succ H4.out.2.2.1)) (H4.out.2.2.2.trans hF2)))); clear hX2 hM2 hL2 hF2))
  have r1 := root_is H5.out.1 H5.out.2.1 5 1 rfl (fun w' a' h => by simp only [updM] at h; (repeat' split at h) <;> first | (cases h; done) | (injection h with h; omega))
  have R1 := Aside0.mk r1
  have E1 : Aside0 ((l5.getD 0 d0).2.2 = 1 ∧ (l5.getD 0 d0).2.1 = 5 ∧ l5.length ≤ 4) := ⟨by rw [r1.2]; exact ⟨rfl, rfl, by have := H5.out.2.2.1; simpa using this⟩⟩
  clear r1
  go_upto_region 5 with (first | (go_at_call 12; (with_reducible refine (strike_w H5.out.1 H5.out.2.1 5 R1.out.1 (by rw [E1.out.2.1]; decide) (by have := E1.out.2.2; omega)).mono ?_); rw [E1.out.1]; rintro e w6 ⟨rfl, l6, hX2, hM2, hL2, hF2⟩; have H6 := Aside0.mk (And.intro hX2 (And.intro hM2 (And.intro hL2 (H5.out.2.2.2.trans hF2)))); clear hX2 hM2 hL2 hF2))
  have r2 := root_is H6.out.1 H6.out.2.1 5 2 rfl (fun w' a' h => by simp only [updM] at h; (repeat' split at h) <;> first | (cases h; done) | (injection h with h; omega))
  have R2 := Aside0.mk r2
  have E2 : Aside0 ((l6.getD 0 d0).2.2 = 2 ∧ (l6.getD 0 d0).2.1 = 5 ∧ l6.length ≤ 4) := ⟨by rw [r2.2]; exact ⟨rfl, rfl, by have := H6.out.2.2.1; have := E1.out.2.2; omega⟩⟩
  clear r2
  go_upto_region 6 with (first | (go_at_call 12; (with_reducible refine (strike_w H6.out.1 H6.out.2.1 5 R2.out.1 (by rw [E2.out.2.1]; decide) (by have := E2.out.2.2; omega)).mono ?_); rw [E2.out.1]; rintro e w7 ⟨rfl, l7, hX2, hM2, hL2, hF2⟩; have H7 := Aside0.mk (And.intro hX2 (And.intro hM2 (And.intro hL2 (H6.out.2.2.2.trans hF2)))); clear hX2 hM2 hL2 hF2))
  have r3 := root_is H7.out.1 H7.out.2.1 9 3 rfl (fun w' a' h => by simp only [updM] at h; (repeat' split at h) <;> first | (cases h; done) | (injection h with h; omega))
  have E3 : Aside0 (nextB l7 = true ∧ nextA l7 = 9) := ⟨by
    cases l7 with
    | nil => exact absurd r3.1 (Nat.lt_irrefl 0)
    | cons p q => exact ⟨rfl, by unfold nextA; rw [if_neg (by simp), r3.2]⟩⟩
  clear r3
  go_upto_region 7 with (first | (go_at_call 12; (with_reducible refine (strike_none H7.out.1 5 (Or.inr (by rw [E3.out.2]; decide))).mono ?_); rintro e w8 ⟨rfl, rfl⟩))
  go_upto_region 8 with (first | (go_at_call 13; (with_reducible refine (next_w H7.out.1).mono ?_); rw [E3.out.1, E3.out.2]; rintro e w9 ⟨rfl, rfl⟩))
  go_wp2_with (first
    | (go_at_call 10; (with_reducible refine (stop_w H7.out.1 H7.out.2.1 3 (hasM_of H7.out.2.1 (a := 9) rfl) (by have := H7.out.2.2.1; have := E2.out.2.2; omega)).mono ?_); rintro e w10 ⟨rfl, l8, hX2, hM2, hL2, hF2⟩; have H8 := Aside0.mk (And.intro hX2 (And.intro hM2 (H7.out.2.2.2.trans hF2))); clear hX2 hM2 hL2 hF2)
    | (go_at_call 10; (with_reducible refine (stop_none H8.out.1 3 (hasM_not H8.out.2.1 rfl)).mono ?_); rintro e w11 ⟨rfl, rfl⟩))
  go_ret
  exact ⟨by first | rfl | (simp; done), HB.out.trans H8.out.2.2.hb⟩
theorem Be.far {b : Nat} {W : World} {g mb : Nat} {A : Option Addr} {c : Nat} {l : List El} (h : Be b W g mb A c l) {g2 t : Nat} {cs : Array Value} (hg2 : W.heap[g2]? = some (.cells cs t (0, 0))) (h49 : t ≠ 49) (h50 : t ≠ 50) (h53 : t ≠ 53) (i : Nat) (u : Value) : Be b (W.setCell ⟨g2, i, none⟩ u) g mb A c l :=
  ⟨blk_far h.hg (blk_ne h.hg hg2 (Ne.symm h49)) u, h.bg, h.bm, h.mo.far hg2 h50 h53 i u, (by
    obtain ⟨es, ck, ks, h1, h2⟩ := h.mp
    refine ⟨es, ck, ks, ?_, h2⟩
    rw [Below.heap_setCell W ⟨g2, i, none⟩ u mb (fun e => by rw [show mb = g2 from e, hg2] at h1; cases h1)]
    exact h1), h.who, h.hp⟩
theorem BeX.far {b : Nat} {W : World} {g : Nat} {l : List El} (h : BeX b W g l) {g2 t : Nat} {cs : Array Value} (hg2 : W.heap[g2]? = some (.cells cs t (0, 0))) (h49 : t ≠ 49) (h50 : t ≠ 50) (h53 : t ≠ 53) (i : Nat) (u : Value) : BeX b (W.setCell ⟨g2, i, none⟩ u) g l := by
  obtain ⟨mb, A, c, h⟩ := h
  exact ⟨mb, A, c, h.far hg2 h49 h50 h53 i u⟩

end Go.Proofs.Ytjmfhlapjghipaa.PAll
