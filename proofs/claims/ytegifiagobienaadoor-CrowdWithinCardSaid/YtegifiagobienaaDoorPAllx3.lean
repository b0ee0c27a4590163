/- The Go functions that the laws reach, as Lean functions, and that each call comes to what its function says. Written by a program of this session (a turned copy of the kit's print). No condition beyond those that each theorem states. -/
import Derived.Test.YtegifiagobienaaDoorPAllx0
import Derived.Test.YtegifiagobienaaDoorPAllx1
namespace Go.Proofs.YtegifiagobienaaDoor.PAll
open Go.RowKit Go.Proofs.YtegifiagobienaaDoorW.PrintWords Go.Proofs.YtegifiagobienaaDoorW.PrintLast Go.Proofs.YtegifiagobienaaDoorW.PrintMore
attribute [local go_sem] max2_int min2_int max_two min_two max_three min_three max_four min_four   -- for this text's walks alone
set_option linter.unusedVariables false
set_option linter.unusedSimpArgs false

/-! ### offertorylaw18_CrowdParts: function 7 -/
def offertorylaw18_CrowdParts.f (k : Nat) (a0 : Int) (a1 : Int) (a2 : Int) : Option (Bool) := (offertorylaw18_awake.f k).bind fun t175 => (if t175 = true then ((crowd_Size.f (Go.bits .and .u64 a0 a1)).bind fun t176 => ((crowd_Size.f (Go.bits .andNot .u64 a0 a1)).bind fun t177 => ((crowd_Size.f a0).bind fun t178 => (if (wrap64 (t176 + t177)) = t178 then ((crowd_Within.f (Go.bits .and .u64 a0 a1) a0).bind fun t179 => (if t179 = true then ((crowd_Within.f (Go.bits .and .u64 a0 a1) a1).bind fun t180 => (if t180 = true then ((crowd_Within.f (Go.bits .andNot .u64 a0 a1) a0).bind fun t181 => (if t181 = true then ((crowd_Has.f a0 a2).bind fun t182 => ((crowd_Has.f (Go.bits .and .u64 a0 a1) a2).bind fun t183 => (if t183 = true then (if (t182 == true) = true then ((crowd_Within.f a0 a1).bind fun t184 => (some (t184 == ((Go.bits .andNot .u64 a0 a1) == 0)))) else (none)) else ((crowd_Has.f (Go.bits .andNot .u64 a0 a1) a2).bind fun t185 => (if (t182 == t185) = true then ((crowd_Within.f a0 a1).bind fun t186 => (some (t186 == ((Go.bits .andNot .u64 a0 a1) == 0)))) else (none)))))) else (none))) else (none))) else (none))) else (none))))) else (none))
theorem offertorylaw18_CrowdParts.mono : ∀ a0 a1 a2 k, LeO (offertorylaw18_CrowdParts.f k a0 a1 a2) (offertorylaw18_CrowdParts.f (k + 1) a0 a1 a2) := by
  intro a0 a1 a2 k
  unfold offertorylaw18_CrowdParts.f
  repeat' first
      | (with_reducible exact offertorylaw18_awake.mono _)
      | (with_reducible exact LeO.refl _)
      | (with_reducible exact LeO.none _)
      | (with_reducible refine LeO.ite ?_ ?_)
      | (with_reducible refine LeO.bind ?_ (fun _ => ?_))
      | exact offertorylaw18_awake.mono _
      | exact LeO.none _
      | refine LeO.ite ?_ ?_
      | refine LeO.bind ?_ (fun _ => ?_)
set_option maxHeartbeats 8000000 in
set_option maxRecDepth 100000 in
theorem offertorylaw18_CrowdParts.calls (k : Nat) (a0 : Int) (a1 : Int) (a2 : Int) (r : Bool) (w : World) (hT : Tab w) (h : offertorylaw18_CrowdParts.f k a0 a1 a2 = some r) :
    Calls Tryd.prog 7 #[.int .u64 a0, .int .u64 a1, .int .i64 a2] w fun e w' => e = .returned (.bool r) ∧ Below w.heap.size w w' := by
  have HTab := Aside0.mk hT
  clear hT
  have HB := Aside0.mk (Below.refl w.heap.size w)
  have H : ((offertorylaw18_awake.f k).bind fun t175 => (if t175 = true then ((crowd_Size.f (Go.bits .and .u64 a0 a1)).bind fun t176 => ((crowd_Size.f (Go.bits .andNot .u64 a0 a1)).bind fun t177 => ((crowd_Size.f a0).bind fun t178 => (if (wrap64 (t176 + t177)) = t178 then ((crowd_Within.f (Go.bits .and .u64 a0 a1) a0).bind fun t179 => (if t179 = true then ((crowd_Within.f (Go.bits .and .u64 a0 a1) a1).bind fun t180 => (if t180 = true then ((crowd_Within.f (Go.bits .andNot .u64 a0 a1) a0).bind fun t181 => (if t181 = true then ((crowd_Has.f a0 a2).bind fun t182 => ((crowd_Has.f (Go.bits .and .u64 a0 a1) a2).bind fun t183 => (if t183 = true then (if (t182 == true) = true then ((crowd_Within.f a0 a1).bind fun t184 => (some (t184 == ((Go.bits .andNot .u64 a0 a1) == 0)))) else (none)) else ((crowd_Has.f (Go.bits .andNot .u64 a0 a1) a2).bind fun t185 => (if (t182 == t185) = true then ((crowd_Within.f a0 a1).bind fun t186 => (some (t186 == ((Go.bits .andNot .u64 a0 a1) == 0)))) else (none)))))) else (none))) else (none))) else (none))) else (none))))) else (none))) = some r := h
  clear h
  replace H := Option.bind_eq_some_iff.mp H
  obtain ⟨t175, A40, H⟩ := H
  replace H : (if t175 = true then ((crowd_Size.f (Go.bits .and .u64 a0 a1)).bind fun t176 => ((crowd_Size.f (Go.bits .andNot .u64 a0 a1)).bind fun t177 => ((crowd_Size.f a0).bind fun t178 => (if (wrap64 (t176 + t177)) = t178 then ((crowd_Within.f (Go.bits .and .u64 a0 a1) a0).bind fun t179 => (if t179 = true then ((crowd_Within.f (Go.bits .and .u64 a0 a1) a1).bind fun t180 => (if t180 = true then ((crowd_Within.f (Go.bits .andNot .u64 a0 a1) a0).bind fun t181 => (if t181 = true then ((crowd_Has.f a0 a2).bind fun t182 => ((crowd_Has.f (Go.bits .and .u64 a0 a1) a2).bind fun t183 => (if t183 = true then (if (t182 == true) = true then ((crowd_Within.f a0 a1).bind fun t184 => (some (t184 == ((Go.bits .andNot .u64 a0 a1) == 0)))) else (none)) else ((crowd_Has.f (Go.bits .andNot .u64 a0 a1) a2).bind fun t185 => (if (t182 == t185) = true then ((crowd_Within.f a0 a1).bind fun t186 => (some (t186 == ((Go.bits .andNot .u64 a0 a1) == 0)))) else (none)))))) else (none))) else (none))) else (none))) else (none))))) else (none)) = some r := H
  have A4 := Aside0.mk A40
  clear A40
  by_cases c5 : t175 = true
  · subst c5
    have H1 : ((crowd_Size.f (Go.bits .and .u64 a0 a1)).bind fun t176 => ((crowd_Size.f (Go.bits .andNot .u64 a0 a1)).bind fun t177 => ((crowd_Size.f a0).bind fun t178 => (if (wrap64 (t176 + t177)) = t178 then ((crowd_Within.f (Go.bits .and .u64 a0 a1) a0).bind fun t179 => (if t179 = true then ((crowd_Within.f (Go.bits .and .u64 a0 a1) a1).bind fun t180 => (if t180 = true then ((crowd_Within.f (Go.bits .andNot .u64 a0 a1) a0).bind fun t181 => (if t181 = true then ((crowd_Has.f a0 a2).bind fun t182 => ((crowd_Has.f (Go.bits .and .u64 a0 a1) a2).bind fun t183 => (if t183 = true then (if (t182 == true) = true then ((crowd_Within.f a0 a1).bind fun t184 => (some (t184 == ((Go.bits .andNot .u64 a0 a1) == 0)))) else (none)) else ((crowd_Has.f (Go.bits .andNot .u64 a0 a1) a2).bind fun t185 => (if (t182 == t185) = true then ((crowd_Within.f a0 a1).bind fun t186 => (some (t186 == ((Go.bits .andNot .u64 a0 a1) == 0)))) else (none)))))) else (none))) else (none))) else (none))) else (none))))) = some r := by rw [if_pos rfl] at H; exact H
    clear H
    have H := H1
    clear H1
    replace H := Option.bind_eq_some_iff.mp H
    obtain ⟨t176, A60, H⟩ := H
    replace H : ((crowd_Size.f (Go.bits .andNot .u64 a0 a1)).bind fun t177 => ((crowd_Size.f a0).bind fun t178 => (if (wrap64 (t176 + t177)) = t178 then ((crowd_Within.f (Go.bits .and .u64 a0 a1) a0).bind fun t179 => (if t179 = true then ((crowd_Within.f (Go.bits .and .u64 a0 a1) a1).bind fun t180 => (if t180 = true then ((crowd_Within.f (Go.bits .andNot .u64 a0 a1) a0).bind fun t181 => (if t181 = true then ((crowd_Has.f a0 a2).bind fun t182 => ((crowd_Has.f (Go.bits .and .u64 a0 a1) a2).bind fun t183 => (if t183 = true then (if (t182 == true) = true then ((crowd_Within.f a0 a1).bind fun t184 => (some (t184 == ((Go.bits .andNot .u64 a0 a1) == 0)))) else (none)) else ((crowd_Has.f (Go.bits .andNot .u64 a0 a1) a2).bind fun t185 => (if (t182 == t185) = true then ((crowd_Within.f a0 a1).bind fun t186 => (some (t186 == ((Go.bits .andNot .u64 a0 a1) == 0)))) else (none)))))) else (none))) else (none))) else (none))) else (none)))) = some r := H
    have A6 := Aside0.mk A60
    clear A60
    replace H := Option.bind_eq_some_iff.mp H
    obtain ⟨t177, A70, H⟩ := H
    replace H : ((crowd_Size.f a0).bind fun t178 => (if (wrap64 (t176 + t177)) = t178 then ((crowd_Within.f (Go.bits .and .u64 a0 a1) a0).bind fun t179 => (if t179 = true then ((crowd_Within.f (Go.bits .and .u64 a0 a1) a1).bind fun t180 => (if t180 = true then ((crowd_Within.f (Go.bits .andNot .u64 a0 a1) a0).bind fun t181 => (if t181 = true then ((crowd_Has.f a0 a2).bind fun t182 => ((crowd_Has.f (Go.bits .and .u64 a0 a1) a2).bind fun t183 => (if t183 = true then (if (t182 == true) = true then ((crowd_Within.f a0 a1).bind fun t184 => (some (t184 == ((Go.bits .andNot .u64 a0 a1) == 0)))) else (none)) else ((crowd_Has.f (Go.bits .andNot .u64 a0 a1) a2).bind fun t185 => (if (t182 == t185) = true then ((crowd_Within.f a0 a1).bind fun t186 => (some (t186 == ((Go.bits .andNot .u64 a0 a1) == 0)))) else (none)))))) else (none))) else (none))) else (none))) else (none))) = some r := H
    have A7 := Aside0.mk A70
    clear A70
    replace H := Option.bind_eq_some_iff.mp H
    obtain ⟨t178, A80, H⟩ := H
    replace H : (if (wrap64 (t176 + t177)) = t178 then ((crowd_Within.f (Go.bits .and .u64 a0 a1) a0).bind fun t179 => (if t179 = true then ((crowd_Within.f (Go.bits .and .u64 a0 a1) a1).bind fun t180 => (if t180 = true then ((crowd_Within.f (Go.bits .andNot .u64 a0 a1) a0).bind fun t181 => (if t181 = true then ((crowd_Has.f a0 a2).bind fun t182 => ((crowd_Has.f (Go.bits .and .u64 a0 a1) a2).bind fun t183 => (if t183 = true then (if (t182 == true) = true then ((crowd_Within.f a0 a1).bind fun t184 => (some (t184 == ((Go.bits .andNot .u64 a0 a1) == 0)))) else (none)) else ((crowd_Has.f (Go.bits .andNot .u64 a0 a1) a2).bind fun t185 => (if (t182 == t185) = true then ((crowd_Within.f a0 a1).bind fun t186 => (some (t186 == ((Go.bits .andNot .u64 a0 a1) == 0)))) else (none)))))) else (none))) else (none))) else (none))) else (none)) = some r := H
    have A8 := Aside0.mk A80
    clear A80
    by_cases c9 : (wrap64 (t176 + t177)) = t178
    · rw [if_pos c9] at H
      have c9b0 : ((wrap64 (t176 + t177)) == t178) = true := beq_iff_eq.mpr c9
      have c9b1 : ((wrap64 (t176 + t177)) != t178) = false := bne_eq_false_iff_eq.mpr c9
      clear c9
      replace H := Option.bind_eq_some_iff.mp H
      obtain ⟨t179, A100, H⟩ := H
      replace H : (if t179 = true then ((crowd_Within.f (Go.bits .and .u64 a0 a1) a1).bind fun t180 => (if t180 = true then ((crowd_Within.f (Go.bits .andNot .u64 a0 a1) a0).bind fun t181 => (if t181 = true then ((crowd_Has.f a0 a2).bind fun t182 => ((crowd_Has.f (Go.bits .and .u64 a0 a1) a2).bind fun t183 => (if t183 = true then (if (t182 == true) = true then ((crowd_Within.f a0 a1).bind fun t184 => (some (t184 == ((Go.bits .andNot .u64 a0 a1) == 0)))) else (none)) else ((crowd_Has.f (Go.bits .andNot .u64 a0 a1) a2).bind fun t185 => (if (t182 == t185) = true then ((crowd_Within.f a0 a1).bind fun t186 => (some (t186 == ((Go.bits .andNot .u64 a0 a1) == 0)))) else (none)))))) else (none))) else (none))) else (none)) = some r := H
      have A10 := Aside0.mk A100
      clear A100
      by_cases c11 : t179 = true
      · subst c11
        have H1 : ((crowd_Within.f (Go.bits .and .u64 a0 a1) a1).bind fun t180 => (if t180 = true then ((crowd_Within.f (Go.bits .andNot .u64 a0 a1) a0).bind fun t181 => (if t181 = true then ((crowd_Has.f a0 a2).bind fun t182 => ((crowd_Has.f (Go.bits .and .u64 a0 a1) a2).bind fun t183 => (if t183 = true then (if (t182 == true) = true then ((crowd_Within.f a0 a1).bind fun t184 => (some (t184 == ((Go.bits .andNot .u64 a0 a1) == 0)))) else (none)) else ((crowd_Has.f (Go.bits .andNot .u64 a0 a1) a2).bind fun t185 => (if (t182 == t185) = true then ((crowd_Within.f a0 a1).bind fun t186 => (some (t186 == ((Go.bits .andNot .u64 a0 a1) == 0)))) else (none)))))) else (none))) else (none))) = some r := by rw [if_pos rfl] at H; exact H
        clear H
        have H := H1
        clear H1
        replace H := Option.bind_eq_some_iff.mp H
        obtain ⟨t180, A120, H⟩ := H
        replace H : (if t180 = true then ((crowd_Within.f (Go.bits .andNot .u64 a0 a1) a0).bind fun t181 => (if t181 = true then ((crowd_Has.f a0 a2).bind fun t182 => ((crowd_Has.f (Go.bits .and .u64 a0 a1) a2).bind fun t183 => (if t183 = true then (if (t182 == true) = true then ((crowd_Within.f a0 a1).bind fun t184 => (some (t184 == ((Go.bits .andNot .u64 a0 a1) == 0)))) else (none)) else ((crowd_Has.f (Go.bits .andNot .u64 a0 a1) a2).bind fun t185 => (if (t182 == t185) = true then ((crowd_Within.f a0 a1).bind fun t186 => (some (t186 == ((Go.bits .andNot .u64 a0 a1) == 0)))) else (none)))))) else (none))) else (none)) = some r := H
        have A12 := Aside0.mk A120
        clear A120
        by_cases c13 : t180 = true
        · subst c13
          have H1 : ((crowd_Within.f (Go.bits .andNot .u64 a0 a1) a0).bind fun t181 => (if t181 = true then ((crowd_Has.f a0 a2).bind fun t182 => ((crowd_Has.f (Go.bits .and .u64 a0 a1) a2).bind fun t183 => (if t183 = true then (if (t182 == true) = true then ((crowd_Within.f a0 a1).bind fun t184 => (some (t184 == ((Go.bits .andNot .u64 a0 a1) == 0)))) else (none)) else ((crowd_Has.f (Go.bits .andNot .u64 a0 a1) a2).bind fun t185 => (if (t182 == t185) = true then ((crowd_Within.f a0 a1).bind fun t186 => (some (t186 == ((Go.bits .andNot .u64 a0 a1) == 0)))) else (none)))))) else (none))) = some r := by rw [if_pos rfl] at H; exact H
          clear H
          have H := H1
          clear H1
          replace H := Option.bind_eq_some_iff.mp H
          obtain ⟨t181, A140, H⟩ := H
          replace H : (if t181 = true then ((crowd_Has.f a0 a2).bind fun t182 => ((crowd_Has.f (Go.bits .and .u64 a0 a1) a2).bind fun t183 => (if t183 = true then (if (t182 == true) = true then ((crowd_Within.f a0 a1).bind fun t184 => (some (t184 == ((Go.bits .andNot .u64 a0 a1) == 0)))) else (none)) else ((crowd_Has.f (Go.bits .andNot .u64 a0 a1) a2).bind fun t185 => (if (t182 == t185) = true then ((crowd_Within.f a0 a1).bind fun t186 => (some (t186 == ((Go.bits .andNot .u64 a0 a1) == 0)))) else (none)))))) else (none)) = some r := H
          have A14 := Aside0.mk A140
          clear A140
          by_cases c15 : t181 = true
          · subst c15
            have H1 : ((crowd_Has.f a0 a2).bind fun t182 => ((crowd_Has.f (Go.bits .and .u64 a0 a1) a2).bind fun t183 => (if t183 = true then (if (t182 == true) = true then ((crowd_Within.f a0 a1).bind fun t184 => (some (t184 == ((Go.bits .andNot .u64 a0 a1) == 0)))) else (none)) else ((crowd_Has.f (Go.bits .andNot .u64 a0 a1) a2).bind fun t185 => (if (t182 == t185) = true then ((crowd_Within.f a0 a1).bind fun t186 => (some (t186 == ((Go.bits .andNot .u64 a0 a1) == 0)))) else (none)))))) = some r := by rw [if_pos rfl] at H; exact H
            clear H
            have H := H1
            clear H1
            replace H := Option.bind_eq_some_iff.mp H
            obtain ⟨t182, A160, H⟩ := H
            replace H : ((crowd_Has.f (Go.bits .and .u64 a0 a1) a2).bind fun t183 => (if t183 = true then (if (t182 == true) = true then ((crowd_Within.f a0 a1).bind fun t184 => (some (t184 == ((Go.bits .andNot .u64 a0 a1) == 0)))) else (none)) else ((crowd_Has.f (Go.bits .andNot .u64 a0 a1) a2).bind fun t185 => (if (t182 == t185) = true then ((crowd_Within.f a0 a1).bind fun t186 => (some (t186 == ((Go.bits .andNot .u64 a0 a1) == 0)))) else (none))))) = some r := H
            have A16 := Aside0.mk A160
            clear A160
            replace H := Option.bind_eq_some_iff.mp H
            obtain ⟨t183, A170, H⟩ := H
            replace H : (if t183 = true then (if (t182 == true) = true then ((crowd_Within.f a0 a1).bind fun t184 => (some (t184 == ((Go.bits .andNot .u64 a0 a1) == 0)))) else (none)) else ((crowd_Has.f (Go.bits .andNot .u64 a0 a1) a2).bind fun t185 => (if (t182 == t185) = true then ((crowd_Within.f a0 a1).bind fun t186 => (some (t186 == ((Go.bits .andNot .u64 a0 a1) == 0)))) else (none)))) = some r := H
            have A17 := Aside0.mk A170
            clear A170
            by_cases c18 : t183 = true
            · subst c18
              have H1 : (if (t182 == true) = true then ((crowd_Within.f a0 a1).bind fun t184 => (some (t184 == ((Go.bits .andNot .u64 a0 a1) == 0)))) else (none)) = some r := by rw [if_pos rfl] at H; exact H
              clear H
              have H := H1
              clear H1
              by_cases c19 : (t182 == true) = true
              · rw [if_pos c19] at H
                have c19b0 : (t182 == true) = true := c19
                (try (have c19b1 : decide (t182 = true) = true := by first | decide | simpa using c19))
                (try (have c19b2 : (t182 == true) = true := by first | decide | simpa using c19))
                clear c19
                replace H := Option.bind_eq_some_iff.mp H
                obtain ⟨t184, A200, H⟩ := H
                replace H : (some (t184 == ((Go.bits .andNot .u64 a0 a1) == 0))) = some r := H
                have A20 := Aside0.mk A200
                clear A200
                obtain rfl := Option.some.inj H
                go_enter Tryd.func7, Tryd.ntmps7
                go_wp2_with (first | ((with_reducible refine gate_callee (f := 9) rfl ?_); refine goesL_ (some 15) rfl rfl Tryd.func9 (by kernel_rfl) rfl #[] rfl (by (try simp only [List.map_toArray, List.map_cons, List.map_nil]); first | done | rfl | (simp only [List.length_drop, List.length_take]; rfl)) ?_; (with_reducible refine (offertorylaw18_awake.calls k  true _ (HTab.out.step (by repeat (first | (with_reducible first | exact HB.out | apply below_alloc | apply pw_below_drewN | apply below_drew1) | exact HB.out))) A4.out).mono ?_); rintro e w21 ⟨rfl, hb⟩; refine ⟨_, rfl, ?_⟩; have n0_ := Aside0.mk (below_step (by repeat (first | (with_reducible first | exact HB.out | apply below_alloc | apply pw_below_drewN | apply below_drew1) | exact HB.out)) hb); clear HB; have HB := n0_; clear n0_; (try clear hb); (try clear hb2); (try clear hk); (try clear hi)) | (go_at_call 10; (with_reducible refine (crowd_Size.calls (Go.bits .and .u64 a0 a1) t176 _ A6.out).mono ?_); rintro e w' ⟨rfl, ⟨nd, rfl⟩⟩) | (go_at_call 10; (with_reducible refine (crowd_Size.calls (Go.bits .andNot .u64 a0 a1) t177 _ A7.out).mono ?_); rintro e w' ⟨rfl, ⟨nd, rfl⟩⟩) | (go_at_call 10; (with_reducible refine (crowd_Size.calls a0 t178 _ A8.out).mono ?_); rintro e w' ⟨rfl, ⟨nd, rfl⟩⟩) | (go_at_call 15; (with_reducible refine (crowd_Within.calls (Go.bits .and .u64 a0 a1) a0 true _ A10.out).mono ?_); rintro e w' ⟨rfl, ⟨nd, rfl⟩⟩) | (go_at_call 15; (with_reducible refine (crowd_Within.calls (Go.bits .and .u64 a0 a1) a1 true _ A12.out).mono ?_); rintro e w' ⟨rfl, ⟨nd, rfl⟩⟩) | (go_at_call 15; (with_reducible refine (crowd_Within.calls (Go.bits .andNot .u64 a0 a1) a0 true _ A14.out).mono ?_); rintro e w' ⟨rfl, ⟨nd, rfl⟩⟩) | (go_at_call 11; (with_reducible refine (crowd_Has.calls a0 a2 t182 _ A16.out).mono ?_); rintro e w' ⟨rfl, ⟨nd, rfl⟩⟩) | (go_at_call 11; (with_reducible refine (crowd_Has.calls (Go.bits .and .u64 a0 a1) a2 true _ A17.out).mono ?_); rintro e w' ⟨rfl, ⟨nd, rfl⟩⟩) | (go_at_call 15; (with_reducible refine (crowd_Within.calls a0 a1 t184 _ A20.out).mono ?_); rintro e w' ⟨rfl, ⟨nd, rfl⟩⟩))
                go_ret
                exact ⟨by first | rfl | (simp [errW_none, errW_some] <;> rfl) | (simp [*, errW_none, errW_some] <;> rfl), by repeat (first | (with_reducible first | exact HB.out | apply below_alloc | apply pw_below_drewN | apply below_drew1) | exact HB.out)⟩
              · rw [if_neg c19] at H
                exact absurd H (by simp)
            · replace c18 := Bool.eq_false_iff.mpr c18
              subst c18
              have H1 : ((crowd_Has.f (Go.bits .andNot .u64 a0 a1) a2).bind fun t185 => (if (t182 == t185) = true then ((crowd_Within.f a0 a1).bind fun t186 => (some (t186 == ((Go.bits .andNot .u64 a0 a1) == 0)))) else (none))) = some r := by rw [if_neg (show ¬ (false = true) by decide)] at H; exact H
              clear H
              have H := H1
              clear H1
              replace H := Option.bind_eq_some_iff.mp H
              obtain ⟨t185, A220, H⟩ := H
              replace H : (if (t182 == t185) = true then ((crowd_Within.f a0 a1).bind fun t186 => (some (t186 == ((Go.bits .andNot .u64 a0 a1) == 0)))) else (none)) = some r := H
              have A22 := Aside0.mk A220
              clear A220
              by_cases c23 : (t182 == t185) = true
              · rw [if_pos c23] at H
                have c23b0 : (t182 == t185) = true := c23
                (try (have c23b1 : decide (t182 = t185) = true := by first | decide | simpa using c23))
                (try (have c23b2 : (t182 == t185) = true := by first | decide | simpa using c23))
                clear c23
                replace H := Option.bind_eq_some_iff.mp H
                obtain ⟨t186, A240, H⟩ := H
                replace H : (some (t186 == ((Go.bits .andNot .u64 a0 a1) == 0))) = some r := H
                have A24 := Aside0.mk A240
                clear A240
                obtain rfl := Option.some.inj H
                go_enter Tryd.func7, Tryd.ntmps7
                go_wp2_with (first | ((with_reducible refine gate_callee (f := 9) rfl ?_); refine goesL_ (some 15) rfl rfl Tryd.func9 (by kernel_rfl) rfl #[] rfl (by (try simp only [List.map_toArray, List.map_cons, List.map_nil]); first | done | rfl | (simp only [List.length_drop, List.length_take]; rfl)) ?_; (with_reducible refine (offertorylaw18_awake.calls k  true _ (HTab.out.step (by repeat (first | (with_reducible first | exact HB.out | apply below_alloc | apply pw_below_drewN | apply below_drew1) | exact HB.out))) A4.out).mono ?_); rintro e w25 ⟨rfl, hb⟩; refine ⟨_, rfl, ?_⟩; have n0_ := Aside0.mk (below_step (by repeat (first | (with_reducible first | exact HB.out | apply below_alloc | apply pw_below_drewN | apply below_drew1) | exact HB.out)) hb); clear HB; have HB := n0_; clear n0_; (try clear hb); (try clear hb2); (try clear hk); (try clear hi)) | (go_at_call 10; (with_reducible refine (crowd_Size.calls (Go.bits .and .u64 a0 a1) t176 _ A6.out).mono ?_); rintro e w' ⟨rfl, ⟨nd, rfl⟩⟩) | (go_at_call 10; (with_reducible refine (crowd_Size.calls (Go.bits .andNot .u64 a0 a1) t177 _ A7.out).mono ?_); rintro e w' ⟨rfl, ⟨nd, rfl⟩⟩) | (go_at_call 10; (with_reducible refine (crowd_Size.calls a0 t178 _ A8.out).mono ?_); rintro e w' ⟨rfl, ⟨nd, rfl⟩⟩) | (go_at_call 15; (with_reducible refine (crowd_Within.calls (Go.bits .and .u64 a0 a1) a0 true _ A10.out).mono ?_); rintro e w' ⟨rfl, ⟨nd, rfl⟩⟩) | (go_at_call 15; (with_reducible refine (crowd_Within.calls (Go.bits .and .u64 a0 a1) a1 true _ A12.out).mono ?_); rintro e w' ⟨rfl, ⟨nd, rfl⟩⟩) | (go_at_call 15; (with_reducible refine (crowd_Within.calls (Go.bits .andNot .u64 a0 a1) a0 true _ A14.out).mono ?_); rintro e w' ⟨rfl, ⟨nd, rfl⟩⟩) | (go_at_call 11; (with_reducible refine (crowd_Has.calls a0 a2 t182 _ A16.out).mono ?_); rintro e w' ⟨rfl, ⟨nd, rfl⟩⟩) | (go_at_call 11; (with_reducible refine (crowd_Has.calls (Go.bits .and .u64 a0 a1) a2 false _ A17.out).mono ?_); rintro e w' ⟨rfl, ⟨nd, rfl⟩⟩) | (go_at_call 11; (with_reducible refine (crowd_Has.calls (Go.bits .andNot .u64 a0 a1) a2 t185 _ A22.out).mono ?_); rintro e w' ⟨rfl, ⟨nd, rfl⟩⟩) | (go_at_call 15; (with_reducible refine (crowd_Within.calls a0 a1 t186 _ A24.out).mono ?_); rintro e w' ⟨rfl, ⟨nd, rfl⟩⟩))
                go_ret
                exact ⟨by first | rfl | (simp [errW_none, errW_some] <;> rfl) | (simp [*, errW_none, errW_some] <;> rfl), by repeat (first | (with_reducible first | exact HB.out | apply below_alloc | apply pw_below_drewN | apply below_drew1) | exact HB.out)⟩
              · rw [if_neg c23] at H
                exact absurd H (by simp)
          · replace c15 := Bool.eq_false_iff.mpr c15
            subst c15
            have H1 : (none) = some r := by rw [if_neg (show ¬ (false = true) by decide)] at H; exact H
            clear H
            have H := H1
            clear H1
            exact absurd H (by simp)
        · replace c13 := Bool.eq_false_iff.mpr c13
          subst c13
          have H1 : (none) = some r := by rw [if_neg (show ¬ (false = true) by decide)] at H; exact H
          clear H
          have H := H1
          clear H1
          exact absurd H (by simp)
      · replace c11 := Bool.eq_false_iff.mpr c11
        subst c11
        have H1 : (none) = some r := by rw [if_neg (show ¬ (false = true) by decide)] at H; exact H
        clear H
        have H := H1
        clear H1
        exact absurd H (by simp)
    · rw [if_neg c9] at H
      exact absurd H (by simp)
  · replace c5 := Bool.eq_false_iff.mpr c5
    subst c5
    have H1 : (none) = some r := by rw [if_neg (show ¬ (false = true) by decide)] at H; exact H
    clear H
    have H := H1
    clear H1
    exact absurd H (by simp)

end Go.Proofs.YtegifiagobienaaDoor.PAll
