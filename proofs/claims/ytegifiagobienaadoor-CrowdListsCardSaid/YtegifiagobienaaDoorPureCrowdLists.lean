/- CrowdLists, without the program. -/
import Derived.Test.YtegifiagobienaaDoorPlainCrowdSet
namespace Go.Proofs.YtegifiagobienaaDoor.Pure
open Go.RowKit Go.Proofs.YtegifiagobienaaDoor.PAll Go.Proofs.YtegifiagobienaaDoor.Opn Go.Proofs.YtegifiagobienaaDoor.Base Go.Proofs.YtegifiagobienaaDoor.Plain Go.Proofs.YtegifiagobienaaDoorW.PrintWords Go.Proofs.YtegifiagobienaaDoorW.PrintLast Go.Proofs.YtegifiagobienaaDoorW.PrintMore
set_option linter.unusedVariables false

theorem lists_l0 (x : Nat) (hx : x < 18446744073709551616) : ∀ (d i : Nat) (acc : List Int), i + d = 64 → acc.length ≤ i → acc ++ lst d i (x / 2 ^ i) = L x → Ev (fun k => offertorylaw18_CrowdLists.l0 k (x : Int) acc (i : Int)) true := by
  intro d
  induction d with
  | zero =>
    intro i acc hi hl he
    have hL := L_len x
    rw [show lst 0 i (x / 2 ^ i) = [] from rfl, List.append_nil] at he
    subst he
    refine Ev.succ ?_
    simp only [offertorylaw18_CrowdLists.l0]
    refine Ev.neg (by omega) ?_
    refine Ev.bind awake_f (Ev.pos rfl ?_)
    refine Ev.bind (list_f x hx) (Ev.bind (ints_f (L x) hL) (Ev.pos rfl ?_))
    refine Ev.bind0 (size_f x hx) (Ev.some_ ?_)
    simp
  | succ d ih =>
    intro i acc hi hl he
    refine Ev.succ ?_
    simp only [offertorylaw18_CrowdLists.l0]
    rw [wu64 (by omega), shr_eq (by omega) (by omega), Int.toNat_natCast, pow_nat]
    have e1 : ((x : Int) / ((2 ^ i : Nat) : Int)) = ((x / 2 ^ i : Nat) : Int) := by rw [Int.natCast_ediv]
    have hle : x / 2 ^ i ≤ x := Nat.div_le_self _ _
    have e2 : Go.bits .and .u64 ((x / 2 ^ i : Nat) : Int) 1 = ((x / 2 ^ i % 2 : Nat) : Int) := by
      have := bits_and_u64_nat (x / 2 ^ i) 1 (by omega) (by omega)
      rw [Nat.and_one_is_mod] at this
      exact this
    rw [e1, e2]
    have e3 : x / 2 ^ (i + 1) = x / 2 ^ i / 2 := by rw [Nat.div_div_eq_div_mul, Nat.pow_succ]
    refine Ev.pos (by omega) (Ev.pos (by omega) ?_)
    unfold lst at he
    refine Ev.if_ (fun h => ?_) (fun h => ?_)
    · rw [if_pos (by omega)] at he
      refine Ev.pos (by omega) ?_
      rw [w64 (by omega)]
      exact ih (i + 1) (acc ++ [(i : Int) + 1]) (by omega) (by simp; omega) (by rw [e3]; simpa using he)
    · rw [if_neg (by omega)] at he
      rw [w64 (by omega)]
      exact ih (i + 1) acc (by omega) (by omega) (by rw [e3]; exact he)
theorem CrowdLists (a0 : Int) (w0 : (Lit.int .u64 a0).wf = true) : ∃ k, offertorylaw18_CrowdLists.f k a0 = some true := by
  have b0 := u64_of w0
  obtain ⟨x, rfl⟩ := Int.eq_ofNat_of_zero_le b0.1
  refine Ev.rounds (g := fun k => offertorylaw18_CrowdLists.f k x) ?_
  unfold offertorylaw18_CrowdLists.f
  exact lists_l0 x (by omega) 64 0 [] (by omega) (by simp) (by rw [Nat.pow_zero, Nat.div_one]; rfl)
end Go.Proofs.YtegifiagobienaaDoor.Pure
