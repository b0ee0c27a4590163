/- Numbers of eight digits, and wide ones. -/
import Derived.Test.YtaldennkcafceaaPAllx2
import Derived.Test.YtaldennkcafceaaPAllx3
import Derived.Test.YtaldennkcafceaaPAllx4
import Derived.Test.YtaldennkcafceaaPAllx5

import Derived.Test.YtaldennkcafceaaBase
namespace Go.Proofs.Ytaldennkcafceaa.Plain
open Go.RowKit Go.Proofs.Ytaldennkcafceaa.PAll Go.Proofs.Ytaldennkcafceaa.Opn Go.Proofs.Ytaldennkcafceaa.Base Go.Proofs.YtaldennkcafceaaW.PrintWords Go.Proofs.YtaldennkcafceaaW.PrintLast Go.Proofs.YtaldennkcafceaaW.PrintMore
set_option linter.unusedVariables false
set_option linter.unusedSimpArgs false
set_option linter.unusedSimpArgs false

/-- The number of a wide one; a number's wide one. -/
def wv (hi lo : Int) : Int := lo + hi * 18446744073709551616
def wd (v : Int) : Int × Int := (v / 18446744073709551616 % 18446744073709551616, v % 18446744073709551616)
def W64 (x : Int) : Prop := 0 ≤ x ∧ x ≤ 18446744073709551615
theorem wd_in (v : Int) : W64 (wd v).1 ∧ W64 (wd v).2 := by simp only [wd, W64]; omega
theorem wv_wd (v : Int) : wv (wd v).1 (wd v).2 = v % 340282366920938463463374607431768211456 := by simp only [wv, wd]; omega
theorem wd_wv {hi lo : Int} (h : W64 hi) (l : W64 lo) : wd (wv hi lo) = (hi, lo) := by
  unfold W64 at h l
  simp only [wv, wd, Prod.mk.injEq]; omega
theorem wd_mod {v u : Int} (h : v % 340282366920938463463374607431768211456 = u % 340282366920938463463374607431768211456) : wd v = wd u := by
  simp only [wd, Prod.mk.injEq]; omega
theorem bD_in (v : Int) (i : Nat) : 0 ≤ bigD v i ∧ bigD v i ≤ 65535 := by unfold bigD; omega
theorem dig_digs (v : Int) : Dig (bigD v 0) (bigD v 1) (bigD v 2) (bigD v 3) (bigD v 4) (bigD v 5) (bigD v 6) (bigD v 7) :=
  ⟨bD_in v 0, bD_in v 1, bD_in v 2, bD_in v 3, bD_in v 4, bD_in v 5, bD_in v 6, bD_in v 7⟩
theorem bV_digs (v : Int) : bigV (bigD v 0) (bigD v 1) (bigD v 2) (bigD v 3) (bigD v 4) (bigD v 5) (bigD v 6) (bigD v 7) = v % 340282366920938463463374607431768211456 := by
  simp only [bigV, bigD]
  omega
theorem digs_eq {v w : Int} (h : v % 340282366920938463463374607431768211456 = w % 340282366920938463463374607431768211456) : digs v = digs w := by
  have key : ∀ x : Int, digs x = digs (x % 340282366920938463463374607431768211456) := by
    intro x
    simp only [digs, bigD, Prod.mk.injEq]
    omega
  rw [key v, key w, h]
theorem of_f {hi lo : Int} (h : W64 hi) (l : W64 lo) : offertoryref09_Of.f hi lo = some (digs (wv hi lo)) := by
  unfold offertoryref09_Of.f
  rw [if_pos ⟨h, l⟩]
  rfl
end Go.Proofs.Ytaldennkcafceaa.Plain
