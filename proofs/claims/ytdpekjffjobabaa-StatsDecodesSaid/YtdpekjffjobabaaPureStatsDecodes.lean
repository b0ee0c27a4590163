/- StatsDecodes, the plain law. -/
import Derived.Test.YtdpekjffjobabaaMergeDecodes
namespace Go.Proofs.Ytdpekjffjobabaa.Pure
open Go.RowKit Go.Proofs.Ytdpekjffjobabaa.PAll Go.Proofs.Ytdpekjffjobabaa.Opn Go.Proofs.Ytdpekjffjobabaa.Base Go.Proofs.Ytdpekjffjobabaa.Plain Go.Proofs.YtdpekjffjobabaaW.PrintWords Go.Proofs.YtdpekjffjobabaaW.PrintLast Go.Proofs.YtdpekjffjobabaaW.PrintMore
set_option linter.unusedVariables false
set_option linter.unusedSimpArgs false
theorem decV_len (lo : Int) (bins : List Int) (cnt : Int) (places squares : List Int) : (decV lo bins cnt places squares).1.length ≤ bins.length := by
  unfold decV
  split
  · split
    · exact Nat.zero_le _
    · split
      · exact Nat.zero_le _
      · exact Nat.le_refl _
  · exact Nat.zero_le _
theorem statsDecodes_bad (e f lo hi most : Int) (es v : List Int) (hf : ¬ f = 0) (he : e = f) : Ev (fun k => offertorylaw13_StatsDecodes.j1 k v e f lo hi most es [] 0 0 0 0 0 false) true := by
  refine Ev.succ ?_
  simp only [offertorylaw13_StatsDecodes.j1]
  exact Ev.neg hf (Ev.bind awake_f (Ev.pos (by first | rfl | trivial) (Ev.pos he (Ev.bind (refSame_f _ _ _ _ _ _ _ _ _ _ _ _ _ _ (Nat.zero_le _)) (Ev.some_ (sameB_self _ _ _ _ _ _ _))))))
theorem statsDecodes_good (lo hi most n : Int) (es v : List Int) (hs : soundE lo hi most es = 0) (hn : IsBits lo hi n) (hl : v.length = es.length + 2 + 3 * n.toNat) (hr : ∀ x ∈ v, 0 ≤ x ∧ x ≤ 4294967295) (x : List Int × Int × Int × Int × Int × Int × Bool × Int) (hx : decV lo (v.take (es.length + 1)) (v.getD (es.length + 1) 0) ((v.drop (es.length + 2)).take n.toNat) (v.drop (es.length + 2 + n.toNat)) = x) :
    Ev (fun k => offertorylaw13_StatsDecodes.j1 k v x.2.2.2.2.2.2.2 0 lo hi most es x.1 x.2.1 x.2.2.1 x.2.2.2.1 x.2.2.2.2.1 x.2.2.2.2.2.1 x.2.2.2.2.2.2.1) true := by
  obtain ⟨a1, a2, a3, a4, a5, a6, a7, a8⟩ := sound0 hs
  have hlen : x.1.length ≤ 9223372036854775806 := by
    have := decV_len lo (v.take (es.length + 1)) (v.getD (es.length + 1) 0) ((v.drop (es.length + 2)).take n.toNat) (v.drop (es.length + 2 + n.toNat))
    rw [hx, List.length_take] at this
    omega
  have hd := refDecode_f lo hi most n es v hs hn hl hr
  rw [hx] at hd
  refine Ev.succ ?_
  simp only [offertorylaw13_StatsDecodes.j1]
  exact Ev.pos (by first | rfl | trivial) (Ev.bind hd (Ev.bind awake_f (Ev.pos (by first | rfl | trivial) (Ev.pos rfl (Ev.bind (refSame_f _ _ _ _ _ _ _ _ _ _ _ _ _ _ hlen) (Ev.some_ (sameB_self _ _ _ _ _ _ _)))))))
theorem StatsDecodes (a0_0 : Int) (a0_1 : Int) (a0_2 : Int) (l0_3 : List Int) (l1 : List Int) (w0_0 : (Lit.int .i64 a0_0).wf = true) (w0_1 : (Lit.int .i64 a0_1).wf = true) (w0_2 : (Lit.int .i64 a0_2).wf = true) (w0_3 : (SliceOk 8 (fun n => (Lit.int .i64 n).wf = true)) l0_3) (ok1 : (SliceOk 4 (fun n => (Lit.int .u32 n).wf = true)) l1) : ∃ k, offertorylaw13_StatsDecodes.f k a0_0 a0_1 a0_2 l0_3 l1 = some true := by
  have h1 := i64_of w0_0
  have h2 := i64_of w0_1
  have hle := w0_3.1
  have hlv := ok1.1
  have hr : ∀ x ∈ l1, 0 ≤ x ∧ x ≤ 4294967295 := fun x hx => u32_of (ok1.2.2 x hx)
  refine Ev.rounds ?_
  unfold offertorylaw13_StatsDecodes.f
  by_cases h : soundE a0_0 a0_1 a0_2 l0_3 = 0
  · obtain ⟨a1, a2, a3, a4, a5, a6, a7, a8⟩ := sound0 h
    obtain ⟨n, hn⟩ := isBits_exists a3 a4
    have h01 := hn.1
    have h40 := hn.le40 a4
    by_cases hl : l1.length = l0_3.length + 2 + 3 * n.toNat
    · have hd := decode_f a0_0 a0_1 a0_2 n l0_3 l1 h hn hl hr
      refine Ev.bind hd (Ev.bind (refSound_f _ _ _ _ h1 h2) (Ev.pos h (Ev.bind (refLen_d _ _ _ n _ hn a3 a4 a8) ?_)))
      have e : ((l1.length : Int) != (l0_3.length : Int) + 2 + 3 * n) = false := bne_eq_false_iff_eq.2 (by omega)
      rw [e, h]
      refine Ev.succ ?_
      simp only [offertorylaw13_StatsDecodes.j0]
      exact Ev.neg (by decide) (statsDecodes_good a0_0 a0_1 a0_2 n l0_3 l1 h hn hl hr _ rfl)
    · have hd := decode_no a0_0 a0_1 a0_2 l0_3 l1 (by omega) h1 h2 n (fun _ => hn) (fun _ => by omega)
      rw [if_pos h] at hd
      refine Ev.bind hd (Ev.bind (refSound_f _ _ _ _ h1 h2) (Ev.pos h (Ev.bind (refLen_d _ _ _ n _ hn a3 a4 a8) ?_)))
      have e : ((l1.length : Int) != (l0_3.length : Int) + 2 + 3 * n) = true := bne_iff_ne.2 (by omega)
      rw [e]
      refine Ev.succ ?_
      simp only [offertorylaw13_StatsDecodes.j0]
      exact Ev.pos (by first | rfl | trivial) (statsDecodes_bad 1 1 _ _ _ _ _ (by decide) rfl)
  · have hd := decode_no a0_0 a0_1 a0_2 l0_3 l1 (by omega) h1 h2 0 (fun x => absurd x h) (fun x => absurd x h)
    rw [if_neg h] at hd
    refine Ev.bind hd (Ev.bind (refSound_f _ _ _ _ h1 h2) (Ev.neg h ?_))
    refine Ev.succ ?_
    simp only [offertorylaw13_StatsDecodes.j0]
    exact Ev.neg (by decide) (statsDecodes_bad _ _ _ _ _ _ _ h rfl)
end Go.Proofs.Ytdpekjffjobabaa.Pure
