-- Written by a program of this session (a changed scratch copy of the print tool): an own text, not the kit's print.
import Derived.Test.YtehmkffmnaabaaaPWideSumsx0
import Derived.Test.YtehmkffmnaabaaaPWideSumsx1
import Derived.Test.YtehmkffmnaabaaaPWideSumsx2
namespace Go.Proofs.Ytehmkffmnaabaaa.PWideSums
open Go.RowKit Go.Proofs.YtehmkffmnaabaaaW.PrintWords Go.Proofs.YtehmkffmnaabaaaW.PrintLast Go.Proofs.YtehmkffmnaabaaaW.PrintMore
attribute [local go_sem] run_add64 run_sub64 max2_int min2_int max_two min_two max_three min_three max_four min_four   -- for this text's walks alone
set_option linter.unusedVariables false
set_option linter.unusedSimpArgs false

attribute [local go_sem high] eqA26
/-! ### octroilaw01_WideSums: function 3 -/
mutual
def octroilaw01_WideSums.l0 : Nat → List (S28) → Int → Option (Bool)
  | 0, _, _ => none
  | k + 1, x0, x3 => if x3 < (x0.length : Int) then (if 0 ≤ x3 then ((wide_Add.f ((rd_T28 x0 x3).f0.f0) ((rd_T28 x0 x3).f0.f1) ((rd_T28 x0 x3).f1.f0) ((rd_T28 x0 x3).f1.f1)).bind fun bt264 => ((octroiref01_Add.f ((rd_T28 x0 x3).f0.f0) ((rd_T28 x0 x3).f0.f1) ((rd_T28 x0 x3).f1.f0) ((rd_T28 x0 x3).f1.f1)).bind fun bt268 => (if (!(bt264.1 == bt268.1) || (!(bt264.2.1 == bt268.2.1))) = true then (octroilaw01_WideSums.j1 k x0 x3 true ((rd_T28 x0 x3).f0.f0) ((rd_T28 x0 x3).f0.f1) ((rd_T28 x0 x3).f1.f0) ((rd_T28 x0 x3).f1.f1)) else (octroilaw01_WideSums.j1 k x0 x3 (bt264.2.2 != bt268.2.2) ((rd_T28 x0 x3).f0.f0) ((rd_T28 x0 x3).f0.f1) ((rd_T28 x0 x3).f1.f0) ((rd_T28 x0 x3).f1.f1))))) else (none)) else (some true)
def octroilaw01_WideSums.j1 : Nat → List (S28) → Int → Bool → Int → Int → Int → Int → Option (Bool)
  | 0, _, _, _, _, _, _, _ => none
  | k + 1, x0, x3, x47, x262000, x262001, x264000, x264001 => if x47 = true then (some false) else ((wide_Sub.f x262000 x262001 x264000 x264001).bind fun bt272 => ((octroiref01_Sub.f x262000 x262001 x264000 x264001).bind fun bt275 => (if (!(bt272.1 == bt275.1) || (!(bt272.2.1 == bt275.2.1))) = true then (octroilaw01_WideSums.j2 k x0 x3 true x262000 x262001) else (octroilaw01_WideSums.j2 k x0 x3 (bt272.2.2 != bt275.2.2) x262000 x262001))))
def octroilaw01_WideSums.j2 : Nat → List (S28) → Int → Bool → Int → Int → Option (Bool)
  | 0, _, _, _, _, _ => none
  | k + 1, x0, x3, x67, x262000, x262001 => if x67 = true then (some false) else ((wide_Neg.f x262000 x262001).bind fun bt278 => ((octroiref01_Neg.f x262000 x262001).bind fun bt281 => (if (!(bt278.1 == bt281.1) || (!(bt278.2.1 == bt281.2.1))) = true then (some false) else (if bt278.2.2 = bt281.2.2 then (octroilaw01_WideSums.l0 k x0 (wrap64 (x3 + 1))) else (some false)))))
end
def octroilaw01_WideSums.f (k : Nat) (l0 : List (S28)) : Option (Bool) := (octroilaw01_awake.f).bind fun t259 => (if t259 = true then (octroilaw01_WideSums.l0 k l0 0) else (some false))
theorem octroilaw01_WideSums.mono_l : ∀ k, (∀ y0 y1, LeO (octroilaw01_WideSums.l0 k y0 y1) (octroilaw01_WideSums.l0 (k + 1) y0 y1)) ∧ (∀ y0 y1 y2 y3 y4 y5 y6, LeO (octroilaw01_WideSums.j1 k y0 y1 y2 y3 y4 y5 y6) (octroilaw01_WideSums.j1 (k + 1) y0 y1 y2 y3 y4 y5 y6)) ∧ (∀ y0 y1 y2 y3 y4, LeO (octroilaw01_WideSums.j2 k y0 y1 y2 y3 y4) (octroilaw01_WideSums.j2 (k + 1) y0 y1 y2 y3 y4))
  | 0 => ⟨fun _ _ r h => by simp [octroilaw01_WideSums.l0] at h, fun _ _ _ _ _ _ _ r h => by simp [octroilaw01_WideSums.j1] at h, fun _ _ _ _ _ r h => by simp [octroilaw01_WideSums.j2] at h⟩
  | k + 1 => by
    obtain ⟨ih0, ih1, ih2⟩ := octroilaw01_WideSums.mono_l k
    refine ⟨?_, ?_, ?_⟩
    · intro y0 y1
      unfold octroilaw01_WideSums.l0
      repeat' first
      | (with_reducible exact ih0 _ _)
      | (with_reducible exact ih1 _ _ _ _ _ _ _)
      | (with_reducible exact ih2 _ _ _ _ _)
      | (with_reducible exact LeO.refl _)
      | (with_reducible exact LeO.none _)
      | (with_reducible refine LeO.ite ?_ ?_)
      | (with_reducible refine LeO.bind ?_ (fun _ => ?_))
      | exact ih0 _ _
      | exact ih1 _ _ _ _ _ _ _
      | exact ih2 _ _ _ _ _
      | exact LeO.none _
      | refine LeO.ite ?_ ?_
      | refine LeO.bind ?_ (fun _ => ?_)
    · intro y0 y1 y2 y3 y4 y5 y6
      unfold octroilaw01_WideSums.j1
      repeat' first
      | (with_reducible exact ih0 _ _)
      | (with_reducible exact ih1 _ _ _ _ _ _ _)
      | (with_reducible exact ih2 _ _ _ _ _)
      | (with_reducible exact LeO.refl _)
      | (with_reducible exact LeO.none _)
      | (with_reducible refine LeO.ite ?_ ?_)
      | (with_reducible refine LeO.bind ?_ (fun _ => ?_))
      | exact ih0 _ _
      | exact ih1 _ _ _ _ _ _ _
      | exact ih2 _ _ _ _ _
      | exact LeO.none _
      | refine LeO.ite ?_ ?_
      | refine LeO.bind ?_ (fun _ => ?_)
    · intro y0 y1 y2 y3 y4
      unfold octroilaw01_WideSums.j2
      repeat' first
      | (with_reducible exact ih0 _ _)
      | (with_reducible exact ih1 _ _ _ _ _ _ _)
      | (with_reducible exact ih2 _ _ _ _ _)
      | (with_reducible exact LeO.refl _)
      | (with_reducible exact LeO.none _)
      | (with_reducible refine LeO.ite ?_ ?_)
      | (with_reducible refine LeO.bind ?_ (fun _ => ?_))
      | exact ih0 _ _
      | exact ih1 _ _ _ _ _ _ _
      | exact ih2 _ _ _ _ _
      | exact LeO.none _
      | refine LeO.ite ?_ ?_
      | refine LeO.bind ?_ (fun _ => ?_)
theorem octroilaw01_WideSums.mono : ∀ a0 k, LeO (octroilaw01_WideSums.f k a0) (octroilaw01_WideSums.f (k + 1) a0) := by
  intro a0 k
  obtain ⟨ih0, ih1, ih2⟩ := octroilaw01_WideSums.mono_l k
  unfold octroilaw01_WideSums.f
  repeat' first
      | (with_reducible exact ih0 _ _)
      | (with_reducible exact ih1 _ _ _ _ _ _ _)
      | (with_reducible exact ih2 _ _ _ _ _)
      | (with_reducible exact LeO.refl _)
      | (with_reducible exact LeO.none _)
      | (with_reducible refine LeO.ite ?_ ?_)
      | (with_reducible refine LeO.bind ?_ (fun _ => ?_))
      | exact ih0 _ _
      | exact ih1 _ _ _ _ _ _ _
      | exact ih2 _ _ _ _ _
      | exact LeO.none _
      | refine LeO.ite ?_ ?_
      | refine LeO.bind ?_ (fun _ => ?_)
set_option maxHeartbeats 8000000 in
set_option maxRecDepth 100000 in
theorem octroilaw01_WideSums.calls (k : Nat) (A0 : Option Addr) (c0 : Nat) (l0 : List (S28)) (r : Bool) (w : World) (hr0 : Kd.C k28 w A0 l0.length l0) (hc0 : l0.length ≤ c0) (h : octroilaw01_WideSums.f k l0 = some r) :
    Calls Try.prog 3 #[.slice A0 l0.length c0] w fun e w' => e = .returned (.bool r) ∧ Below w.heap.size w w' := by
  have hu26 := Try.underlying26
  have HR0 := Aside0.mk hr0
  have HC0 := Aside0.mk hc0
  clear hr0 hc0
  have HB := Aside0.mk (Below.refl w.heap.size w)
  have H : ((octroilaw01_awake.f).bind fun t259 => (if t259 = true then (octroilaw01_WideSums.l0 k l0 0) else (some false))) = some r := h
  clear h
  replace H := Option.bind_eq_some_iff.mp H
  obtain ⟨t259, A20, H⟩ := H
  replace H : (if t259 = true then (octroilaw01_WideSums.l0 k l0 0) else (some false)) = some r := H
  have A2 := Aside0.mk A20
  clear A20
  by_cases c3 : t259 = true
  · subst c3
    have H1 : (octroilaw01_WideSums.l0 k l0 0) = some r := by rw [if_pos rfl] at H; exact H
    clear H
    have H := H1
    clear H1
    have H' := Aside0.mk H
    clear H
    go_enter Try.func3, Try.ntmps3
    go_wp2_with (first | ((with_reducible refine gate_callee (f := 11) rfl ?_); refine goesL_ (some 10) rfl rfl Try.func11 (by kernel_rfl) rfl #[] rfl (by (try simp only [List.map_toArray, List.map_cons, List.map_nil]); first | done | rfl | (simp only [List.length_drop, List.length_take]; rfl)) ?_; (with_reducible refine (octroilaw01_awake.calls  true _ A2.out).mono ?_); rintro e w4 ⟨rfl, hb⟩; refine ⟨_, rfl, ?_⟩; have n0_ := Aside0.mk (below_step (by repeat (first | (with_reducible first | exact HB.out | apply below_alloc | apply pw_below_drewN | apply below_drew1) | exact HB.out)) hb); clear HB; have HB := n0_; clear n0_; (try clear hb); (try clear hb2); (try clear hk); (try clear hi)))
    go_loopg [3] k (fun kq v3 w' => ∃ (x3_1 : Int), v3 = .int .i64 x3_1 ∧ Aside0 (octroilaw01_WideSums.l0 kq l0 x3_1 = some r) ∧ Aside0 (kq ≤ k) ∧ Aside0 (Below w.heap.size w w'))
    case atStart => exact ⟨(0), (by first | rfl | (simp; done) | (simp [*]; done)), H', ⟨Nat.le_refl _⟩, ⟨by repeat (first | (with_reducible first | exact HB.out | apply below_alloc | apply pw_below_drewN | apply below_drew1) | exact HB.out)⟩⟩
    case round =>
      clear H'
      try clear c1
      try clear p2
      try clear c3
      obtain ⟨x3_1, rfl, HA, HK1, HB⟩ := hrel
      cases gk with
      | zero => exact absurd HA.out (by simp [octroilaw01_WideSums.l0])
      | succ k1 =>
        have H := HA.out
        clear HA
        simp only [octroilaw01_WideSums.l0] at H
        by_cases c5 : x3_1 < (l0.length : Int)
        · rw [if_pos c5] at H
          have c5b0 : decide (x3_1 < (l0.length : Int)) = true := decide_eq_true c5
          clear c5
          by_cases c6 : 0 ≤ x3_1
          · rw [if_pos c6] at H
            have c6b0 : decide (0 ≤ x3_1) = true := decide_eq_true c6
            clear c6
            replace H := Option.bind_eq_some_iff.mp H
            obtain ⟨⟨t264, t265, t266⟩, A70, H⟩ := H
            replace H : ((octroiref01_Add.f ((rd_T28 l0 x3_1).f0.f0) ((rd_T28 l0 x3_1).f0.f1) ((rd_T28 l0 x3_1).f1.f0) ((rd_T28 l0 x3_1).f1.f1)).bind fun bt268 => (if (!(t264 == bt268.1) || (!(t265 == bt268.2.1))) = true then (octroilaw01_WideSums.j1 k1 l0 x3_1 true ((rd_T28 l0 x3_1).f0.f0) ((rd_T28 l0 x3_1).f0.f1) ((rd_T28 l0 x3_1).f1.f0) ((rd_T28 l0 x3_1).f1.f1)) else (octroilaw01_WideSums.j1 k1 l0 x3_1 (t266 != bt268.2.2) ((rd_T28 l0 x3_1).f0.f0) ((rd_T28 l0 x3_1).f0.f1) ((rd_T28 l0 x3_1).f1.f0) ((rd_T28 l0 x3_1).f1.f1)))) = some r := H
            have A7 := Aside0.mk A70
            clear A70
            replace H := Option.bind_eq_some_iff.mp H
            obtain ⟨⟨t268, t269, t270⟩, A80, H⟩ := H
            replace H : (if (!(t264 == t268) || (!(t265 == t269))) = true then (octroilaw01_WideSums.j1 k1 l0 x3_1 true ((rd_T28 l0 x3_1).f0.f0) ((rd_T28 l0 x3_1).f0.f1) ((rd_T28 l0 x3_1).f1.f0) ((rd_T28 l0 x3_1).f1.f1)) else (octroilaw01_WideSums.j1 k1 l0 x3_1 (t266 != t270) ((rd_T28 l0 x3_1).f0.f0) ((rd_T28 l0 x3_1).f0.f1) ((rd_T28 l0 x3_1).f1.f0) ((rd_T28 l0 x3_1).f1.f1))) = some r := H
            have A8 := Aside0.mk A80
            clear A80
            have HC9 := Aside0.mk H
            clear H
            have p260 : 0 ≤ (x3_1 : Int) := of_decide_eq_true (by first | (with_reducible assumption) | assumption)
            have q260 : x3_1 < (l0.length : Int) := of_decide_eq_true (by first | (with_reducible assumption) | assumption)
            obtain ⟨ad260, e260, hx260_0, hx260_1, hx260_2, hx260_3⟩ := at_T28 HR0.out x3_1 p260 q260
            cases e260
            replace hx260_0 := (HB.out.cell (World.block_lt_of_cell? w _ hx260_0)).trans hx260_0
            replace hx260_1 := (HB.out.cell (World.block_lt_of_cell? w _ hx260_1)).trans hx260_1
            replace hx260_2 := (HB.out.cell (World.block_lt_of_cell? w _ hx260_2)).trans hx260_2
            replace hx260_3 := (HB.out.cell (World.block_lt_of_cell? w _ hx260_3)).trans hx260_3
            replace p260 := eq_true p260
            replace q260 := eq_true q260
            go_upto_region 10 with (first | ((with_reducible refine gate_dst (N := 4) rfl ?_); refine box_event ?hg (N := 4) ?hd (cs := #[.int .i64 0, .int .u64 0]) (t := 26) ?hr ?_; (case hd => rfl); (case hg => rfl); (case hr => first | (go_simp; done) | (go_simp; rfl)); intro gb261 hg w10 hbox hb; have n0_ := Aside0.mk (below_step (by repeat (first | (with_reducible first | exact HB.out | apply below_alloc | apply pw_below_drewN | apply below_drew1) | exact HB.out)) hb); have n1_ := Aside0.mk (hbox); have n2_ := Aside0.mk ((by rw [hg]; exact (below_size (by repeat (first | (with_reducible first | exact HB.out | apply below_alloc | apply pw_below_drewN | apply below_drew1) | exact HB.out))) : w.heap.size ≤ gb261)); have n3_ := Aside0.mk ((by rw [hg]; exact (below_size (by repeat (first | (with_reducible first | exact HB.out | apply below_alloc | apply pw_below_drewN | apply below_drew1) | exact HB.out))) : w.heap.size ≤ gb261)); clear HB; have HB := n0_; have BK261 := n1_; have GW261 := n2_; have GE261 := n3_; clear n0_ n1_ n2_ n3_; clear hb hbox hg; have hcz11_0 : w10.cell? ⟨gb261, 0, none⟩ = some (.int .i64 0) := (blk_cell BK261.out 0).trans rfl; have hcz11_1 : w10.cell? ⟨gb261, 1, none⟩ = some (.int .u64 0) := (blk_cell BK261.out 1).trans rfl; have hfz11_0 := blk_frozen BK261.out 0; have hfz11_1 := blk_frozen BK261.out 1; have p262 : 0 ≤ (x3_1 : Int) := of_decide_eq_true (by first | (with_reducible assumption) | assumption); have q262 : x3_1 < (l0.length : Int) := of_decide_eq_true (by first | (with_reducible assumption) | assumption); obtain ⟨ad262, e262, hx262_0, hx262_1, hx262_2, hx262_3⟩ := at_T28 HR0.out x3_1 p262 q262; obtain rfl : ad260 = ad262 := (by injection e262); have hn262_0 : ad260.block ≠ gb261 := Nat.ne_of_lt (Nat.lt_of_lt_of_le (by have := World.block_lt_of_cell? _ _ hx262_0; first | rwa [add_block] at this | exact this) GW261.out); have hn262_1 : ad260.block ≠ gb261 := Nat.ne_of_lt (Nat.lt_of_lt_of_le (by have := World.block_lt_of_cell? _ _ hx262_0; first | rwa [add_block] at this | exact this) GW261.out); replace hx262_0 := (HB.out.cell (World.block_lt_of_cell? w _ hx262_0)).trans hx262_0; replace hx262_1 := (HB.out.cell (World.block_lt_of_cell? w _ hx262_1)).trans hx262_1; replace hx262_2 := (HB.out.cell (World.block_lt_of_cell? w _ hx262_2)).trans hx262_2; replace hx262_3 := (HB.out.cell (World.block_lt_of_cell? w _ hx262_3)).trans hx262_3; replace hx262_0 := (cell_far (p := ⟨gb261, 0, none⟩) (by first | (rw [add_block]; exact hn262_0) | (show (Addr.add _ _).block ≠ _; rw [add_block]; exact hn262_0) | exact hn262_0) (.int .i64 ((rd_T28 l0 x3_1).f0.f0))).trans hx262_0; replace hx262_1 := (cell_far (p := ⟨gb261, 0, none⟩) (by first | (rw [add_block]; exact hn262_0) | (show (Addr.add _ _).block ≠ _; rw [add_block]; exact hn262_0) | exact hn262_0) (.int .i64 ((rd_T28 l0 x3_1).f0.f0))).trans hx262_1; replace hx262_2 := (cell_far (p := ⟨gb261, 0, none⟩) (by first | (rw [add_block]; exact hn262_0) | (show (Addr.add _ _).block ≠ _; rw [add_block]; exact hn262_0) | exact hn262_0) (.int .i64 ((rd_T28 l0 x3_1).f0.f0))).trans hx262_2; replace hx262_3 := (cell_far (p := ⟨gb261, 0, none⟩) (by first | (rw [add_block]; exact hn262_0) | (show (Addr.add _ _).block ≠ _; rw [add_block]; exact hn262_0) | exact hn262_0) (.int .i64 ((rd_T28 l0 x3_1).f0.f0))).trans hx262_3; replace hx262_0 := (cell_far (p := ⟨gb261, 1, none⟩) (by first | (rw [add_block]; exact hn262_1) | (show (Addr.add _ _).block ≠ _; rw [add_block]; exact hn262_1) | exact hn262_1) (.int .u64 ((rd_T28 l0 x3_1).f0.f1))).trans hx262_0; replace hx262_1 := (cell_far (p := ⟨gb261, 1, none⟩) (by first | (rw [add_block]; exact hn262_1) | (show (Addr.add _ _).block ≠ _; rw [add_block]; exact hn262_1) | exact hn262_1) (.int .u64 ((rd_T28 l0 x3_1).f0.f1))).trans hx262_1; replace hx262_2 := (cell_far (p := ⟨gb261, 1, none⟩) (by first | (rw [add_block]; exact hn262_1) | (show (Addr.add _ _).block ≠ _; rw [add_block]; exact hn262_1) | exact hn262_1) (.int .u64 ((rd_T28 l0 x3_1).f0.f1))).trans hx262_2; replace hx262_3 := (cell_far (p := ⟨gb261, 1, none⟩) (by first | (rw [add_block]; exact hn262_1) | (show (Addr.add _ _).block ≠ _; rw [add_block]; exact hn262_1) | exact hn262_1) (.int .u64 ((rd_T28 l0 x3_1).f0.f1))).trans hx262_3; clear hn262_0; clear hn262_1; replace p262 := eq_true p262; replace q262 := eq_true q262) | ((with_reducible refine gate_dst (N := 5) rfl ?_); refine box_event ?hg (N := 5) ?hd (cs := #[.int .i64 0, .int .u64 0]) (t := 26) ?hr ?_; (case hd => rfl); (case hg => rfl); (case hr => first | (go_simp; done) | (go_simp; rfl)); intro gb263 hg w12 hbox hb; have n0_ := Aside0.mk (blk_below (g := gb261) (o := .cells #[.int .i64 ((rd_T28 l0 x3_1).f0.f0), .int .u64 ((rd_T28 l0 x3_1).f0.f1)] 26 (0, 0)) (by (with_reducible repeat (first | refine blk_drewN ?_ _ | refine blk_drew ?_ | refine blk_alloc ?_ _)); refine blk_put (cs := #[.int .i64 ((rd_T28 l0 x3_1).f0.f0), .int .u64 0]) ?_ 1 _ rfl; (with_reducible repeat (first | refine blk_drewN ?_ _ | refine blk_drew ?_ | refine blk_alloc ?_ _)); refine blk_put (cs := #[.int .i64 0, .int .u64 0]) ?_ 0 _ rfl; (with_reducible repeat (first | refine blk_drewN ?_ _ | refine blk_drew ?_ | refine blk_alloc ?_ _)); exact BK261.out) hb); have n1_ := Aside0.mk (below_step (by repeat (first | (with_reducible first | exact HB.out | apply below_alloc | apply pw_below_drewN | apply below_drew1 | refine below_set ?_ GE261.out) | exact HB.out)) hb); have n2_ := Aside0.mk (hbox); have n3_ := Aside0.mk ((by rw [hg]; exact (below_size (by repeat (first | (with_reducible first | exact HB.out | apply below_alloc | apply pw_below_drewN | apply below_drew1 | refine below_set ?_ GE261.out) | exact HB.out))) : w.heap.size ≤ gb263)); have n4_ := Aside0.mk ((by rw [hg]; exact (below_size (by repeat (first | (with_reducible first | exact HB.out | apply below_alloc | apply pw_below_drewN | apply below_drew1 | refine below_set ?_ GE261.out) | exact HB.out))) : w.heap.size ≤ gb263)); have n5_ := Aside0.mk ((by rw [hg]; exact Nat.ne_of_lt (blk_lt (g := gb261) (o := .cells #[.int .i64 ((rd_T28 l0 x3_1).f0.f0), .int .u64 ((rd_T28 l0 x3_1).f0.f1)] 26 (0, 0)) (by (with_reducible repeat (first | refine blk_drewN ?_ _ | refine blk_drew ?_ | refine blk_alloc ?_ _)); refine blk_put (cs := #[.int .i64 ((rd_T28 l0 x3_1).f0.f0), .int .u64 0]) ?_ 1 _ rfl; (with_reducible repeat (first | refine blk_drewN ?_ _ | refine blk_drew ?_ | refine blk_alloc ?_ _)); refine blk_put (cs := #[.int .i64 0, .int .u64 0]) ?_ 0 _ rfl; (with_reducible repeat (first | refine blk_drewN ?_ _ | refine blk_drew ?_ | refine blk_alloc ?_ _)); exact BK261.out)) : gb261 ≠ gb263)); have n6_ := Aside0.mk ((by rw [hg]; exact Nat.ne_of_gt (blk_lt (g := gb261) (o := .cells #[.int .i64 ((rd_T28 l0 x3_1).f0.f0), .int .u64 ((rd_T28 l0 x3_1).f0.f1)] 26 (0, 0)) (by (with_reducible repeat (first | refine blk_drewN ?_ _ | refine blk_drew ?_ | refine blk_alloc ?_ _)); refine blk_put (cs := #[.int .i64 ((rd_T28 l0 x3_1).f0.f0), .int .u64 0]) ?_ 1 _ rfl; (with_reducible repeat (first | refine blk_drewN ?_ _ | refine blk_drew ?_ | refine blk_alloc ?_ _)); refine blk_put (cs := #[.int .i64 0, .int .u64 0]) ?_ 0 _ rfl; (with_reducible repeat (first | refine blk_drewN ?_ _ | refine blk_drew ?_ | refine blk_alloc ?_ _)); exact BK261.out)) : gb263 ≠ gb261)); clear BK261; clear HB; have BK261 := n0_; have HB := n1_; have BK263 := n2_; have GW263 := n3_; have GE263 := n4_; have NB261_263 := n5_; have NB263_261 := n6_; clear n0_ n1_ n2_ n3_ n4_ n5_ n6_; clear hb hbox hg; have hnb13 := NB263_261.out; have hnc13 := NB261_263.out; have hcz14_0 : w12.cell? ⟨gb263, 0, none⟩ = some (.int .i64 0) := (blk_cell BK263.out 0).trans rfl; have hcz14_1 : w12.cell? ⟨gb263, 1, none⟩ = some (.int .u64 0) := (blk_cell BK263.out 1).trans rfl; have hfz14_0 := blk_frozen BK263.out 0; have hfz14_1 := blk_frozen BK263.out 1; have hcz15_0 : w12.cell? ⟨gb261, 0, none⟩ = some (.int .i64 ((rd_T28 l0 x3_1).f0.f0)) := (blk_cell BK261.out 0).trans rfl; have hcz15_1 : w12.cell? ⟨gb261, 1, none⟩ = some (.int .u64 ((rd_T28 l0 x3_1).f0.f1)) := (blk_cell BK261.out 1).trans rfl; have hfz15_0 := blk_frozen BK261.out 0; have hfz15_1 := blk_frozen BK261.out 1) | ((with_reducible refine gate_callee (f := 12) rfl ?_); refine goesL_ (some 31) rfl rfl Try.func12 (by kernel_rfl) rfl #[.agg #[.int .i64 ((rd_T28 l0 x3_1).f0.f0), .int .u64 ((rd_T28 l0 x3_1).f0.f1)], .agg #[.int .i64 ((rd_T28 l0 x3_1).f1.f0), .int .u64 ((rd_T28 l0 x3_1).f1.f1)]] rfl (by (try simp only [List.map_toArray, List.map_cons, List.map_nil]); first | done | rfl | (simp only [List.length_drop, List.length_take]; rfl)) ?_; (with_reducible refine (wide_Add.calls ((rd_T28 l0 x3_1).f0.f0) ((rd_T28 l0 x3_1).f0.f1) ((rd_T28 l0 x3_1).f1.f0) ((rd_T28 l0 x3_1).f1.f1) t264 t265 t266 _ A7.out).mono ?_); rintro e w16 ⟨rfl, hb⟩; refine ⟨_, rfl, ?_⟩; have n0_ := Aside0.mk (blk_below (g := gb261) (o := .cells #[.int .i64 ((rd_T28 l0 x3_1).f0.f0), .int .u64 ((rd_T28 l0 x3_1).f0.f1)] 26 (0, 0)) (by (with_reducible repeat (first | refine blk_drewN ?_ _ | refine blk_drew ?_ | refine blk_alloc ?_ _)); refine blk_far ?_ NB261_263.out _; (with_reducible repeat (first | refine blk_drewN ?_ _ | refine blk_drew ?_ | refine blk_alloc ?_ _)); refine blk_far ?_ NB261_263.out _; (with_reducible repeat (first | refine blk_drewN ?_ _ | refine blk_drew ?_ | refine blk_alloc ?_ _)); exact BK261.out) hb); have n1_ := Aside0.mk (blk_below (g := gb263) (o := .cells #[.int .i64 ((rd_T28 l0 x3_1).f1.f0), .int .u64 ((rd_T28 l0 x3_1).f1.f1)] 26 (0, 0)) (by (with_reducible repeat (first | refine blk_drewN ?_ _ | refine blk_drew ?_ | refine blk_alloc ?_ _)); refine blk_put (cs := #[.int .i64 ((rd_T28 l0 x3_1).f1.f0), .int .u64 0]) ?_ 1 _ rfl; (with_reducible repeat (first | refine blk_drewN ?_ _ | refine blk_drew ?_ | refine blk_alloc ?_ _)); refine blk_put (cs := #[.int .i64 0, .int .u64 0]) ?_ 0 _ rfl; (with_reducible repeat (first | refine blk_drewN ?_ _ | refine blk_drew ?_ | refine blk_alloc ?_ _)); exact BK263.out) hb); have n2_ := Aside0.mk (below_step (by repeat (first | (with_reducible first | exact HB.out | apply below_alloc | apply pw_below_drewN | apply below_drew1 | refine below_set ?_ GE261.out | refine below_set ?_ GE263.out) | exact HB.out)) hb); clear BK261; clear BK263; clear HB; have BK261 := n0_; have BK263 := n1_; have HB := n2_; clear n0_ n1_ n2_; (try clear hb); (try clear hb2); (try clear hk); (try clear hi)) | ((with_reducible refine gate_dst (N := 6) rfl ?_); refine box_event ?hg (N := 6) ?hd (cs := #[.int .i64 0, .int .u64 0]) (t := 26) ?hr ?_; (case hd => rfl); (case hg => rfl); (case hr => first | (go_simp; done) | (go_simp; rfl)); intro gb267 hg w17 hbox hb; have n0_ := Aside0.mk (blk_below (g := gb261) (o := .cells #[.int .i64 ((rd_T28 l0 x3_1).f0.f0), .int .u64 ((rd_T28 l0 x3_1).f0.f1)] 26 (0, 0)) (by (with_reducible repeat (first | refine blk_drewN ?_ _ | refine blk_drew ?_ | refine blk_alloc ?_ _)); exact BK261.out) hb); have n1_ := Aside0.mk (blk_below (g := gb263) (o := .cells #[.int .i64 ((rd_T28 l0 x3_1).f1.f0), .int .u64 ((rd_T28 l0 x3_1).f1.f1)] 26 (0, 0)) (by (with_reducible repeat (first | refine blk_drewN ?_ _ | refine blk_drew ?_ | refine blk_alloc ?_ _)); exact BK263.out) hb); have n2_ := Aside0.mk (below_step (by repeat (first | (with_reducible first | exact HB.out | apply below_alloc | apply pw_below_drewN | apply below_drew1 | refine below_set ?_ GE261.out | refine below_set ?_ GE263.out) | exact HB.out)) hb); have n3_ := Aside0.mk (hbox); have n4_ := Aside0.mk ((by rw [hg]; exact (below_size (by repeat (first | (with_reducible first | exact HB.out | apply below_alloc | apply pw_below_drewN | apply below_drew1 | refine below_set ?_ GE261.out | refine below_set ?_ GE263.out) | exact HB.out))) : w.heap.size ≤ gb267)); have n5_ := Aside0.mk ((by rw [hg]; exact (below_size (by repeat (first | (with_reducible first | exact HB.out | apply below_alloc | apply pw_below_drewN | apply below_drew1 | refine below_set ?_ GE261.out | refine below_set ?_ GE263.out) | exact HB.out))) : w.heap.size ≤ gb267)); have n6_ := Aside0.mk ((by rw [hg]; exact Nat.ne_of_lt (blk_lt (g := gb261) (o := .cells #[.int .i64 ((rd_T28 l0 x3_1).f0.f0), .int .u64 ((rd_T28 l0 x3_1).f0.f1)] 26 (0, 0)) (by (with_reducible repeat (first | refine blk_drewN ?_ _ | refine blk_drew ?_ | refine blk_alloc ?_ _)); exact BK261.out)) : gb261 ≠ gb267)); have n7_ := Aside0.mk ((by rw [hg]; exact Nat.ne_of_gt (blk_lt (g := gb261) (o := .cells #[.int .i64 ((rd_T28 l0 x3_1).f0.f0), .int .u64 ((rd_T28 l0 x3_1).f0.f1)] 26 (0, 0)) (by (with_reducible repeat (first | refine blk_drewN ?_ _ | refine blk_drew ?_ | refine blk_alloc ?_ _)); exact BK261.out)) : gb267 ≠ gb261)); have n8_ := Aside0.mk ((by rw [hg]; exact Nat.ne_of_lt (blk_lt (g := gb263) (o := .cells #[.int .i64 ((rd_T28 l0 x3_1).f1.f0), .int .u64 ((rd_T28 l0 x3_1).f1.f1)] 26 (0, 0)) (by (with_reducible repeat (first | refine blk_drewN ?_ _ | refine blk_drew ?_ | refine blk_alloc ?_ _)); exact BK263.out)) : gb263 ≠ gb267)); have n9_ := Aside0.mk ((by rw [hg]; exact Nat.ne_of_gt (blk_lt (g := gb263) (o := .cells #[.int .i64 ((rd_T28 l0 x3_1).f1.f0), .int .u64 ((rd_T28 l0 x3_1).f1.f1)] 26 (0, 0)) (by (with_reducible repeat (first | refine blk_drewN ?_ _ | refine blk_drew ?_ | refine blk_alloc ?_ _)); exact BK263.out)) : gb267 ≠ gb263)); clear BK261; clear BK263; clear HB; have BK261 := n0_; have BK263 := n1_; have HB := n2_; have BK267 := n3_; have GW267 := n4_; have GE267 := n5_; have NB261_267 := n6_; have NB267_261 := n7_; have NB263_267 := n8_; have NB267_263 := n9_; clear n0_ n1_ n2_ n3_ n4_ n5_ n6_ n7_ n8_ n9_; clear hb hbox hg; have hnb18 := NB267_261.out; have hnc18 := NB261_267.out; have hnb19 := NB267_263.out; have hnc19 := NB263_267.out; have hcz20_0 : w17.cell? ⟨gb267, 0, none⟩ = some (.int .i64 0) := (blk_cell BK267.out 0).trans rfl; have hcz20_1 : w17.cell? ⟨gb267, 1, none⟩ = some (.int .u64 0) := (blk_cell BK267.out 1).trans rfl; have hfz20_0 := blk_frozen BK267.out 0; have hfz20_1 := blk_frozen BK267.out 1; have hcz21_0 : w17.cell? ⟨gb261, 0, none⟩ = some (.int .i64 ((rd_T28 l0 x3_1).f0.f0)) := (blk_cell BK261.out 0).trans rfl; have hcz21_1 : w17.cell? ⟨gb261, 1, none⟩ = some (.int .u64 ((rd_T28 l0 x3_1).f0.f1)) := (blk_cell BK261.out 1).trans rfl; have hfz21_0 := blk_frozen BK261.out 0; have hfz21_1 := blk_frozen BK261.out 1; have hcz22_0 : w17.cell? ⟨gb263, 0, none⟩ = some (.int .i64 ((rd_T28 l0 x3_1).f1.f0)) := (blk_cell BK263.out 0).trans rfl; have hcz22_1 : w17.cell? ⟨gb263, 1, none⟩ = some (.int .u64 ((rd_T28 l0 x3_1).f1.f1)) := (blk_cell BK263.out 1).trans rfl; have hfz22_0 := blk_frozen BK263.out 0; have hfz22_1 := blk_frozen BK263.out 1) | ((with_reducible refine gate_callee (f := 13) rfl ?_); refine goesL_ (some 37) rfl rfl Try.func13 (by kernel_rfl) rfl #[.agg #[.int .i64 ((rd_T28 l0 x3_1).f0.f0), .int .u64 ((rd_T28 l0 x3_1).f0.f1)], .agg #[.int .i64 ((rd_T28 l0 x3_1).f1.f0), .int .u64 ((rd_T28 l0 x3_1).f1.f1)]] rfl (by (try simp only [List.map_toArray, List.map_cons, List.map_nil]); first | done | rfl | (simp only [List.length_drop, List.length_take]; rfl)) ?_; (with_reducible refine (octroiref01_Add.calls ((rd_T28 l0 x3_1).f0.f0) ((rd_T28 l0 x3_1).f0.f1) ((rd_T28 l0 x3_1).f1.f0) ((rd_T28 l0 x3_1).f1.f1) t268 t269 t270 _ A8.out).mono ?_); rintro e w23 ⟨rfl, hb⟩; refine ⟨_, rfl, ?_⟩; have n0_ := Aside0.mk (blk_below (g := gb261) (o := .cells #[.int .i64 ((rd_T28 l0 x3_1).f0.f0), .int .u64 ((rd_T28 l0 x3_1).f0.f1)] 26 (0, 0)) (by (with_reducible repeat (first | refine blk_drewN ?_ _ | refine blk_drew ?_ | refine blk_alloc ?_ _)); refine blk_far ?_ NB261_267.out _; (with_reducible repeat (first | refine blk_drewN ?_ _ | refine blk_drew ?_ | refine blk_alloc ?_ _)); refine blk_far ?_ NB261_267.out _; (with_reducible repeat (first | refine blk_drewN ?_ _ | refine blk_drew ?_ | refine blk_alloc ?_ _)); exact BK261.out) hb); have n1_ := Aside0.mk (blk_below (g := gb263) (o := .cells #[.int .i64 ((rd_T28 l0 x3_1).f1.f0), .int .u64 ((rd_T28 l0 x3_1).f1.f1)] 26 (0, 0)) (by (with_reducible repeat (first | refine blk_drewN ?_ _ | refine blk_drew ?_ | refine blk_alloc ?_ _)); refine blk_far ?_ NB263_267.out _; (with_reducible repeat (first | refine blk_drewN ?_ _ | refine blk_drew ?_ | refine blk_alloc ?_ _)); refine blk_far ?_ NB263_267.out _; (with_reducible repeat (first | refine blk_drewN ?_ _ | refine blk_drew ?_ | refine blk_alloc ?_ _)); exact BK263.out) hb); have n2_ := Aside0.mk (blk_below (g := gb267) (o := .cells #[.int .i64 t264, .int .u64 t265] 26 (0, 0)) (by (with_reducible repeat (first | refine blk_drewN ?_ _ | refine blk_drew ?_ | refine blk_alloc ?_ _)); refine blk_put (cs := #[.int .i64 t264, .int .u64 0]) ?_ 1 _ rfl; (with_reducible repeat (first | refine blk_drewN ?_ _ | refine blk_drew ?_ | refine blk_alloc ?_ _)); refine blk_put (cs := #[.int .i64 0, .int .u64 0]) ?_ 0 _ rfl; (with_reducible repeat (first | refine blk_drewN ?_ _ | refine blk_drew ?_ | refine blk_alloc ?_ _)); exact BK267.out) hb); have n3_ := Aside0.mk (below_step (by repeat (first | (with_reducible first | exact HB.out | apply below_alloc | apply pw_below_drewN | apply below_drew1 | refine below_set ?_ GE261.out | refine below_set ?_ GE263.out | refine below_set ?_ GE267.out) | exact HB.out)) hb); clear BK261; clear BK263; clear BK267; clear HB; have BK261 := n0_; have BK263 := n1_; have BK267 := n2_; have HB := n3_; clear n0_ n1_ n2_ n3_; (try clear hb); (try clear hb2); (try clear hk); (try clear hi)) | ((with_reducible refine gate_dst (N := 8) rfl ?_); refine box_event ?hg (N := 8) ?hd (cs := #[.int .i64 0, .int .u64 0]) (t := 26) ?hr ?_; (case hd => rfl); (case hg => rfl); (case hr => first | (go_simp; done) | (go_simp; rfl)); intro gb271 hg w24 hbox hb; have n0_ := Aside0.mk (blk_below (g := gb261) (o := .cells #[.int .i64 ((rd_T28 l0 x3_1).f0.f0), .int .u64 ((rd_T28 l0 x3_1).f0.f1)] 26 (0, 0)) (by (with_reducible repeat (first | refine blk_drewN ?_ _ | refine blk_drew ?_ | refine blk_alloc ?_ _)); exact BK261.out) hb); have n1_ := Aside0.mk (blk_below (g := gb263) (o := .cells #[.int .i64 ((rd_T28 l0 x3_1).f1.f0), .int .u64 ((rd_T28 l0 x3_1).f1.f1)] 26 (0, 0)) (by (with_reducible repeat (first | refine blk_drewN ?_ _ | refine blk_drew ?_ | refine blk_alloc ?_ _)); exact BK263.out) hb); have n2_ := Aside0.mk (blk_below (g := gb267) (o := .cells #[.int .i64 t264, .int .u64 t265] 26 (0, 0)) (by (with_reducible repeat (first | refine blk_drewN ?_ _ | refine blk_drew ?_ | refine blk_alloc ?_ _)); exact BK267.out) hb); have n3_ := Aside0.mk (below_step (by repeat (first | (with_reducible first | exact HB.out | apply below_alloc | apply pw_below_drewN | apply below_drew1 | refine below_set ?_ GE261.out | refine below_set ?_ GE263.out | refine below_set ?_ GE267.out) | exact HB.out)) hb); have n4_ := Aside0.mk (hbox); have n5_ := Aside0.mk ((by rw [hg]; exact (below_size (by repeat (first | (with_reducible first | exact HB.out | apply below_alloc | apply pw_below_drewN | apply below_drew1 | refine below_set ?_ GE261.out | refine below_set ?_ GE263.out | refine below_set ?_ GE267.out) | exact HB.out))) : w.heap.size ≤ gb271)); have n6_ := Aside0.mk ((by rw [hg]; exact (below_size (by repeat (first | (with_reducible first | exact HB.out | apply below_alloc | apply pw_below_drewN | apply below_drew1 | refine below_set ?_ GE261.out | refine below_set ?_ GE263.out | refine below_set ?_ GE267.out) | exact HB.out))) : w.heap.size ≤ gb271)); have n7_ := Aside0.mk ((by rw [hg]; exact Nat.ne_of_lt (blk_lt (g := gb261) (o := .cells #[.int .i64 ((rd_T28 l0 x3_1).f0.f0), .int .u64 ((rd_T28 l0 x3_1).f0.f1)] 26 (0, 0)) (by (with_reducible repeat (first | refine blk_drewN ?_ _ | refine blk_drew ?_ | refine blk_alloc ?_ _)); exact BK261.out)) : gb261 ≠ gb271)); have n8_ := Aside0.mk ((by rw [hg]; exact Nat.ne_of_gt (blk_lt (g := gb261) (o := .cells #[.int .i64 ((rd_T28 l0 x3_1).f0.f0), .int .u64 ((rd_T28 l0 x3_1).f0.f1)] 26 (0, 0)) (by (with_reducible repeat (first | refine blk_drewN ?_ _ | refine blk_drew ?_ | refine blk_alloc ?_ _)); exact BK261.out)) : gb271 ≠ gb261)); have n9_ := Aside0.mk ((by rw [hg]; exact Nat.ne_of_lt (blk_lt (g := gb263) (o := .cells #[.int .i64 ((rd_T28 l0 x3_1).f1.f0), .int .u64 ((rd_T28 l0 x3_1).f1.f1)] 26 (0, 0)) (by (with_reducible repeat (first | refine blk_drewN ?_ _ | refine blk_drew ?_ | refine blk_alloc ?_ _)); exact BK263.out)) : gb263 ≠ gb271)); have n10_ := Aside0.mk ((by rw [hg]; exact Nat.ne_of_gt (blk_lt (g := gb263) (o := .cells #[.int .i64 ((rd_T28 l0 x3_1).f1.f0), .int .u64 ((rd_T28 l0 x3_1).f1.f1)] 26 (0, 0)) (by (with_reducible repeat (first | refine blk_drewN ?_ _ | refine blk_drew ?_ | refine blk_alloc ?_ _)); exact BK263.out)) : gb271 ≠ gb263)); have n11_ := Aside0.mk ((by rw [hg]; exact Nat.ne_of_lt (blk_lt (g := gb267) (o := .cells #[.int .i64 t264, .int .u64 t265] 26 (0, 0)) (by (with_reducible repeat (first | refine blk_drewN ?_ _ | refine blk_drew ?_ | refine blk_alloc ?_ _)); exact BK267.out)) : gb267 ≠ gb271)); have n12_ := Aside0.mk ((by rw [hg]; exact Nat.ne_of_gt (blk_lt (g := gb267) (o := .cells #[.int .i64 t264, .int .u64 t265] 26 (0, 0)) (by (with_reducible repeat (first | refine blk_drewN ?_ _ | refine blk_drew ?_ | refine blk_alloc ?_ _)); exact BK267.out)) : gb271 ≠ gb267)); clear BK261; clear BK263; clear BK267; clear HB; have BK261 := n0_; have BK263 := n1_; have BK267 := n2_; have HB := n3_; have BK271 := n4_; have GW271 := n5_; have GE271 := n6_; have NB261_271 := n7_; have NB271_261 := n8_; have NB263_271 := n9_; have NB271_263 := n10_; have NB267_271 := n11_; have NB271_267 := n12_; clear n0_ n1_ n2_ n3_ n4_ n5_ n6_ n7_ n8_ n9_ n10_ n11_ n12_; clear hb hbox hg; have hnb25 := NB271_261.out; have hnc25 := NB261_271.out; have hnb26 := NB271_263.out; have hnc26 := NB263_271.out; have hnb27 := NB271_267.out; have hnc27 := NB267_271.out; have hcz28_0 : w24.cell? ⟨gb271, 0, none⟩ = some (.int .i64 0) := (blk_cell BK271.out 0).trans rfl; have hcz28_1 : w24.cell? ⟨gb271, 1, none⟩ = some (.int .u64 0) := (blk_cell BK271.out 1).trans rfl; have hfz28_0 := blk_frozen BK271.out 0; have hfz28_1 := blk_frozen BK271.out 1))
            (try simp only [Act.put, List.setIfInBounds_toArray, List.set_cons_zero, List.set_cons_succ])
            go_cut [47] (fun v47 wc => ∃ (kq : Nat) (x47_8 : Bool), v47 = .bool x47_8 ∧ Aside0 (octroilaw01_WideSums.j1 kq l0 x3_1 x47_8 ((rd_T28 l0 x3_1).f0.f0) ((rd_T28 l0 x3_1).f0.f1) ((rd_T28 l0 x3_1).f1.f0) ((rd_T28 l0 x3_1).f1.f1) = some r) ∧ Aside0 (kq ≤ k1) ∧ Aside0 (wc.heap[gb261]? = some (.cells #[.int .i64 ((rd_T28 l0 x3_1).f0.f0), .int .u64 ((rd_T28 l0 x3_1).f0.f1)] 26 (0, 0))) ∧ Aside0 (wc.heap[gb263]? = some (.cells #[.int .i64 ((rd_T28 l0 x3_1).f1.f0), .int .u64 ((rd_T28 l0 x3_1).f1.f1)] 26 (0, 0))) ∧ Aside0 (wc.heap[gb267]? = some (.cells #[.int .i64 t264, .int .u64 t265] 26 (0, 0))) ∧ Aside0 (wc.heap[gb271]? = some (.cells #[.int .i64 t268, .int .u64 t269] 26 (0, 0))) ∧ Aside0 (Below w.heap.size w wc))
            case first =>
              have H := HC9.out
              clear HC9
              by_cases c29 : (!(t264 == t268) || (!(t265 == t269))) = true
              · rw [if_pos c29] at H
                have c29b0 : (!(t264 == t268) || (!(t265 == t269))) = true := c29
                clear c29
                (first | rw [c29b0] | (simp only [i64_w, i32_w]; rw [c29b0]) | skip)
                have H' := Aside0.mk H
                clear H
                have hnb30 := NB267_261.out
                have hnc30 := NB261_267.out
                have hnb31 := NB267_263.out
                have hnc31 := NB263_267.out
                have hnb32 := NB267_271.out
                have hnc32 := NB271_267.out
                have hcz33_0 : w24.cell? ⟨gb267, 0, none⟩ = some (.int .i64 t264) := (blk_cell BK267.out 0).trans rfl
                have hcz33_1 : w24.cell? ⟨gb267, 1, none⟩ = some (.int .u64 t265) := (blk_cell BK267.out 1).trans rfl
                have hfz33_0 := blk_frozen BK267.out 0
                have hfz33_1 := blk_frozen BK267.out 1
                have hnb34 := NB271_261.out
                have hnc34 := NB261_271.out
                have hnb35 := NB271_263.out
                have hnc35 := NB263_271.out
                have hcz36_0 : w24.cell? ⟨gb271, 0, none⟩ = some (.int .i64 0) := (blk_cell BK271.out 0).trans rfl
                have hcz36_1 : w24.cell? ⟨gb271, 1, none⟩ = some (.int .u64 0) := (blk_cell BK271.out 1).trans rfl
                have hfz36_0 := blk_frozen BK271.out 0
                have hfz36_1 := blk_frozen BK271.out 1
                go_wp2
                go_meet
                case rel => exact ⟨_, (true), (by first | rfl | (simp; done) | (simp [*]; done)), H', ⟨by have := HK1.out; first | omega | exact Nat.le_refl _⟩, ⟨by (with_reducible repeat (first | refine blk_drewN ?_ _ | refine blk_drew ?_ | refine blk_alloc ?_ _)); refine blk_far ?_ NB261_271.out _; (with_reducible repeat (first | refine blk_drewN ?_ _ | refine blk_drew ?_ | refine blk_alloc ?_ _)); refine blk_far ?_ NB261_271.out _; (with_reducible repeat (first | refine blk_drewN ?_ _ | refine blk_drew ?_ | refine blk_alloc ?_ _)); exact BK261.out⟩, ⟨by (with_reducible repeat (first | refine blk_drewN ?_ _ | refine blk_drew ?_ | refine blk_alloc ?_ _)); refine blk_far ?_ NB263_271.out _; (with_reducible repeat (first | refine blk_drewN ?_ _ | refine blk_drew ?_ | refine blk_alloc ?_ _)); refine blk_far ?_ NB263_271.out _; (with_reducible repeat (first | refine blk_drewN ?_ _ | refine blk_drew ?_ | refine blk_alloc ?_ _)); exact BK263.out⟩, ⟨by (with_reducible repeat (first | refine blk_drewN ?_ _ | refine blk_drew ?_ | refine blk_alloc ?_ _)); refine blk_far ?_ NB267_271.out _; (with_reducible repeat (first | refine blk_drewN ?_ _ | refine blk_drew ?_ | refine blk_alloc ?_ _)); refine blk_far ?_ NB267_271.out _; (with_reducible repeat (first | refine blk_drewN ?_ _ | refine blk_drew ?_ | refine blk_alloc ?_ _)); exact BK267.out⟩, ⟨by (with_reducible repeat (first | refine blk_drewN ?_ _ | refine blk_drew ?_ | refine blk_alloc ?_ _)); refine blk_put (cs := #[.int .i64 t268, .int .u64 0]) ?_ 1 _ rfl; (with_reducible repeat (first | refine blk_drewN ?_ _ | refine blk_drew ?_ | refine blk_alloc ?_ _)); refine blk_put (cs := #[.int .i64 0, .int .u64 0]) ?_ 0 _ rfl; (with_reducible repeat (first | refine blk_drewN ?_ _ | refine blk_drew ?_ | refine blk_alloc ?_ _)); exact BK271.out⟩, ⟨by repeat (first | (with_reducible first | exact HB.out | apply below_alloc | apply pw_below_drewN | apply below_drew1 | refine below_set ?_ GE261.out | refine below_set ?_ GE263.out | refine below_set ?_ GE267.out | refine below_set ?_ GE271.out) | exact HB.out)⟩⟩
              · rw [if_neg c29] at H
                have c29b0 : (!(t264 == t268) || (!(t265 == t269))) = false := by simpa using c29
                clear c29
                (first | rw [c29b0] | (simp only [i64_w, i32_w]; rw [c29b0]) | skip)
                have H' := Aside0.mk H
                clear H
                have hnb37 := NB267_261.out
                have hnc37 := NB261_267.out
                have hnb38 := NB267_263.out
                have hnc38 := NB263_267.out
                have hnb39 := NB267_271.out
                have hnc39 := NB271_267.out
                have hcz40_0 : w24.cell? ⟨gb267, 0, none⟩ = some (.int .i64 t264) := (blk_cell BK267.out 0).trans rfl
                have hcz40_1 : w24.cell? ⟨gb267, 1, none⟩ = some (.int .u64 t265) := (blk_cell BK267.out 1).trans rfl
                have hfz40_0 := blk_frozen BK267.out 0
                have hfz40_1 := blk_frozen BK267.out 1
                have hnb41 := NB271_261.out
                have hnc41 := NB261_271.out
                have hnb42 := NB271_263.out
                have hnc42 := NB263_271.out
                have hcz43_0 : w24.cell? ⟨gb271, 0, none⟩ = some (.int .i64 0) := (blk_cell BK271.out 0).trans rfl
                have hcz43_1 : w24.cell? ⟨gb271, 1, none⟩ = some (.int .u64 0) := (blk_cell BK271.out 1).trans rfl
                have hfz43_0 := blk_frozen BK271.out 0
                have hfz43_1 := blk_frozen BK271.out 1
                go_wp2
                go_meet
                case rel => exact ⟨_, ((t266 != t270)), (by first | rfl | (simp; done) | (simp [*]; done)), H', ⟨by have := HK1.out; first | omega | exact Nat.le_refl _⟩, ⟨by (with_reducible repeat (first | refine blk_drewN ?_ _ | refine blk_drew ?_ | refine blk_alloc ?_ _)); refine blk_far ?_ NB261_271.out _; (with_reducible repeat (first | refine blk_drewN ?_ _ | refine blk_drew ?_ | refine blk_alloc ?_ _)); refine blk_far ?_ NB261_271.out _; (with_reducible repeat (first | refine blk_drewN ?_ _ | refine blk_drew ?_ | refine blk_alloc ?_ _)); exact BK261.out⟩, ⟨by (with_reducible repeat (first | refine blk_drewN ?_ _ | refine blk_drew ?_ | refine blk_alloc ?_ _)); refine blk_far ?_ NB263_271.out _; (with_reducible repeat (first | refine blk_drewN ?_ _ | refine blk_drew ?_ | refine blk_alloc ?_ _)); refine blk_far ?_ NB263_271.out _; (with_reducible repeat (first | refine blk_drewN ?_ _ | refine blk_drew ?_ | refine blk_alloc ?_ _)); exact BK263.out⟩, ⟨by (with_reducible repeat (first | refine blk_drewN ?_ _ | refine blk_drew ?_ | refine blk_alloc ?_ _)); refine blk_far ?_ NB267_271.out _; (with_reducible repeat (first | refine blk_drewN ?_ _ | refine blk_drew ?_ | refine blk_alloc ?_ _)); refine blk_far ?_ NB267_271.out _; (with_reducible repeat (first | refine blk_drewN ?_ _ | refine blk_drew ?_ | refine blk_alloc ?_ _)); exact BK267.out⟩, ⟨by (with_reducible repeat (first | refine blk_drewN ?_ _ | refine blk_drew ?_ | refine blk_alloc ?_ _)); refine blk_put (cs := #[.int .i64 t268, .int .u64 0]) ?_ 1 _ rfl; (with_reducible repeat (first | refine blk_drewN ?_ _ | refine blk_drew ?_ | refine blk_alloc ?_ _)); refine blk_put (cs := #[.int .i64 0, .int .u64 0]) ?_ 0 _ rfl; (with_reducible repeat (first | refine blk_drewN ?_ _ | refine blk_drew ?_ | refine blk_alloc ?_ _)); exact BK271.out⟩, ⟨by repeat (first | (with_reducible first | exact HB.out | apply below_alloc | apply pw_below_drewN | apply below_drew1 | refine below_set ?_ GE261.out | refine below_set ?_ GE263.out | refine below_set ?_ GE267.out | refine below_set ?_ GE271.out) | exact HB.out)⟩⟩
            case rest =>
              clear HC9
              try clear c1
              try clear c2
              try clear p2
              try clear q2
              try clear hx2
              try clear c3
              try clear c4
              try clear c5
              try clear c5b0
              try clear c6
              try clear c6b0
              try clear c11
              try clear c12
              try clear c13
              try clear c18
              try clear c19
              try clear c25
              try clear c26
              try clear p26
              try clear q26
              try clear hx26
              try clear c27
              try clear c29
              try clear c29b0
              try clear c30
              try clear c31
              try clear c32
              try clear c34
              try clear c35
              try clear c37
              try clear c38
              try clear c39
              try clear c41
              try clear c42
              try clear hcz11_0
              try clear hcz11_1
              try clear hcz14_0
              try clear hcz14_1
              try clear hcz15_0
              try clear hcz15_1
              try clear hcz20_0
              try clear hcz20_1
              try clear hcz21_0
              try clear hcz21_1
              try clear hcz22_0
              try clear hcz22_1
              try clear hcz28_0
              try clear hcz28_1
              try clear hcz33_0
              try clear hcz33_1
              try clear hcz36_0
              try clear hcz36_1
              try clear hcz40_0
              try clear hcz40_1
              try clear hcz43_0
              try clear hcz43_1
              try clear hfz11_0
              try clear hfz11_1
              try clear hfz14_0
              try clear hfz14_1
              try clear hfz15_0
              try clear hfz15_1
              try clear hfz20_0
              try clear hfz20_1
              try clear hfz21_0
              try clear hfz21_1
              try clear hfz22_0
              try clear hfz22_1
              try clear hfz28_0
              try clear hfz28_1
              try clear hfz33_0
              try clear hfz33_1
              try clear hfz36_0
              try clear hfz36_1
              try clear hfz40_0
              try clear hfz40_1
              try clear hfz43_0
              try clear hfz43_1
              try clear hx260_0
              try clear hx260_1
              try clear hx260_2
              try clear hx260_3
              try clear hx262_0
              try clear hx262_1
              try clear hx262_2
              try clear hx262_3
              try clear p2
              try clear p260
              try clear p262
              try clear q260
              try clear q262
              obtain ⟨kq, x47_8, rfl, HA, HJ8, BK261, BK263, BK267, BK271, HB⟩ := hcut
              cases kq with
              | zero => exact absurd HA.out (by simp [octroilaw01_WideSums.j1])
              | succ kj8 =>
                have H := HA.out
                clear HA
                simp only [octroilaw01_WideSums.j1] at H
                by_cases c44 : x47_8 = true
                · subst c44
                  have H1 : (some false) = some r := by rw [if_pos rfl] at H; exact H
                  clear H
                  have H := H1
                  clear H1
                  obtain rfl := Option.some.inj H
                  go_wp2
                  go_ret
                  exact ⟨by first | rfl | (simp [errW_none, errW_some] <;> rfl) | (simp [*, errW_none, errW_some] <;> rfl), by repeat (first | (with_reducible first | exact HB.out | apply below_alloc | apply pw_below_drewN | apply below_drew1 | refine below_set ?_ GE261.out | refine below_set ?_ GE263.out | refine below_set ?_ GE267.out | refine below_set ?_ GE271.out) | exact HB.out)⟩
                · replace c44 := Bool.eq_false_iff.mpr c44
                  subst c44
                  have H1 : ((wide_Sub.f ((rd_T28 l0 x3_1).f0.f0) ((rd_T28 l0 x3_1).f0.f1) ((rd_T28 l0 x3_1).f1.f0) ((rd_T28 l0 x3_1).f1.f1)).bind fun bt272 => ((octroiref01_Sub.f ((rd_T28 l0 x3_1).f0.f0) ((rd_T28 l0 x3_1).f0.f1) ((rd_T28 l0 x3_1).f1.f0) ((rd_T28 l0 x3_1).f1.f1)).bind fun bt275 => (if (!(bt272.1 == bt275.1) || (!(bt272.2.1 == bt275.2.1))) = true then (octroilaw01_WideSums.j2 kj8 l0 x3_1 true ((rd_T28 l0 x3_1).f0.f0) ((rd_T28 l0 x3_1).f0.f1)) else (octroilaw01_WideSums.j2 kj8 l0 x3_1 (bt272.2.2 != bt275.2.2) ((rd_T28 l0 x3_1).f0.f0) ((rd_T28 l0 x3_1).f0.f1))))) = some r := by rw [if_neg (show ¬ (false = true) by decide)] at H; exact H
                  clear H
                  have H := H1
                  clear H1
                  replace H := Option.bind_eq_some_iff.mp H
                  obtain ⟨⟨t272, t273, t274⟩, A450, H⟩ := H
                  replace H : ((octroiref01_Sub.f ((rd_T28 l0 x3_1).f0.f0) ((rd_T28 l0 x3_1).f0.f1) ((rd_T28 l0 x3_1).f1.f0) ((rd_T28 l0 x3_1).f1.f1)).bind fun bt275 => (if (!(t272 == bt275.1) || (!(t273 == bt275.2.1))) = true then (octroilaw01_WideSums.j2 kj8 l0 x3_1 true ((rd_T28 l0 x3_1).f0.f0) ((rd_T28 l0 x3_1).f0.f1)) else (octroilaw01_WideSums.j2 kj8 l0 x3_1 (t274 != bt275.2.2) ((rd_T28 l0 x3_1).f0.f0) ((rd_T28 l0 x3_1).f0.f1)))) = some r := H
                  have A45 := Aside0.mk A450
                  clear A450
                  replace H := Option.bind_eq_some_iff.mp H
                  obtain ⟨⟨t275, t276, t277⟩, A460, H⟩ := H
                  replace H : (if (!(t272 == t275) || (!(t273 == t276))) = true then (octroilaw01_WideSums.j2 kj8 l0 x3_1 true ((rd_T28 l0 x3_1).f0.f0) ((rd_T28 l0 x3_1).f0.f1)) else (octroilaw01_WideSums.j2 kj8 l0 x3_1 (t274 != t277) ((rd_T28 l0 x3_1).f0.f0) ((rd_T28 l0 x3_1).f0.f1))) = some r := H
                  have A46 := Aside0.mk A460
                  clear A460
                  have HC47 := Aside0.mk H
                  clear H
                  have hnb48 := NB261_263.out
                  have hnc48 := NB263_261.out
                  have hnb49 := NB261_267.out
                  have hnc49 := NB267_261.out
                  have hnb50 := NB261_271.out
                  have hnc50 := NB271_261.out
                  have hcz51_0 : wc.cell? ⟨gb261, 0, none⟩ = some (.int .i64 ((rd_T28 l0 x3_1).f0.f0)) := (blk_cell BK261.out 0).trans rfl
                  have hcz51_1 : wc.cell? ⟨gb261, 1, none⟩ = some (.int .u64 ((rd_T28 l0 x3_1).f0.f1)) := (blk_cell BK261.out 1).trans rfl
                  have hfz51_0 := blk_frozen BK261.out 0
                  have hfz51_1 := blk_frozen BK261.out 1
                  have hnb52 := NB263_267.out
                  have hnc52 := NB267_263.out
                  have hnb53 := NB263_271.out
                  have hnc53 := NB271_263.out
                  have hcz54_0 : wc.cell? ⟨gb263, 0, none⟩ = some (.int .i64 ((rd_T28 l0 x3_1).f1.f0)) := (blk_cell BK263.out 0).trans rfl
                  have hcz54_1 : wc.cell? ⟨gb263, 1, none⟩ = some (.int .u64 ((rd_T28 l0 x3_1).f1.f1)) := (blk_cell BK263.out 1).trans rfl
                  have hfz54_0 := blk_frozen BK263.out 0
                  have hfz54_1 := blk_frozen BK263.out 1
                  go_upto_region 14 with (first | ((with_reducible refine gate_callee (f := 14) rfl ?_); refine goesL_ (some 51) rfl rfl Try.func14 (by kernel_rfl) rfl #[.agg #[.int .i64 ((rd_T28 l0 x3_1).f0.f0), .int .u64 ((rd_T28 l0 x3_1).f0.f1)], .agg #[.int .i64 ((rd_T28 l0 x3_1).f1.f0), .int .u64 ((rd_T28 l0 x3_1).f1.f1)]] rfl (by (try simp only [List.map_toArray, List.map_cons, List.map_nil]); first | done | rfl | (simp only [List.length_drop, List.length_take]; rfl)) ?_; (with_reducible refine (wide_Sub.calls ((rd_T28 l0 x3_1).f0.f0) ((rd_T28 l0 x3_1).f0.f1) ((rd_T28 l0 x3_1).f1.f0) ((rd_T28 l0 x3_1).f1.f1) t272 t273 t274 _ A45.out).mono ?_); rintro e w55 ⟨rfl, hb⟩; refine ⟨_, rfl, ?_⟩; have n0_ := Aside0.mk (blk_below (g := gb261) (o := .cells #[.int .i64 ((rd_T28 l0 x3_1).f0.f0), .int .u64 ((rd_T28 l0 x3_1).f0.f1)] 26 (0, 0)) (by (with_reducible repeat (first | refine blk_drewN ?_ _ | refine blk_drew ?_ | refine blk_alloc ?_ _)); exact BK261.out) hb); have n1_ := Aside0.mk (blk_below (g := gb263) (o := .cells #[.int .i64 ((rd_T28 l0 x3_1).f1.f0), .int .u64 ((rd_T28 l0 x3_1).f1.f1)] 26 (0, 0)) (by (with_reducible repeat (first | refine blk_drewN ?_ _ | refine blk_drew ?_ | refine blk_alloc ?_ _)); exact BK263.out) hb); have n2_ := Aside0.mk (blk_below (g := gb267) (o := .cells #[.int .i64 t264, .int .u64 t265] 26 (0, 0)) (by (with_reducible repeat (first | refine blk_drewN ?_ _ | refine blk_drew ?_ | refine blk_alloc ?_ _)); exact BK267.out) hb); have n3_ := Aside0.mk (blk_below (g := gb271) (o := .cells #[.int .i64 t268, .int .u64 t269] 26 (0, 0)) (by (with_reducible repeat (first | refine blk_drewN ?_ _ | refine blk_drew ?_ | refine blk_alloc ?_ _)); exact BK271.out) hb); have n4_ := Aside0.mk (below_step (by repeat (first | (with_reducible first | exact HB.out | apply below_alloc | apply pw_below_drewN | apply below_drew1 | refine below_set ?_ GE261.out | refine below_set ?_ GE263.out | refine below_set ?_ GE267.out | refine below_set ?_ GE271.out) | exact HB.out)) hb); clear BK261; clear BK263; clear BK267; clear BK271; clear HB; have BK261 := n0_; have BK263 := n1_; have BK267 := n2_; have BK271 := n3_; have HB := n4_; clear n0_ n1_ n2_ n3_ n4_; (try clear hb); (try clear hb2); (try clear hk); (try clear hi); have hnb56 := NB267_271.out; have hnc56 := NB271_267.out; have hcz57_0 : w55.cell? ⟨gb267, 0, none⟩ = some (.int .i64 t264) := (blk_cell BK267.out 0).trans rfl; have hcz57_1 : w55.cell? ⟨gb267, 1, none⟩ = some (.int .u64 t265) := (blk_cell BK267.out 1).trans rfl; have hfz57_0 := blk_frozen BK267.out 0; have hfz57_1 := blk_frozen BK267.out 1; have hcz58_0 : w55.cell? ⟨gb261, 0, none⟩ = some (.int .i64 ((rd_T28 l0 x3_1).f0.f0)) := (blk_cell BK261.out 0).trans rfl; have hcz58_1 : w55.cell? ⟨gb261, 1, none⟩ = some (.int .u64 ((rd_T28 l0 x3_1).f0.f1)) := (blk_cell BK261.out 1).trans rfl; have hfz58_0 := blk_frozen BK261.out 0; have hfz58_1 := blk_frozen BK261.out 1; have hcz59_0 : w55.cell? ⟨gb263, 0, none⟩ = some (.int .i64 ((rd_T28 l0 x3_1).f1.f0)) := (blk_cell BK263.out 0).trans rfl; have hcz59_1 : w55.cell? ⟨gb263, 1, none⟩ = some (.int .u64 ((rd_T28 l0 x3_1).f1.f1)) := (blk_cell BK263.out 1).trans rfl; have hfz59_0 := blk_frozen BK263.out 0; have hfz59_1 := blk_frozen BK263.out 1) | ((with_reducible refine gate_callee (f := 15) rfl ?_); refine goesL_ (some 57) rfl rfl Try.func15 (by kernel_rfl) rfl #[.agg #[.int .i64 ((rd_T28 l0 x3_1).f0.f0), .int .u64 ((rd_T28 l0 x3_1).f0.f1)], .agg #[.int .i64 ((rd_T28 l0 x3_1).f1.f0), .int .u64 ((rd_T28 l0 x3_1).f1.f1)]] rfl (by (try simp only [List.map_toArray, List.map_cons, List.map_nil]); first | done | rfl | (simp only [List.length_drop, List.length_take]; rfl)) ?_; (with_reducible refine (octroiref01_Sub.calls ((rd_T28 l0 x3_1).f0.f0) ((rd_T28 l0 x3_1).f0.f1) ((rd_T28 l0 x3_1).f1.f0) ((rd_T28 l0 x3_1).f1.f1) t275 t276 t277 _ A46.out).mono ?_); rintro e w60 ⟨rfl, hb⟩; refine ⟨_, rfl, ?_⟩; have n0_ := Aside0.mk (blk_below (g := gb261) (o := .cells #[.int .i64 ((rd_T28 l0 x3_1).f0.f0), .int .u64 ((rd_T28 l0 x3_1).f0.f1)] 26 (0, 0)) (by (with_reducible repeat (first | refine blk_drewN ?_ _ | refine blk_drew ?_ | refine blk_alloc ?_ _)); refine blk_far ?_ NB261_267.out _; (with_reducible repeat (first | refine blk_drewN ?_ _ | refine blk_drew ?_ | refine blk_alloc ?_ _)); refine blk_far ?_ NB261_267.out _; (with_reducible repeat (first | refine blk_drewN ?_ _ | refine blk_drew ?_ | refine blk_alloc ?_ _)); exact BK261.out) hb); have n1_ := Aside0.mk (blk_below (g := gb263) (o := .cells #[.int .i64 ((rd_T28 l0 x3_1).f1.f0), .int .u64 ((rd_T28 l0 x3_1).f1.f1)] 26 (0, 0)) (by (with_reducible repeat (first | refine blk_drewN ?_ _ | refine blk_drew ?_ | refine blk_alloc ?_ _)); refine blk_far ?_ NB263_267.out _; (with_reducible repeat (first | refine blk_drewN ?_ _ | refine blk_drew ?_ | refine blk_alloc ?_ _)); refine blk_far ?_ NB263_267.out _; (with_reducible repeat (first | refine blk_drewN ?_ _ | refine blk_drew ?_ | refine blk_alloc ?_ _)); exact BK263.out) hb); have n2_ := Aside0.mk (blk_below (g := gb267) (o := .cells #[.int .i64 t272, .int .u64 t273] 26 (0, 0)) (by (with_reducible repeat (first | refine blk_drewN ?_ _ | refine blk_drew ?_ | refine blk_alloc ?_ _)); refine blk_put (cs := #[.int .i64 t272, .int .u64 t265]) ?_ 1 _ rfl; (with_reducible repeat (first | refine blk_drewN ?_ _ | refine blk_drew ?_ | refine blk_alloc ?_ _)); refine blk_put (cs := #[.int .i64 t264, .int .u64 t265]) ?_ 0 _ rfl; (with_reducible repeat (first | refine blk_drewN ?_ _ | refine blk_drew ?_ | refine blk_alloc ?_ _)); exact BK267.out) hb); have n3_ := Aside0.mk (blk_below (g := gb271) (o := .cells #[.int .i64 t268, .int .u64 t269] 26 (0, 0)) (by (with_reducible repeat (first | refine blk_drewN ?_ _ | refine blk_drew ?_ | refine blk_alloc ?_ _)); refine blk_far ?_ NB271_267.out _; (with_reducible repeat (first | refine blk_drewN ?_ _ | refine blk_drew ?_ | refine blk_alloc ?_ _)); refine blk_far ?_ NB271_267.out _; (with_reducible repeat (first | refine blk_drewN ?_ _ | refine blk_drew ?_ | refine blk_alloc ?_ _)); exact BK271.out) hb); have n4_ := Aside0.mk (below_step (by repeat (first | (with_reducible first | exact HB.out | apply below_alloc | apply pw_below_drewN | apply below_drew1 | refine below_set ?_ GE261.out | refine below_set ?_ GE263.out | refine below_set ?_ GE267.out | refine below_set ?_ GE271.out) | exact HB.out)) hb); clear BK261; clear BK263; clear BK267; clear BK271; clear HB; have BK261 := n0_; have BK263 := n1_; have BK267 := n2_; have BK271 := n3_; have HB := n4_; clear n0_ n1_ n2_ n3_ n4_; (try clear hb); (try clear hb2); (try clear hk); (try clear hi); have hcz61_0 : w60.cell? ⟨gb271, 0, none⟩ = some (.int .i64 t268) := (blk_cell BK271.out 0).trans rfl; have hcz61_1 : w60.cell? ⟨gb271, 1, none⟩ = some (.int .u64 t269) := (blk_cell BK271.out 1).trans rfl; have hfz61_0 := blk_frozen BK271.out 0; have hfz61_1 := blk_frozen BK271.out 1))
                  (try simp only [Act.put, List.setIfInBounds_toArray, List.set_cons_zero, List.set_cons_succ])
                  go_cut [67] (fun v67 wc => ∃ (kq : Nat) (x67_46 : Bool), v67 = .bool x67_46 ∧ Aside0 (octroilaw01_WideSums.j2 kq l0 x3_1 x67_46 ((rd_T28 l0 x3_1).f0.f0) ((rd_T28 l0 x3_1).f0.f1) = some r) ∧ Aside0 (kq ≤ kj8) ∧ Aside0 (wc.heap[gb261]? = some (.cells #[.int .i64 ((rd_T28 l0 x3_1).f0.f0), .int .u64 ((rd_T28 l0 x3_1).f0.f1)] 26 (0, 0))) ∧ Aside0 (wc.heap[gb263]? = some (.cells #[.int .i64 ((rd_T28 l0 x3_1).f1.f0), .int .u64 ((rd_T28 l0 x3_1).f1.f1)] 26 (0, 0))) ∧ Aside0 (wc.heap[gb267]? = some (.cells #[.int .i64 t272, .int .u64 t273] 26 (0, 0))) ∧ Aside0 (wc.heap[gb271]? = some (.cells #[.int .i64 t275, .int .u64 t276] 26 (0, 0))) ∧ Aside0 (Below w.heap.size w wc))
                  case first =>
                    have H := HC47.out
                    clear HC47
                    by_cases c62 : (!(t272 == t275) || (!(t273 == t276))) = true
                    · rw [if_pos c62] at H
                      have c62b0 : (!(t272 == t275) || (!(t273 == t276))) = true := c62
                      clear c62
                      (first | rw [c62b0] | (simp only [i64_w, i32_w]; rw [c62b0]) | skip)
                      have H' := Aside0.mk H
                      clear H
                      have hnb63 := NB267_261.out
                      have hnc63 := NB261_267.out
                      have hnb64 := NB267_263.out
                      have hnc64 := NB263_267.out
                      have hnb65 := NB267_271.out
                      have hnc65 := NB271_267.out
                      have hcz66_0 : w60.cell? ⟨gb267, 0, none⟩ = some (.int .i64 t272) := (blk_cell BK267.out 0).trans rfl
                      have hcz66_1 : w60.cell? ⟨gb267, 1, none⟩ = some (.int .u64 t273) := (blk_cell BK267.out 1).trans rfl
                      have hfz66_0 := blk_frozen BK267.out 0
                      have hfz66_1 := blk_frozen BK267.out 1
                      have hnb67 := NB271_261.out
                      have hnc67 := NB261_271.out
                      have hnb68 := NB271_263.out
                      have hnc68 := NB263_271.out
                      have hcz69_0 : w60.cell? ⟨gb271, 0, none⟩ = some (.int .i64 t268) := (blk_cell BK271.out 0).trans rfl
                      have hcz69_1 : w60.cell? ⟨gb271, 1, none⟩ = some (.int .u64 t269) := (blk_cell BK271.out 1).trans rfl
                      have hfz69_0 := blk_frozen BK271.out 0
                      have hfz69_1 := blk_frozen BK271.out 1
                      go_wp2
                      go_meet
                      case rel => exact ⟨_, (true), (by first | rfl | (simp; done) | (simp [*]; done)), H', ⟨by have := HK1.out; have := HJ8.out; first | omega | exact Nat.le_refl _⟩, ⟨by (with_reducible repeat (first | refine blk_drewN ?_ _ | refine blk_drew ?_ | refine blk_alloc ?_ _)); refine blk_far ?_ NB261_271.out _; (with_reducible repeat (first | refine blk_drewN ?_ _ | refine blk_drew ?_ | refine blk_alloc ?_ _)); refine blk_far ?_ NB261_271.out _; (with_reducible repeat (first | refine blk_drewN ?_ _ | refine blk_drew ?_ | refine blk_alloc ?_ _)); exact BK261.out⟩, ⟨by (with_reducible repeat (first | refine blk_drewN ?_ _ | refine blk_drew ?_ | refine blk_alloc ?_ _)); refine blk_far ?_ NB263_271.out _; (with_reducible repeat (first | refine blk_drewN ?_ _ | refine blk_drew ?_ | refine blk_alloc ?_ _)); refine blk_far ?_ NB263_271.out _; (with_reducible repeat (first | refine blk_drewN ?_ _ | refine blk_drew ?_ | refine blk_alloc ?_ _)); exact BK263.out⟩, ⟨by (with_reducible repeat (first | refine blk_drewN ?_ _ | refine blk_drew ?_ | refine blk_alloc ?_ _)); refine blk_far ?_ NB267_271.out _; (with_reducible repeat (first | refine blk_drewN ?_ _ | refine blk_drew ?_ | refine blk_alloc ?_ _)); refine blk_far ?_ NB267_271.out _; (with_reducible repeat (first | refine blk_drewN ?_ _ | refine blk_drew ?_ | refine blk_alloc ?_ _)); exact BK267.out⟩, ⟨by (with_reducible repeat (first | refine blk_drewN ?_ _ | refine blk_drew ?_ | refine blk_alloc ?_ _)); refine blk_put (cs := #[.int .i64 t275, .int .u64 t269]) ?_ 1 _ rfl; (with_reducible repeat (first | refine blk_drewN ?_ _ | refine blk_drew ?_ | refine blk_alloc ?_ _)); refine blk_put (cs := #[.int .i64 t268, .int .u64 t269]) ?_ 0 _ rfl; (with_reducible repeat (first | refine blk_drewN ?_ _ | refine blk_drew ?_ | refine blk_alloc ?_ _)); exact BK271.out⟩, ⟨by repeat (first | (with_reducible first | exact HB.out | apply below_alloc | apply pw_below_drewN | apply below_drew1 | refine below_set ?_ GE261.out | refine below_set ?_ GE263.out | refine below_set ?_ GE267.out | refine below_set ?_ GE271.out) | exact HB.out)⟩⟩
                    · rw [if_neg c62] at H
                      have c62b0 : (!(t272 == t275) || (!(t273 == t276))) = false := by simpa using c62
                      clear c62
                      (first | rw [c62b0] | (simp only [i64_w, i32_w]; rw [c62b0]) | skip)
                      have H' := Aside0.mk H
                      clear H
                      have hnb70 := NB267_261.out
                      have hnc70 := NB261_267.out
                      have hnb71 := NB267_263.out
                      have hnc71 := NB263_267.out
                      have hnb72 := NB267_271.out
                      have hnc72 := NB271_267.out
                      have hcz73_0 : w60.cell? ⟨gb267, 0, none⟩ = some (.int .i64 t272) := (blk_cell BK267.out 0).trans rfl
                      have hcz73_1 : w60.cell? ⟨gb267, 1, none⟩ = some (.int .u64 t273) := (blk_cell BK267.out 1).trans rfl
                      have hfz73_0 := blk_frozen BK267.out 0
                      have hfz73_1 := blk_frozen BK267.out 1
                      have hnb74 := NB271_261.out
                      have hnc74 := NB261_271.out
                      have hnb75 := NB271_263.out
                      have hnc75 := NB263_271.out
                      have hcz76_0 : w60.cell? ⟨gb271, 0, none⟩ = some (.int .i64 t268) := (blk_cell BK271.out 0).trans rfl
                      have hcz76_1 : w60.cell? ⟨gb271, 1, none⟩ = some (.int .u64 t269) := (blk_cell BK271.out 1).trans rfl
                      have hfz76_0 := blk_frozen BK271.out 0
                      have hfz76_1 := blk_frozen BK271.out 1
                      go_wp2
                      go_meet
                      case rel => exact ⟨_, ((t274 != t277)), (by first | rfl | (simp; done) | (simp [*]; done)), H', ⟨by have := HK1.out; have := HJ8.out; first | omega | exact Nat.le_refl _⟩, ⟨by (with_reducible repeat (first | refine blk_drewN ?_ _ | refine blk_drew ?_ | refine blk_alloc ?_ _)); refine blk_far ?_ NB261_271.out _; (with_reducible repeat (first | refine blk_drewN ?_ _ | refine blk_drew ?_ | refine blk_alloc ?_ _)); refine blk_far ?_ NB261_271.out _; (with_reducible repeat (first | refine blk_drewN ?_ _ | refine blk_drew ?_ | refine blk_alloc ?_ _)); exact BK261.out⟩, ⟨by (with_reducible repeat (first | refine blk_drewN ?_ _ | refine blk_drew ?_ | refine blk_alloc ?_ _)); refine blk_far ?_ NB263_271.out _; (with_reducible repeat (first | refine blk_drewN ?_ _ | refine blk_drew ?_ | refine blk_alloc ?_ _)); refine blk_far ?_ NB263_271.out _; (with_reducible repeat (first | refine blk_drewN ?_ _ | refine blk_drew ?_ | refine blk_alloc ?_ _)); exact BK263.out⟩, ⟨by (with_reducible repeat (first | refine blk_drewN ?_ _ | refine blk_drew ?_ | refine blk_alloc ?_ _)); refine blk_far ?_ NB267_271.out _; (with_reducible repeat (first | refine blk_drewN ?_ _ | refine blk_drew ?_ | refine blk_alloc ?_ _)); refine blk_far ?_ NB267_271.out _; (with_reducible repeat (first | refine blk_drewN ?_ _ | refine blk_drew ?_ | refine blk_alloc ?_ _)); exact BK267.out⟩, ⟨by (with_reducible repeat (first | refine blk_drewN ?_ _ | refine blk_drew ?_ | refine blk_alloc ?_ _)); refine blk_put (cs := #[.int .i64 t275, .int .u64 t269]) ?_ 1 _ rfl; (with_reducible repeat (first | refine blk_drewN ?_ _ | refine blk_drew ?_ | refine blk_alloc ?_ _)); refine blk_put (cs := #[.int .i64 t268, .int .u64 t269]) ?_ 0 _ rfl; (with_reducible repeat (first | refine blk_drewN ?_ _ | refine blk_drew ?_ | refine blk_alloc ?_ _)); exact BK271.out⟩, ⟨by repeat (first | (with_reducible first | exact HB.out | apply below_alloc | apply pw_below_drewN | apply below_drew1 | refine below_set ?_ GE261.out | refine below_set ?_ GE263.out | refine below_set ?_ GE267.out | refine below_set ?_ GE271.out) | exact HB.out)⟩⟩
                  case rest =>
                    clear HC47
                    try clear c1
                    try clear c2
                    try clear p2
                    try clear q2
                    try clear hx2
                    try clear c3
                    try clear c4
                    try clear c5
                    try clear c5b0
                    try clear c6
                    try clear c6b0
                    try clear c7
                    try clear c11
                    try clear c12
                    try clear c13
                    try clear c14
                    try clear c15
                    try clear c18
                    try clear c19
                    try clear c25
                    try clear c26
                    try clear p26
                    try clear q26
                    try clear hx26
                    try clear c27
                    try clear c29
                    try clear c29b0
                    try clear c30
                    try clear c31
                    try clear c32
                    try clear c34
                    try clear c35
                    try clear c37
                    try clear c38
                    try clear c39
                    try clear c41
                    try clear c42
                    try clear c44
                    try clear c48
                    try clear c49
                    try clear c50
                    try clear c52
                    try clear c53
                    try clear c56
                    try clear c62
                    try clear c62b0
                    try clear c63
                    try clear c64
                    try clear c65
                    try clear c67
                    try clear c68
                    try clear c70
                    try clear c71
                    try clear c72
                    try clear c74
                    try clear c75
                    try clear hcz11_0
                    try clear hcz11_1
                    try clear hcz14_0
                    try clear hcz14_1
                    try clear hcz15_0
                    try clear hcz15_1
                    try clear hcz20_0
                    try clear hcz20_1
                    try clear hcz21_0
                    try clear hcz21_1
                    try clear hcz22_0
                    try clear hcz22_1
                    try clear hcz28_0
                    try clear hcz28_1
                    try clear hcz33_0
                    try clear hcz33_1
                    try clear hcz36_0
                    try clear hcz36_1
                    try clear hcz40_0
                    try clear hcz40_1
                    try clear hcz43_0
                    try clear hcz43_1
                    try clear hcz51_0
                    try clear hcz51_1
                    try clear hcz54_0
                    try clear hcz54_1
                    try clear hcz57_0
                    try clear hcz57_1
                    try clear hcz58_0
                    try clear hcz58_1
                    try clear hcz59_0
                    try clear hcz59_1
                    try clear hcz61_0
                    try clear hcz61_1
                    try clear hcz66_0
                    try clear hcz66_1
                    try clear hcz69_0
                    try clear hcz69_1
                    try clear hcz73_0
                    try clear hcz73_1
                    try clear hcz76_0
                    try clear hcz76_1
                    try clear hfz11_0
                    try clear hfz11_1
                    try clear hfz14_0
                    try clear hfz14_1
                    try clear hfz15_0
                    try clear hfz15_1
                    try clear hfz20_0
                    try clear hfz20_1
                    try clear hfz21_0
                    try clear hfz21_1
                    try clear hfz22_0
                    try clear hfz22_1
                    try clear hfz28_0
                    try clear hfz28_1
                    try clear hfz33_0
                    try clear hfz33_1
                    try clear hfz36_0
                    try clear hfz36_1
                    try clear hfz40_0
                    try clear hfz40_1
                    try clear hfz43_0
                    try clear hfz43_1
                    try clear hfz51_0
                    try clear hfz51_1
                    try clear hfz54_0
                    try clear hfz54_1
                    try clear hfz57_0
                    try clear hfz57_1
                    try clear hfz58_0
                    try clear hfz58_1
                    try clear hfz59_0
                    try clear hfz59_1
                    try clear hfz61_0
                    try clear hfz61_1
                    try clear hfz66_0
                    try clear hfz66_1
                    try clear hfz69_0
                    try clear hfz69_1
                    try clear hfz73_0
                    try clear hfz73_1
                    try clear hfz76_0
                    try clear hfz76_1
                    try clear hx260_0
                    try clear hx260_1
                    try clear hx260_2
                    try clear hx260_3
                    try clear hx262_0
                    try clear hx262_1
                    try clear hx262_2
                    try clear hx262_3
                    try clear p2
                    try clear p26
                    try clear p260
                    try clear p262
                    try clear q2
                    try clear q26
                    try clear q260
                    try clear q262
                    obtain ⟨kq, x67_46, rfl, HA, HJ46, BK261, BK263, BK267, BK271, HB⟩ := hcut
                    cases kq with
                    | zero => exact absurd HA.out (by simp [octroilaw01_WideSums.j2])
                    | succ kj46 =>
                      have H := HA.out
                      clear HA
                      simp only [octroilaw01_WideSums.j2] at H
                      by_cases c77 : x67_46 = true
                      · subst c77
                        have H1 : (some false) = some r := by rw [if_pos rfl] at H; exact H
                        clear H
                        have H := H1
                        clear H1
                        obtain rfl := Option.some.inj H
                        go_wp2
                        go_ret
                        exact ⟨by first | rfl | (simp [errW_none, errW_some] <;> rfl) | (simp [*, errW_none, errW_some] <;> rfl), by repeat (first | (with_reducible first | exact HB.out | apply below_alloc | apply pw_below_drewN | apply below_drew1 | refine below_set ?_ GE261.out | refine below_set ?_ GE263.out | refine below_set ?_ GE267.out | refine below_set ?_ GE271.out) | exact HB.out)⟩
                      · replace c77 := Bool.eq_false_iff.mpr c77
                        subst c77
                        have H1 : ((wide_Neg.f ((rd_T28 l0 x3_1).f0.f0) ((rd_T28 l0 x3_1).f0.f1)).bind fun bt278 => ((octroiref01_Neg.f ((rd_T28 l0 x3_1).f0.f0) ((rd_T28 l0 x3_1).f0.f1)).bind fun bt281 => (if (!(bt278.1 == bt281.1) || (!(bt278.2.1 == bt281.2.1))) = true then (some false) else (if bt278.2.2 = bt281.2.2 then (octroilaw01_WideSums.l0 kj46 l0 (wrap64 (x3_1 + 1))) else (some false))))) = some r := by rw [if_neg (show ¬ (false = true) by decide)] at H; exact H
                        clear H
                        have H := H1
                        clear H1
                        replace H := Option.bind_eq_some_iff.mp H
                        obtain ⟨⟨t278, t279, t280⟩, A780, H⟩ := H
                        replace H : ((octroiref01_Neg.f ((rd_T28 l0 x3_1).f0.f0) ((rd_T28 l0 x3_1).f0.f1)).bind fun bt281 => (if (!(t278 == bt281.1) || (!(t279 == bt281.2.1))) = true then (some false) else (if t280 = bt281.2.2 then (octroilaw01_WideSums.l0 kj46 l0 (wrap64 (x3_1 + 1))) else (some false)))) = some r := H
                        have A78 := Aside0.mk A780
                        clear A780
                        replace H := Option.bind_eq_some_iff.mp H
                        obtain ⟨⟨t281, t282, t283⟩, A790, H⟩ := H
                        replace H : (if (!(t278 == t281) || (!(t279 == t282))) = true then (some false) else (if t280 = t283 then (octroilaw01_WideSums.l0 kj46 l0 (wrap64 (x3_1 + 1))) else (some false))) = some r := H
                        have A79 := Aside0.mk A790
                        clear A790
                        by_cases c80 : (!(t278 == t281) || (!(t279 == t282))) = true
                        · rw [if_pos c80] at H
                          have c80b0 : (!(t278 == t281) || (!(t279 == t282))) = true := c80
                          clear c80
                          obtain rfl := Option.some.inj H
                          have hnb81 := NB261_263.out
                          have hnc81 := NB263_261.out
                          have hnb82 := NB261_267.out
                          have hnc82 := NB267_261.out
                          have hnb83 := NB261_271.out
                          have hnc83 := NB271_261.out
                          have hcz84_0 : wc.cell? ⟨gb261, 0, none⟩ = some (.int .i64 ((rd_T28 l0 x3_1).f0.f0)) := (blk_cell BK261.out 0).trans rfl
                          have hcz84_1 : wc.cell? ⟨gb261, 1, none⟩ = some (.int .u64 ((rd_T28 l0 x3_1).f0.f1)) := (blk_cell BK261.out 1).trans rfl
                          have hfz84_0 := blk_frozen BK261.out 0
                          have hfz84_1 := blk_frozen BK261.out 1
                          go_wp2_with (first | ((with_reducible refine gate_callee (f := 16) rfl ?_); refine goesL_ (some 70) rfl rfl Try.func16 (by kernel_rfl) rfl #[.agg #[.int .i64 ((rd_T28 l0 x3_1).f0.f0), .int .u64 ((rd_T28 l0 x3_1).f0.f1)]] rfl (by (try simp only [List.map_toArray, List.map_cons, List.map_nil]); first | done | rfl | (simp only [List.length_drop, List.length_take]; rfl)) ?_; (with_reducible refine (wide_Neg.calls ((rd_T28 l0 x3_1).f0.f0) ((rd_T28 l0 x3_1).f0.f1) t278 t279 t280 _ A78.out).mono ?_); rintro e w85 ⟨rfl, hb⟩; refine ⟨_, rfl, ?_⟩; have n0_ := Aside0.mk (blk_below (g := gb261) (o := .cells #[.int .i64 ((rd_T28 l0 x3_1).f0.f0), .int .u64 ((rd_T28 l0 x3_1).f0.f1)] 26 (0, 0)) (by (with_reducible repeat (first | refine blk_drewN ?_ _ | refine blk_drew ?_ | refine blk_alloc ?_ _)); exact BK261.out) hb); have n1_ := Aside0.mk (blk_below (g := gb263) (o := .cells #[.int .i64 ((rd_T28 l0 x3_1).f1.f0), .int .u64 ((rd_T28 l0 x3_1).f1.f1)] 26 (0, 0)) (by (with_reducible repeat (first | refine blk_drewN ?_ _ | refine blk_drew ?_ | refine blk_alloc ?_ _)); exact BK263.out) hb); have n2_ := Aside0.mk (blk_below (g := gb267) (o := .cells #[.int .i64 t272, .int .u64 t273] 26 (0, 0)) (by (with_reducible repeat (first | refine blk_drewN ?_ _ | refine blk_drew ?_ | refine blk_alloc ?_ _)); exact BK267.out) hb); have n3_ := Aside0.mk (blk_below (g := gb271) (o := .cells #[.int .i64 t275, .int .u64 t276] 26 (0, 0)) (by (with_reducible repeat (first | refine blk_drewN ?_ _ | refine blk_drew ?_ | refine blk_alloc ?_ _)); exact BK271.out) hb); have n4_ := Aside0.mk (below_step (by repeat (first | (with_reducible first | exact HB.out | apply below_alloc | apply pw_below_drewN | apply below_drew1 | refine below_set ?_ GE261.out | refine below_set ?_ GE263.out | refine below_set ?_ GE267.out | refine below_set ?_ GE271.out) | exact HB.out)) hb); clear BK261; clear BK263; clear BK267; clear BK271; clear HB; have BK261 := n0_; have BK263 := n1_; have BK267 := n2_; have BK271 := n3_; have HB := n4_; clear n0_ n1_ n2_ n3_ n4_; (try clear hb); (try clear hb2); (try clear hk); (try clear hi); have hnb86 := NB267_263.out; have hnc86 := NB263_267.out; have hnb87 := NB267_271.out; have hnc87 := NB271_267.out; have hcz88_0 : w85.cell? ⟨gb267, 0, none⟩ = some (.int .i64 t272) := (blk_cell BK267.out 0).trans rfl; have hcz88_1 : w85.cell? ⟨gb267, 1, none⟩ = some (.int .u64 t273) := (blk_cell BK267.out 1).trans rfl; have hfz88_0 := blk_frozen BK267.out 0; have hfz88_1 := blk_frozen BK267.out 1; have hcz89_0 : w85.cell? ⟨gb261, 0, none⟩ = some (.int .i64 ((rd_T28 l0 x3_1).f0.f0)) := (blk_cell BK261.out 0).trans rfl; have hcz89_1 : w85.cell? ⟨gb261, 1, none⟩ = some (.int .u64 ((rd_T28 l0 x3_1).f0.f1)) := (blk_cell BK261.out 1).trans rfl; have hfz89_0 := blk_frozen BK261.out 0; have hfz89_1 := blk_frozen BK261.out 1) | ((with_reducible refine gate_callee (f := 17) rfl ?_); refine goesL_ (some 75) rfl rfl Try.func17 (by kernel_rfl) rfl #[.agg #[.int .i64 ((rd_T28 l0 x3_1).f0.f0), .int .u64 ((rd_T28 l0 x3_1).f0.f1)]] rfl (by (try simp only [List.map_toArray, List.map_cons, List.map_nil]); first | done | rfl | (simp only [List.length_drop, List.length_take]; rfl)) ?_; (with_reducible refine (octroiref01_Neg.calls ((rd_T28 l0 x3_1).f0.f0) ((rd_T28 l0 x3_1).f0.f1) t281 t282 t283 _ A79.out).mono ?_); rintro e w90 ⟨rfl, hb⟩; refine ⟨_, rfl, ?_⟩; have n0_ := Aside0.mk (blk_below (g := gb261) (o := .cells #[.int .i64 ((rd_T28 l0 x3_1).f0.f0), .int .u64 ((rd_T28 l0 x3_1).f0.f1)] 26 (0, 0)) (by (with_reducible repeat (first | refine blk_drewN ?_ _ | refine blk_drew ?_ | refine blk_alloc ?_ _)); refine blk_far ?_ NB261_267.out _; (with_reducible repeat (first | refine blk_drewN ?_ _ | refine blk_drew ?_ | refine blk_alloc ?_ _)); refine blk_far ?_ NB261_267.out _; (with_reducible repeat (first | refine blk_drewN ?_ _ | refine blk_drew ?_ | refine blk_alloc ?_ _)); exact BK261.out) hb); have n1_ := Aside0.mk (blk_below (g := gb263) (o := .cells #[.int .i64 ((rd_T28 l0 x3_1).f1.f0), .int .u64 ((rd_T28 l0 x3_1).f1.f1)] 26 (0, 0)) (by (with_reducible repeat (first | refine blk_drewN ?_ _ | refine blk_drew ?_ | refine blk_alloc ?_ _)); refine blk_far ?_ NB263_267.out _; (with_reducible repeat (first | refine blk_drewN ?_ _ | refine blk_drew ?_ | refine blk_alloc ?_ _)); refine blk_far ?_ NB263_267.out _; (with_reducible repeat (first | refine blk_drewN ?_ _ | refine blk_drew ?_ | refine blk_alloc ?_ _)); exact BK263.out) hb); have n2_ := Aside0.mk (blk_below (g := gb267) (o := .cells #[.int .i64 t278, .int .u64 t279] 26 (0, 0)) (by (with_reducible repeat (first | refine blk_drewN ?_ _ | refine blk_drew ?_ | refine blk_alloc ?_ _)); refine blk_put (cs := #[.int .i64 t278, .int .u64 t273]) ?_ 1 _ rfl; (with_reducible repeat (first | refine blk_drewN ?_ _ | refine blk_drew ?_ | refine blk_alloc ?_ _)); refine blk_put (cs := #[.int .i64 t272, .int .u64 t273]) ?_ 0 _ rfl; (with_reducible repeat (first | refine blk_drewN ?_ _ | refine blk_drew ?_ | refine blk_alloc ?_ _)); exact BK267.out) hb); have n3_ := Aside0.mk (blk_below (g := gb271) (o := .cells #[.int .i64 t275, .int .u64 t276] 26 (0, 0)) (by (with_reducible repeat (first | refine blk_drewN ?_ _ | refine blk_drew ?_ | refine blk_alloc ?_ _)); refine blk_far ?_ NB271_267.out _; (with_reducible repeat (first | refine blk_drewN ?_ _ | refine blk_drew ?_ | refine blk_alloc ?_ _)); refine blk_far ?_ NB271_267.out _; (with_reducible repeat (first | refine blk_drewN ?_ _ | refine blk_drew ?_ | refine blk_alloc ?_ _)); exact BK271.out) hb); have n4_ := Aside0.mk (below_step (by repeat (first | (with_reducible first | exact HB.out | apply below_alloc | apply pw_below_drewN | apply below_drew1 | refine below_set ?_ GE261.out | refine below_set ?_ GE263.out | refine below_set ?_ GE267.out | refine below_set ?_ GE271.out) | exact HB.out)) hb); clear BK261; clear BK263; clear BK267; clear BK271; clear HB; have BK261 := n0_; have BK263 := n1_; have BK267 := n2_; have BK271 := n3_; have HB := n4_; clear n0_ n1_ n2_ n3_ n4_; (try clear hb); (try clear hb2); (try clear hk); (try clear hi); have hnb91 := NB271_263.out; have hnc91 := NB263_271.out; have hcz92_0 : w90.cell? ⟨gb271, 0, none⟩ = some (.int .i64 t275) := (blk_cell BK271.out 0).trans rfl; have hcz92_1 : w90.cell? ⟨gb271, 1, none⟩ = some (.int .u64 t276) := (blk_cell BK271.out 1).trans rfl; have hfz92_0 := blk_frozen BK271.out 0; have hfz92_1 := blk_frozen BK271.out 1; have hcz93_0 : w90.cell? ⟨gb267, 0, none⟩ = some (.int .i64 t278) := (blk_cell BK267.out 0).trans rfl; have hcz93_1 : w90.cell? ⟨gb267, 1, none⟩ = some (.int .u64 t279) := (blk_cell BK267.out 1).trans rfl; have hfz93_0 := blk_frozen BK267.out 0; have hfz93_1 := blk_frozen BK267.out 1))
                          go_ret
                          exact ⟨by first | rfl | (simp [errW_none, errW_some] <;> rfl) | (simp [*, errW_none, errW_some] <;> rfl), by repeat (first | (with_reducible first | exact HB.out | apply below_alloc | apply pw_below_drewN | apply below_drew1 | refine below_set ?_ GE261.out | refine below_set ?_ GE263.out | refine below_set ?_ GE267.out | refine below_set ?_ GE271.out) | exact HB.out)⟩
                        · rw [if_neg c80] at H
                          have c80b0 : (!(t278 == t281) || (!(t279 == t282))) = false := by simpa using c80
                          clear c80
                          by_cases c94 : t280 = t283
                          · rw [if_pos c94] at H
                            have c94b0 : (t280 == t283) = true := beq_iff_eq.mpr c94
                            have c94b1 : (t280 != t283) = false := bne_eq_false_iff_eq.mpr c94
                            clear c94
                            have H' := Aside0.mk H
                            clear H
                            have hnb95 := NB261_263.out
                            have hnc95 := NB263_261.out
                            have hnb96 := NB261_267.out
                            have hnc96 := NB267_261.out
                            have hnb97 := NB261_271.out
                            have hnc97 := NB271_261.out
                            have hcz98_0 : wc.cell? ⟨gb261, 0, none⟩ = some (.int .i64 ((rd_T28 l0 x3_1).f0.f0)) := (blk_cell BK261.out 0).trans rfl
                            have hcz98_1 : wc.cell? ⟨gb261, 1, none⟩ = some (.int .u64 ((rd_T28 l0 x3_1).f0.f1)) := (blk_cell BK261.out 1).trans rfl
                            have hfz98_0 := blk_frozen BK261.out 0
                            have hfz98_1 := blk_frozen BK261.out 1
                            go_wp2_with (first | ((with_reducible refine gate_callee (f := 16) rfl ?_); refine goesL_ (some 70) rfl rfl Try.func16 (by kernel_rfl) rfl #[.agg #[.int .i64 ((rd_T28 l0 x3_1).f0.f0), .int .u64 ((rd_T28 l0 x3_1).f0.f1)]] rfl (by (try simp only [List.map_toArray, List.map_cons, List.map_nil]); first | done | rfl | (simp only [List.length_drop, List.length_take]; rfl)) ?_; (with_reducible refine (wide_Neg.calls ((rd_T28 l0 x3_1).f0.f0) ((rd_T28 l0 x3_1).f0.f1) t278 t279 t280 _ A78.out).mono ?_); rintro e w99 ⟨rfl, hb⟩; refine ⟨_, rfl, ?_⟩; have n0_ := Aside0.mk (blk_below (g := gb261) (o := .cells #[.int .i64 ((rd_T28 l0 x3_1).f0.f0), .int .u64 ((rd_T28 l0 x3_1).f0.f1)] 26 (0, 0)) (by (with_reducible repeat (first | refine blk_drewN ?_ _ | refine blk_drew ?_ | refine blk_alloc ?_ _)); exact BK261.out) hb); have n1_ := Aside0.mk (blk_below (g := gb263) (o := .cells #[.int .i64 ((rd_T28 l0 x3_1).f1.f0), .int .u64 ((rd_T28 l0 x3_1).f1.f1)] 26 (0, 0)) (by (with_reducible repeat (first | refine blk_drewN ?_ _ | refine blk_drew ?_ | refine blk_alloc ?_ _)); exact BK263.out) hb); have n2_ := Aside0.mk (blk_below (g := gb267) (o := .cells #[.int .i64 t272, .int .u64 t273] 26 (0, 0)) (by (with_reducible repeat (first | refine blk_drewN ?_ _ | refine blk_drew ?_ | refine blk_alloc ?_ _)); exact BK267.out) hb); have n3_ := Aside0.mk (blk_below (g := gb271) (o := .cells #[.int .i64 t275, .int .u64 t276] 26 (0, 0)) (by (with_reducible repeat (first | refine blk_drewN ?_ _ | refine blk_drew ?_ | refine blk_alloc ?_ _)); exact BK271.out) hb); have n4_ := Aside0.mk (below_step (by repeat (first | (with_reducible first | exact HB.out | apply below_alloc | apply pw_below_drewN | apply below_drew1 | refine below_set ?_ GE261.out | refine below_set ?_ GE263.out | refine below_set ?_ GE267.out | refine below_set ?_ GE271.out) | exact HB.out)) hb); clear BK261; clear BK263; clear BK267; clear BK271; clear HB; have BK261 := n0_; have BK263 := n1_; have BK267 := n2_; have BK271 := n3_; have HB := n4_; clear n0_ n1_ n2_ n3_ n4_; (try clear hb); (try clear hb2); (try clear hk); (try clear hi); have hnb100 := NB267_263.out; have hnc100 := NB263_267.out; have hnb101 := NB267_271.out; have hnc101 := NB271_267.out; have hcz102_0 : w99.cell? ⟨gb267, 0, none⟩ = some (.int .i64 t272) := (blk_cell BK267.out 0).trans rfl; have hcz102_1 : w99.cell? ⟨gb267, 1, none⟩ = some (.int .u64 t273) := (blk_cell BK267.out 1).trans rfl; have hfz102_0 := blk_frozen BK267.out 0; have hfz102_1 := blk_frozen BK267.out 1; have hcz103_0 : w99.cell? ⟨gb261, 0, none⟩ = some (.int .i64 ((rd_T28 l0 x3_1).f0.f0)) := (blk_cell BK261.out 0).trans rfl; have hcz103_1 : w99.cell? ⟨gb261, 1, none⟩ = some (.int .u64 ((rd_T28 l0 x3_1).f0.f1)) := (blk_cell BK261.out 1).trans rfl; have hfz103_0 := blk_frozen BK261.out 0; have hfz103_1 := blk_frozen BK261.out 1) | ((with_reducible refine gate_callee (f := 17) rfl ?_); refine goesL_ (some 75) rfl rfl Try.func17 (by kernel_rfl) rfl #[.agg #[.int .i64 ((rd_T28 l0 x3_1).f0.f0), .int .u64 ((rd_T28 l0 x3_1).f0.f1)]] rfl (by (try simp only [List.map_toArray, List.map_cons, List.map_nil]); first | done | rfl | (simp only [List.length_drop, List.length_take]; rfl)) ?_; (with_reducible refine (octroiref01_Neg.calls ((rd_T28 l0 x3_1).f0.f0) ((rd_T28 l0 x3_1).f0.f1) t281 t282 t283 _ A79.out).mono ?_); rintro e w104 ⟨rfl, hb⟩; refine ⟨_, rfl, ?_⟩; have n0_ := Aside0.mk (blk_below (g := gb261) (o := .cells #[.int .i64 ((rd_T28 l0 x3_1).f0.f0), .int .u64 ((rd_T28 l0 x3_1).f0.f1)] 26 (0, 0)) (by (with_reducible repeat (first | refine blk_drewN ?_ _ | refine blk_drew ?_ | refine blk_alloc ?_ _)); refine blk_far ?_ NB261_267.out _; (with_reducible repeat (first | refine blk_drewN ?_ _ | refine blk_drew ?_ | refine blk_alloc ?_ _)); refine blk_far ?_ NB261_267.out _; (with_reducible repeat (first | refine blk_drewN ?_ _ | refine blk_drew ?_ | refine blk_alloc ?_ _)); exact BK261.out) hb); have n1_ := Aside0.mk (blk_below (g := gb263) (o := .cells #[.int .i64 ((rd_T28 l0 x3_1).f1.f0), .int .u64 ((rd_T28 l0 x3_1).f1.f1)] 26 (0, 0)) (by (with_reducible repeat (first | refine blk_drewN ?_ _ | refine blk_drew ?_ | refine blk_alloc ?_ _)); refine blk_far ?_ NB263_267.out _; (with_reducible repeat (first | refine blk_drewN ?_ _ | refine blk_drew ?_ | refine blk_alloc ?_ _)); refine blk_far ?_ NB263_267.out _; (with_reducible repeat (first | refine blk_drewN ?_ _ | refine blk_drew ?_ | refine blk_alloc ?_ _)); exact BK263.out) hb); have n2_ := Aside0.mk (blk_below (g := gb267) (o := .cells #[.int .i64 t278, .int .u64 t279] 26 (0, 0)) (by (with_reducible repeat (first | refine blk_drewN ?_ _ | refine blk_drew ?_ | refine blk_alloc ?_ _)); refine blk_put (cs := #[.int .i64 t278, .int .u64 t273]) ?_ 1 _ rfl; (with_reducible repeat (first | refine blk_drewN ?_ _ | refine blk_drew ?_ | refine blk_alloc ?_ _)); refine blk_put (cs := #[.int .i64 t272, .int .u64 t273]) ?_ 0 _ rfl; (with_reducible repeat (first | refine blk_drewN ?_ _ | refine blk_drew ?_ | refine blk_alloc ?_ _)); exact BK267.out) hb); have n3_ := Aside0.mk (blk_below (g := gb271) (o := .cells #[.int .i64 t275, .int .u64 t276] 26 (0, 0)) (by (with_reducible repeat (first | refine blk_drewN ?_ _ | refine blk_drew ?_ | refine blk_alloc ?_ _)); refine blk_far ?_ NB271_267.out _; (with_reducible repeat (first | refine blk_drewN ?_ _ | refine blk_drew ?_ | refine blk_alloc ?_ _)); refine blk_far ?_ NB271_267.out _; (with_reducible repeat (first | refine blk_drewN ?_ _ | refine blk_drew ?_ | refine blk_alloc ?_ _)); exact BK271.out) hb); have n4_ := Aside0.mk (below_step (by repeat (first | (with_reducible first | exact HB.out | apply below_alloc | apply pw_below_drewN | apply below_drew1 | refine below_set ?_ GE261.out | refine below_set ?_ GE263.out | refine below_set ?_ GE267.out | refine below_set ?_ GE271.out) | exact HB.out)) hb); clear BK261; clear BK263; clear BK267; clear BK271; clear HB; have BK261 := n0_; have BK263 := n1_; have BK267 := n2_; have BK271 := n3_; have HB := n4_; clear n0_ n1_ n2_ n3_ n4_; (try clear hb); (try clear hb2); (try clear hk); (try clear hi); have hnb105 := NB271_263.out; have hnc105 := NB263_271.out; have hcz106_0 : w104.cell? ⟨gb271, 0, none⟩ = some (.int .i64 t275) := (blk_cell BK271.out 0).trans rfl; have hcz106_1 : w104.cell? ⟨gb271, 1, none⟩ = some (.int .u64 t276) := (blk_cell BK271.out 1).trans rfl; have hfz106_0 := blk_frozen BK271.out 0; have hfz106_1 := blk_frozen BK271.out 1; have hcz107_0 : w104.cell? ⟨gb267, 0, none⟩ = some (.int .i64 t278) := (blk_cell BK267.out 0).trans rfl; have hcz107_1 : w104.cell? ⟨gb267, 1, none⟩ = some (.int .u64 t279) := (blk_cell BK267.out 1).trans rfl; have hfz107_0 := blk_frozen BK267.out 0; have hfz107_1 := blk_frozen BK267.out 1))
                            go_roundg kj46
                            case measure => have := HK1.out; have := HJ8.out; have := HJ46.out; omega
                            case rel => exact ⟨(wrap64 (x3_1 + 1)), (by first | rfl | (simp; done) | (simp [*]; done)), H', ⟨by have := HK1.out; have := HJ8.out; have := HJ46.out; omega⟩, ⟨by repeat (first | (with_reducible first | exact HB.out | apply below_alloc | apply pw_below_drewN | apply below_drew1 | refine below_set ?_ GE261.out | refine below_set ?_ GE263.out | refine below_set ?_ GE267.out | refine below_set ?_ GE271.out) | exact HB.out)⟩⟩
                          · rw [if_neg c94] at H
                            have c94b0 : (t280 == t283) = false := beq_eq_false_iff_ne.mpr c94
                            have c94b1 : (t280 != t283) = true := bne_iff_ne.mpr c94
                            obtain rfl := Option.some.inj H
                            have hnb108 := NB261_263.out
                            have hnc108 := NB263_261.out
                            have hnb109 := NB261_267.out
                            have hnc109 := NB267_261.out
                            have hnb110 := NB261_271.out
                            have hnc110 := NB271_261.out
                            have hcz111_0 : wc.cell? ⟨gb261, 0, none⟩ = some (.int .i64 ((rd_T28 l0 x3_1).f0.f0)) := (blk_cell BK261.out 0).trans rfl
                            have hcz111_1 : wc.cell? ⟨gb261, 1, none⟩ = some (.int .u64 ((rd_T28 l0 x3_1).f0.f1)) := (blk_cell BK261.out 1).trans rfl
                            have hfz111_0 := blk_frozen BK261.out 0
                            have hfz111_1 := blk_frozen BK261.out 1
                            go_wp2_with (first | ((with_reducible refine gate_callee (f := 16) rfl ?_); refine goesL_ (some 70) rfl rfl Try.func16 (by kernel_rfl) rfl #[.agg #[.int .i64 ((rd_T28 l0 x3_1).f0.f0), .int .u64 ((rd_T28 l0 x3_1).f0.f1)]] rfl (by (try simp only [List.map_toArray, List.map_cons, List.map_nil]); first | done | rfl | (simp only [List.length_drop, List.length_take]; rfl)) ?_; (with_reducible refine (wide_Neg.calls ((rd_T28 l0 x3_1).f0.f0) ((rd_T28 l0 x3_1).f0.f1) t278 t279 t280 _ A78.out).mono ?_); rintro e w112 ⟨rfl, hb⟩; refine ⟨_, rfl, ?_⟩; have n0_ := Aside0.mk (blk_below (g := gb261) (o := .cells #[.int .i64 ((rd_T28 l0 x3_1).f0.f0), .int .u64 ((rd_T28 l0 x3_1).f0.f1)] 26 (0, 0)) (by (with_reducible repeat (first | refine blk_drewN ?_ _ | refine blk_drew ?_ | refine blk_alloc ?_ _)); exact BK261.out) hb); have n1_ := Aside0.mk (blk_below (g := gb263) (o := .cells #[.int .i64 ((rd_T28 l0 x3_1).f1.f0), .int .u64 ((rd_T28 l0 x3_1).f1.f1)] 26 (0, 0)) (by (with_reducible repeat (first | refine blk_drewN ?_ _ | refine blk_drew ?_ | refine blk_alloc ?_ _)); exact BK263.out) hb); have n2_ := Aside0.mk (blk_below (g := gb267) (o := .cells #[.int .i64 t272, .int .u64 t273] 26 (0, 0)) (by (with_reducible repeat (first | refine blk_drewN ?_ _ | refine blk_drew ?_ | refine blk_alloc ?_ _)); exact BK267.out) hb); have n3_ := Aside0.mk (blk_below (g := gb271) (o := .cells #[.int .i64 t275, .int .u64 t276] 26 (0, 0)) (by (with_reducible repeat (first | refine blk_drewN ?_ _ | refine blk_drew ?_ | refine blk_alloc ?_ _)); exact BK271.out) hb); have n4_ := Aside0.mk (below_step (by repeat (first | (with_reducible first | exact HB.out | apply below_alloc | apply pw_below_drewN | apply below_drew1 | refine below_set ?_ GE261.out | refine below_set ?_ GE263.out | refine below_set ?_ GE267.out | refine below_set ?_ GE271.out) | exact HB.out)) hb); clear BK261; clear BK263; clear BK267; clear BK271; clear HB; have BK261 := n0_; have BK263 := n1_; have BK267 := n2_; have BK271 := n3_; have HB := n4_; clear n0_ n1_ n2_ n3_ n4_; (try clear hb); (try clear hb2); (try clear hk); (try clear hi); have hnb113 := NB267_263.out; have hnc113 := NB263_267.out; have hnb114 := NB267_271.out; have hnc114 := NB271_267.out; have hcz115_0 : w112.cell? ⟨gb267, 0, none⟩ = some (.int .i64 t272) := (blk_cell BK267.out 0).trans rfl; have hcz115_1 : w112.cell? ⟨gb267, 1, none⟩ = some (.int .u64 t273) := (blk_cell BK267.out 1).trans rfl; have hfz115_0 := blk_frozen BK267.out 0; have hfz115_1 := blk_frozen BK267.out 1; have hcz116_0 : w112.cell? ⟨gb261, 0, none⟩ = some (.int .i64 ((rd_T28 l0 x3_1).f0.f0)) := (blk_cell BK261.out 0).trans rfl; have hcz116_1 : w112.cell? ⟨gb261, 1, none⟩ = some (.int .u64 ((rd_T28 l0 x3_1).f0.f1)) := (blk_cell BK261.out 1).trans rfl; have hfz116_0 := blk_frozen BK261.out 0; have hfz116_1 := blk_frozen BK261.out 1) | ((with_reducible refine gate_callee (f := 17) rfl ?_); refine goesL_ (some 75) rfl rfl Try.func17 (by kernel_rfl) rfl #[.agg #[.int .i64 ((rd_T28 l0 x3_1).f0.f0), .int .u64 ((rd_T28 l0 x3_1).f0.f1)]] rfl (by (try simp only [List.map_toArray, List.map_cons, List.map_nil]); first | done | rfl | (simp only [List.length_drop, List.length_take]; rfl)) ?_; (with_reducible refine (octroiref01_Neg.calls ((rd_T28 l0 x3_1).f0.f0) ((rd_T28 l0 x3_1).f0.f1) t281 t282 t283 _ A79.out).mono ?_); rintro e w117 ⟨rfl, hb⟩; refine ⟨_, rfl, ?_⟩; have n0_ := Aside0.mk (blk_below (g := gb261) (o := .cells #[.int .i64 ((rd_T28 l0 x3_1).f0.f0), .int .u64 ((rd_T28 l0 x3_1).f0.f1)] 26 (0, 0)) (by (with_reducible repeat (first | refine blk_drewN ?_ _ | refine blk_drew ?_ | refine blk_alloc ?_ _)); refine blk_far ?_ NB261_267.out _; (with_reducible repeat (first | refine blk_drewN ?_ _ | refine blk_drew ?_ | refine blk_alloc ?_ _)); refine blk_far ?_ NB261_267.out _; (with_reducible repeat (first | refine blk_drewN ?_ _ | refine blk_drew ?_ | refine blk_alloc ?_ _)); exact BK261.out) hb); have n1_ := Aside0.mk (blk_below (g := gb263) (o := .cells #[.int .i64 ((rd_T28 l0 x3_1).f1.f0), .int .u64 ((rd_T28 l0 x3_1).f1.f1)] 26 (0, 0)) (by (with_reducible repeat (first | refine blk_drewN ?_ _ | refine blk_drew ?_ | refine blk_alloc ?_ _)); refine blk_far ?_ NB263_267.out _; (with_reducible repeat (first | refine blk_drewN ?_ _ | refine blk_drew ?_ | refine blk_alloc ?_ _)); refine blk_far ?_ NB263_267.out _; (with_reducible repeat (first | refine blk_drewN ?_ _ | refine blk_drew ?_ | refine blk_alloc ?_ _)); exact BK263.out) hb); have n2_ := Aside0.mk (blk_below (g := gb267) (o := .cells #[.int .i64 t278, .int .u64 t279] 26 (0, 0)) (by (with_reducible repeat (first | refine blk_drewN ?_ _ | refine blk_drew ?_ | refine blk_alloc ?_ _)); refine blk_put (cs := #[.int .i64 t278, .int .u64 t273]) ?_ 1 _ rfl; (with_reducible repeat (first | refine blk_drewN ?_ _ | refine blk_drew ?_ | refine blk_alloc ?_ _)); refine blk_put (cs := #[.int .i64 t272, .int .u64 t273]) ?_ 0 _ rfl; (with_reducible repeat (first | refine blk_drewN ?_ _ | refine blk_drew ?_ | refine blk_alloc ?_ _)); exact BK267.out) hb); have n3_ := Aside0.mk (blk_below (g := gb271) (o := .cells #[.int .i64 t275, .int .u64 t276] 26 (0, 0)) (by (with_reducible repeat (first | refine blk_drewN ?_ _ | refine blk_drew ?_ | refine blk_alloc ?_ _)); refine blk_far ?_ NB271_267.out _; (with_reducible repeat (first | refine blk_drewN ?_ _ | refine blk_drew ?_ | refine blk_alloc ?_ _)); refine blk_far ?_ NB271_267.out _; (with_reducible repeat (first | refine blk_drewN ?_ _ | refine blk_drew ?_ | refine blk_alloc ?_ _)); exact BK271.out) hb); have n4_ := Aside0.mk (below_step (by repeat (first | (with_reducible first | exact HB.out | apply below_alloc | apply pw_below_drewN | apply below_drew1 | refine below_set ?_ GE261.out | refine below_set ?_ GE263.out | refine below_set ?_ GE267.out | refine below_set ?_ GE271.out) | exact HB.out)) hb); clear BK261; clear BK263; clear BK267; clear BK271; clear HB; have BK261 := n0_; have BK263 := n1_; have BK267 := n2_; have BK271 := n3_; have HB := n4_; clear n0_ n1_ n2_ n3_ n4_; (try clear hb); (try clear hb2); (try clear hk); (try clear hi); have hnb118 := NB271_263.out; have hnc118 := NB263_271.out; have hcz119_0 : w117.cell? ⟨gb271, 0, none⟩ = some (.int .i64 t275) := (blk_cell BK271.out 0).trans rfl; have hcz119_1 : w117.cell? ⟨gb271, 1, none⟩ = some (.int .u64 t276) := (blk_cell BK271.out 1).trans rfl; have hfz119_0 := blk_frozen BK271.out 0; have hfz119_1 := blk_frozen BK271.out 1; have hcz120_0 : w117.cell? ⟨gb267, 0, none⟩ = some (.int .i64 t278) := (blk_cell BK267.out 0).trans rfl; have hcz120_1 : w117.cell? ⟨gb267, 1, none⟩ = some (.int .u64 t279) := (blk_cell BK267.out 1).trans rfl; have hfz120_0 := blk_frozen BK267.out 0; have hfz120_1 := blk_frozen BK267.out 1))
                            go_ret
                            exact ⟨by first | rfl | (simp [errW_none, errW_some] <;> rfl) | (simp [*, errW_none, errW_some] <;> rfl), by repeat (first | (with_reducible first | exact HB.out | apply below_alloc | apply pw_below_drewN | apply below_drew1 | refine below_set ?_ GE261.out | refine below_set ?_ GE263.out | refine below_set ?_ GE267.out | refine below_set ?_ GE271.out) | exact HB.out)⟩
          · rw [if_neg c6] at H
            exact absurd H (by simp)
        · rw [if_neg c5] at H
          have c5b0 : decide (x3_1 < (l0.length : Int)) = false := decide_eq_false c5
          clear c5
          obtain rfl := Option.some.inj H
          go_wp2
          go_ret
          exact ⟨by first | rfl | (simp [errW_none, errW_some] <;> rfl) | (simp [*, errW_none, errW_some] <;> rfl), by repeat (first | (with_reducible first | exact HB.out | apply below_alloc | apply pw_below_drewN | apply below_drew1) | exact HB.out)⟩
  · replace c3 := Bool.eq_false_iff.mpr c3
    subst c3
    have H1 : (some false) = some r := by rw [if_neg (show ¬ (false = true) by decide)] at H; exact H
    clear H
    have H := H1
    clear H1
    obtain rfl := Option.some.inj H
    go_enter Try.func3, Try.ntmps3
    go_wp2_with (first | ((with_reducible refine gate_callee (f := 11) rfl ?_); refine goesL_ (some 10) rfl rfl Try.func11 (by kernel_rfl) rfl #[] rfl (by (try simp only [List.map_toArray, List.map_cons, List.map_nil]); first | done | rfl | (simp only [List.length_drop, List.length_take]; rfl)) ?_; (with_reducible refine (octroilaw01_awake.calls  false _ A2.out).mono ?_); rintro e w121 ⟨rfl, hb⟩; refine ⟨_, rfl, ?_⟩; have n0_ := Aside0.mk (below_step (by repeat (first | (with_reducible first | exact HB.out | apply below_alloc | apply pw_below_drewN | apply below_drew1) | exact HB.out)) hb); clear HB; have HB := n0_; clear n0_; (try clear hb); (try clear hb2); (try clear hk); (try clear hi)))
    go_ret
    exact ⟨by first | rfl | (simp [errW_none, errW_some] <;> rfl) | (simp [*, errW_none, errW_some] <;> rfl), by repeat (first | (with_reducible first | exact HB.out | apply below_alloc | apply pw_below_drewN | apply below_drew1) | exact HB.out)⟩

end Go.Proofs.Ytehmkffmnaabaaa.PWideSums
