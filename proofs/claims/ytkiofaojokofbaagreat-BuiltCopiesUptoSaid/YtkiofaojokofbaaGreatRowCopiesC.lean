/- BuiltCopies. -/
import Derived.Test.YtkiofaojokofbaaGreatRowCopiesA
import Derived.Test.YtkiofaojokofbaaGreatRowCopiesB
import Derived.WalkSpells
import Derived.WalkLawsBesides
import Derived.Deep.QuietTactic
import Derived.BigQuiet
import Derived.Deep.DeepCutAuto
import Derived.Deep.RegionHeld3
import Derived.Lib.Hide
import Derived.Handy
namespace Go.Proofs.YtkiofaojokofbaaGreat
open Go.RowKit

theorem ref_vars (t : Term) (v : Value) (w : World) (h : TermV [] w t v) (hs : t.size ≤ 1048576) :
    Calls Tryz.prog 25 #[v] w fun e w' => (∃ A cap, e = .returned (.slice A t.vars.length cap) ∧ IntsAt w' A t.vars) ∧ Frm [] w w' := by
  obtain ⟨A, cap, rfl⟩ := h.form
  go_enter Tryz.func25, Tryz.ntmps25
  go_wp2_with (go_at_call 43; refine (ref_gather t [] [] _ (.slice none 0 0) _ (h.keep (by repeat (first | with_reducible (first | refine .alloc ?_ _ | refine .drewN ?_ _ | refine .drew ?_) | ((with_reducible refine .setCell ?_ ?_ _); rotate_left; focus (first | (left; simp; done) | (right; simp; (first | done | omega)))) | with_reducible (first | assumption | exact .refl _ _ | refine .trans0 ?_ ‹_›)))) ⟨rfl, .inl ⟨rfl, rfl⟩⟩ (by simpa using hs)).mono ?_; rintro e w2 ⟨⟨r, rfl, hr⟩, F2⟩)
  go_ret
  obtain ⟨A', cap', rfl, hi, -⟩ := ints_row hr
  exact ⟨⟨A', cap', rfl, hi⟩, (by repeat (first | with_reducible (first | refine .alloc ?_ _ | refine .drewN ?_ _ | refine .drew ?_) | ((with_reducible refine .setCell ?_ ?_ _); rotate_left; focus (first | (left; simp; done) | (right; simp; (first | done | omega)))) | with_reducible (first | assumption | exact .refl _ _ | refine .trans0 ?_ ‹_›)))⟩

set_option maxRecDepth 100000 in
set_option maxHeartbeats 4000000 in
theorem copies_let (t : Term) (v : Value) (w : World) (hv : TermV [] w t v) (hs : t.size ≤ 1048576) (h0 : ¬ (t.size ≤ 200 ∧ t.check 9 = 0 ∧ t.deep ≤ 50)) : Calls Tryz.prog 8 #[v] w fun e w' => e = .returned (.bool true) ∧ Frm [] w w' := by
  obtain ⟨A, cap, rfl⟩ := hv.form
  have hx : ∃ (x : Bool) (c : Int) (d : Nat), Hid (decide (t.size ≤ 200) = x) ∧ Hid (t.check 9 = c) ∧ Hid (t.deep = d) ∧ (x = false ∨ (x = true ∧ (c != 0) = true) ∨ (x = true ∧ c = 0 ∧ (50 : Int) < d)) := by
    refine ⟨_, _, _, rfl, rfl, rfl, ?_⟩
    by_cases h1 : t.size ≤ 200
    · by_cases h2 : t.check 9 = 0
      · exact .inr (.inr ⟨by simpa using h1, h2, by have : ¬ t.deep ≤ 50 := fun h => h0 ⟨h1, h2, h⟩
                                                    omega⟩)
      · exact .inr (.inl ⟨by simpa using h1, by simpa using h2⟩)
    · exact .inl (by simpa using h1)
  obtain ⟨x, c, d, HX, HC, HD, hq⟩ := hx
  clear h0
  rcases hq with rfl | ⟨rfl, hc⟩ | ⟨rfl, rfl, hd⟩
  all_goals
    go_enter Tryz.func8, Tryz.ntmps8
    go_wp2_with (first
      | (go_at_call 9; refine (law_shown _).mono ?_; rintro e w1 ⟨rfl, F1⟩; have hb1 := F1.at0 (alloc_heap_new w _); obtain ⟨q0, q1, q2, q3, q4, q5⟩ := blk4 hb1)
      | (go_at_call 10; refine (law_few [] t _ _ (hv.keep (by repeat (first | with_reducible (first | refine .alloc ?_ _ | refine .drewN ?_ _ | refine .drew ?_) | ((with_reducible refine .setCell ?_ ?_ _); rotate_left; focus (first | (left; simp; done) | (right; simp; (first | done | omega)))) | with_reducible (first | assumption | exact .refl _ _ | refine .trans0 ?_ ‹_›)))) hs).mono ?_; rw [HX.out]; rintro e w2 ⟨rfl, F2⟩; have hb2 := F2.at0 hb1; obtain ⟨q0, q1, q2, q3, q4, q5⟩ := blk4 hb2)
      | (go_at_call 17; refine (term_Check_is HC.out [] _ _ (hv.keep (by repeat (first | with_reducible (first | refine .alloc ?_ _ | refine .drewN ?_ _ | refine .drew ?_) | ((with_reducible refine .setCell ?_ ?_ _); rotate_left; focus (first | (left; simp; done) | (right; simp; (first | done | omega)))) | with_reducible (first | assumption | exact .refl _ _ | refine .trans0 ?_ ‹_›)))) hs (by unfold I64; omega)).mono ?_; rintro e w3 ⟨rfl, F3⟩; obtain ⟨q0, q1, q2, q3, q4, q5⟩ := blk4 (F3.at0 hb2))
      | (go_at_call 24; refine (term_deep t [] _ _ (hv.keep (by repeat (first | with_reducible (first | refine .alloc ?_ _ | refine .drewN ?_ _ | refine .drew ?_) | ((with_reducible refine .setCell ?_ ?_ _); rotate_left; focus (first | (left; simp; done) | (right; simp; (first | done | omega)))) | with_reducible (first | assumption | exact .refl _ _ | refine .trans0 ?_ ‹_›)))) hs).mono ?_; rw [HD.out]; rintro e w4 ⟨rfl, F4⟩))
    go_ret
    exact ⟨rfl, (by repeat (first | with_reducible (first | refine .alloc ?_ _ | refine .drewN ?_ _ | refine .drew ?_) | ((with_reducible refine .setCell ?_ ?_ _); rotate_left; focus (first | (left; simp; done) | (right; simp; (first | done | omega)))) | with_reducible (first | assumption | exact .refl _ _ | refine .trans0 ?_ ‹_›)))⟩

set_option maxRecDepth 100000 in
set_option maxHeartbeats 4000000 in
theorem copies_ask (t : Term) (v : Value) (w : World) (hv : TermV [] w t v) (hs : t.size ≤ 1048576) (h0 : t.size ≤ 200) (h1 : t.check 9 = 0) (h2 : t.deep ≤ 50) : Calls Tryz.prog 8 #[v] w fun e w' => e = .returned (.bool true) ∧ Frm [] w w' := by
  obtain ⟨A, cap, rfl⟩ := hv.form
  have HX : Hid (decide (t.size ≤ 200) = true) := by show _ = _; simpa using h0
  have HC := Lib.hid h1
  have HL := Lib.hid (copies_law h1 h0 h2)
  have hvl := vars_length t
  have hd : ¬ (50 : Int) < t.deep := by omega
  clear h0 h1 h2
  go_enter Tryz.func8, Tryz.ntmps8
  go_wp2_with (first
    | (go_at_call 9; refine (law_shown _).mono ?_; rintro e w1 ⟨rfl, F1⟩; have hb1 := F1.at0 (alloc_heap_new w _); obtain ⟨q0, q1, q2, q3, q4, q5⟩ := blk4 hb1)
    | (go_at_call 10; refine (law_few [] t _ _ (hv.keep (by repeat (first | with_reducible (first | refine .alloc ?_ _ | refine .drewN ?_ _ | refine .drew ?_) | ((with_reducible refine .setCell ?_ ?_ _); rotate_left; focus (first | (left; simp; done) | (right; simp; (first | done | omega)))) | with_reducible (first | assumption | exact .refl _ _ | refine .trans0 ?_ ‹_›)))) hs).mono ?_; rw [HX.out]; rintro e w2 ⟨rfl, F2⟩; have hb2 := F2.at0 hb1; obtain ⟨q0, q1, q2, q3, q4, q5⟩ := blk4 hb2)
    | (go_at_call 17; refine (term_Check_is HC.out [] _ _ (hv.keep (by repeat (first | with_reducible (first | refine .alloc ?_ _ | refine .drewN ?_ _ | refine .drew ?_) | ((with_reducible refine .setCell ?_ ?_ _); rotate_left; focus (first | (left; simp; done) | (right; simp; (first | done | omega)))) | with_reducible (first | assumption | exact .refl _ _ | refine .trans0 ?_ ‹_›)))) hs (by unfold I64; omega)).mono ?_; rintro e w2b ⟨rfl, F2b⟩; have hb2b := F2b.at0 hb2; obtain ⟨q0, q1, q2, q3, q4, q5⟩ := blk4 hb2b)
    | (go_at_call 24; refine (term_deep t [] _ _ (hv.keep (by repeat (first | with_reducible (first | refine .alloc ?_ _ | refine .drewN ?_ _ | refine .drew ?_) | ((with_reducible refine .setCell ?_ ?_ _); rotate_left; focus (first | (left; simp; done) | (right; simp; (first | done | omega)))) | with_reducible (first | assumption | exact .refl _ _ | refine .trans0 ?_ ‹_›)))) hs).mono ?_; rintro e w2c ⟨rfl, F2c⟩; have hb2c := F2c.at0 hb2b; obtain ⟨q0, q1, q2, q3, q4, q5⟩ := blk4 hb2c)
    | (go_at_call 25; refine (ref_vars t _ _ (hv.keep (by repeat (first | with_reducible (first | refine .alloc ?_ _ | refine .drewN ?_ _ | refine .drew ?_) | ((with_reducible refine .setCell ?_ ?_ _); rotate_left; focus (first | (left; simp; done) | (right; simp; (first | done | omega)))) | with_reducible (first | assumption | exact .refl _ _ | refine .trans0 ?_ ‹_›)))) hs).mono ?_; rintro e w3 ⟨⟨Av, cv, rfl, hi⟩, F3⟩; have hb3 := F3.at0 hb2c; obtain ⟨q0, q1, q2, q3, q4, q5⟩ := blk4 hb3; have F03 : Frm [] w w3 := (by repeat (first | with_reducible (first | refine .alloc ?_ _ | refine .drewN ?_ _ | refine .drew ?_) | ((with_reducible refine .setCell ?_ ?_ _); rotate_left; focus (first | (left; simp; done) | (right; simp; (first | done | omega)))) | with_reducible (first | assumption | exact .refl _ _ | refine .trans0 ?_ ‹_›))); have hlt3 := (Array.getElem?_eq_some_iff.1 hb3).1))
  go_loop [5] (fun i => ∃ j : Nat, j ≤ t.vars.length ∧ i = .int .i64 j ∧ ∀ k x, k < j → t.vars[k]? = some x → x < 6) (fun i => t.vars.length - (intOf i).toNat)
  case atStart => exact ⟨0, Nat.zero_le _, rfl, fun k x hk => by omega⟩
  case round =>
    obtain ⟨j, hj, rfl, hlow⟩ := hrel
    have HLOW := Lib.hid hlow
    clear hlow
    by_cases hlt : j < t.vars.length
    · obtain ⟨b, off, rfl, hbl, hcl⟩ := hi j t.vars[j] (List.getElem?_eq_getElem hlt)
      have HJ := Lib.hid (List.getElem?_eq_getElem hlt)
      generalize t.vars[j] = z at *
      by_cases hz : z < 6
      · have hz' : ¬ (6 : Int) ≤ z := by omega
        go_wp2
        go_round
        case rel => exact ⟨j + 1, by omega, by go_num, fun k x hk hx => by
          by_cases e : k = j
          · subst e; rw [HJ.out] at hx; cases hx; exact hz
          · exact HLOW.out k x (by omega) hx⟩
        case measure => simp [intOf]; omega
      · have hz' : (6 : Int) ≤ z := by omega
        go_wp2
        go_ret
        exact ⟨rfl, (by repeat (first | with_reducible (first | refine .alloc ?_ _ | refine .drewN ?_ _ | refine .drew ?_) | ((with_reducible refine .setCell ?_ ?_ _); rotate_left; focus (first | (left; simp; done) | (right; simp; (first | done | omega)))) | with_reducible (first | assumption | exact .refl _ _ | refine .trans0 ?_ ‹_›)))⟩
    · have : j = t.vars.length := by omega
      subst this
      obtain ⟨s1, s2, s3, e1, e2, e3, e4⟩ := HL.out (fun x hx => by
        obtain ⟨k, hk, e⟩ := List.mem_iff_getElem.1 hx
        exact HLOW.out k x hk (by rw [List.getElem?_eq_getElem hk, e]))
      clear HL HLOW
      have E1 := Lib.hid e1
      have E2 := Lib.hid e2
      have E3 := Lib.hid e3
      have E4 := Lib.hid e4
      clear e1 e2 e3 e4
      obtain ⟨bq, k1, k2⟩ : ∃ b, decide (t.vars.length = 0) = b ∧ ((t.vars.length : Int) == 0) = b := ⟨_, rfl, by rw [Bool.eq_iff_iff]; simp⟩
      rw [k1] at E3
      clear k1
      have m1 : True := trivial
      go_upto_region 11 with (go_at_call 11; refine (law_bound_nil _).mono ?_; intro e w4 hbd; obtain ⟨sb, rfl, hr, F4⟩ := hbd.ready; have hb : Below w3.heap.size w3 w4 := F4.below; obtain ⟨q0, q1, q2, q3, q4, q5⟩ := blk4 (blk_below hb hb3 hlt3))
      refine wp_region_U (fun w' => Frm [] w4 w') (fun i => Nat.blt i 4) (by kernel_rfl) ?rgnS1 (fun hHeld => ?rgnB1)
      case rgnS1 => (first | (dsimp only; exact (by repeat (first | with_reducible (first | refine .alloc ?_ _ | refine .drewN ?_ _ | refine .drew ?_) | ((with_reducible refine .setCell ?_ ?_ _); rotate_left; focus (first | (left; simp; done) | (right; simp; (first | done | omega)))) | with_reducible (first | assumption | exact .refl _ _ | refine .trans0 ?_ ‹_›)))) | exact (by repeat (first | with_reducible (first | refine .alloc ?_ _ | refine .drewN ?_ _ | refine .drew ?_) | ((with_reducible refine .setCell ?_ ?_ _); rotate_left; focus (first | (left; simp; done) | (right; simp; (first | done | omega)))) | with_reducible (first | assumption | exact .refl _ _ | refine .trans0 ?_ ‹_›))))
      case' rgnB1 => skip
      refine Pend.start [0, 1] ?_
      iterate 2 (refine tk (v := ?_) rfl (by kernel_rfl) (by rfl) (fun _ _ _ h => h) (by assumption) ?_ ?_; rotate_left; (focus (intro wq hSw; (try dsimp only at hSw); have X0 := (hSw.cell q5 (by simp)).trans q0; have X1 := (hSw.cell q5 (by simp)).trans q1; have X2 := (hSw.cell q5 (by simp)).trans q2; have X3 := (hSw.cell q5 (by simp)).trans q3; go_simp; (first | done | with_reducible rfl))); try simp only [Act.put, List.setIfInBounds_toArray, List.set_cons_zero, List.set_cons_succ])
      refine Pend.done ?_
      refine one 2 (by kernel_rfl) rfl (fun K' hK => ?_)
      (go_simp; refine (term_let 10 _).mono ?_; rintro e w5 ⟨rfl, F5⟩; have F05 : Frm [] w4 w5 := Frm.trans0 (by repeat (first | with_reducible (first | refine .alloc ?_ _ | refine .drewN ?_ _ | refine .drew ?_) | ((with_reducible refine .setCell ?_ ?_ _); rotate_left; focus (first | (left; simp; done) | (right; simp; (first | done | omega)))) | with_reducible (first | assumption | exact .refl _ _ | refine .trans0 ?_ ‹_›))) F5; dsimp only)
      refine hK.out _ _ (fun _ => ?rgnS2) (fun hH => ?rgnB2)
      case rgnS2 => (first | (dsimp only; exact (by repeat (first | with_reducible (first | refine .alloc ?_ _ | refine .drewN ?_ _ | refine .drew ?_) | ((with_reducible refine .setCell ?_ ?_ _); rotate_left; focus (first | (left; simp; done) | (right; simp; (first | done | omega)))) | with_reducible (first | assumption | exact .refl _ _ | refine .trans0 ?_ ‹_›)))) | exact (by repeat (first | with_reducible (first | refine .alloc ?_ _ | refine .drewN ?_ _ | refine .drew ?_) | ((with_reducible refine .setCell ?_ ?_ _); rotate_left; focus (first | (left; simp; done) | (right; simp; (first | done | omega)))) | with_reducible (first | assumption | exact .refl _ _ | refine .trans0 ?_ ‹_›))))
      case' rgnB2 => ((try clear hHeld); have hHeld := hH (by decide); clear hH)
      clear hK K'
      try simp only [Act.put, List.setIfInBounds_toArray, List.set_cons_zero, List.set_cons_succ]
      refine one 3 (by kernel_rfl) rfl (fun K' hK => ?_)
      (rw [if_pos (by rfl)]; go_simp)
      refine hK.out _ _ (fun _ => ?rgnS3) (fun hH => ?rgnB3)
      case rgnS3 => (first | (dsimp only; exact (by repeat (first | with_reducible (first | refine .alloc ?_ _ | refine .drewN ?_ _ | refine .drew ?_) | ((with_reducible refine .setCell ?_ ?_ _); rotate_left; focus (first | (left; simp; done) | (right; simp; (first | done | omega)))) | with_reducible (first | assumption | exact .refl _ _ | refine .trans0 ?_ ‹_›)))) | exact (by repeat (first | with_reducible (first | refine .alloc ?_ _ | refine .drewN ?_ _ | refine .drew ?_) | ((with_reducible refine .setCell ?_ ?_ _); rotate_left; focus (first | (left; simp; done) | (right; simp; (first | done | omega)))) | with_reducible (first | assumption | exact .refl _ _ | refine .trans0 ?_ ‹_›))))
      case' rgnB3 => ((try clear hHeld); have hHeld := hH (by decide); clear hH)
      clear hK K'
      try simp only [Act.put, List.setIfInBounds_toArray, List.set_cons_zero, List.set_cons_succ]
      refine one 4 (by kernel_rfl) rfl (fun K' hK => ?_)
      (go_simp; have hr5 := (hr.keep F05).addTwo (t := t) (u := Term.var 10) (ty := 25) (fun F _ hF => (hv.keep F03).newer (hb.trans (F05.below.mono hb.size)) hF) (fun F _ _ => var_v F _ (by unfold I64; omega)); refine (ready_asked hr5 ⟨#[99, 111, 112, 121, 95, 116, 101, 114, 109]⟩ [t, Term.var 10] _ 2 (fun F h => h.1) (by decide) (by simp) E1.out).mono ?_; rintro e w6 ⟨rfl, hr6, b6⟩; dsimp only)
      refine hK.out _ _ (fun h => absurd h (by decide)) (fun _ => ?_)
      clear hK K'
      try simp only [Act.put, List.setIfInBounds_toArray, List.set_cons_zero, List.set_cons_succ]
      refine Pend.start [5, 6, 7, 8, 9] ?_
      iterate 5 (refine tkl (v := ?_) rfl (by kernel_rfl) (by rfl) (fun _ _ _ h => h) ?_ ?_; rotate_left; (focus (intro wq hSw; go_simp; (first | done | with_reducible rfl))); try simp only [Act.put, List.setIfInBounds_toArray, List.set_cons_zero, List.set_cons_succ])
      refine Pend.done ?_
      refine wpAnyU_done (by kernel_rfl) ?_ _
      skip
      have hbn := ((hb.trans (F05.below.mono hb.size)).alloc (Nat.le_trans hb.size F05.size) _).trans b6
      clear hb hr hHeld q0 q1 q2 q3 q4 q5
      have hb := hbn
      have hr := hr6.dropRow
      clear hbn hr6 b6 F05 F5 hr5
      obtain ⟨q0, q1, q2, q3, q4, q5⟩ := blk4 (blk_below hb hb3 hlt3)
      go_upto_region 12 with (fail)
      refine wp_region_U (fun w' => Frm [] w6 w') (fun i => Nat.blt i 4) (by kernel_rfl) ?rgnS4 (fun hHeld => ?rgnB4)
      case rgnS4 => (first | (dsimp only; exact (by repeat (first | with_reducible (first | refine .alloc ?_ _ | refine .drewN ?_ _ | refine .drew ?_) | ((with_reducible refine .setCell ?_ ?_ _); rotate_left; focus (first | (left; simp; done) | (right; simp; (first | done | omega)))) | with_reducible (first | assumption | exact .refl _ _ | refine .trans0 ?_ ‹_›)))) | exact (by repeat (first | with_reducible (first | refine .alloc ?_ _ | refine .drewN ?_ _ | refine .drew ?_) | ((with_reducible refine .setCell ?_ ?_ _); rotate_left; focus (first | (left; simp; done) | (right; simp; (first | done | omega)))) | with_reducible (first | assumption | exact .refl _ _ | refine .trans0 ?_ ‹_›))))
      case' rgnB4 => skip
      refine Pend.start [0, 1] ?_
      iterate 2 (refine tk (v := ?_) rfl (by kernel_rfl) (by rfl) (fun _ _ _ h => h) (by assumption) ?_ ?_; rotate_left; (focus (intro wq hSw; (try dsimp only at hSw); have X0 := (hSw.cell q5 (by simp)).trans q0; have X1 := (hSw.cell q5 (by simp)).trans q1; have X2 := (hSw.cell q5 (by simp)).trans q2; have X3 := (hSw.cell q5 (by simp)).trans q3; go_simp; (first | done | with_reducible rfl))); try simp only [Act.put, List.setIfInBounds_toArray, List.set_cons_zero, List.set_cons_succ])
      refine Pend.done ?_
      refine one 2 (by kernel_rfl) rfl (fun K' hK => ?_)
      (go_simp; refine (term_let 11 _).mono ?_; rintro e w5 ⟨rfl, F5⟩; have F05 : Frm [] w6 w5 := Frm.trans0 (by repeat (first | with_reducible (first | refine .alloc ?_ _ | refine .drewN ?_ _ | refine .drew ?_) | ((with_reducible refine .setCell ?_ ?_ _); rotate_left; focus (first | (left; simp; done) | (right; simp; (first | done | omega)))) | with_reducible (first | assumption | exact .refl _ _ | refine .trans0 ?_ ‹_›))) F5; dsimp only)
      refine hK.out _ _ (fun _ => ?rgnS5) (fun hH => ?rgnB5)
      case rgnS5 => (first | (dsimp only; exact (by repeat (first | with_reducible (first | refine .alloc ?_ _ | refine .drewN ?_ _ | refine .drew ?_) | ((with_reducible refine .setCell ?_ ?_ _); rotate_left; focus (first | (left; simp; done) | (right; simp; (first | done | omega)))) | with_reducible (first | assumption | exact .refl _ _ | refine .trans0 ?_ ‹_›)))) | exact (by repeat (first | with_reducible (first | refine .alloc ?_ _ | refine .drewN ?_ _ | refine .drew ?_) | ((with_reducible refine .setCell ?_ ?_ _); rotate_left; focus (first | (left; simp; done) | (right; simp; (first | done | omega)))) | with_reducible (first | assumption | exact .refl _ _ | refine .trans0 ?_ ‹_›))))
      case' rgnB5 => ((try clear hHeld); have hHeld := hH (by decide); clear hH)
      clear hK K'
      try simp only [Act.put, List.setIfInBounds_toArray, List.set_cons_zero, List.set_cons_succ]
      refine one 3 (by kernel_rfl) rfl (fun K' hK => ?_)
      (rw [if_pos (by rfl)]; go_simp)
      refine hK.out _ _ (fun _ => ?rgnS6) (fun hH => ?rgnB6)
      case rgnS6 => (first | (dsimp only; exact (by repeat (first | with_reducible (first | refine .alloc ?_ _ | refine .drewN ?_ _ | refine .drew ?_) | ((with_reducible refine .setCell ?_ ?_ _); rotate_left; focus (first | (left; simp; done) | (right; simp; (first | done | omega)))) | with_reducible (first | assumption | exact .refl _ _ | refine .trans0 ?_ ‹_›)))) | exact (by repeat (first | with_reducible (first | refine .alloc ?_ _ | refine .drewN ?_ _ | refine .drew ?_) | ((with_reducible refine .setCell ?_ ?_ _); rotate_left; focus (first | (left; simp; done) | (right; simp; (first | done | omega)))) | with_reducible (first | assumption | exact .refl _ _ | refine .trans0 ?_ ‹_›))))
      case' rgnB6 => ((try clear hHeld); have hHeld := hH (by decide); clear hH)
      clear hK K'
      try simp only [Act.put, List.setIfInBounds_toArray, List.set_cons_zero, List.set_cons_succ]
      refine one 4 (by kernel_rfl) rfl (fun K' hK => ?_)
      (go_simp; have hr5 := (hr.keep F05).addTwo (t := t) (u := Term.var 11) (ty := 25) (fun F _ hF => (hv.keep F03).newer (hb.trans (F05.below.mono hb.size)) hF) (fun F _ _ => var_v F _ (by unfold I64; omega)); refine (ready_asked hr5 ⟨#[99, 111, 112, 121, 95, 116, 101, 114, 109]⟩ [t, Term.var 11] _ 2 (fun F h => h.1) (by decide) (by simp) E2.out).mono ?_; rintro e w8 ⟨rfl, hr6, b6⟩; dsimp only)
      refine hK.out _ _ (fun h => absurd h (by decide)) (fun _ => ?_)
      clear hK K'
      try simp only [Act.put, List.setIfInBounds_toArray, List.set_cons_zero, List.set_cons_succ]
      refine Pend.start [5, 6, 7, 8, 9] ?_
      iterate 5 (refine tkl (v := ?_) rfl (by kernel_rfl) (by rfl) (fun _ _ _ h => h) ?_ ?_; rotate_left; (focus (intro wq hSw; go_simp; (first | done | with_reducible rfl))); try simp only [Act.put, List.setIfInBounds_toArray, List.set_cons_zero, List.set_cons_succ])
      refine Pend.done ?_
      refine wpAnyU_done (by kernel_rfl) ?_ _
      skip
      have hbn := ((hb.trans (F05.below.mono hb.size)).alloc (Nat.le_trans hb.size F05.size) _).trans b6
      clear hb hr hHeld q0 q1 q2 q3 q4 q5
      have hb := hbn
      have hr := hr6.dropRow
      clear hbn hr6 b6 F05 F5 hr5
      obtain ⟨q0, q1, q2, q3, q4, q5⟩ := blk4 (blk_below hb hb3 hlt3)
      go_wp2_with (first
        | (go_at_call 16; refine (term_let _ _).mono ?_; rintro e w3 ⟨rfl, F0⟩; have hr' := hr.keep F0; clear hr; have hr := hr'; clear hr'; have hb' := hb.trans (F0.below.mono hb.size); clear hb; have hb := hb'; clear hb')
        | (go_at_call 13; clear m1; have hr5 := hr.addTwo (t := Term.var 10) (u := Term.var 11) (ty := 25) (fun F _ _ => var_v F _ (by unfold I64; omega)) (fun F _ _ => var_v F _ (by unfold I64; omega)); refine (ready_asked hr5 ⟨#[61, 61]⟩ [Term.var 10, Term.var 11] _ 2 (fun F h => h.1) (by decide) (by simp) E3.out).mono ?_; rintro e w13 ⟨rfl, hr8, b8⟩; have hb' := (hb.alloc hb.size _).trans b8; clear hb hr hr5; have hb := hb'; have hr := hr8; clear hb' hr8 b8)
        | (go_at_call 13; refine (ready_asked hr ⟨#[61]⟩ [Term.var 10, Term.var 11] _ 2 (fun F h => h.1) (by decide) (by simp) E4.out).mono ?_; rintro e w14 ⟨rfl, hr8, b8⟩; have hb' := hb.trans b8; clear hb hr; have hb := hb'; clear hb'))
      go_ret
      exact ⟨ret_bool (by cases bq <;> rfl), F03.trans0 (Frm.of_below hb)⟩
theorem law_BuiltCopies (t : Term) (v : Value) (w : World) (hv : TermV [] w t v) (hs : t.size ≤ 1048576) : Calls Tryz.prog 8 #[v] w fun e w' => e = .returned (.bool true) ∧ Frm [] w w' := by
  by_cases h : t.size ≤ 200 ∧ t.check 9 = 0 ∧ t.deep ≤ 50
  · exact copies_ask t v w hv hs h.1 h.2.1 h.2.2
  · exact copies_let t v w hv hs h
end Go.Proofs.YtkiofaojokofbaaGreat
