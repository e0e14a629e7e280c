/- BuiltPairs. -/
import Derived.Test.YtkiofaojokofbaaGreatRowPairsA
import Derived.WalkSpells
import Derived.WalkLawsBesides
import Derived.Deep.QuietTactic
import Derived.BigQuiet
import Derived.Deep.DeepCutAuto
import Derived.Deep.RegionHeld3
import Derived.Lib.Hide
import Derived.Handy
namespace Go.Proofs.YtkiofaojokofbaaGreat
open Go.RowKit

theorem krow_head {F : List Nat} {w : World} {a b : Term} {A : Option Addr} (h : KidsV F w [a, b] A 0) : KidsV F w [a] A 0 := by
  simp only [KidsV] at h ⊢
  exact ⟨h.1, trivial⟩

set_option maxRecDepth 100000 in
set_option maxHeartbeats 4000000 in
theorem law_BuiltPairs (gs : List (List Term)) (Ag : Option Addr) (cg : Nat) (a b : Term) (va vb : Value) (w : World) (hg : GoalsV w gs Ag) (hgl : gs.length ≤ 1048576) (hva : TermV [] w a va) (hsa : a.size ≤ 1048576) (hvb : TermV [] w b vb) (hsb : b.size ≤ 1048576) :
    Calls Tryz.prog 3 #[.slice Ag gs.length cg, va, vb] w fun e w' => e = .returned (.bool true) ∧ Frm [] w w' := by
  obtain ⟨A, ca, rfl⟩ := hva.form
  obtain ⟨B, cb, rfl⟩ := hvb.form
  obtain ⟨qa, HX⟩ : ∃ q, Hid (decide (a.size ≤ 200) = q) := ⟨_, rfl⟩
  obtain ⟨qb, HY⟩ : ∃ q, Hid (decide (b.size ≤ 200) = q) := ⟨_, rfl⟩
  have m0 : True := trivial
  have m1 : True := trivial
  have m2 : True := trivial
  have m3 : True := trivial
  have m4 : True := trivial
  have m5 : True := trivial
  have m6 : True := trivial
  have m7 : True := trivial
  cases qa
  · go_enter Tryz.func3, Tryz.ntmps3
    go_wp2_with (first
      | (go_at_call 9; refine (law_shown _).mono ?_; rintro e w1 ⟨rfl, F1⟩; have hba := F1.at0 (b := w.heap.size) (o := .cells #[.int .i64 a.kind, .int .i64 a.n, .string a.s, .slice A a.kids.length ca] 25 (0, 0)) (by repeat (first | rw [heap_alloc_at] | rw [heap_size_alloc] | rfl | rw [if_pos (by omega)] | rw [if_neg (by omega)])); have hbb := F1.at0 (b := w.heap.size + 1) (o := .cells #[.int .i64 b.kind, .int .i64 b.n, .string b.s, .slice B b.kids.length cb] 25 (0, 0)) (by repeat (first | rw [heap_alloc_at] | rw [heap_size_alloc] | rfl | rw [if_pos (by omega)] | rw [if_neg (by omega)])); obtain ⟨q0, q1, q2, q3, q4, q5⟩ := blk4 hba; obtain ⟨z0, z1, z2, z3, z4, z5⟩ := blk4 hbb)
      | (go_at_call 10; refine (law_few [] a _ _ (hva.keep (by repeat (first | with_reducible (first | refine .alloc ?_ _ | refine .drewN ?_ _ | refine .drew ?_) | ((with_reducible refine .setCell ?_ ?_ _); rotate_left; focus (first | (left; simp; done) | (right; simp; (first | done | omega)))) | with_reducible (first | assumption | exact .refl _ _ | refine .trans0 ?_ ‹_›)))) hsa).mono ?_; rw [HX.out]; rintro e w2 ⟨rfl, F2⟩))
    go_ret
    exact ⟨rfl, (by repeat (first | with_reducible (first | refine .alloc ?_ _ | refine .drewN ?_ _ | refine .drew ?_) | ((with_reducible refine .setCell ?_ ?_ _); rotate_left; focus (first | (left; simp; done) | (right; simp; (first | done | omega)))) | with_reducible (first | assumption | exact .refl _ _ | refine .trans0 ?_ ‹_›)))⟩
  cases qb
  · go_enter Tryz.func3, Tryz.ntmps3
    go_wp2_with (first
      | (go_at_call 9; refine (law_shown _).mono ?_; rintro e w1 ⟨rfl, F1⟩; have hba := F1.at0 (b := w.heap.size) (o := .cells #[.int .i64 a.kind, .int .i64 a.n, .string a.s, .slice A a.kids.length ca] 25 (0, 0)) (by repeat (first | rw [heap_alloc_at] | rw [heap_size_alloc] | rfl | rw [if_pos (by omega)] | rw [if_neg (by omega)])); have hbb := F1.at0 (b := w.heap.size + 1) (o := .cells #[.int .i64 b.kind, .int .i64 b.n, .string b.s, .slice B b.kids.length cb] 25 (0, 0)) (by repeat (first | rw [heap_alloc_at] | rw [heap_size_alloc] | rfl | rw [if_pos (by omega)] | rw [if_neg (by omega)])); obtain ⟨q0, q1, q2, q3, q4, q5⟩ := blk4 hba; obtain ⟨z0, z1, z2, z3, z4, z5⟩ := blk4 hbb)
      | (go_at_call 10; clear m1; refine (law_few [] a _ _ (hva.keep (by repeat (first | with_reducible (first | refine .alloc ?_ _ | refine .drewN ?_ _ | refine .drew ?_) | ((with_reducible refine .setCell ?_ ?_ _); rotate_left; focus (first | (left; simp; done) | (right; simp; (first | done | omega)))) | with_reducible (first | assumption | exact .refl _ _ | refine .trans0 ?_ ‹_›)))) hsa).mono ?_; rw [HX.out]; rintro e w2 ⟨rfl, F2⟩; obtain ⟨z0, z1, z2, z3, z4, z5⟩ := blk4 (F2.at0 hbb))
      | (go_at_call 10; refine (law_few [] b _ _ (hvb.keep (by repeat (first | with_reducible (first | refine .alloc ?_ _ | refine .drewN ?_ _ | refine .drew ?_) | ((with_reducible refine .setCell ?_ ?_ _); rotate_left; focus (first | (left; simp; done) | (right; simp; (first | done | omega)))) | with_reducible (first | assumption | exact .refl _ _ | refine .trans0 ?_ ‹_›)))) hsb).mono ?_; rw [HY.out]; rintro e w3 ⟨rfl, F3⟩))
    go_ret
    exact ⟨rfl, (by repeat (first | with_reducible (first | refine .alloc ?_ _ | refine .drewN ?_ _ | refine .drew ?_) | ((with_reducible refine .setCell ?_ ?_ _); rotate_left; focus (first | (left; simp; done) | (right; simp; (first | done | omega)))) | with_reducible (first | assumption | exact .refl _ _ | refine .trans0 ?_ ‹_›)))⟩
  go_enter Tryz.func3, Tryz.ntmps3
  go_upto_region 14 with (first
    | (go_at_call 9; refine (law_shown _).mono ?_; rintro e w1 ⟨rfl, F1⟩; have hba1 := F1.at0 (b := w.heap.size) (o := .cells #[.int .i64 a.kind, .int .i64 a.n, .string a.s, .slice A a.kids.length ca] 25 (0, 0)) (by repeat (first | rw [heap_alloc_at] | rw [heap_size_alloc] | rfl | rw [if_pos (by omega)] | rw [if_neg (by omega)])); have hbb1 := F1.at0 (b := w.heap.size + 1) (o := .cells #[.int .i64 b.kind, .int .i64 b.n, .string b.s, .slice B b.kids.length cb] 25 (0, 0)) (by repeat (first | rw [heap_alloc_at] | rw [heap_size_alloc] | rfl | rw [if_pos (by omega)] | rw [if_neg (by omega)])); obtain ⟨q0, q1, q2, q3, q4, q5⟩ := blk4 hba1; obtain ⟨z0, z1, z2, z3, z4, z5⟩ := blk4 hbb1)
    | (go_at_call 10; clear m0; refine (law_few [] a _ _ (hva.keep (by repeat (first | with_reducible (first | refine .alloc ?_ _ | refine .drewN ?_ _ | refine .drew ?_) | ((with_reducible refine .setCell ?_ ?_ _); rotate_left; focus (first | (left; simp; done) | (right; simp; (first | done | omega)))) | with_reducible (first | assumption | exact .refl _ _ | refine .trans0 ?_ ‹_›)))) hsa).mono ?_; rw [HX.out]; rintro e w2 ⟨rfl, F2⟩; have hba2 := F2.at0 hba1; have hbb2 := F2.at0 hbb1; obtain ⟨q0, q1, q2, q3, q4, q5⟩ := blk4 hba2; obtain ⟨z0, z1, z2, z3, z4, z5⟩ := blk4 hbb2)
    | (go_at_call 10; refine (law_few [] b _ _ (hvb.keep (by repeat (first | with_reducible (first | refine .alloc ?_ _ | refine .drewN ?_ _ | refine .drew ?_) | ((with_reducible refine .setCell ?_ ?_ _); rotate_left; focus (first | (left; simp; done) | (right; simp; (first | done | omega)))) | with_reducible (first | assumption | exact .refl _ _ | refine .trans0 ?_ ‹_›)))) hsb).mono ?_; rw [HY.out]; rintro e w3 ⟨rfl, F3⟩; have hba := F3.at0 hba2; have hbb := F3.at0 hbb2; have F03 : Frm [] w w3 := (by repeat (first | with_reducible (first | refine .alloc ?_ _ | refine .drewN ?_ _ | refine .drew ?_) | ((with_reducible refine .setCell ?_ ?_ _); rotate_left; focus (first | (left; simp; done) | (right; simp; (first | done | omega)))) | with_reducible (first | assumption | exact .refl _ _ | refine .trans0 ?_ ‹_›))); have hlta := (Array.getElem?_eq_some_iff.1 hba).1; have hltb := (Array.getElem?_eq_some_iff.1 hbb).1)
    | (go_at_call 11; refine (law_bound gs Ag cg _ (hg.keep F03) hgl).mono ?_; rintro e w4 ⟨st, hbd⟩; obtain ⟨sb, rfl, hr, F4⟩ := hbd.ready; have hb : Below w3.heap.size w3 w4 := F4.below; obtain ⟨q0, q1, q2, q3, q4, q5⟩ := blk4 (blk_below hb hba hlta); obtain ⟨z0, z1, z2, z3, z4, z5⟩ := blk4 (blk_below hb hbb hltb); obtain ⟨p, q, less, more, v, o, is, e1, e6, e7, g1, st', l1, l2, l3, l4, l5, l6, l7, l8, k1, k2⟩ := pairs_law st a b; have L1 := Lib.hid l1; have L2 := Lib.hid l2; have L3 := Lib.hid l3; have L4 := Lib.hid l4; have L5 := Lib.hid l5; have L6 := Lib.hid l6; have L7 := Lib.hid l7; have L8 := Lib.hid l8; have K1 := Lib.hid k1; have K2 := Lib.hid k2; clear l1 l2 l3 l4 l5 l6 l7 l8 k1 k2)
    | (go_at_call 12; clear m1; refine (ready_mark hr).mono ?_; rintro e w6 ⟨rfl, hrm, F6⟩; clear hr; have hr := hrm; clear hrm; have hbn := hb.trans (F6.below.mono hb.size); clear hb; have hb := hbn; clear hbn; obtain ⟨q0, q1, q2, q3, q4, q5⟩ := blk4 (blk_below hb hba hlta); obtain ⟨z0, z1, z2, z3, z4, z5⟩ := blk4 (blk_below hb hbb hltb))
    | (go_at_call 13; clear m2; have hr0 := hr.addTwo (t := a) (u := b) (ty := 25) (fun F _ hF => (hva.keep F03).newer hb hF) (fun F _ hF => (hvb.keep F03).newer hb hF); refine (ready_asked hr0 ⟨#[61, 61]⟩ [a, b] _ 2 (fun F h => h.1) (by decide) (by simp) L1.out).mono ?_; rintro e w7 ⟨rfl, hr', b5⟩; clear hr hr0; have hr := hr'; clear hr'; have hbn := (hb.alloc hb.size _).trans b5; clear hb; have hb := hbn; clear hbn b5; obtain ⟨q0, q1, q2, q3, q4, q5⟩ := blk4 (blk_below hb hba hlta); obtain ⟨z0, z1, z2, z3, z4, z5⟩ := blk4 (blk_below hb hbb hltb))
    | (go_at_call 13; clear m3; refine (ready_asked hr ⟨#[92, 61, 61]⟩ [a, b] _ 2 (fun F h => h.1) (by decide) (by simp) L2.out).mono ?_; rintro e w5 ⟨rfl, hr', b5⟩; clear hr; have hr := hr'; clear hr'; have hbn := hb.trans b5; clear hb; have hb := hbn; clear hbn b5; obtain ⟨q0, q1, q2, q3, q4, q5⟩ := blk4 (blk_below hb hba hlta); obtain ⟨z0, z1, z2, z3, z4, z5⟩ := blk4 (blk_below hb hbb hltb))
    | (go_at_call 13; clear m4; refine (ready_asked hr ⟨#[118, 97, 114]⟩ [a] _ 2 (fun F h => krow_head h.1) (by decide) (by simp) L3.out).mono ?_; rintro e w5 ⟨rfl, hr', b5⟩; clear hr; have hr := hr'; clear hr'; have hbn := hb.trans b5; clear hb; have hb := hbn; clear hbn b5; obtain ⟨q0, q1, q2, q3, q4, q5⟩ := blk4 (blk_below hb hba hlta); obtain ⟨z0, z1, z2, z3, z4, z5⟩ := blk4 (blk_below hb hbb hltb))
    | (go_at_call 13; clear m5; refine (ready_asked hr ⟨#[110, 111, 110, 118, 97, 114]⟩ [a] _ 2 (fun F h => krow_head h.1) (by decide) (by simp) L4.out).mono ?_; rintro e w5 ⟨rfl, hr', b5⟩; clear hr; have hr := hr'; clear hr'; have hbn := hb.trans b5; clear hb; have hb := hbn; clear hbn b5; obtain ⟨q0, q1, q2, q3, q4, q5⟩ := blk4 (blk_below hb hba hlta); obtain ⟨z0, z1, z2, z3, z4, z5⟩ := blk4 (blk_below hb hbb hltb))
    | (go_at_call 13; clear m6; refine (ready_asked hr ⟨#[92, 61]⟩ [a, b] _ 2 (fun F h => h.1) (by decide) (by simp) L5.out).mono ?_; rintro e w5 ⟨rfl, hr', b5⟩; clear hr; have hr := hr'; clear hr'; have hbn := hb.trans b5; clear hb; have hb := hbn; clear hbn b5; obtain ⟨q0, q1, q2, q3, q4, q5⟩ := blk4 (blk_below hb hba hlta); obtain ⟨z0, z1, z2, z3, z4, z5⟩ := blk4 (blk_below hb hbb hltb))
    | (go_at_call 13; clear m7; refine (ready_asked hr ⟨#[64, 60]⟩ [a, b] _ 2 (fun F h => h.1) (by decide) (by simp) L6.out).mono ?_; rintro e w5 ⟨rfl, hr', b5⟩; clear hr; have hr := hr'; clear hr'; have hbn := hb.trans b5; clear hb; have hb := hbn; clear hbn b5; obtain ⟨q0, q1, q2, q3, q4, q5⟩ := blk4 (blk_below hb hba hlta); obtain ⟨z0, z1, z2, z3, z4, z5⟩ := blk4 (blk_below hb hbb hltb))
    | (go_at_call 13; have hr0 := hr.addTwo (t := b) (u := a) (ty := 25) (fun F _ hF => (hvb.keep F03).newer hb hF) (fun F _ hF => (hva.keep F03).newer hb hF); refine (ready_asked hr0 ⟨#[64, 60]⟩ [b, a] _ 2 (fun F h => h.1) (by decide) (by simp) L7.out).mono ?_; rintro e w8 ⟨rfl, hr', b5⟩; clear hr hr0; have hr := hr'.dropRow; clear hr'; have hbn := (hb.alloc hb.size _).trans b5; clear hb; have hb := hbn; clear hbn b5))
  have K1' : ((e1 == 0) = false) ∨ (e1 = 0 ∧ ((p = true ∧ q = false ∧ less = false ∧ more = false) ∨ (p = false ∧ q = true ∧ less = true ∧ more = false) ∨ (p = false ∧ q = true ∧ less = false ∧ more = true))) := K1.out.imp (fun h => by simpa using h) id
  have K2' := K2.out
  clear K1 K2 L1 L2 L3 L4 L5 L6 L7
  rcases K1' with h | ⟨rfl, ⟨rfl, rfl, rfl, rfl⟩ | ⟨rfl, rfl, rfl, rfl⟩ | ⟨rfl, rfl, rfl, rfl⟩⟩
  all_goals cases v
  all_goals
    go_upto_region 16 with (first
      | (go_at_call 12; refine (ready_mark hr).mono ?_; rintro e w6 ⟨rfl, hrm, F6⟩; clear hr; have hr := hrm; clear hrm; have hbn := hb.trans (F6.below.mono hb.size); clear hb; have hb := hbn; clear hbn))
  all_goals rcases K2' with h2 | ⟨rfl, rfl⟩
  all_goals try (cases is)
  all_goals
    go_wp2_with (go_at_call 13; refine (ready_asked hr ⟨#[61]⟩ [a, b] _ 2 (fun F h => h.1) (by decide) (by simp) L8.out).mono ?_; rintro e w9 ⟨rfl, hr9, b9⟩)
    go_ret
    exact ⟨rfl, F03.trans0 (Frm.of_below (hb.trans b9))⟩
end Go.Proofs.YtkiofaojokofbaaGreat
