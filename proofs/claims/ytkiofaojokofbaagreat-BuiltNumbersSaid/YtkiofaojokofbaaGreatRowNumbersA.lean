/- BuiltNumbers. -/
import Derived.Test.YtkiofaojokofbaaGreatBuiltM
import Derived.WalkSpells
import Derived.WalkLawsBesides
import Derived.Deep.QuietTactic
import Derived.BigQuiet
import Derived.Deep.DeepCutAuto
import Derived.Deep.RegionHeld3
import Derived.Lib.Hide
import Derived.Handy
namespace Go.Proofs.YtkiofaojokofbaaGreat
open Go.RowKit

theorem ask_test (i : Nat) (hi : i = 13 ∨ i = 14 ∨ i = 15 ∨ i = 16 ∨ i = 17 ∨ i = 18) (name : ByteArray) (hn : (goalTab.getD i default).1 = name) (h : goalIdx name 2 = some i) (s : PStore) (a b : Int) :
    askR s name [Term.num a, Term.num b] = ((Arith.test name a b).1, 0, s) := by
  rw [askR_at (i := i) h]
  rcases hi with rfl | rfl | rfl | rfl | rfl | rfl
  all_goals
    subst hn
    show ((s.testT Lat.nine _ (Term.num a) (Term.num b)).1, (s.testT Lat.nine _ (Term.num a) (Term.num b)).2.2.1, (s.testT Lat.nine _ (Term.num a) (Term.num b)).2.2.2) = _
    rw [testT_num]
    rfl
theorem ask_lt (s : PStore) (a b : Int) : askR s ⟨#[60]⟩ [Term.num a, Term.num b] = (decide (a < b), 0, s) := ask_test 13 (by simp) _ rfl (by kernel_rfl) s a b
theorem ask_gt (s : PStore) (a b : Int) : askR s ⟨#[62]⟩ [Term.num a, Term.num b] = (decide (b < a), 0, s) := ask_test 14 (by simp) _ rfl (by kernel_rfl) s a b
theorem ask_le (s : PStore) (a b : Int) : askR s ⟨#[61, 60]⟩ [Term.num a, Term.num b] = (decide (a ≤ b), 0, s) := ask_test 15 (by simp) _ rfl (by kernel_rfl) s a b
theorem ask_ge (s : PStore) (a b : Int) : askR s ⟨#[62, 61]⟩ [Term.num a, Term.num b] = (decide (b ≤ a), 0, s) := ask_test 16 (by simp) _ rfl (by kernel_rfl) s a b
theorem ask_eq (s : PStore) (a b : Int) : askR s ⟨#[61, 58, 61]⟩ [Term.num a, Term.num b] = (a == b, 0, s) := ask_test 17 (by simp) _ rfl (by kernel_rfl) s a b
theorem ask_ne (s : PStore) (a b : Int) : askR s ⟨#[61, 92, 61]⟩ [Term.num a, Term.num b] = (a != b, 0, s) := ask_test 18 (by simp) _ rfl (by kernel_rfl) s a b
theorem ask_is (s : PStore) (a b : Int) : askR s ⟨#[105, 115]⟩ [Term.num a, Term.num b] = (decide (a = b), 0, s) := by
  rw [askR_at (i := 7) (by kernel_rfl)]
  show ((s.isT Lat.nine (Term.num a) (Term.num b)).1, (s.isT Lat.nine (Term.num a) (Term.num b)).2.2.1, (s.isT Lat.nine (Term.num a) (Term.num b)).2.2.2) = _
  unfold PStore.isT
  rw [evalS_num, matchT_num]
  simp
theorem ask_un (s : PStore) (a b : Int) : askR s ⟨#[61]⟩ [Term.num a, Term.num b] = (decide (a = b), 0, s) := by
  rw [askR_at (i := 2) (by kernel_rfl)]
  show ((s.matchT Lat.nine [Term.num a] [Term.num b]).1, (s.matchT Lat.nine [Term.num a] [Term.num b]).2.2.1, (s.matchT Lat.nine [Term.num a] [Term.num b]).2.2.2) = _
  rw [matchT_num]

set_option maxRecDepth 100000 in
set_option maxHeartbeats 4000000 in
theorem law_BuiltNumbers (a b : Int) (w : World) (ha : I64 a) (hbb : I64 b) : Calls Tryz.prog 4 #[.int .i64 a, .int .i64 b] w fun e w' => e = .returned (.bool true) ∧ Frm [] w w' := by
  have key : ∃ x1 x2 x3 x4 x5 x6 x7 : Bool, decide (a < b) = x1 ∧ decide (b < a) = x2 ∧ (a == b) = x3 ∧ decide (a ≤ b) = x4 ∧ decide (b ≤ a) = x5 ∧ (a != b) = x6 ∧ decide (a = b) = x7 ∧ ((x1 = true ∧ x2 = false ∧ x3 = false ∧ x4 = true ∧ x5 = false ∧ x6 = true ∧ x7 = false) ∨ (x1 = false ∧ x2 = false ∧ x3 = true ∧ x4 = true ∧ x5 = true ∧ x6 = false ∧ x7 = true) ∨ (x1 = false ∧ x2 = true ∧ x3 = false ∧ x4 = false ∧ x5 = true ∧ x6 = true ∧ x7 = false)) := by
    refine ⟨_, _, _, _, _, _, _, rfl, rfl, rfl, rfl, rfl, rfl, rfl, ?_⟩
    rcases Int.lt_trichotomy a b with h | h | h
    · refine .inl ⟨?_, ?_, ?_, ?_, ?_, ?_, ?_⟩ <;> simp <;> omega
    · refine .inr (.inl ⟨?_, ?_, ?_, ?_, ?_, ?_, ?_⟩) <;> simp <;> omega
    · refine .inr (.inr ⟨?_, ?_, ?_, ?_, ?_, ?_, ?_⟩) <;> simp <;> omega
  obtain ⟨x1, x2, x3, x4, x5, x6, x7, q1, q2, q3, q4, q5, q6, q7, hq⟩ := key
  have e1 := Lib.hid (ask_lt st12 a b)
  have e2 := Lib.hid (ask_gt st12 a b)
  have e3 := Lib.hid (ask_eq st12 a b)
  have e4 := Lib.hid (ask_le st12 a b)
  have e5 := Lib.hid (ask_ge st12 a b)
  have e6 := Lib.hid (ask_ne st12 a b)
  have e7 := Lib.hid (ask_is st12 a b)
  have e8 := Lib.hid (ask_un st12 a b)
  rw [q1] at e1
  rw [q2] at e2
  rw [q3] at e3
  rw [q4] at e4
  rw [q5] at e5
  rw [q6] at e6
  rw [q7] at e7 e8
  rcases hq with ⟨rfl, rfl, rfl, rfl, rfl, rfl, rfl⟩ | ⟨rfl, rfl, rfl, rfl, rfl, rfl, rfl⟩ | ⟨rfl, rfl, rfl, rfl, rfl, rfl, rfl⟩
  all_goals
    have m0 : True := trivial
    have m2 : True := trivial
    have m3 : True := trivial
    have m4 : True := trivial
    have m5 : True := trivial
    have m6 : True := trivial
    have m7 : True := trivial
    have m8 : True := trivial
    go_enter Tryz.func4, Tryz.ntmps4
    go_wp2_with (first
      | (go_at_call 9; refine (law_shown _).mono ?_; rintro e w1 ⟨rfl, F1⟩; have HB1 := Lib.hid F1.size)
      | (go_at_call 11; refine (law_bound_nil _).mono ?_; intro e w2 hbd; obtain ⟨sb, rfl, hr, F2⟩ := hbd.ready; have hb : Below w.heap.size w w2 := (Frm.trans0 F1 F2).below)
      | (go_at_call 14; refine (term_num _ _).mono ?_; rintro e w3 ⟨rfl, F3⟩; have hr' := hr.keep F3; clear hr; have hr := hr'; clear hr'; have hb' := hb.trans (F3.below.mono hb.size); clear hb; have hb := hb'; clear hb')
      | (go_at_call 13; clear m0; have hr0 := hr.addTwo (t := Term.num a) (u := Term.num b) (ty := 25) (fun F _ _ => num_v F _ ha) (fun F _ _ => num_v F _ hbb); refine (ready_asked hr0 ⟨#[60]⟩ [Term.num a, Term.num b] _ 2 (fun F h => h.1) (by decide) (by simp) e1.out).mono ?_; rintro e w4 ⟨rfl, hr', b4⟩; clear hr hr0; have hr := hr'; clear hr'; have hb' := (hb.alloc hb.size _).trans (b4.mono HB1.out); clear hb; have hb := hb'; clear hb' b4)
      | (go_at_call 13; clear m2; refine (ready_asked hr ⟨#[62]⟩ [Term.num a, Term.num b] _ 2 (fun F h => h.1) (by decide) (by simp) (e2.out)).mono ?_; rintro e w4 ⟨rfl, hr', b4⟩; clear hr; have hr := hr'; clear hr'; have hb' := hb.trans (b4.mono HB1.out); clear hb; have hb := hb'; clear hb' b4)
      | (go_at_call 13; clear m3; refine (ready_asked hr ⟨#[61, 58, 61]⟩ [Term.num a, Term.num b] _ 2 (fun F h => h.1) (by decide) (by simp) (e3.out)).mono ?_; rintro e w4 ⟨rfl, hr', b4⟩; clear hr; have hr := hr'; clear hr'; have hb' := hb.trans (b4.mono HB1.out); clear hb; have hb := hb'; clear hb' b4)
      | (go_at_call 13; clear m4; refine (ready_asked hr ⟨#[61, 60]⟩ [Term.num a, Term.num b] _ 2 (fun F h => h.1) (by decide) (by simp) (e4.out)).mono ?_; rintro e w4 ⟨rfl, hr', b4⟩; clear hr; have hr := hr'; clear hr'; have hb' := hb.trans (b4.mono HB1.out); clear hb; have hb := hb'; clear hb' b4)
      | (go_at_call 13; clear m5; refine (ready_asked hr ⟨#[62, 61]⟩ [Term.num a, Term.num b] _ 2 (fun F h => h.1) (by decide) (by simp) (e5.out)).mono ?_; rintro e w4 ⟨rfl, hr', b4⟩; clear hr; have hr := hr'; clear hr'; have hb' := hb.trans (b4.mono HB1.out); clear hb; have hb := hb'; clear hb' b4)
      | (go_at_call 13; clear m6; refine (ready_asked hr ⟨#[61, 92, 61]⟩ [Term.num a, Term.num b] _ 2 (fun F h => h.1) (by decide) (by simp) (e6.out)).mono ?_; rintro e w4 ⟨rfl, hr', b4⟩; clear hr; have hr := hr'; clear hr'; have hb' := hb.trans (b4.mono HB1.out); clear hb; have hb := hb'; clear hb' b4)
      | (go_at_call 13; clear m7; refine (ready_asked hr ⟨#[105, 115]⟩ [Term.num a, Term.num b] _ 2 (fun F h => h.1) (by decide) (by simp) (e7.out)).mono ?_; rintro e w4 ⟨rfl, hr', b4⟩; clear hr; have hr := hr'; clear hr'; have hb' := hb.trans (b4.mono HB1.out); clear hb; have hb := hb'; clear hb' b4)
      | (go_at_call 13; clear m8; refine (ready_asked hr ⟨#[61]⟩ [Term.num a, Term.num b] _ 2 (fun F h => h.1) (by decide) (by simp) (e8.out)).mono ?_; rintro e w4 ⟨rfl, hr', b4⟩; clear hr; have hr := hr'; clear hr'; have hb' := hb.trans (b4.mono HB1.out); clear hb; have hb := hb'; clear hb' b4))
  all_goals go_ret
  all_goals exact ⟨rfl, Frm.of_below hb⟩
end Go.Proofs.YtkiofaojokofbaaGreat
