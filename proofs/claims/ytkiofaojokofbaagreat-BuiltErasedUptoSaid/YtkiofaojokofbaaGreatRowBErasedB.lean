/- Contracts and plain laws: LawPairs EvalB2 EvalC EvalE. -/
import Derived.Test.YtkiofaojokofbaaGreatRowBErasedA
import Derived.WalkSpells
import Derived.WalkLawsBesides
import Derived.Deep.QuietTactic
import Derived.BigQuiet
import Derived.Deep.DeepCutAuto
import Derived.Deep.RegionHeld3
import Derived.Lib.Hide
import Derived.Handy
import Derived.Test.YtkiofaojokofbaaGreatBuiltL
namespace Go.Proofs.YtkiofaojokofbaaGreat
open Go.RowKit

theorem krow_head {F : List Nat} {w : World} {a b : Term} {A : Option Addr} (h : KidsV F w [a, b] A 0) : KidsV F w [a] A 0 := by
  simp only [KidsV] at h ⊢
  exact ⟨h.1, trivial⟩

set_option maxRecDepth 100000 in
set_option maxHeartbeats 4000000 in
theorem law_BuiltPairs (gs : List (List Term)) (Ag : Option Addr) (cg : Nat) (a b : Term) (va vb : Value) (w : World) (hg : GoalsV w gs Ag) (hgl : gs.length ≤ 1048576) (hva : TermV [] w a va) (hsa : a.size ≤ 1048576) (hvb : TermV [] w b vb) (hsb : b.size ≤ 1048576) :
    Calls Tryz.prog 3 #[.slice Ag gs.length cg, va, vb] w fun e w' => e = .returned (.bool true) ∧ Frm [] w w' := by
  obtain ⟨A, ca, rfl⟩ := hva.form
  obtain ⟨B, cb, rfl⟩ := hvb.form
  obtain ⟨qa, HX⟩ : ∃ q, Hid (decide (a.size ≤ 200) = q) := ⟨_, rfl⟩
  obtain ⟨qb, HY⟩ : ∃ q, Hid (decide (b.size ≤ 200) = q) := ⟨_, rfl⟩
  have m0 : True := trivial
  have m1 : True := trivial
  have m2 : True := trivial
  have m3 : True := trivial
  have m4 : True := trivial
  have m5 : True := trivial
  have m6 : True := trivial
  have m7 : True := trivial
  cases qa
  · go_enter Tryz.func3, Tryz.ntmps3
    go_wp2_with (first
      | (go_at_call 9; refine (law_shown _).mono ?_; rintro e w1 ⟨rfl, F1⟩; have hba := F1.at0 (b := w.heap.size) (o := .cells #[.int .i64 a.kind, .int .i64 a.n, .string a.s, .slice A a.kids.length ca] 25 (0, 0)) (by repeat (first | rw [heap_alloc_at] | rw [heap_size_alloc] | rfl | rw [if_pos (by omega)] | rw [if_neg (by omega)])); have hbb := F1.at0 (b := w.heap.size + 1) (o := .cells #[.int .i64 b.kind, .int .i64 b.n, .string b.s, .slice B b.kids.length cb] 25 (0, 0)) (by repeat (first | rw [heap_alloc_at] | rw [heap_size_alloc] | rfl | rw [if_pos (by omega)] | rw [if_neg (by omega)])); obtain ⟨q0, q1, q2, q3, q4, q5⟩ := blk4 hba; obtain ⟨z0, z1, z2, z3, z4, z5⟩ := blk4 hbb)
      | (go_at_call 10; refine (law_few [] a _ _ (hva.keep (by repeat (first | with_reducible (first | refine .alloc ?_ _ | refine .drewN ?_ _ | refine .drew ?_) | ((with_reducible refine .setCell ?_ ?_ _); rotate_left; focus (first | (left; simp; done) | (right; simp; (first | done | omega)))) | with_reducible (first | assumption | exact .refl _ _ | refine .trans0 ?_ ‹_›)))) hsa).mono ?_; rw [HX.out]; rintro e w2 ⟨rfl, F2⟩))
    go_ret
    exact ⟨rfl, (by repeat (first | with_reducible (first | refine .alloc ?_ _ | refine .drewN ?_ _ | refine .drew ?_) | ((with_reducible refine .setCell ?_ ?_ _); rotate_left; focus (first | (left; simp; done) | (right; simp; (first | done | omega)))) | with_reducible (first | assumption | exact .refl _ _ | refine .trans0 ?_ ‹_›)))⟩
  cases qb
  · go_enter Tryz.func3, Tryz.ntmps3
    go_wp2_with (first
      | (go_at_call 9; refine (law_shown _).mono ?_; rintro e w1 ⟨rfl, F1⟩; have hba := F1.at0 (b := w.heap.size) (o := .cells #[.int .i64 a.kind, .int .i64 a.n, .string a.s, .slice A a.kids.length ca] 25 (0, 0)) (by repeat (first | rw [heap_alloc_at] | rw [heap_size_alloc] | rfl | rw [if_pos (by omega)] | rw [if_neg (by omega)])); have hbb := F1.at0 (b := w.heap.size + 1) (o := .cells #[.int .i64 b.kind, .int .i64 b.n, .string b.s, .slice B b.kids.length cb] 25 (0, 0)) (by repeat (first | rw [heap_alloc_at] | rw [heap_size_alloc] | rfl | rw [if_pos (by omega)] | rw [if_neg (by omega)])); obtain ⟨q0, q1, q2, q3, q4, q5⟩ := blk4 hba; obtain ⟨z0, z1, z2, z3, z4, z5⟩ := blk4 hbb)
      | (go_at_call 10; clear m1; refine (law_few [] a _ _ (hva.keep (by repeat (first | with_reducible (first | refine .alloc ?_ _ | refine .drewN ?_ _ | refine .drew ?_) | ((with_reducible refine .setCell ?_ ?_ _); rotate_left; focus (first | (left; simp; done) | (right; simp; (first | done | omega)))) | with_reducible (first | assumption | exact .refl _ _ | refine .trans0 ?_ ‹_›)))) hsa).mono ?_; rw [HX.out]; rintro e w2 ⟨rfl, F2⟩; obtain ⟨z0, z1, z2, z3, z4, z5⟩ := blk4 (F2.at0 hbb))
      | (go_at_call 10; refine (law_few [] b _ _ (hvb.keep (by repeat (first | with_reducible (first | refine .alloc ?_ _ | refine .drewN ?_ _ | refine .drew ?_) | ((with_reducible refine .setCell ?_ ?_ _); rotate_left; focus (first | (left; simp; done) | (right; simp; (first | done | omega)))) | with_reducible (first | assumption | exact .refl _ _ | refine .trans0 ?_ ‹_›)))) hsb).mono ?_; rw [HY.out]; rintro e w3 ⟨rfl, F3⟩))
    go_ret
    exact ⟨rfl, (by repeat (first | with_reducible (first | refine .alloc ?_ _ | refine .drewN ?_ _ | refine .drew ?_) | ((with_reducible refine .setCell ?_ ?_ _); rotate_left; focus (first | (left; simp; done) | (right; simp; (first | done | omega)))) | with_reducible (first | assumption | exact .refl _ _ | refine .trans0 ?_ ‹_›)))⟩
  go_enter Tryz.func3, Tryz.ntmps3
  go_upto_region 14 with (first
    | (go_at_call 9; refine (law_shown _).mono ?_; rintro e w1 ⟨rfl, F1⟩; have hba1 := F1.at0 (b := w.heap.size) (o := .cells #[.int .i64 a.kind, .int .i64 a.n, .string a.s, .slice A a.kids.length ca] 25 (0, 0)) (by repeat (first | rw [heap_alloc_at] | rw [heap_size_alloc] | rfl | rw [if_pos (by omega)] | rw [if_neg (by omega)])); have hbb1 := F1.at0 (b := w.heap.size + 1) (o := .cells #[.int .i64 b.kind, .int .i64 b.n, .string b.s, .slice B b.kids.length cb] 25 (0, 0)) (by repeat (first | rw [heap_alloc_at] | rw [heap_size_alloc] | rfl | rw [if_pos (by omega)] | rw [if_neg (by omega)])); obtain ⟨q0, q1, q2, q3, q4, q5⟩ := blk4 hba1; obtain ⟨z0, z1, z2, z3, z4, z5⟩ := blk4 hbb1)
    | (go_at_call 10; clear m0; refine (law_few [] a _ _ (hva.keep (by repeat (first | with_reducible (first | refine .alloc ?_ _ | refine .drewN ?_ _ | refine .drew ?_) | ((with_reducible refine .setCell ?_ ?_ _); rotate_left; focus (first | (left; simp; done) | (right; simp; (first | done | omega)))) | with_reducible (first | assumption | exact .refl _ _ | refine .trans0 ?_ ‹_›)))) hsa).mono ?_; rw [HX.out]; rintro e w2 ⟨rfl, F2⟩; have hba2 := F2.at0 hba1; have hbb2 := F2.at0 hbb1; obtain ⟨q0, q1, q2, q3, q4, q5⟩ := blk4 hba2; obtain ⟨z0, z1, z2, z3, z4, z5⟩ := blk4 hbb2)
    | (go_at_call 10; refine (law_few [] b _ _ (hvb.keep (by repeat (first | with_reducible (first | refine .alloc ?_ _ | refine .drewN ?_ _ | refine .drew ?_) | ((with_reducible refine .setCell ?_ ?_ _); rotate_left; focus (first | (left; simp; done) | (right; simp; (first | done | omega)))) | with_reducible (first | assumption | exact .refl _ _ | refine .trans0 ?_ ‹_›)))) hsb).mono ?_; rw [HY.out]; rintro e w3 ⟨rfl, F3⟩; have hba := F3.at0 hba2; have hbb := F3.at0 hbb2; have F03 : Frm [] w w3 := (by repeat (first | with_reducible (first | refine .alloc ?_ _ | refine .drewN ?_ _ | refine .drew ?_) | ((with_reducible refine .setCell ?_ ?_ _); rotate_left; focus (first | (left; simp; done) | (right; simp; (first | done | omega)))) | with_reducible (first | assumption | exact .refl _ _ | refine .trans0 ?_ ‹_›))); have hlta := (Array.getElem?_eq_some_iff.1 hba).1; have hltb := (Array.getElem?_eq_some_iff.1 hbb).1)
    | (go_at_call 11; refine (law_bound gs Ag cg _ (hg.keep F03) hgl).mono ?_; rintro e w4 ⟨st, hbd⟩; obtain ⟨sb, rfl, hr, F4⟩ := hbd.ready; have hb : Below w3.heap.size w3 w4 := F4.below; obtain ⟨q0, q1, q2, q3, q4, q5⟩ := blk4 (blk_below hb hba hlta); obtain ⟨z0, z1, z2, z3, z4, z5⟩ := blk4 (blk_below hb hbb hltb); obtain ⟨p, q, less, more, v, o, is, e1, e6, e7, g1, st', l1, l2, l3, l4, l5, l6, l7, l8, k1, k2⟩ := pairs_law st a b; have L1 := Lib.hid l1; have L2 := Lib.hid l2; have L3 := Lib.hid l3; have L4 := Lib.hid l4; have L5 := Lib.hid l5; have L6 := Lib.hid l6; have L7 := Lib.hid l7; have L8 := Lib.hid l8; have K1 := Lib.hid k1; have K2 := Lib.hid k2; clear l1 l2 l3 l4 l5 l6 l7 l8 k1 k2)
    | (go_at_call 12; clear m1; refine (ready_mark hr).mono ?_; rintro e w6 ⟨rfl, hrm, F6⟩; clear hr; have hr := hrm; clear hrm; have hbn := hb.trans (F6.below.mono hb.size); clear hb; have hb := hbn; clear hbn; obtain ⟨q0, q1, q2, q3, q4, q5⟩ := blk4 (blk_below hb hba hlta); obtain ⟨z0, z1, z2, z3, z4, z5⟩ := blk4 (blk_below hb hbb hltb))
    | (go_at_call 13; clear m2; have hr0 := hr.addTwo (t := a) (u := b) (ty := 25) (fun F _ hF => (hva.keep F03).newer hb hF) (fun F _ hF => (hvb.keep F03).newer hb hF); refine (ready_asked hr0 ⟨#[61, 61]⟩ [a, b] _ 2 (fun F h => h.1) (by decide) (by simp) L1.out).mono ?_; rintro e w7 ⟨rfl, hr', b5⟩; clear hr hr0; have hr := hr'; clear hr'; have hbn := (hb.alloc hb.size _).trans b5; clear hb; have hb := hbn; clear hbn b5; obtain ⟨q0, q1, q2, q3, q4, q5⟩ := blk4 (blk_below hb hba hlta); obtain ⟨z0, z1, z2, z3, z4, z5⟩ := blk4 (blk_below hb hbb hltb))
    | (go_at_call 13; clear m3; refine (ready_asked hr ⟨#[92, 61, 61]⟩ [a, b] _ 2 (fun F h => h.1) (by decide) (by simp) L2.out).mono ?_; rintro e w5 ⟨rfl, hr', b5⟩; clear hr; have hr := hr'; clear hr'; have hbn := hb.trans b5; clear hb; have hb := hbn; clear hbn b5; obtain ⟨q0, q1, q2, q3, q4, q5⟩ := blk4 (blk_below hb hba hlta); obtain ⟨z0, z1, z2, z3, z4, z5⟩ := blk4 (blk_below hb hbb hltb))
    | (go_at_call 13; clear m4; refine (ready_asked hr ⟨#[118, 97, 114]⟩ [a] _ 2 (fun F h => krow_head h.1) (by decide) (by simp) L3.out).mono ?_; rintro e w5 ⟨rfl, hr', b5⟩; clear hr; have hr := hr'; clear hr'; have hbn := hb.trans b5; clear hb; have hb := hbn; clear hbn b5; obtain ⟨q0, q1, q2, q3, q4, q5⟩ := blk4 (blk_below hb hba hlta); obtain ⟨z0, z1, z2, z3, z4, z5⟩ := blk4 (blk_below hb hbb hltb))
    | (go_at_call 13; clear m5; refine (ready_asked hr ⟨#[110, 111, 110, 118, 97, 114]⟩ [a] _ 2 (fun F h => krow_head h.1) (by decide) (by simp) L4.out).mono ?_; rintro e w5 ⟨rfl, hr', b5⟩; clear hr; have hr := hr'; clear hr'; have hbn := hb.trans b5; clear hb; have hb := hbn; clear hbn b5; obtain ⟨q0, q1, q2, q3, q4, q5⟩ := blk4 (blk_below hb hba hlta); obtain ⟨z0, z1, z2, z3, z4, z5⟩ := blk4 (blk_below hb hbb hltb))
    | (go_at_call 13; clear m6; refine (ready_asked hr ⟨#[92, 61]⟩ [a, b] _ 2 (fun F h => h.1) (by decide) (by simp) L5.out).mono ?_; rintro e w5 ⟨rfl, hr', b5⟩; clear hr; have hr := hr'; clear hr'; have hbn := hb.trans b5; clear hb; have hb := hbn; clear hbn b5; obtain ⟨q0, q1, q2, q3, q4, q5⟩ := blk4 (blk_below hb hba hlta); obtain ⟨z0, z1, z2, z3, z4, z5⟩ := blk4 (blk_below hb hbb hltb))
    | (go_at_call 13; clear m7; refine (ready_asked hr ⟨#[64, 60]⟩ [a, b] _ 2 (fun F h => h.1) (by decide) (by simp) L6.out).mono ?_; rintro e w5 ⟨rfl, hr', b5⟩; clear hr; have hr := hr'; clear hr'; have hbn := hb.trans b5; clear hb; have hb := hbn; clear hbn b5; obtain ⟨q0, q1, q2, q3, q4, q5⟩ := blk4 (blk_below hb hba hlta); obtain ⟨z0, z1, z2, z3, z4, z5⟩ := blk4 (blk_below hb hbb hltb))
    | (go_at_call 13; have hr0 := hr.addTwo (t := b) (u := a) (ty := 25) (fun F _ hF => (hvb.keep F03).newer hb hF) (fun F _ hF => (hva.keep F03).newer hb hF); refine (ready_asked hr0 ⟨#[64, 60]⟩ [b, a] _ 2 (fun F h => h.1) (by decide) (by simp) L7.out).mono ?_; rintro e w8 ⟨rfl, hr', b5⟩; clear hr hr0; have hr := hr'.dropRow; clear hr'; have hbn := (hb.alloc hb.size _).trans b5; clear hb; have hb := hbn; clear hbn b5))
  have K1' : ((e1 == 0) = false) ∨ (e1 = 0 ∧ ((p = true ∧ q = false ∧ less = false ∧ more = false) ∨ (p = false ∧ q = true ∧ less = true ∧ more = false) ∨ (p = false ∧ q = true ∧ less = false ∧ more = true))) := K1.out.imp (fun h => by simpa using h) id
  have K2' := K2.out
  clear K1 K2 L1 L2 L3 L4 L5 L6 L7
  rcases K1' with h | ⟨rfl, ⟨rfl, rfl, rfl, rfl⟩ | ⟨rfl, rfl, rfl, rfl⟩ | ⟨rfl, rfl, rfl, rfl⟩⟩
  all_goals cases v
  all_goals
    go_upto_region 16 with (first
      | (go_at_call 12; refine (ready_mark hr).mono ?_; rintro e w6 ⟨rfl, hrm, F6⟩; clear hr; have hr := hrm; clear hrm; have hbn := hb.trans (F6.below.mono hb.size); clear hb; have hb := hbn; clear hbn))
  all_goals rcases K2' with h2 | ⟨rfl, rfl⟩
  all_goals try (cases is)
  all_goals
    go_wp2_with (go_at_call 13; refine (ready_asked hr ⟨#[61]⟩ [a, b] _ 2 (fun F h => h.1) (by decide) (by simp) L8.out).mono ?_; rintro e w9 ⟨rfl, hr9, b9⟩)
    go_ret
    exact ⟨rfl, F03.trans0 (Frm.of_below (hb.trans b9))⟩
end Go.Proofs.YtkiofaojokofbaaGreat
namespace Go.Proofs.YtkiofaojokofbaaGreat
open Go.RowKit

theorem opened_fn (l : Lat) (s : ByteArray) (ts : List Term) : l.opened (Term.fn s ts) = (Term.fn s ts, l.bottom) := by
  unfold Lat.opened
  rw [if_neg (by simp [Term.fn, Term.sealOf, Term.kind])]
theorem walk_fn (st : PStore) (s : ByteArray) (ts : List Term) : st.walk (Term.fn s ts) = Term.fn s ts := PStore.walk_free (PStore.next_ne (by decide))
theorem evalT_num9 (s : PStore) (d m : Nat) (a : Int) (hm : m < 2000) : evalT Lat.nine s (d + 1) m (Term.num a) 0 = (.ok a, 0, m + 1) := by
  rw [evalT_succ _ _ _ _ _ _ (by omega), walk_num, opened_num, nine_bottom]
  show evalB _ (m + 1) (Lat.nine.join 0 0) 2 a _ [] = _
  rw [nine_join0]
  rfl
theorem evalT_two9 (s : PStore) (d m m1 m2 : Nat) (op : ByteArray) (t u : Term) (x y : Int) (hk : Arith.known op 2 = true) (hm : m < 2000) (ht : evalT Lat.nine s d (m + 1) t 0 = (.ok x, 0, m1)) (hu : evalT Lat.nine s d m1 u 0 = (.ok y, 0, m2)) :
    evalT Lat.nine s (d + 1) m (Term.fn op [t, u]) 0 = (Arith.two op x y, 0, m2) := by
  rw [evalT_succ _ _ _ _ _ _ (by omega), walk_fn, opened_fn, nine_bottom]
  show evalB _ (m + 1) (Lat.nine.join 0 0) 3 0 op [t, u] = _
  rw [nine_join0]
  exact evalB_two _ _ _ _ op [t, u] hk rfl ht hu
theorem fit_ok {n : Int} (h1 : -9223372036854775808 ≤ n) (h2 : n ≤ 9223372036854775807) : Arith.fit n = .ok n := if_pos ⟨h1, h2⟩
def sumOf (a b : Int) : Term := Term.fn ⟨#[43]⟩ [Term.num a, Term.num b]
theorem evalT_sum (s : PStore) (d m : Nat) (a b : Int) (hm : m + 2 < 2000) (h1 : -9223372036854775808 ≤ a + b) (h2 : a + b ≤ 9223372036854775807) : evalT Lat.nine s (d + 2) m (sumOf a b) 0 = (.ok (a + b), 0, m + 3) := by
  rw [sumOf, evalT_two9 s (d + 1) m (m + 2) (m + 3) _ _ _ a b (by decide) (by omega) (evalT_num9 _ _ _ _ (by omega)) (evalT_num9 _ _ _ _ (by omega))]
  show (Arith.plus a b, _, _) = _
  rw [Arith.plus, fit_ok h1 h2]
theorem evalS_sum (s : PStore) (a b : Int) (h1 : -9223372036854775808 ≤ a + b) (h2 : a + b ≤ 9223372036854775807) : evalS Lat.nine s (sumOf a b) = (a + b, 0, 0) := by
  unfold evalS
  rw [nine_bottom, show (2000 : Nat) = 1998 + 2 from rfl, evalT_sum s 1998 0 a b (by omega) h1 h2]
def lessOne (a b : Int) : Term := Term.fn ⟨#[45]⟩ [sumOf a b, Term.num 1]
theorem evalS_less (s : PStore) (a b : Int) (h1 : -9223372036854775807 ≤ a + b) (h2 : a + b ≤ 9223372036854775807) : evalS Lat.nine s (lessOne a b) = (a + b - 1, 0, 0) := by
  unfold evalS
  rw [nine_bottom, show (2000 : Nat) = 1997 + 2 + 1 from rfl, lessOne, evalT_two9 s (1997 + 2) 0 4 5 _ _ _ (a + b) 1 (by decide) (by omega) (evalT_sum s 1997 1 a b (by omega) (by omega) h2) (evalT_num9 _ _ _ _ (by omega))]
  show (match (Arith.two ⟨#[45]⟩ (a + b) 1, (0 : Int), (5 : Nat)) with | (.ok a, lev, _) => (a, lev, 0) | (.error c, lev, _) => (0, lev, c)) = _
  have : Arith.two ⟨#[45]⟩ (a + b) 1 = .ok (a + b - 1) := by
    show Arith.fit (a + b - 1) = _
    exact fit_ok (by omega) (by omega)
  rw [this]
theorem matchT_congr {l : Lat} {s : PStore} {t t' u u' : Term} (ht : s.walk t = s.walk t') (hu : s.walk u = s.walk u') : s.matchT l [t] [u] = s.matchT l [t'] [u'] := by
  unfold PStore.matchT
  rw [if_pos (show [t].length = [u].length from rfl), if_pos (show [t'].length = [u'].length from rfl)]
  show PStore.matchF l (1999 + 1) s [(t, u)] l.bottom = PStore.matchF l (1999 + 1) s [(t', u')] l.bottom
  rw [PStore.matchF]
  dsimp only
  rw [ht, hu]
  conv => rhs; rw [PStore.matchF]
theorem full_num {s : PStore} {t : Term} {n : Int} (h : s.walk t = Term.num n) : s.full t = (Term.num n, 0) := by
  have hf : s.fillT 61 1 1000 0 t = (Term.num n, 999, 0) := by
    rw [show (61 : Nat) = 60 + 1 from rfl, PStore.fillT_ok (by decide) (by unfold wrap64; omega), h]
    rw [show wrap64 (1000 - 1) = 999 from by unfold wrap64; omega]
    rfl
  unfold PStore.full
  rw [hf]
  rfl
def stSum (n : Int) : PStore := st12.bind 0 (Term.num n)
theorem stSum_walk (n : Int) : (stSum n).walk (Term.var 0) = Term.num n := by
  have h1 : (stSum n).next (Term.var 0) = some (Term.num n) := by
    rw [Term.var, PStore.next_var]
    exact PStore.get_in (m := 0) (by kernel_rfl)
  have h2 : (stSum n).next (Term.num n) = none := PStore.next_ne (by decide)
  have h3 : (stSum n).walkN 1 (Term.var 0) = Term.num n := by rw [PStore.walkN_some h1]; rfl
  rw [PStore.walk_eq (k := 1) (by rw [h3]; exact h2), h3]
theorem isT_at {s : PStore} {a b : Term} {n : Int} (h : evalS Lat.nine s b = (n, 0, 0)) : s.isT Lat.nine a b = ((s.matchT Lat.nine [a] [Term.num n]).1, Lat.nine.join (s.matchT Lat.nine [a] [Term.num n]).2.1 0, (s.matchT Lat.nine [a] [Term.num n]).2.2) := by
  unfold PStore.isT
  rw [h]
  rfl
theorem sums_is (a b : Int) (h1 : -9223372036854775807 ≤ a + b) (h2 : a + b ≤ 9223372036854775807) (hh : st12.has (Term.num (a + b)) 0 false) : askR st12 ⟨#[105, 115]⟩ [Term.var 0, sumOf a b] = (true, 0, stSum (a + b)) := by
  rw [askR_at (i := 7) (by kernel_rfl)]
  show ((st12.isT Lat.nine (Term.var 0) (sumOf a b)).1, (st12.isT Lat.nine (Term.var 0) (sumOf a b)).2.2.1, (st12.isT Lat.nine (Term.var 0) (sumOf a b)).2.2.2) = _
  rw [isT_at (evalS_sum st12 a b (by omega) h2)]
  have := matchT_bind Lat.nine st12 0 (Term.num (a + b)) (st12_cell (by decide)) (walk_num _ _) (by simp [Term.num, Term.kind]) hh
  rw [show ((0 : Nat) : Int) = 0 from rfl] at this
  rw [this]
  rfl
theorem sums_again (a b : Int) (h1 : -9223372036854775807 ≤ a + b) (h2 : a + b ≤ 9223372036854775807) : askR (stSum (a + b)) ⟨#[105, 115]⟩ [Term.var 0, sumOf a b] = (true, 0, stSum (a + b)) := by
  rw [askR_at (i := 7) (by kernel_rfl)]
  show (((stSum (a + b)).isT Lat.nine (Term.var 0) (sumOf a b)).1, ((stSum (a + b)).isT Lat.nine (Term.var 0) (sumOf a b)).2.2.1, ((stSum (a + b)).isT Lat.nine (Term.var 0) (sumOf a b)).2.2.2) = _
  rw [isT_at (evalS_sum _ a b (by omega) h2), matchT_congr (t' := Term.num (a + b)) (u' := Term.num (a + b)) (by rw [stSum_walk, walk_num]) rfl, matchT_num]
  simp
theorem sums_other (a b : Int) (h1 : -9223372036854775807 ≤ a + b) (h2 : a + b ≤ 9223372036854775807) : askR (stSum (a + b)) ⟨#[105, 115]⟩ [Term.var 0, lessOne a b] = (false, 0, stSum (a + b)) := by
  rw [askR_at (i := 7) (by kernel_rfl)]
  show (((stSum (a + b)).isT Lat.nine (Term.var 0) (lessOne a b)).1, ((stSum (a + b)).isT Lat.nine (Term.var 0) (lessOne a b)).2.2.1, ((stSum (a + b)).isT Lat.nine (Term.var 0) (lessOne a b)).2.2.2) = _
  rw [isT_at (evalS_less _ a b h1 h2), matchT_congr (t' := Term.num (a + b)) (u' := Term.num (a + b - 1)) (by rw [stSum_walk, walk_num]) rfl, matchT_num]
  simp
  omega
theorem sums_same (n : Int) : askR (stSum n) ⟨#[61, 61]⟩ [Term.var 0, Term.num n] = (true, 0, stSum n) := by
  rw [askR_at (i := 4) (by kernel_rfl)]
  show (((stSum n).cmpT Lat.nine isZ (Term.var 0) (Term.num n)).1, ((stSum n).cmpT Lat.nine isZ (Term.var 0) (Term.num n)).2.2.1, ((stSum n).cmpT Lat.nine isZ (Term.var 0) (Term.num n)).2.2.2) = _
  unfold PStore.cmpT
  rw [full_num (stSum_walk n), full_num (walk_num _ n)]
  have : bareF (Term.num n).erase (Term.num n).erase = 0 := by
    show bareF (Term.num n) (Term.num n) = 0
    simp [bareF, Term.num, bare0, cmpI, Term.kind, Term.n]
  rw [if_pos rfl, if_pos rfl, this]
  rfl
end Go.Proofs.YtkiofaojokofbaaGreat
namespace Go.Proofs.YtkiofaojokofbaaGreat
open Go.RowKit

theorem parts_self (t : Term) : t ∈ t.parts := by cases t; simp [Term.parts]
theorem parts_mk {k n : Int} {s : ByteArray} {ts : List Term} {p : Term} : p ∈ (Term.mk k n s ts).parts ↔ p = .mk k n s ts ∨ ∃ x ∈ ts, p ∈ x.parts := by
  simp [Term.parts, Term.partss_eq]
theorem parts_kid {k n : Int} {s : ByteArray} {ts : List Term} {x p : Term} (hx : x ∈ ts) (hp : p ∈ x.parts) : p ∈ (Term.mk k n s ts).parts := parts_mk.2 (.inr ⟨x, hx, hp⟩)
theorem deep_mem : ∀ {ts : List Term} {x : Term}, x ∈ ts → x.deep ≤ Term.deeps ts
  | t :: ts, x, h => by
    simp only [Term.deeps]
    rcases List.mem_cons.1 h with rfl | h
    · omega
    · have := deep_mem h; omega
theorem fillTs_id {f : Int → Int → Term → Term × Int × Int} : ∀ (ts : List Term) (l : Int), (∀ t ∈ ts, ∀ l : Int, (t.size : Int) ≤ l → l ≤ 1000 → f l 0 t = (t, l - t.size, 0)) → (Term.sizes ts : Int) ≤ l → l ≤ 1000 → PStore.fillTs f l 0 ts = (ts, l - Term.sizes ts, 0)
  | [], l, _, _, _ => by simp [PStore.fillTs, Term.sizes]
  | t :: ts, l, h, h1, h2 => by
    simp only [Term.sizes] at h1 ⊢
    have ht := h t (by simp) l (by omega) h2
    have hr := fillTs_id ts (l - t.size) (fun x hx => h x (by simp [hx])) (by omega) (by omega)
    simp only [PStore.fillTs, ht, hr]
    refine Prod.ext rfl (Prod.ext ?_ rfl)
    show l - t.size - Term.sizes ts = l - ((t.size + Term.sizes ts : Nat) : Int)
    omega
theorem fill_walk {s : PStore} {t u : Term} (h : s.walk t = s.walk u) (d : Nat) (deep l e : Int) : s.fillT d deep l e t = s.fillT d deep l e u := by cases d <;> simp [PStore.fillT, h]
theorem fill_id (s : PStore) : ∀ (t : Term) (d : Nat) (deep l : Int), (∀ p ∈ t.parts, s.next p = none) → t.deep ≤ d → 0 ≤ deep → deep + t.deep ≤ 61 → (t.size : Int) ≤ l → l ≤ 1000 → s.fillT d deep l 0 t = (t, l - t.size, 0) := by
  intro t
  induction t using Term.induct with
  | h k n z ts ih =>
    intro d deep l hn hd h0 hdp hs hl
    have hw : s.walk (.mk k n z ts) = .mk k n z ts := PStore.walk_free (hn _ (parts_self _))
    have hsz : (Term.mk k n z ts).size = 1 + Term.sizes ts := by simp [Term.size]
    have hdd : (Term.mk k n z ts).deep = 1 + Term.deeps ts := by simp [Term.deep]
    obtain ⟨d, rfl⟩ : ∃ d', d = d' + 1 := ⟨d - 1, by omega⟩
    have hwr : wrap64 (l - 1) = l - 1 := by unfold wrap64; omega
    rw [PStore.fillT_ok (by omega) (by omega), hw, hwr]
    dsimp only [Term.kind, Term.n, Term.s, Term.kids]
    rw [fillTs_id ts (l - 1) (fun x hx l2 h1 h2 => ih x hx d (deep + 1) l2 (fun p hp => hn p (parts_kid hx hp)) (by have := deep_mem hx; omega) (by omega) (by have := deep_mem hx; omega) h1 h2) (by omega) (by omega)]
    refine Prod.ext rfl (Prod.ext ?_ rfl)
    show l - 1 - Term.sizes ts = l - ((Term.mk k n z ts).size : Int)
    omega
theorem full_id {s : PStore} {t u : Term} (h : s.walk t = u) (hn : ∀ p ∈ u.parts, s.next p = none) (hd : u.deep ≤ 60) (hs : u.size ≤ 1000) : s.full t = (u, 0) := by
  have hf := fill_id s u 61 1 1000 hn (by omega) (by omega) (by omega) (by omega) (by omega)
  have hw : s.walk t = s.walk u := by rw [h, PStore.walk_free (hn u (parts_self u))]
  unfold PStore.full
  rw [fill_walk hw, hf, if_pos rfl]
theorem anyS_no {f : List Int → Term → Option (Bool × List Int)} : ∀ (ts : List Term) (seen : List Int), (∀ t ∈ ts, ∀ seen, f seen t = some (false, seen)) → PStore.anyS f seen ts = some (false, seen)
  | [], seen, _ => rfl
  | t :: ts, seen, h => by
    unfold PStore.anyS
    rw [h t (by simp) seen]
    exact anyS_no ts seen (fun x hx => h x (by simp [hx]))
theorem inF_no (s : PStore) (v : Int) : ∀ (t : Term) (d : Nat) (seen : List Int), (∀ p ∈ t.parts, s.next p = none ∧ ¬ (p.kind = 1 ∧ p.n = v)) → t.deep ≤ d → s.inF v d seen t = some (false, seen) := by
  intro t
  induction t using Term.induct with
  | h k n z ts ih =>
    intro d seen hn hd
    have hdd : (Term.mk k n z ts).deep = 1 + Term.deeps ts := by simp [Term.deep]
    obtain ⟨d, rfl⟩ : ∃ d', d = d' + 1 := ⟨d - 1, by omega⟩
    have h0 := hn _ (parts_self _)
    have hr : s.run seen (.mk k n z ts) = (some (.mk k n z ts), seen) := PStore.runF_stop h0.1 _ _
    unfold PStore.inF
    rw [hr]
    dsimp only
    split
    · rename_i h1
      rw [decide_eq_false (fun e => h0.2 ⟨h1, e⟩)]
    split
    · rfl
    · exact anyS_no ts seen (fun x hx sn => ih x hx d sn (fun p hp => hn p (parts_kid hx hp)) (by have := deep_mem hx; omega))
theorem has_no {s : PStore} {v : Int} {t : Term} (h : ∀ p ∈ t.parts, s.next p = none ∧ ¬ (p.kind = 1 ∧ p.n = v)) : s.has t v false := ⟨t.deep, [], inF_no s v t _ _ h (Nat.le_refl _)⟩

namespace Term
theorem ren_parts (f : Int → Int) : ∀ (t p : Term), p ∈ (t.ren f).parts → ∃ q ∈ t.parts, p = q.ren f := by
  intro t
  induction t using Term.induct with
  | h k n s ts ih =>
    intro p hp
    rw [ren_mk, parts_mk] at hp
    rcases hp with rfl | ⟨x, hx, hp⟩
    · exact ⟨_, parts_self _, by rw [ren_mk]⟩
    · obtain ⟨y, hy, rfl⟩ := List.mem_map.1 hx
      obtain ⟨q, h1, h2⟩ := ih y hy p hp
      exact ⟨q, parts_kid hy h1, h2⟩
theorem ren_kind (f : Int → Int) (t : Term) : (t.ren f).kind = t.kind := by cases t; rw [ren_mk]; rfl
theorem ren_n (f : Int → Int) {t : Term} (h : t.kind = 1) : (t.ren f).n = f t.n := by cases t; rw [ren_mk]; simp only [kind] at h; simp [n, h]
theorem ren_size (f : Int → Int) : ∀ t : Term, (t.ren f).size = t.size := by
  intro t
  induction t using Term.induct with
  | h k n s ts ih =>
    rw [ren_mk]
    simp only [size, sizes_eq, List.map_map]
    rw [List.map_congr_left (f := size ∘ ren f) (g := size) (fun x hx => ih x hx)]
theorem ren_deep (f : Int → Int) : ∀ t : Term, (t.ren f).deep = t.deep := by
  intro t
  induction t using Term.induct with
  | h k n s ts ih =>
    rw [ren_mk]
    simp only [deep]
    congr 1
    clear k n s
    induction ts with
    | nil => rfl
    | cons x xs ih2 => simp only [List.map_cons, deeps]; rw [ih x (by simp), ih2 (fun y hy => ih y (by simp [hy]))]
theorem ren_ren (f g : Int → Int) : ∀ t : Term, (t.ren f).ren g = t.ren fun x => g (f x) := by
  intro t
  induction t using Term.induct with
  | h k n s ts ih =>
    rw [ren_mk, ren_mk, ren_mk, List.map_map, List.map_congr_left (f := ren g ∘ ren f) (g := ren fun x => g (f x)) (fun x hx => ih x hx)]
    congr 1
    split <;> rfl
theorem ren_none (f : Int → Int) : ∀ t : Term, (∀ p ∈ t.parts, p.kind ≠ 1) → t.ren f = t := by
  intro t
  induction t using Term.induct with
  | h k n s ts ih =>
    intro h
    rw [ren_mk, if_neg (show ¬ k = 1 from h _ (parts_self _))]
    congr 1
    conv => rhs; rw [← List.map_id ts]
    exact List.map_congr_left (fun x hx => ih x hx (fun p hp => h p (parts_kid hx hp)))
theorem ren_erase (f : Int → Int) : ∀ t : Term, (t.ren f).erase = t.erase.ren f := by
  intro t
  induction t using Term.induct with
  | h k n s ts ih =>
    rw [ren_mk]
    by_cases h : k = 4 ∧ ts.length = 1
    · obtain ⟨rfl, h⟩ := h
      obtain ⟨x, rfl⟩ := List.length_eq_one_iff.1 h
      exact ih x (by simp)
    · rw [erase_else (by simpa using h), erase_else h, ren_mk, List.map_map, List.map_map]
      congr 1
      exact List.map_congr_left (fun x hx => ih x hx)
end Term

theorem parts_trans : ∀ (t p q : Term), p ∈ t.parts → q ∈ p.parts → q ∈ t.parts := by
  intro t
  induction t using Term.induct with
  | h k n s ts ih =>
    intro p q hp hq
    rcases parts_mk.1 hp with rfl | ⟨y, hy, hp⟩
    · exact hq
    · exact parts_kid hy (ih y hy p q hp hq)
theorem kid_part {t x : Term} (h : x ∈ t.kids) : x ∈ t.parts := by
  obtain ⟨k, n, s, ts⟩ := t
  exact parts_kid h (parts_self x)
def Fair (p : Term) : Prop := (p.kind = 2 ∧ p.kids = []) ∨ p.kind = 3 ∨ (p.kind = 4 ∧ ∃ x, p.kids = [x])
/-- A term without variables. -/
def Shut (t : Term) : Prop := ∀ p ∈ t.parts, Fair p
/-- The variables are among some; what is sealed has none. -/
def Good (vs : List Int) (t : Term) : Prop := ∀ p ∈ t.parts, (∃ x, x ∈ vs ∧ p = Term.var x) ∨ (Fair p ∧ (p.kind = 4 → Shut p))
theorem Good.part {vs : List Int} {t x : Term} (h : Good vs t) (hx : x ∈ t.parts) : Good vs x := fun p hp => h p (parts_trans t x p hx hp)
theorem Shut.part {t x : Term} (h : Shut t) (hx : x ∈ t.parts) : Shut x := fun p hp => h p (parts_trans t x p hx hp)
theorem Shut.good {vs : List Int} {t : Term} (h : Shut t) : Good vs t := fun p hp => .inr ⟨h p hp, fun _ => h.part hp⟩
theorem Shut.wf {t : Term} (h : Shut t) : t.WF := fun p hp h4 => by
  rcases h p hp with h1 | h1 | h1
  · exact absurd h4 (by rw [h1.1]; decide)
  · exact absurd h4 (by rw [h1]; decide)
  · exact h1.2
theorem Good.wf {vs : List Int} {t : Term} (h : Good vs t) : t.WF := fun p hp h4 => by
  rcases h p hp with ⟨x, _, rfl⟩ | ⟨h1 | h1 | h1, _⟩
  · exact absurd h4 (by simp [Term.var, Term.kind])
  · exact absurd h4 (by rw [h1.1]; decide)
  · exact absurd h4 (by rw [h1]; decide)
  · exact h1.2
theorem Shut.not_var {t : Term} (h : Shut t) : ∀ p ∈ t.parts, p.kind ≠ 1 := fun p hp e => by
  rcases h p hp with h1 | h1 | h1
  · rw [h1.1] at e; cases e
  · rw [h1] at e; cases e
  · rw [h1.1] at e; cases e
theorem Shut.put {t : Term} (h : Shut t) (q : Int) : Shut (t.put q) := fun p hp => by
  rcases parts_mk.1 hp with rfl | ⟨x, hx, hp⟩
  · exact .inr (.inr ⟨rfl, t, rfl⟩)
  · rw [List.mem_singleton.1 hx] at hp; exact h p hp
theorem peel_part (l : Lat) : ∀ (t : Term) (a : Int), (l.peel a t).1 ∈ t.parts := by
  intro t
  induction t using Term.induct with
  | h k n s ts ih =>
    intro a
    cases hs : (Term.mk k n s ts).sealOf
    · rw [Lat.peel_else _ _ _ hs]; exact parts_self _
    · obtain ⟨rfl, x, rfl⟩ := Term.sealOf_true hs
      rw [Lat.peel_seal]
      exact parts_kid (by simp) (ih x (by simp) _)
theorem opened_shut {t : Term} (h : Shut t) : ∃ k n s ts q, Lat.nine.opened t = (.mk k n s ts, q) ∧ (k = 2 ∨ k = 3) ∧ t.erase = .mk k n s (ts.map Term.erase) ∧ ∀ x ∈ ts, Shut x := by
  obtain ⟨k, n, s, ts, q, h1, h2, h3, -, -, -⟩ := opened_facts t h.wf
  have hk : (k = 2 ∨ k = 3) ∧ ∀ x ∈ ts, Shut x := by
    unfold Lat.opened at h1
    split at h1
    · have hp := peel_part Lat.nine t Lat.nine.bottom
      have hs := h.part hp
      have hf := h _ hp
      dsimp only at h1
      simp only [Prod.mk.injEq, Term.mk.injEq] at h1
      obtain ⟨⟨rfl, -, -, rfl⟩, -⟩ := h1
      refine ⟨?_, fun x hx => ?_⟩
      · rcases hf with h5 | h5 | h5
        · exact .inl h5.1
        · exact .inr h5
        · exact absurd h5.1 h2
      · obtain ⟨z, hz, rfl⟩ := List.mem_map.1 hx
        exact (hs.part (kid_part hz)).put _
    · simp only [Prod.mk.injEq] at h1
      obtain ⟨rfl, -⟩ := h1
      refine ⟨?_, fun x hx => h.part (kid_part hx)⟩
      rcases h _ (parts_self _) with h5 | h5 | h5
      · exact .inl h5.1
      · exact .inr h5
      · exact absurd h5.1 h2
  exact ⟨k, n, s, ts, q, h1, hk.1, h3, hk.2⟩

/-- The state of two copies that are made one. -/
def Copies (vs : List Int) (f g : Int → Int) (s : PStore) : Prop :=
  ∀ x ∈ vs, s.get (g x) = none ∧ 0 ≤ f x ∧ (s.cells[(f x).toNat]? = some none ∨ s.cells[(f x).toNat]? = some (some (Term.var (g x))))
theorem walk_unbound {s : PStore} {n : Int} (h : s.get n = none) : s.walk (Term.var n) = Term.var n := PStore.walk_free (by rw [Term.var, PStore.next_var]; exact h)
theorem get_at {s : PStore} {n : Int} {o : Option Term} (h0 : 0 ≤ n) (h : s.cells[n.toNat]? = some o) : s.get n = o := by
  unfold PStore.get
  rw [if_pos h0, h]
  rfl
theorem walk_bound {s : PStore} {n : Int} {u : Term} (h : s.get n = some u) (hu : s.next u = none) : s.walk (Term.var n) = u := by
  have h1 : s.next (Term.var n) = some u := by rw [Term.var, PStore.next_var]; exact h
  have h3 : s.walkN 1 (Term.var n) = u := by rw [PStore.walkN_some h1]; rfl
  rw [PStore.walk_eq (k := 1) (by rw [h3]; exact hu), h3]
theorem Copies.bind {vs : List Int} {f g : Int → Int} {s : PStore} (h : Copies vs f g s) (hi : ∀ x ∈ vs, ∀ y ∈ vs, f x = f y → x = y) (hd : ∀ x ∈ vs, ∀ y ∈ vs, f x ≠ g y) {x : Int} (hx : x ∈ vs) (hf : s.cells[(f x).toNat]? = some none) :
    Copies vs f g (s.bind (f x).toNat (Term.var (g x))) := by
  have hx0 := (h x hx).2.1
  intro y hy
  obtain ⟨h1, h2, h3⟩ := h y hy
  refine ⟨?_, h2, ?_⟩
  · unfold PStore.get at h1 ⊢
    split
    · rename_i h0
      rw [if_pos h0] at h1
      show ((s.cells.set _ _)[(g y).toNat]?).join = none
      rw [List.getElem?_set_ne (fun e => hd x hx y hy (by omega))]
      exact h1
    · rfl
  · show (s.cells.set _ _)[(f y).toNat]? = _ ∨ (s.cells.set _ _)[(f y).toNat]? = _
    by_cases e : (f x).toNat = (f y).toNat
    · have hxy := hi x hx y hy (by omega)
      subst hxy
      exact .inr (by rw [List.getElem?_set_self (List.getElem?_eq_some_iff.1 hf).1])
    · rw [List.getElem?_set_ne e]
      exact h3
theorem zip_same {f g : Int → Int} (ts : List Term) : (ts.map (Term.ren f)).zip (ts.map (Term.ren g)) = ts.map fun u => (u.ren f, u.ren g) := by
  induction ts with
  | nil => rfl
  | cons t ts ih => simp [ih]
theorem zip_shut {f g : Int → Int} {ts : List Term} (h : ∀ x ∈ ts, Shut x) : ts.zip ts = ts.map fun u => (u.ren f, u.ren g) := by
  induction ts with
  | nil => rfl
  | cons t ts ih =>
    simp only [List.zip_cons_cons, List.map_cons]
    rw [ih (fun x hx => h x (by simp [hx])), Term.ren_none f t (h t (by simp)).not_var, Term.ren_none g t (h t (by simp)).not_var]
theorem next_none {s : PStore} {t : Term} (h : t.kind ≠ 1) : s.next t = none := by unfold PStore.next; rw [if_neg h]
theorem bindP_none {s : PStore} {a b : Term} (ha : a.kind ≠ 1) (hb : b.kind ≠ 1) : s.bindP a b = (false, false, s) := by
  unfold PStore.bindP
  rw [if_neg (fun h => ha h.1), if_neg ha, if_neg hb]
theorem matchF_int {l : Lat} {k : Nat} {s : PStore} {p : Term × Term} {rest : List (Term × Term)} {lev : Int} {a b : Term × Int} (hp : s.bindP (s.walk p.1) (s.walk p.2) = (false, false, s)) (ha : l.opened (s.walk p.1) = a) (hb : l.opened (s.walk p.2) = b)
    (h : a.1.kind = 2 ∧ b.1.kind = 2 ∧ a.1.n = b.1.n) : PStore.matchF l (k + 1) s (p :: rest) lev = PStore.matchF l k s rest (l.join lev (l.join a.2 b.2)) := by
  rw [PStore.matchF, hp, ha, hb, if_neg (by simp), if_pos h]
theorem matchF_fun {l : Lat} {k : Nat} {s : PStore} {p : Term × Term} {rest : List (Term × Term)} {lev : Int} {a b : Term × Int} (hp : s.bindP (s.walk p.1) (s.walk p.2) = (false, false, s)) (ha : l.opened (s.walk p.1) = a) (hb : l.opened (s.walk p.2) = b)
    (h : a.1.kind = 3 ∧ b.1.kind = 3 ∧ a.1.s.toList = b.1.s.toList ∧ a.1.kids.length = b.1.kids.length) : PStore.matchF l (k + 1) s (p :: rest) lev = PStore.matchF l k s (a.1.kids.zip b.1.kids ++ rest) (l.join lev (l.join a.2 b.2)) := by
  rw [PStore.matchF, hp, ha, hb, if_neg (by simp), if_neg (fun x => by have := x.1; omega), if_pos h]
theorem matchF_bind {l : Lat} {k : Nat} {s s' : PStore} {p : Term × Term} {rest : List (Term × Term)} {lev : Int} (hp : s.bindP (s.walk p.1) (s.walk p.2) = (true, true, s')) :
    PStore.matchF l (k + 1) s (p :: rest) lev = PStore.matchF l k s' rest lev := by
  rw [PStore.matchF, hp, if_pos rfl, if_pos rfl]
theorem match_copies (vs : List Int) (f g : Int → Int) (hi : ∀ x ∈ vs, ∀ y ∈ vs, f x = f y → x = y) (hd : ∀ x ∈ vs, ∀ y ∈ vs, f x ≠ g y) : ∀ (k : Nat) (s : PStore) (us : List Term) (lev : Int), Copies vs f g s → (∀ u ∈ us, Good vs u) →
    (us.map fun u => u.erase.size).sum ≤ k → ∃ lev' s', PStore.matchF Lat.nine k s (us.map fun u => (u.ren f, u.ren g)) lev = (true, lev', 0, s')
  | k, s, [], lev, _, _, _ => ⟨lev, s, PStore.matchF_nil _ _ _ _⟩
  | 0, s, u :: us, lev, _, _, h => by have := Term.size_pos u.erase; simp at h; omega
  | k + 1, s, u :: us, lev, hc, hu, hk => by
    have hus : ∀ x ∈ us, Good vs x := fun x hx => hu x (by simp [hx])
    have hg := hu u (by simp)
    simp only [List.map_cons, List.sum_cons] at hk
    rw [List.map_cons]
    rcases hg u (parts_self u) with ⟨x, hx, rfl⟩ | ⟨hfair, hseal⟩
    · obtain ⟨h1, h2, h3⟩ := hc x hx
      have hk' : (us.map fun u => u.erase.size).sum ≤ k := by have := Term.size_pos (Term.var x).erase; omega
      have e1 : (Term.var x).ren f = Term.var (f x) := by rw [Term.var, Term.ren_mk]; rfl
      have e2 : (Term.var x).ren g = Term.var (g x) := by rw [Term.var, Term.ren_mk]; rfl
      have hgn : s.next (Term.var (g x)) = none := by rw [Term.var, PStore.next_var]; exact h1
      rcases h3 with h3 | h3
      · have hne : f x ≠ g x := hd x hx x hx
        have hb : s.bindP (s.walk ((Term.var x).ren f)) (s.walk ((Term.var x).ren g)) = (true, true, s.bind (f x).toNat (Term.var (g x))) := by
          rw [e1, e2, walk_unbound h1, walk_unbound (get_at h2 h3)]
          unfold PStore.bindP
          rw [if_neg (fun h => hne h.2.2), if_pos (show (Term.var (f x)).kind = 1 from rfl)]
          show (true, (s.bindF (f x) (Term.var (g x))).1 == 0, (s.bindF (f x) (Term.var (g x))).2) = _
          have hbb : s.Binds (f x) (Term.var (g x)) 0 (s.bind (f x).toNat (Term.var (g x))) := .inr (.inr (.inr ⟨rfl, rfl, h2, h3, has_no (fun p hp => by
            rcases parts_mk.1 hp with rfl | ⟨y, hy, _⟩
            · exact ⟨hgn, fun e => hne e.2.symm⟩
            · cases hy)⟩))
          rw [bindF_eq hbb]
          rfl
        rw [matchF_bind hb]
        exact match_copies vs f g hi hd k _ us lev (hc.bind hi hd hx h3) hus hk'
      · have hb : s.bindP (s.walk ((Term.var x).ren f)) (s.walk ((Term.var x).ren g)) = (true, true, s) := by
          rw [e1, e2, walk_unbound h1, walk_bound (get_at h2 h3) hgn]
          unfold PStore.bindP; rw [if_pos ⟨rfl, rfl, rfl⟩]
        rw [matchF_bind hb]
        exact match_copies vs f g hi hd k s us lev hc hus hk'
    · have hnv : u.kind ≠ 1 := by
        intro e
        rcases hfair with h1 | h1 | h1
        · rw [h1.1] at e; cases e
        · rw [h1] at e; cases e
        · rw [h1.1] at e; cases e
      have hn : ∀ h, (u.ren h).kind ≠ 1 := fun h => by rw [Term.ren_kind]; exact hnv
      have hw : ∀ h, s.walk (u.ren h) = u.ren h := fun h => PStore.walk_free (next_none (hn h))
      have hb : s.bindP (s.walk (u.ren f)) (s.walk (u.ren g)) = (false, false, s) := by rw [hw, hw, bindP_none (hn f) (hn g)]
      by_cases h4 : u.kind = 4
      · have hs := hseal h4
        obtain ⟨k1, n1, s1, ts, q, o1, o2, o3, o4⟩ := opened_shut hs
        have hsz : u.erase.size = 1 + ((ts.map fun u => u.erase.size).sum) := by
          rw [o3]; simp only [Term.size, Term.sizes_eq, List.map_map]; rfl
        have oo : ∀ h, Lat.nine.opened (s.walk (u.ren h)) = (.mk k1 n1 s1 ts, q) := fun h => by rw [hw, Term.ren_none h u hs.not_var, o1]
        rcases o2 with rfl | rfl
        · rw [matchF_int hb (oo f) (oo g) ⟨rfl, rfl, rfl⟩]
          exact match_copies vs f g hi hd k s us _ hc hus (by omega)
        · rw [matchF_fun hb (oo f) (oo g) ⟨rfl, rfl, rfl, rfl⟩]
          show ∃ lev' s', PStore.matchF Lat.nine k s (ts.zip ts ++ _) _ = _
          rw [zip_shut (f := f) (g := g) o4, ← List.map_append]
          exact match_copies vs f g hi hd k s (ts ++ us) _ hc (fun x hx => (List.mem_append.1 hx).elim (fun h => (o4 x h).good) (hus x)) (by rw [List.map_append, List.sum_append]; omega)
      · obtain ⟨k1, n1, s1, ts⟩ := u
        have hnv' : k1 ≠ 1 := hnv
        have h4' : k1 ≠ 4 := h4
        have oo : ∀ h, Lat.nine.opened (s.walk ((Term.mk k1 n1 s1 ts).ren h)) = (.mk k1 n1 s1 (ts.map (Term.ren h)), Lat.nine.bottom) := fun h => by
          rw [hw, Term.ren_mk, if_neg hnv']
          unfold Lat.opened
          rw [if_neg]
          simp [Term.sealOf, Term.kind, h4']
        have hsz : (Term.mk k1 n1 s1 ts).erase.size = 1 + ((ts.map fun u => u.erase.size).sum) := by
          rw [Term.erase_else (fun h => h4' h.1)]; simp only [Term.size, Term.sizes_eq, List.map_map]; rfl
        rcases hfair with h1 | h1 | h1
        · have h2 : k1 = 2 := h1.1
          subst h2
          rw [matchF_int (a := (.mk 2 n1 s1 (ts.map (Term.ren f)), Lat.nine.bottom)) (b := (.mk 2 n1 s1 (ts.map (Term.ren g)), Lat.nine.bottom)) hb (oo f) (oo g) ⟨rfl, rfl, rfl⟩]
          exact match_copies vs f g hi hd k s us _ hc hus (by omega)
        · have h2 : k1 = 3 := h1
          subst h2
          rw [matchF_fun (a := (.mk 3 n1 s1 (ts.map (Term.ren f)), Lat.nine.bottom)) (b := (.mk 3 n1 s1 (ts.map (Term.ren g)), Lat.nine.bottom)) hb (oo f) (oo g) ⟨rfl, rfl, rfl, by simp [Term.kids]⟩]
          show ∃ lev' s', PStore.matchF Lat.nine k s ((ts.map (Term.ren f)).zip (ts.map (Term.ren g)) ++ _) _ = _
          rw [zip_same, ← List.map_append]
          exact match_copies vs f g hi hd k s (ts ++ us) _ hc (fun x hx => (List.mem_append.1 hx).elim (fun h => hg.part (kid_part h)) (hus x)) (by rw [List.map_append, List.sum_append]; omega)
        · exact absurd h1.1 h4
theorem bareL_zero {r1 r2 : Term → Term} : ∀ (ts : List Term), bareL (ts.map r1) (ts.map r2) = 0 → ∀ x ∈ ts, bareF (r1 x) (r2 x) = 0
  | t :: ts, h, x, hx => by
    simp only [List.map_cons, bareL] at h
    by_cases e : bareF (r1 t) (r2 t) = 0
    · rw [if_pos e] at h
      rcases List.mem_cons.1 hx with rfl | hx
      · exact e
      · exact bareL_zero ts h x hx
    · rw [if_neg e] at h; exact absurd h e
theorem bareF_mk (k n : Int) (s : ByteArray) (ts : List Term) (k2 n2 : Int) (s2 : ByteArray) (us : List Term) : bareF (.mk k n s ts) (.mk k2 n2 s2 us) = if bare0 k n s ts.length k2 n2 s2 us.length = 0 ∧ k ≠ 1 ∧ k ≠ 2 then bareL ts us else bare0 k n s ts.length k2 n2 s2 us.length := by
  rw [bareF]; rfl
theorem bare_ren (f g : Int → Int) : ∀ u : Term, bareF (u.ren f) (u.ren g) = 0 → (∀ p ∈ u.parts, p.kind = 1 ∨ p.kind = 2 → p.kids = []) → ∀ p ∈ u.parts, p.kind = 1 → f p.n = g p.n := by
  intro u
  induction u using Term.induct with
  | h k n s ts ih =>
    intro h hk p hp h1
    have hks := hk _ (parts_self _)
    simp only [Term.kind, Term.kids] at hks
    rw [Term.ren_mk, Term.ren_mk, bareF_mk] at h
    by_cases hk1 : k = 1
    · subst hk1
      rw [if_neg (fun x => x.2.1 rfl), bare0] at h
      skip
      rw [if_pos ⟨rfl, .inl rfl⟩, cmpI_zero, if_pos rfl, if_pos rfl] at h
      rcases parts_mk.1 hp with rfl | ⟨x, hx, _⟩
      · exact h
      · rw [hks (.inl rfl)] at hx; cases hx
    · rcases parts_mk.1 hp with rfl | ⟨x, hx, hp⟩
      · exact absurd h1 hk1
      · have hk2 : k ≠ 2 := fun e => by rw [hks (.inr e)] at hx; cases hx
        rw [if_neg hk1, if_neg hk1] at h
        split at h
        · exact ih x hx (bareL_zero ts h x hx) (fun q hq => hk q (parts_kid hx hq)) p hp h1
        · rename_i hc
          exact absurd ⟨h, hk1, hk2⟩ hc
theorem erase_part : ∀ (t p : Term), p ∈ t.erase.parts → ∃ q ∈ t.parts, p = q.erase ∧ q.kind = p.kind := by
  intro t
  induction t using Term.induct with
  | h k n s ts ih =>
    intro p hp
    by_cases h : k = 4 ∧ ts.length = 1
    · obtain ⟨rfl, h⟩ := h
      obtain ⟨x, rfl⟩ := List.length_eq_one_iff.1 h
      obtain ⟨q, h1, h2⟩ := ih x (by simp) p hp
      exact ⟨q, parts_kid (by simp) h1, h2⟩
    · rw [Term.erase_else h] at hp
      rcases parts_mk.1 hp with rfl | ⟨y, hy, hp⟩
      · exact ⟨_, parts_self _, (Term.erase_else h).symm, rfl⟩
      · obtain ⟨x, hx, rfl⟩ := List.mem_map.1 hy
        obtain ⟨q, h1, h2⟩ := ih x hx p hp
        exact ⟨q, parts_kid hx h1, h2⟩
theorem part_erase : ∀ (t q : Term), q ∈ t.parts → q.erase ∈ t.erase.parts := by
  intro t
  induction t using Term.induct with
  | h k n s ts ih =>
    intro q hq
    rcases parts_mk.1 hq with rfl | ⟨x, hx, hq⟩
    · exact parts_self _
    · by_cases h : k = 4 ∧ ts.length = 1
      · obtain ⟨rfl, h⟩ := h
        obtain ⟨y, rfl⟩ := List.length_eq_one_iff.1 h
        rename q ∈ x.parts => hqx
        rw [List.mem_singleton.1 hx] at hqx
        exact ih y (by simp) q hqx
      · rw [Term.erase_else h]
        exact parts_kid (List.mem_map.2 ⟨x, hx, rfl⟩) (ih x hx q hq)
theorem erase_size : ∀ t : Term, t.erase.size ≤ t.size := by
  intro t
  induction t using Term.induct with
  | h k n s ts ih =>
    by_cases h : k = 4 ∧ ts.length = 1
    · obtain ⟨rfl, h⟩ := h
      obtain ⟨x, rfl⟩ := List.length_eq_one_iff.1 h
      have := ih x (by simp)
      simp only [Term.erase_seal, Term.size, Term.sizes]; omega
    · rw [Term.erase_else h]
      simp only [Term.size]
      have : ∀ l : List Term, (∀ x ∈ l, x.erase.size ≤ x.size) → Term.sizes (l.map Term.erase) ≤ Term.sizes l := by
        intro l
        induction l with
        | nil => intro _; simp [Term.sizes]
        | cons x xs ih2 => intro hl; have h1 := hl x (by simp); have h2 := ih2 (fun y hy => hl y (by simp [hy])); simp only [List.map_cons, Term.sizes]; omega
      have := this ts ih
      omega
theorem mem_vars {t p : Term} (hp : p ∈ t.parts) (h1 : p.kind = 1) : p.n ∈ t.vars := by
  have key : ∀ (ps : List Term) (l : List Int), (∀ n ∈ l, n ∈ ps.foldl Term.addVar l) ∧ ∀ p ∈ ps, p.kind = 1 → p.n ∈ ps.foldl Term.addVar l := by
    intro ps
    induction ps with
    | nil => intro l; exact ⟨fun n h => h, fun p h => by cases h⟩
    | cons q qs ih =>
      intro l
      obtain ⟨i1, i2⟩ := ih (Term.addVar l q)
      have hl : ∀ n ∈ l, n ∈ Term.addVar l q := fun n h => by unfold Term.addVar; split <;> simp [h]
      refine ⟨fun n h => i1 n (hl n h), fun p hp h1 => ?_⟩
      rcases List.mem_cons.1 hp with rfl | hp
      · refine i1 _ ?_
        unfold Term.addVar
        by_cases e : p.n ∈ l
        · simp [h1, e]
        · simp [h1, e]
      · exact i2 p hp h1
  exact (key t.parts []).2 p hp h1
theorem beq_empty {s : ByteArray} (h : (s == ByteArray.empty) = true) : s = ByteArray.empty := by
  obtain ⟨d⟩ := s
  have h' : (d == #[]) = true := h
  rw [eq_of_beq h']; rfl
theorem check_good {t : Term} (h : t.check 9 = 0) : Good t.vars t := by
  have ha := check_alone h
  have hf : ∀ p, Term.alone 9 p = true → (p.kind = 1 → p = Term.var p.n) ∧ (p.kind ≠ 1 → Fair p) := by
    intro p hp
    obtain ⟨k, n, s, ts⟩ := p
    refine ⟨fun h1 => ?_, fun h1 => ?_⟩
    · have h1' : k = 1 := h1
      subst h1'
      have hs : s = ByteArray.empty ∧ ts = [] := by
        unfold Term.alone at hp
        simp [Term.kind, Term.s, Term.kids, Term.n] at hp
        exact ⟨beq_empty hp.1.2, hp.2⟩
      obtain ⟨rfl, rfl⟩ := hs
      rfl
    · rcases alone_kind hp with h2 | h2 | h2 | h2
      · exact absurd h2 h1
      · refine .inl ⟨h2, ?_⟩
        have h2' : k = 2 := h2
        subst h2'
        unfold Term.alone at hp
        simp [Term.kind, Term.s, Term.kids] at hp
        exact hp.2
      · exact .inr (.inl h2)
      · exact .inr (.inr h2)
  intro p hp
  have hpa := hf p (ha p hp)
  by_cases h1 : p.kind = 1
  · exact .inl ⟨p.n, mem_vars hp h1, hpa.1 h1⟩
  · refine .inr ⟨hpa.2 h1, fun h4 q hq => ?_⟩
    have hqa := hf q (ha q (parts_trans t p q hp hq))
    refine hqa.2 fun e => ?_
    have hal := ha p hp
    obtain ⟨k, n, s, ts⟩ := p
    have h4' : k = 4 := h4
    subst h4'
    match ts with
    | [] => simp [Term.alone, Term.kind, Term.kids] at hal
    | [x] =>
      have hx : x.vars.length = 0 := by
        unfold Term.alone at hal
        simp [Term.kind, Term.s, Term.kids] at hal
        simp [hal.2]
      rcases parts_mk.1 hq with rfl | ⟨y, hy, hq⟩
      · cases e
      · rw [List.mem_singleton.1 hy] at hq
        have := mem_vars hq e
        rw [List.length_eq_zero_iff.1 hx] at this
        cases this
    | x :: y :: r => simp [Term.alone, Term.kind, Term.kids] at hal

theorem get_bind {s : PStore} {v : Nat} (h : v < s.cells.length) (t : Term) (x : Int) : (s.bind v t).get x = if x = v then some t else s.get x := by
  unfold PStore.get
  by_cases h0 : 0 ≤ x
  · rw [if_pos h0, if_pos h0]
    show ((s.cells.set v (some t))[x.toNat]?).join = _
    by_cases e : x = v
    · subst e
      rw [if_pos rfl, Int.toNat_natCast, List.getElem?_set_self h]
      rfl
    · rw [if_neg e, List.getElem?_set_ne (fun e2 => e (by omega))]
  · rw [if_neg h0, if_neg h0, if_neg (by omega)]
theorem cell_get {s : PStore} {m : Nat} (h : s.get m = none) (hm : m < s.cells.length) : s.cells[m]? = some none := by
  unfold PStore.get at h
  rw [if_pos (by omega), Int.toNat_natCast, List.getElem?_eq_getElem hm] at h
  rw [List.getElem?_eq_getElem hm]
  exact congrArg some h
theorem next_of {s : PStore} {vs : List Int} {t : Term} (hv : ∀ p ∈ t.parts, p.kind = 1 → p.n ∈ vs) (h : ∀ x ∈ vs, s.get x = none) : ∀ p ∈ t.parts, s.next p = none := fun p hp => by
  unfold PStore.next
  split
  · rename_i h1; exact h _ (hv p hp h1)
  · rfl
theorem next_ren {s : PStore} {vs : List Int} {t : Term} {f : Int → Int} (hv : ∀ p ∈ t.parts, p.kind = 1 → p.n ∈ vs) (h : ∀ x ∈ vs, s.get (f x) = none) : ∀ p ∈ (t.ren f).parts, s.next p = none := fun p hp => by
  obtain ⟨q, hq, rfl⟩ := Term.ren_parts f t p hp
  unfold PStore.next
  rw [Term.ren_kind]
  split
  · rename_i h1; rw [Term.ren_n f h1]; exact h _ (hv q hq h1)
  · rfl
/-- The second part: a copy, bound to a variable that is free. -/
theorem copied_is {s : PStore} {t : Term} {m : Nat} (hv : ∀ p ∈ t.parts, p.kind = 1 → p.n ∈ t.vars) (h0 : ∀ x ∈ t.vars, s.get x = none) (hd : t.deep ≤ 60) (hs : t.size ≤ 1000) (hn : s.cells.length + t.vars.length ≤ 4096) (hm : s.get m = none) (hml : m < s.cells.length)
    (hf : ∀ x ∈ t.vars, s.get (wrap64 (placeOf t.vars x + s.cells.length)) = none ∧ wrap64 (placeOf t.vars x + s.cells.length) ≠ m) :
    askR s ⟨#[99, 111, 112, 121, 95, 116, 101, 114, 109]⟩ [t, Term.var m] = (true, 0, (s.fresh t.vars.length).bind m (t.ren fun x => wrap64 (placeOf t.vars x + s.cells.length))) := by
  have hfull : s.full t = (t, 0) := full_id (PStore.walk_free (next_of hv h0 t (parts_self t))) (next_of hv h0) hd hs
  have hcopy : s.copyT t = (t.ren fun x => wrap64 (placeOf t.vars x + s.cells.length), 0, s.fresh t.vars.length) := by
    unfold PStore.copyT
    rw [hfull, if_pos rfl]
    unfold PStore.freshT
    rw [if_pos hn]
    show ((Term.ren (placeOf t.vars) t).ren fun n => wrap64 (n + s.cells.length), (0 : Int), _) = _
    rw [Term.ren_ren]
  have hnx := next_ren (s := s.fresh t.vars.length) (f := fun x => wrap64 (placeOf t.vars x + s.cells.length)) hv (fun x hx => by rw [PStore.fresh_get]; exact (hf x hx).1)
  have hlen : (s.fresh t.vars.length).cells.length = s.cells.length + t.vars.length := by simp [PStore.fresh]
  have hno : ∀ p ∈ (t.ren fun x => wrap64 (placeOf t.vars x + s.cells.length)).parts, ¬ (p.kind = 1 ∧ p.n = (m : Int)) := fun p hp e => by
    obtain ⟨q, hq, rfl⟩ := Term.ren_parts _ t p hp
    rw [Term.ren_kind] at e
    rw [Term.ren_n _ e.1] at e
    exact (hf _ (hv q hq e.1)).2 e.2
  have hmt := matchT_bind Lat.nine (s.fresh t.vars.length) m (t.ren fun x => wrap64 (placeOf t.vars x + s.cells.length)) (cell_get (by rw [PStore.fresh_get]; exact hm) (by omega)) (PStore.walk_free (hnx _ (parts_self _))) (hno _ (parts_self _)) (has_no (fun p hp => ⟨hnx p hp, hno p hp⟩))
  rw [askR_at (i := 12) (by kernel_rfl)]
  show ((s.copiedT Lat.nine t (Term.var m)).1, (s.copiedT Lat.nine t (Term.var m)).2.2.1, (s.copiedT Lat.nine t (Term.var m)).2.2.2) = _
  unfold PStore.copiedT
  rw [hcopy, if_pos rfl]
  dsimp only
  rw [hmt]
theorem place_is {vs : List Int} {x : Int} (h : x ∈ vs) : placeOf vs x = (vs.idxOf x : Nat) ∧ vs.idxOf x < vs.length := ⟨by rw [placeOf, if_pos h], List.idxOf_lt_length_of_mem h⟩
theorem copies_law {t : Term} (hc : t.check 9 = 0) (hs : t.size ≤ 200) (hd : t.deep ≤ 50) (hlow : ∀ x ∈ t.vars, x < 6) : ∃ s1 s2 s3, askR st12 ⟨#[99, 111, 112, 121, 95, 116, 101, 114, 109]⟩ [t, Term.var 10] = (true, 0, s1) ∧
    askR s1 ⟨#[99, 111, 112, 121, 95, 116, 101, 114, 109]⟩ [t, Term.var 11] = (true, 0, s2) ∧ askR s2 ⟨#[61, 61]⟩ [Term.var 10, Term.var 11] = (decide (t.vars.length = 0), 0, s2) ∧ askR s2 ⟨#[61]⟩ [Term.var 10, Term.var 11] = (true, 0, s3) := by
  have hg := check_good hc
  have hv : ∀ p ∈ t.parts, p.kind = 1 → p.n ∈ t.vars := fun p hp h1 => mem_vars hp h1
  have hn := vars_length t
  generalize hN : t.vars.length = N at hn
  have hl12 : st12.cells.length = 12 := rfl
  have hp : ∀ x ∈ t.vars, ∃ i, placeOf t.vars x = (i : Nat) ∧ i < N ∧ t.vars[i]? = some x := fun x hx => by
    obtain ⟨h1, h2⟩ := place_is hx
    exact ⟨_, h1, hN ▸ h2, by rw [List.getElem?_eq_getElem h2, List.getElem_idxOf h2]⟩
  have hw1 : ∀ x ∈ t.vars, ∃ i : Nat, wrap64 (placeOf t.vars x + (st12.cells.length : Int)) = 12 + i ∧ i < N ∧ t.vars[i]? = some x := fun x hx => by
    obtain ⟨i, h1, h2, h3⟩ := hp x hx
    exact ⟨i, by rw [h1, hl12]; unfold wrap64; omega, h2, h3⟩
  have c1 := copied_is (s := st12) (t := t) (m := 10) hv (fun x _ => st12_get x) (by omega) (by omega) (by rw [hl12]; omega) (st12_get _) (by rw [hl12]; omega) (fun x hx => ⟨st12_get _, by obtain ⟨i, h1, _⟩ := hw1 x hx; omega⟩)
  generalize hf : (fun x => wrap64 (placeOf t.vars x + (st12.cells.length : Int))) = f at c1
  have hfx : ∀ x, wrap64 (placeOf t.vars x + (st12.cells.length : Int)) = f x := fun x => by rw [← hf]
  simp only [hfx] at hw1
  have g1 : ∀ x, ((st12.fresh t.vars.length).bind 10 (t.ren f)).get x = if x = 10 then some (t.ren f) else none := fun x => by
    rw [get_bind (by simp [PStore.fresh, hl12]; omega), PStore.fresh_get, st12_get]
    rfl
  have l1 : ((st12.fresh t.vars.length).bind 10 (t.ren f)).cells.length = 12 + N := by simp [PStore.bind, PStore.fresh, hl12, hN]
  generalize (st12.fresh t.vars.length).bind 10 (t.ren f) = s1 at *
  have hw2 : ∀ x ∈ t.vars, ∃ i : Nat, wrap64 (placeOf t.vars x + (s1.cells.length : Int)) = 12 + N + i ∧ i < N ∧ t.vars[i]? = some x := fun x hx => by
    obtain ⟨i, h1, h2, h3⟩ := hp x hx
    exact ⟨i, by rw [h1, l1]; unfold wrap64; omega, h2, h3⟩
  have c2 := copied_is (s := s1) (t := t) (m := 11) hv (fun x hx => by rw [g1, if_neg (by have := hlow x hx; omega)]) (by omega) (by omega) (by rw [l1]; omega) (by rw [g1]; rfl) (by rw [l1]; omega)
    (fun x hx => by obtain ⟨i, h1, _⟩ := hw2 x hx; rw [h1, g1]; exact ⟨if_neg (by omega), by omega⟩)
  generalize hgd : (fun x => wrap64 (placeOf t.vars x + (s1.cells.length : Int))) = g at c2
  have hgx : ∀ x, wrap64 (placeOf t.vars x + (s1.cells.length : Int)) = g x := fun x => by rw [← hgd]
  simp only [hgx] at hw2
  have g2 : ∀ x, ((s1.fresh t.vars.length).bind 11 (t.ren g)).get x = if x = 11 then some (t.ren g) else if x = 10 then some (t.ren f) else none := fun x => by
    rw [get_bind (by simp [PStore.fresh, l1]; omega), PStore.fresh_get, g1]
    rfl
  have l2 : ((s1.fresh t.vars.length).bind 11 (t.ren g)).cells.length = 12 + N + N := by simp [PStore.bind, PStore.fresh, l1, hN]
  generalize (s1.fresh t.vars.length).bind 11 (t.ren g) = s2 at *
  have nf := next_ren (s := s2) (f := f) hv (fun x hx => by obtain ⟨i, h1, _⟩ := hw1 x hx; rw [h1, g2, if_neg (by omega), if_neg (by omega)])
  have ng := next_ren (s := s2) (f := g) hv (fun x hx => by obtain ⟨i, h1, _⟩ := hw2 x hx; rw [h1, g2, if_neg (by omega), if_neg (by omega)])
  have w1 : s2.walk (Term.var 10) = t.ren f := walk_bound (by rw [g2]; rfl) (nf _ (parts_self _))
  have w2 : s2.walk (Term.var 11) = t.ren g := walk_bound (by rw [g2]; rfl) (ng _ (parts_self _))
  have hi : ∀ x ∈ t.vars, ∀ y ∈ t.vars, f x = f y → x = y := fun x hx y hy e => by
    obtain ⟨i, h1, _, h3⟩ := hw1 x hx
    obtain ⟨j, k1, _, k3⟩ := hw1 y hy
    have : i = j := by omega
    subst this
    rw [h3] at k3
    exact Option.some.inj k3
  have hdis : ∀ x ∈ t.vars, ∀ y ∈ t.vars, f x ≠ g y := fun x hx y hy e => by
    obtain ⟨i, h1, h2, _⟩ := hw1 x hx
    obtain ⟨j, k1, _, _⟩ := hw2 y hy
    omega
  have hcp : Copies t.vars f g s2 := fun x hx => by
    obtain ⟨i, h1, h2, _⟩ := hw1 x hx
    obtain ⟨j, k1, _, _⟩ := hw2 x hx
    refine ⟨by rw [k1, g2, if_neg (by omega), if_neg (by omega)], by omega, .inl ?_⟩
    exact cell_get (by rw [g2, if_neg (by omega), if_neg (by omega)]) (by rw [l2]; omega)
  obtain ⟨lev', s3, hm⟩ := match_copies t.vars f g hi hdis 2000 s2 [t] Lat.nine.bottom hcp (fun u hu => by rw [List.mem_singleton.1 hu]; exact hg) (by have := erase_size t; simp; omega)
  refine ⟨_, _, s3, c1, c2, ?_, ?_⟩
  · rw [askR_at (i := 4) (by kernel_rfl)]
    show ((s2.cmpT Lat.nine isZ (Term.var 10) (Term.var 11)).1, (s2.cmpT Lat.nine isZ (Term.var 10) (Term.var 11)).2.2.1, (s2.cmpT Lat.nine isZ (Term.var 10) (Term.var 11)).2.2.2) = _
    unfold PStore.cmpT
    rw [full_id w1 nf (by rw [Term.ren_deep]; omega) (by rw [Term.ren_size]; omega), full_id w2 ng (by rw [Term.ren_deep]; omega) (by rw [Term.ren_size]; omega), if_pos rfl, if_pos rfl]
    dsimp only
    rw [Term.ren_erase, Term.ren_erase]
    refine Prod.ext ?_ rfl
    show (bareF (t.erase.ren f) (t.erase.ren g) == 0) = decide (N = 0)
    by_cases h0 : N = 0
    · have hno : ∀ p ∈ t.parts, p.kind ≠ 1 := fun p hp h1 => by
        have := mem_vars hp h1
        rw [List.length_eq_zero_iff.1 (hN.trans h0)] at this
        cases this
      have hno2 : ∀ p ∈ t.erase.parts, p.kind ≠ 1 := fun p hp h1 => by
        obtain ⟨q, hq, _, h2⟩ := erase_part t p hp
        exact hno q hq (by rw [h2]; exact h1)
      rw [Term.ren_none f _ hno2, Term.ren_none g _ hno2, decide_eq_true h0]
      have := bareF_neg t.erase t.erase
      have : bareF t.erase t.erase = 0 := by omega
      rw [this]; rfl
    · rw [decide_eq_false h0]
      refine beq_eq_false_iff_ne.2 fun e => ?_
      cases hvs : t.vars with
      | nil => rw [hvs] at hN; exact h0 hN.symm
      | cons x xs =>
        have hx : x ∈ t.vars := by rw [hvs]; simp
        obtain ⟨p, hp1, hp2, hp3⟩ := vars_mem hx
        have hpp : p.erase ∈ t.erase.parts := part_erase t p hp1
        have hpv : p = Term.var p.n := by
          rcases hg p hp1 with ⟨y, _, rfl⟩ | ⟨h1 | h1 | h1, _⟩
          · rfl
          · rw [h1.1] at hp2; cases hp2
          · rw [h1] at hp2; cases hp2
          · rw [h1.1] at hp2; cases hp2
        have hpe : p.erase = Term.var x := by rw [hpv, hp3]; rfl
        have := bare_ren f g t.erase e (fun q hq hq1 => by
          obtain ⟨r, hr, rfl, h2⟩ := erase_part t q hq
          rcases hg r hr with ⟨y, _, rfl⟩ | ⟨h1 | h1 | h1, _⟩
          · rfl
          · obtain ⟨rk, rn, rs, rts⟩ := r
            have e1 : rk = 2 := h1.1
            have e2 : rts = [] := h1.2
            subst e1 e2
            rfl
          · rw [← h2, h1] at hq1; omega
          · rw [← h2, h1.1] at hq1; omega) p.erase hpp (by rw [hpe]; rfl)
        rw [hpe] at this
        exact hdis x hx x hx this
  · rw [askR_at (i := 2) (by kernel_rfl)]
    show ((s2.matchT Lat.nine [Term.var 10] [Term.var 11]).1, (s2.matchT Lat.nine [Term.var 10] [Term.var 11]).2.2.1, (s2.matchT Lat.nine [Term.var 10] [Term.var 11]).2.2.2) = _
    rw [matchT_congr (t' := t.ren f) (u' := t.ren g) (by rw [w1, PStore.walk_free (nf _ (parts_self _))]) (by rw [w2, PStore.walk_free (ng _ (parts_self _))])]
    have : s2.matchT Lat.nine [t.ren f] [t.ren g] = (true, lev', 0, s3) := by
      unfold PStore.matchT
      rw [if_pos (by rfl)]
      exact hm
    rw [this]
end Go.Proofs.YtkiofaojokofbaaGreat
namespace Go.Proofs.YtkiofaojokofbaaGreat
open Go.RowKit

/-- Variables stand alone, what is sealed has none. -/
def Sound (t : Term) : Prop := ∀ p ∈ t.parts, (∃ x, p = Term.var x) ∨ (Fair p ∧ (p.kind = 4 → Shut p))
theorem Good.sound {vs : List Int} {t : Term} (h : Good vs t) : Sound t := fun p hp => (h p hp).imp (fun ⟨x, _, e⟩ => ⟨x, e⟩) id
theorem Sound.part {t x : Term} (h : Sound t) (hx : x ∈ t.parts) : Sound x := fun p hp => h p (parts_trans t x p hx hp)
theorem Shut.sound {t : Term} (h : Shut t) : Sound t := fun p hp => .inr ⟨h p hp, fun _ => h.part hp⟩
theorem Sound.wf {t : Term} (h : Sound t) : t.WF := fun p hp h4 => by
  rcases h p hp with ⟨x, rfl⟩ | ⟨h1 | h1 | h1, _⟩
  · exact absurd h4 (by simp [Term.var, Term.kind])
  · exact absurd h4 (by rw [h1.1]; decide)
  · exact absurd h4 (by rw [h1]; decide)
  · exact h1.2
theorem Fair.not_var {t : Term} (h : Fair t) : t.kind ≠ 1 := fun e => by
  rcases h with h1 | h1 | h1
  · rw [h1.1] at e; cases e
  · rw [h1] at e; cases e
  · rw [h1.1] at e; cases e
/-- What is opened of what is no variable. -/
theorem opened_sound {t : Term} (h : Sound t) (h1 : t.kind ≠ 1) : ∃ k n s ts q, Lat.nine.opened t = (.mk k n s ts, q) ∧ (k = 2 ∨ k = 3) ∧ t.erase = .mk k n s (ts.map Term.erase) ∧ (∀ x ∈ ts, Sound x) := by
  rcases h t (parts_self t) with ⟨x, rfl⟩ | ⟨hf, hs⟩
  · exact absurd rfl h1
  · by_cases h4 : t.kind = 4
    · obtain ⟨k, n, s, ts, q, o1, o2, o3, o4⟩ := opened_shut (hs h4)
      exact ⟨k, n, s, ts, q, o1, o2, o3, fun x hx => (o4 x hx).sound⟩
    · obtain ⟨k, n, s, ts⟩ := t
      have h4' : k ≠ 4 := h4
      refine ⟨k, n, s, ts, Lat.nine.bottom, ?_, ?_, Term.erase_else (fun h => h4' h.1), fun x hx => h.part (kid_part hx)⟩
      · unfold Lat.opened
        rw [if_neg]
        simp [Term.sealOf, Term.kind, h4']
      · rcases hf with h5 | h5 | h5
        · exact .inl h5.1
        · exact .inr h5
        · exact absurd h5.1 h4'
theorem erase_var (x : Int) : (Term.var x).erase = Term.var x := rfl
theorem erase_kind_ne {t : Term} (h : Sound t) (h1 : t.kind ≠ 1) : t.erase.kind ≠ 1 ∧ t.erase.kind ≠ 4 := by
  obtain ⟨k, n, s, ts, q, _, o2, o3, _⟩ := opened_sound h h1
  rw [o3]
  rcases o2 with rfl | rfl <;> exact ⟨by simp [Term.kind], by simp [Term.kind]⟩
theorem sound_var {t : Term} (h : Sound t) (h1 : t.kind = 1) : t = Term.var t.n := by
  rcases h t (parts_self t) with ⟨x, rfl⟩ | ⟨hf, _⟩
  · rfl
  · exact absurd h1 hf.not_var
theorem opened_erase {t : Term} (h : Sound t) (h1 : t.kind ≠ 1) : Lat.nine.opened t.erase = (t.erase, 0) := by
  unfold Lat.opened
  rw [if_neg, nine_bottom]
  have := (erase_kind_ne h h1).2
  simp [Term.sealOf, this]

/-- A store, and one with the same, erased. -/
structure Rel (s s' : PStore) : Prop where
  cells : s'.cells = s.cells.map (Option.map Term.erase)
  trail : s'.trail = s.trail
  sound : ∀ t, some t ∈ s.cells → Sound t
theorem Rel.get {s s' : PStore} (h : Rel s s') (n : Int) : s'.get n = (s.get n).map Term.erase := by
  unfold PStore.get
  split
  · rw [h.cells, List.getElem?_map]
    cases s.cells[n.toNat]? with
    | none => rfl
    | some o => cases o <;> rfl
  · rfl
theorem Rel.get_sound {s s' : PStore} (h : Rel s s') {n : Int} {t : Term} (hg : s.get n = some t) : Sound t := by
  unfold PStore.get at hg
  split at hg
  · cases hc : s.cells[n.toNat]? with
    | none => rw [hc] at hg; cases hg
    | some o =>
      rw [hc] at hg
      cases o with
      | none => cases hg
      | some u =>
        cases hg
        exact h.sound _ (List.mem_of_getElem? hc)
  · cases hg
theorem Rel.next {s s' : PStore} (h : Rel s s') {t : Term} (ht : Sound t) : s'.next t.erase = (s.next t).map Term.erase ∧ ∀ u, s.next t = some u → Sound u := by
  by_cases h1 : t.kind = 1
  · rw [sound_var ht h1, erase_var]
    have e : ∀ st : PStore, st.next (Term.var t.n) = st.get t.n := fun st => by rw [Term.var, PStore.next_var]
    rw [e, e]
    exact ⟨h.get _, fun u hu => h.get_sound hu⟩
  · rw [next_none h1, next_none (erase_kind_ne ht h1).1]
    exact ⟨rfl, fun u hu => by cases hu⟩
theorem Rel.walkN {s s' : PStore} (h : Rel s s') : ∀ (k : Nat) (t : Term), Sound t → s'.walkN k t.erase = (s.walkN k t).erase ∧ Sound (s.walkN k t)
  | 0, t, ht => ⟨rfl, ht⟩
  | k + 1, t, ht => by
    obtain ⟨h1, h2⟩ := h.next ht
    cases hn : s.next t with
    | none =>
      rw [hn] at h1
      rw [PStore.walkN_none hn, PStore.walkN_none h1]
      exact ⟨rfl, ht⟩
    | some u =>
      rw [hn] at h1
      rw [PStore.walkN_some hn, PStore.walkN_some h1]
      exact h.walkN k u (h2 u hn)
theorem Rel.walk {s s' : PStore} (h : Rel s s') {t : Term} (ht : Sound t) : s'.walk t.erase = (s.walk t).erase ∧ Sound (s.walk t) := by
  unfold PStore.walk
  rw [h.cells, List.length_map]
  exact h.walkN _ t ht
theorem Rel.runF {s s' : PStore} (h : Rel s s') : ∀ (k : Nat) (seen : List Int) (t : Term), Sound t → s'.runF k seen t.erase = ((s.runF k seen t).1.map Term.erase, (s.runF k seen t).2) ∧ ∀ u, (s.runF k seen t).1 = some u → Sound u
  | 0, seen, t, ht => ⟨rfl, fun u hu => by cases hu; exact ht⟩
  | k + 1, seen, t, ht => by
    obtain ⟨h1, h2⟩ := h.next ht
    cases hn : s.next t with
    | none =>
      rw [hn] at h1
      rw [PStore.runF_stop hn, PStore.runF_stop h1]
      exact ⟨rfl, fun u hu => by cases hu; exact ht⟩
    | some u =>
      rw [hn] at h1
      have hk := (PStore.next_lt hn).1
      have hnn : t.erase.n = t.n := by rw [sound_var ht hk]; rfl
      have h1' : s'.next t.erase = some u.erase := h1
      unfold PStore.runF
      rw [hn, h1']
      dsimp only
      rw [hnn]
      split
      · exact ⟨rfl, fun u hu => by cases hu⟩
      · exact h.runF k _ u (h2 u hn)
theorem shut_erase_no {s : PStore} {v : Int} {u : Term} (h : Shut u) : ∀ p ∈ u.erase.parts, s.next p = none ∧ ¬ (p.kind = 1 ∧ p.n = v) := fun p hp => by
  obtain ⟨q, hq, _, h2⟩ := erase_part u p hp
  have hk : p.kind ≠ 1 := by rw [← h2]; exact h.not_var q hq
  exact ⟨next_none hk, fun e => hk e.1⟩
theorem Rel.inF {s s' : PStore} (h : Rel s s') (v : Int) : ∀ (d : Nat) (seen : List Int) (t : Term) (r : Bool × List Int), Sound t → s.inF v d seen t = some r → ∃ d', s'.inF v d' seen t.erase = some r
  | 0, seen, t, r, _, hr => by cases hr
  | d + 1, seen, t, r, ht, hr => by
    have hrun := h.runF s.cells.length seen t ht
    have hl : s'.cells.length = s.cells.length := by rw [h.cells, List.length_map]
    have hrun' : s'.run seen t.erase = ((s.run seen t).1.map Term.erase, (s.run seen t).2) := by unfold PStore.run; rw [hl]; exact hrun.1
    have hsnd : ∀ u, (s.run seen t).1 = some u → Sound u := hrun.2
    have anyE : ∀ (ts : List Term) (sn : List Int) (r : Bool × List Int), (∀ x ∈ ts, Sound x) → PStore.anyS (s.inF v d) sn ts = some r → ∃ d', PStore.anyS (s'.inF v d') sn (ts.map Term.erase) = some r := by
      intro ts
      induction ts with
      | nil => intro sn r _ hr; exact ⟨0, hr⟩
      | cons x xs ih =>
        intro sn r hx hr
        unfold PStore.anyS at hr
        cases hf : s.inF v d sn x with
        | none => rw [hf] at hr; cases hr
        | some y =>
          rw [hf] at hr
          obtain ⟨d1, h1⟩ := h.inF v d sn x y (hx x (by simp)) hf
          obtain ⟨b, s1⟩ := y
          cases b with
          | true =>
            refine ⟨d1, ?_⟩
            rw [List.map_cons]
            unfold PStore.anyS
            rw [h1]
            exact hr
          | false =>
            obtain ⟨d2, h2⟩ := ih s1 r (fun y hy => hx y (by simp [hy])) hr
            refine ⟨max d1 d2, ?_⟩
            rw [List.map_cons]
            unfold PStore.anyS
            rw [PStore.inF_le (Nat.le_max_left d1 d2) h1]
            exact PStore.anyS_mono _ (fun _ _ _ _ hz => PStore.inF_le (Nat.le_max_right d1 d2) hz) _ _ h2
    unfold PStore.inF at hr
    cases hq : s.run seen t with
    | mk o s1 =>
    rw [hq] at hr hrun' hsnd
    cases o with
    | none =>
      refine ⟨1, ?_⟩
      unfold PStore.inF
      rw [hrun']
      exact hr
    | some u =>
      have hu := hsnd u rfl
      dsimp only at hr
      by_cases h1 : u.kind = 1
      · rw [if_pos h1] at hr
        refine ⟨1, ?_⟩
        unfold PStore.inF
        rw [hrun']
        have : u.erase = u := by rw [sound_var hu h1]; rfl
        show (if u.erase.kind = 1 then _ else _) = _
        rw [this, if_pos h1]
        exact hr
      · rw [if_neg h1] at hr
        obtain ⟨e1, e4⟩ := erase_kind_ne hu h1
        by_cases h4 : u.kind = 4
        · rw [if_pos h4] at hr
          cases hr
          have hs : Shut u := by
            rcases hu u (parts_self u) with ⟨x, rfl⟩ | ⟨_, hs⟩
            · exact absurd rfl h1
            · exact hs h4
          refine ⟨u.erase.deep + 1, ?_⟩
          unfold PStore.inF
          rw [hrun']
          show (if u.erase.kind = 1 then _ else if u.erase.kind = 4 then _ else _) = _
          rw [if_neg e1, if_neg e4]
          refine anyS_no _ _ (fun x hx sn => inF_no s' v x _ sn (fun p hp => shut_erase_no hs p (parts_trans _ x p (kid_part hx) hp)) ?_)
          generalize u.erase = w at hx
          obtain ⟨k, n, z, ts⟩ := w
          have := deep_mem (show x ∈ ts from hx)
          simp only [Term.deep]; omega
        · rw [if_neg h4] at hr
          obtain ⟨d', hd'⟩ := anyE u.kids s1 r (fun x hx => hu.part (kid_part hx)) hr
          refine ⟨d' + 1, ?_⟩
          unfold PStore.inF
          rw [hrun']
          show (if u.erase.kind = 1 then _ else if u.erase.kind = 4 then _ else PStore.anyS (s'.inF v d') s1 u.erase.kids) = _
          rw [if_neg e1, if_neg e4]
          have : u.erase.kids = u.kids.map Term.erase := by
            obtain ⟨k, n, z, ts⟩ := u
            have h4' : k ≠ 4 := h4
            rw [Term.erase_else (fun h => h4' h.1)]; rfl
          rw [this]
          exact hd'
theorem Rel.has {s s' : PStore} (h : Rel s s') {t : Term} (ht : Sound t) {v : Int} {r : Bool} (hr : s.has t v r) : s'.has t.erase v r := by
  obtain ⟨d, sn, hd⟩ := hr
  obtain ⟨d', hd'⟩ := h.inF v d [] t (r, sn) ht hd
  exact ⟨d', sn, hd'⟩
theorem Rel.bind {s s' : PStore} (h : Rel s s') (v : Nat) {t : Term} (ht : Sound t) : Rel (s.bind v t) (s'.bind v t.erase) := by
  refine ⟨?_, ?_, fun u hu => ?_⟩
  · show s'.cells.set v (some t.erase) = (s.cells.set v (some t)).map _
    rw [h.cells, List.map_set]; rfl
  · show s'.trail ++ [v] = s.trail ++ [v]
    rw [h.trail]
  · rcases List.mem_or_eq_of_mem_set hu with hu | hu
    · exact h.sound u hu
    · cases hu; exact ht
theorem Rel.binds {s s' : PStore} (h : Rel s s') {v : Int} {t : Term} (ht : Sound t) {c : Int} {s1 : PStore} (hb : s.Binds v t c s1) : ∃ s1', s'.Binds v t.erase c s1' ∧ Rel s1 s1' := by
  have hl : s'.cells.length = s.cells.length := by rw [h.cells, List.length_map]
  have hc : ∀ n : Nat, s'.cells[n]? = (s.cells[n]?).map (Option.map Term.erase) := fun n => by rw [h.cells, List.getElem?_map]
  rcases hb with ⟨rfl, rfl, h1⟩ | ⟨u, rfl, rfl, h1, h2⟩ | ⟨rfl, rfl, h1, h2, h3⟩ | ⟨rfl, rfl, h1, h2, h3⟩
  · exact ⟨s', .inl ⟨rfl, rfl, by rw [hl]; exact h1⟩, h⟩
  · exact ⟨s', .inr (.inl ⟨u.erase, rfl, rfl, h1, by rw [hc, h2]; rfl⟩), h⟩
  · exact ⟨s', .inr (.inr (.inl ⟨rfl, rfl, h1, by rw [hc, h2]; rfl, h.has ht h3⟩)), h⟩
  · exact ⟨_, .inr (.inr (.inr ⟨rfl, rfl, h1, by rw [hc, h2]; rfl, h.has ht h3⟩)), h.bind _ ht⟩
theorem Rel.bindF {s s' : PStore} (h : Rel s s') (v : Int) {t : Term} (ht : Sound t) : (s'.bindF v t.erase).1 = (s.bindF v t).1 ∧ Rel (s.bindF v t).2 (s'.bindF v t.erase).2 := by
  obtain ⟨s1', h1, h2⟩ := h.binds ht (PStore.bindF_spec s v t)
  have := bindF_eq h1
  rw [this]
  exact ⟨rfl, h2⟩
theorem Rel.bindP {s s' : PStore} (h : Rel s s') {a b : Term} (ha : Sound a) (hb : Sound b) : (s'.bindP a.erase b.erase).1 = (s.bindP a b).1 ∧ (s'.bindP a.erase b.erase).2.1 = (s.bindP a b).2.1 ∧ Rel (s.bindP a b).2.2 (s'.bindP a.erase b.erase).2.2 := by
  have kind1 : ∀ {t : Term}, Sound t → (t.erase.kind = 1 ↔ t.kind = 1) ∧ (t.kind = 1 → t.erase.n = t.n) := fun {t} ht => by
    by_cases h1 : t.kind = 1
    · have : t.erase = t := by rw [sound_var ht h1]; rfl
      rw [this]; exact ⟨Iff.rfl, fun _ => rfl⟩
    · exact ⟨⟨fun e => absurd e (erase_kind_ne ht h1).1, fun e => absurd e h1⟩, fun e => absurd e h1⟩
  obtain ⟨a1, a2⟩ := kind1 ha
  obtain ⟨b1, b2⟩ := kind1 hb
  unfold PStore.bindP
  by_cases h0 : a.kind = 1 ∧ b.kind = 1 ∧ a.n = b.n
  · rw [if_pos h0, if_pos ⟨a1.2 h0.1, b1.2 h0.2.1, by rw [a2 h0.1, b2 h0.2.1]; exact h0.2.2⟩]
    exact ⟨rfl, rfl, h⟩
  · rw [if_neg h0, if_neg (fun e => h0 ⟨a1.1 e.1, b1.1 e.2.1, by rw [← a2 (a1.1 e.1), ← b2 (b1.1 e.2.1)]; exact e.2.2⟩)]
    by_cases h1 : a.kind = 1
    · rw [if_pos h1, if_pos (a1.2 h1), a2 h1]
      obtain ⟨k1, k2⟩ := h.bindF a.n hb
      exact ⟨rfl, by rw [k1], k2⟩
    · rw [if_neg h1, if_neg (fun e => h1 (a1.1 e))]
      by_cases h2 : b.kind = 1
      · rw [if_pos h2, if_pos (b1.2 h2), b2 h2]
        obtain ⟨k1, k2⟩ := h.bindF b.n ha
        exact ⟨rfl, by rw [k1], k2⟩
      · rw [if_neg h2, if_neg (fun e => h2 (b1.1 e))]
        exact ⟨rfl, rfl, h⟩
theorem bindP_var {s : PStore} {a b : Term} (h : (s.bindP a b).1 = false) : a.kind ≠ 1 ∧ b.kind ≠ 1 := by
  unfold PStore.bindP at h
  split at h
  · cases h
  split at h
  · cases h
  split at h
  · cases h
  · rename_i h1 h2 h3; exact ⟨h2, h3⟩
theorem matchF_stop {l : Lat} {k : Nat} {s s' : PStore} {p : Term × Term} {rest : List (Term × Term)} {lev : Int} (hp : s.bindP (s.walk p.1) (s.walk p.2) = (true, false, s')) :
    PStore.matchF l (k + 1) s (p :: rest) lev = (false, lev, 0, s') := by
  rw [PStore.matchF, hp, if_pos rfl, if_neg (fun e => Bool.noConfusion e)]
theorem matchF_no {l : Lat} {k : Nat} {s : PStore} {p : Term × Term} {rest : List (Term × Term)} {lev : Int} {a b : Term × Int} (hp : s.bindP (s.walk p.1) (s.walk p.2) = (false, false, s)) (ha : l.opened (s.walk p.1) = a) (hb : l.opened (s.walk p.2) = b)
    (h2 : ¬ (a.1.kind = 2 ∧ b.1.kind = 2 ∧ a.1.n = b.1.n)) (h3 : ¬ (a.1.kind = 3 ∧ b.1.kind = 3 ∧ a.1.s.toList = b.1.s.toList ∧ a.1.kids.length = b.1.kids.length)) : PStore.matchF l (k + 1) s (p :: rest) lev = (false, l.join lev (l.join a.2 b.2), 0, s) := by
  rw [PStore.matchF, hp, ha, hb, if_neg (by simp), if_neg h2, if_neg h3]
def erase2 (p : Term × Term) : Term × Term := (p.1.erase, p.2.erase)
theorem zip_erase (ts us : List Term) : (ts.map Term.erase).zip (us.map Term.erase) = (ts.zip us).map erase2 := by
  rw [List.zip_map]; rfl
theorem match_erase : ∀ (k : Nat) (s s' : PStore) (ps : List (Term × Term)) (lev : Int), Rel s s' → (∀ p ∈ ps, Sound p.1 ∧ Sound p.2) → ∃ b lv c s1 s1', PStore.matchF Lat.nine k s ps lev = (b, lv, c, s1) ∧ PStore.matchF Lat.nine k s' (ps.map erase2) 0 = (b, 0, c, s1') ∧ Rel s1 s1'
  | k, s, s', [], lev, h, _ => ⟨true, lev, 0, s, s', PStore.matchF_nil _ _ _ _, PStore.matchF_nil _ _ _ _, h⟩
  | 0, s, s', p :: ps, lev, h, _ => ⟨false, lev, 3, s, s', rfl, rfl, h⟩
  | k + 1, s, s', p :: ps, lev, h, hp => by
    have hps : ∀ x ∈ ps, Sound x.1 ∧ Sound x.2 := fun x hx => hp x (by simp [hx])
    obtain ⟨hx, hy⟩ := hp p (by simp)
    obtain ⟨w1, sx⟩ := h.walk hx
    obtain ⟨w2, sy⟩ := h.walk hy
    have hb := h.bindP sx sy
    rw [← w1, ← w2] at hb
    obtain ⟨b1, b2, b3⟩ := hb
    rw [List.map_cons]
    cases hq : (s.bindP (s.walk p.1) (s.walk p.2)).1 with
    | true =>
      rw [hq] at b1
      cases hr : (s.bindP (s.walk p.1) (s.walk p.2)).2.1 with
      | true =>
        rw [hr] at b2
        rw [matchF_bind (s' := (s.bindP (s.walk p.1) (s.walk p.2)).2.2) (Prod.ext hq (Prod.ext hr rfl)), matchF_bind (p := erase2 p) (s' := (s'.bindP (s'.walk p.1.erase) (s'.walk p.2.erase)).2.2) (Prod.ext b1 (Prod.ext b2 rfl))]
        exact match_erase k _ _ ps lev b3 hps
      | false =>
        rw [hr] at b2
        refine ⟨false, lev, 0, _, _, ?_, ?_, b3⟩
        · exact matchF_stop (Prod.ext hq (Prod.ext hr rfl))
        · exact matchF_stop (p := erase2 p) (Prod.ext b1 (Prod.ext b2 rfl))
    | false =>
      rw [hq] at b1
      obtain ⟨n1, n2⟩ := bindP_var hq
      obtain ⟨k1, m1, z1, ts, q1, o1, o2, o3, o4⟩ := opened_sound sx n1
      obtain ⟨k2, m2, z2, us, q2, p1, p2, p3, p4⟩ := opened_sound sy n2
      have hA : s.bindP (s.walk p.1) (s.walk p.2) = (false, false, s) := bindP_none n1 n2
      have e1 := (erase_kind_ne sx n1).1
      have e2 := (erase_kind_ne sy n2).1
      have hB : s'.bindP (s'.walk (erase2 p).1) (s'.walk (erase2 p).2) = (false, false, s') := by
        show s'.bindP (s'.walk p.1.erase) (s'.walk p.2.erase) = _
        rw [w1, w2]; exact bindP_none e1 e2
      have a' : Lat.nine.opened (s'.walk (erase2 p).1) = (.mk k1 m1 z1 (ts.map Term.erase), 0) := by
        show Lat.nine.opened (s'.walk p.1.erase) = _
        rw [w1, opened_erase sx n1, o3]
      have b' : Lat.nine.opened (s'.walk (erase2 p).2) = (.mk k2 m2 z2 (us.map Term.erase), 0) := by
        show Lat.nine.opened (s'.walk p.2.erase) = _
        rw [w2, opened_erase sy n2, p3]
      by_cases c2 : k1 = 2 ∧ k2 = 2 ∧ m1 = m2
      · rw [matchF_int (a := (.mk k1 m1 z1 ts, q1)) (b := (.mk k2 m2 z2 us, q2)) hA o1 p1 c2, matchF_int (a := (.mk k1 m1 z1 (ts.map Term.erase), 0)) (b := (.mk k2 m2 z2 (us.map Term.erase), 0)) hB a' b' c2]
        dsimp only
        rw [nine_join0, nine_join0]
        exact match_erase k s s' ps _ h hps
      by_cases c3 : k1 = 3 ∧ k2 = 3 ∧ z1.toList = z2.toList ∧ ts.length = us.length
      · rw [matchF_fun (a := (.mk k1 m1 z1 ts, q1)) (b := (.mk k2 m2 z2 us, q2)) hA o1 p1 c3, matchF_fun (a := (.mk k1 m1 z1 (ts.map Term.erase), 0)) (b := (.mk k2 m2 z2 (us.map Term.erase), 0)) hB a' b' ⟨c3.1, c3.2.1, c3.2.2.1, by simpa [Term.kids] using c3.2.2.2⟩]
        dsimp only [Term.kids]
        rw [nine_join0, nine_join0, zip_erase, ← List.map_append]
        refine match_erase k s s' (ts.zip us ++ ps) _ h (fun x hx => ?_)
        rcases List.mem_append.1 hx with hx | hx
        · exact ⟨o4 _ (List.of_mem_zip hx).1, p4 _ (List.of_mem_zip hx).2⟩
        · exact hps x hx
      · refine ⟨false, Lat.nine.join lev (Lat.nine.join q1 q2), 0, s, s', ?_, ?_, h⟩
        · exact matchF_no (a := (.mk k1 m1 z1 ts, q1)) (b := (.mk k2 m2 z2 us, q2)) hA o1 p1 c2 c3
        · rw [matchF_no (a := (.mk k1 m1 z1 (ts.map Term.erase), 0)) (b := (.mk k2 m2 z2 (us.map Term.erase), 0)) hB a' b' c2 (fun hc => c3 ⟨hc.1, hc.2.1, hc.2.2.1, by simpa [Term.kids] using hc.2.2.2⟩), nine_join0, nine_join0]
theorem matchT_erase {s s' : PStore} (h : Rel s s') {a b : Term} (ha : Sound a) (hb : Sound b) : ∃ x lv c s1 s1', s.matchT Lat.nine [a] [b] = (x, lv, c, s1) ∧ s'.matchT Lat.nine [a.erase] [b.erase] = (x, 0, c, s1') ∧ Rel s1 s1' := by
  obtain ⟨x, lv, c, s1, s1', h1, h2, h3⟩ := match_erase 2000 s s' [(a, b)] Lat.nine.bottom h (fun p hp => by rw [List.mem_singleton.1 hp]; exact ⟨ha, hb⟩)
  refine ⟨x, lv, c, s1, s1', ?_, ?_, h3⟩
  · unfold PStore.matchT
    rw [if_pos (by rfl)]; exact h1
  · unfold PStore.matchT
    rw [if_pos (by rfl), nine_bottom]; exact h2

theorem erase_no4 {t : Term} (h : Sound t) : ∀ p ∈ t.erase.parts, p.kind ≠ 4 := fun p hp e => by
  obtain ⟨q, hq, h1, h2⟩ := erase_part t p hp
  have h4 : q.kind = 4 := h2.trans e
  exact (erase_kind_ne (h.part hq) (by rw [h4]; decide)).2 (by rw [← h1]; exact e)
theorem erase_id : ∀ t : Term, (∀ p ∈ t.parts, p.kind ≠ 4) → t.erase = t := by
  intro t
  induction t using Term.induct with
  | h k n s ts ih =>
    intro h
    rw [Term.erase_else (fun e => absurd e.1 (show ¬ k = 4 from h _ (parts_self _)))]
    congr 1
    conv => rhs; rw [← List.map_id ts]
    exact List.map_congr_left (fun x hx => ih x hx (fun p hp => h p (parts_kid hx hp)))
theorem joinT_no4 : ∀ t : Term, (∀ p ∈ t.parts, p.kind ≠ 4) → Lat.nine.joinT t = 0 := by
  intro t
  induction t using Term.induct with
  | h k n s ts ih =>
    intro h
    have hk : (k == 4) = false := beq_eq_false_iff_ne.2 (show k ≠ 4 from h _ (parts_self _))
    simp only [Lat.joinT, hk, nine_bottom]
    have : ∀ us : List Term, (∀ x ∈ us, Lat.nine.joinT x = 0) → Lat.nine.joinTs 0 us = 0 := by
      intro us
      induction us with
      | nil => intro _; rfl
      | cons x xs ih2 =>
        intro hx
        simp only [Lat.joinTs]
        rw [hx x (by simp), nine_join0]
        exact ih2 (fun y hy => hx y (by simp [hy]))
    exact this ts (fun x hx => ih x hx (fun p hp => h p (parts_kid hx hp)))
theorem erase_deep : ∀ t : Term, t.erase.deep ≤ t.deep := by
  intro t
  induction t using Term.induct with
  | h k n s ts ih =>
    by_cases h : k = 4 ∧ ts.length = 1
    · obtain ⟨rfl, h⟩ := h
      obtain ⟨x, rfl⟩ := List.length_eq_one_iff.1 h
      have := ih x (by simp)
      simp only [Term.erase_seal, Term.deep, Term.deeps]; omega
    · rw [Term.erase_else h]
      simp only [Term.deep]
      have : ∀ l : List Term, (∀ x ∈ l, x.erase.deep ≤ x.deep) → Term.deeps (l.map Term.erase) ≤ Term.deeps l := by
        intro l
        induction l with
        | nil => intro _; simp [Term.deeps]
        | cons x xs ih2 => intro hl; have h1 := hl x (by simp); have h2 := ih2 (fun y hy => hl y (by simp [hy])); simp only [List.map_cons, Term.deeps]; omega
      have := this ts ih
      omega
theorem foldl_addVar_same : ∀ (ps qs : List Term) (l : List Int), (ps.filter fun p => p.kind == 1).map Term.n = (qs.filter fun p => p.kind == 1).map Term.n → ps.foldl Term.addVar l = qs.foldl Term.addVar l := by
  have key : ∀ (ps : List Term) (l : List Int), ps.foldl Term.addVar l = ((ps.filter fun p => p.kind == 1).map Term.n).foldl (fun l n => if l.contains n then l else l ++ [n]) l := by
    intro ps
    induction ps with
    | nil => intro l; rfl
    | cons p ps ih =>
      intro l
      rw [List.foldl_cons, ih]
      cases h : p.kind == 1
      · rw [List.filter_cons_of_neg (p := fun p => Term.kind p == 1) (by rw [h]; decide)]
        unfold Term.addVar
        rw [h]; rfl
      · rw [List.filter_cons_of_pos (p := fun p => Term.kind p == 1) h, List.map_cons, List.foldl_cons]
        congr 1
        unfold Term.addVar
        rw [h]
        cases l.contains p.n <;> rfl
  intro ps qs l h
  rw [key, key, h]
theorem erase_vars (t : Term) : t.erase.vars = t.vars := by
  refine foldl_addVar_same _ _ _ ?_
  induction t using Term.induct with
  | h k n s ts ih =>
    by_cases h : k = 4 ∧ ts.length = 1
    · obtain ⟨rfl, h⟩ := h
      obtain ⟨x, rfl⟩ := List.length_eq_one_iff.1 h
      rw [Term.erase_seal, ih x (by simp)]
      simp only [Term.parts, Term.partss, List.append_nil]
      rw [List.filter_cons_of_neg (by simp [Term.kind])]
    · rw [Term.erase_else h]
      simp only [Term.parts, Term.partss_eq]
      have hf : ∀ l : List Term, (∀ x ∈ l, (x.erase.parts.filter fun p => p.kind == 1).map Term.n = (x.parts.filter fun p => p.kind == 1).map Term.n) →
          (((l.map Term.erase).flatMap Term.parts).filter fun p => p.kind == 1).map Term.n = ((l.flatMap Term.parts).filter fun p => p.kind == 1).map Term.n := by
        intro l
        induction l with
        | nil => intro _; rfl
        | cons x xs ih2 =>
          intro hx
          simp only [List.map_cons, List.flatMap_cons, List.filter_append, List.map_append]
          rw [hx x (by simp), ih2 (fun y hy => hx y (by simp [hy]))]
      by_cases h1 : k = 1
      · rw [List.filter_cons_of_pos (by simp [Term.kind, h1]), List.filter_cons_of_pos (by simp [Term.kind, h1]), List.map_cons, List.map_cons, hf ts ih]
        rfl
      · rw [List.filter_cons_of_neg (by simp [Term.kind, h1]), List.filter_cons_of_neg (by simp [Term.kind, h1]), hf ts ih]
theorem ren_sound {t : Term} (f : Int → Int) (h : Sound t) : Sound (t.ren f) := fun p hp => by
  obtain ⟨q, hq, rfl⟩ := Term.ren_parts f t p hp
  rcases h q hq with ⟨x, rfl⟩ | ⟨h1, h2⟩
  · exact .inl ⟨f x, by rw [Term.var, Term.ren_mk]; rfl⟩
  · refine .inr ⟨?_, fun h4 => ?_⟩
    · obtain ⟨k, n, s, ts⟩ := q
      rw [Term.ren_mk]
      rcases h1 with h5 | h5 | h5
      · exact .inl ⟨h5.1, by have : ts = [] := h5.2
                             rw [this]; rfl⟩
      · exact .inr (.inl h5)
      · obtain ⟨x, hx⟩ := h5.2
        exact .inr (.inr ⟨h5.1, x.ren f, by have : ts = [x] := hx
                                            rw [this]; rfl⟩)
    · rw [Term.ren_kind] at h4
      rw [Term.ren_none f q (h2 h4).not_var]
      exact h2 h4
theorem evalT_walk {l : Lat} {s s' : PStore} (h : ∀ t, s.walk t = s'.walk t) : ∀ (d m : Nat) (t : Term) (lev : Int), evalT l s d m t lev = evalT l s' d m t lev
  | 0, _, _, _ => rfl
  | d + 1, m, t, lev => by
    have ih : evalT l s d = evalT l s' d := by funext m t lev; exact evalT_walk h d m t lev
    simp only [evalT, ih, h]
theorem evalS_st12 (t : Term) : evalS Lat.nine st12 t = evalS Lat.nine .empty t := by
  unfold evalS
  rw [evalT_walk (s' := .empty) (fun t => by rw [st12_walk]; cases t; rfl)]
theorem rel12 : Rel st12 st12 := ⟨rfl, rfl, fun t h => by
  have : st12.cells = List.replicate 12 none := rfl
  rw [this, List.mem_replicate] at h
  cases h.2⟩
theorem rel12f (n : Nat) : Rel (st12.fresh n) (st12.fresh n) := by
  have hc : (st12.fresh n).cells = List.replicate (12 + n) none := by
    show List.replicate 12 none ++ List.replicate n none = _
    rw [List.replicate_append_replicate]
  refine ⟨by rw [hc, List.map_replicate]; rfl, rfl, fun t h => ?_⟩
  rw [hc, List.mem_replicate] at h
  cases h.2
theorem full12 {t : Term} (h : t.check 9 = 0) : st12.full t = (t, 0) ∧ st12.full t.erase = (t.erase, 0) := by
  have hs : t.size ≤ 1000 ∧ t.deep ≤ 60 := by
    unfold Term.check at h
    split at h
    · cases h
    split at h
    · cases h
    · omega
  have h1 := erase_size t
  have h2 := erase_deep t
  exact ⟨full_id (st12_walk _) (fun p _ => st12_next p) hs.2 hs.1, full_id (st12_walk _) (fun p _ => st12_next p) (by omega) (by omega)⟩
/-- The same goal over two terms, and over these erased. -/
theorem goal_erased {a b : Term} (ca : a.check 9 = 0) (cb : b.check 9 = 0) (hsz : a.size ≤ 200) (i : Nat) (hi : i < 19) (h2 : (goalTab.getD i default).2 = 2) :
    ∃ x lv c s1 s2, goalT Lat.nine st12 i [a, b] = (x, lv, c, s1) ∧ goalT Lat.nine st12 i [a.erase, b.erase] = (x, 0, c, s2) := by
  have sa := (check_good ca).sound
  have sb := (check_good cb).sound
  obtain ⟨fa, fa'⟩ := full12 ca
  obtain ⟨fb, fb'⟩ := full12 cb
  have cmp : ∀ f, ∃ x lv c s1 s2, st12.cmpT Lat.nine f a b = (x, lv, c, s1) ∧ st12.cmpT Lat.nine f a.erase b.erase = (x, 0, c, s2) := fun f => by
    refine ⟨f (bareF a.erase b.erase), Lat.nine.join (Lat.nine.joinT a) (Lat.nine.joinT b), 0, st12, st12, ?_, ?_⟩
    · unfold PStore.cmpT
      rw [fa, fb, if_pos rfl, if_pos rfl]
    · unfold PStore.cmpT
      rw [fa', fb', if_pos rfl, if_pos rfl]
      dsimp only
      rw [erase_id a.erase (erase_no4 sa), erase_id b.erase (erase_no4 sb), joinT_no4 _ (erase_no4 sa), joinT_no4 _ (erase_no4 sb), nine_join0]
  have tst : ∀ op, ∃ x lv c s1 s2, st12.testT Lat.nine op a b = (x, lv, c, s1) ∧ st12.testT Lat.nine op a.erase b.erase = (x, 0, c, s2) := fun op => by
    obtain ⟨x1, l1, c1, h1, h2, _⟩ := erased_law a sa.wf
    obtain ⟨x2, l2, c2, h3, h4, _⟩ := erased_law b sb.wf
    refine ⟨(st12.testT Lat.nine op a b).1, (st12.testT Lat.nine op a b).2.1, (st12.testT Lat.nine op a b).2.2.1, (st12.testT Lat.nine op a b).2.2.2, st12, rfl, ?_⟩
    unfold PStore.testT
    rw [evalS_st12, evalS_st12, evalS_st12, evalS_st12, h1, h2, h3, h4]
    by_cases h5 : c1 = 0 <;> by_cases h6 : c2 = 0 <;> simp [h5, h6, nine_join0]
  have mt : ∃ x lv c s1 s2, st12.matchT Lat.nine [a] [b] = (x, lv, c, s1) ∧ st12.matchT Lat.nine [a.erase] [b.erase] = (x, 0, c, s2) := by
    obtain ⟨x, lv, c, s1, s1', m1, m2, _⟩ := matchT_erase rel12 sa sb
    exact ⟨x, lv, c, s1, s1', m1, m2⟩
  obtain ⟨x, lv, c, s1, s2, m1, m2⟩ := mt
  have hun : ∃ x lv c s1 s2, st12.unequalT Lat.nine a b = (x, lv, c, s1) ∧ st12.unequalT Lat.nine a.erase b.erase = (x, 0, c, s2) := by
    refine ⟨(st12.unequalT Lat.nine a b).1, (st12.unequalT Lat.nine a b).2.1, (st12.unequalT Lat.nine a b).2.2.1, (st12.unequalT Lat.nine a b).2.2.2, st12, rfl, ?_⟩
    unfold PStore.unequalT
    rw [m1, m2]
  have his : ∃ x lv c s1 s2, st12.isT Lat.nine a b = (x, lv, c, s1) ∧ st12.isT Lat.nine a.erase b.erase = (x, 0, c, s2) := by
    obtain ⟨x2, l2, c2, h3, h4, _⟩ := erased_law b sb.wf
    unfold PStore.isT
    rw [evalS_st12, evalS_st12, h3, h4]
    dsimp only
    by_cases hc : c2 = 0
    · rw [if_pos hc, if_pos hc]
      have hn : Sound (Term.num x2) := fun p hp => by
        rcases parts_mk.1 hp with rfl | ⟨y, hy, _⟩
        · exact .inr ⟨.inl ⟨rfl, rfl⟩, fun e => by cases e⟩
        · cases hy
      obtain ⟨y, lv, c, s1, s1', m1, m2, _⟩ := matchT_erase rel12 sa hn
      have e : (Term.num x2).erase = Term.num x2 := rfl
      rw [e] at m2
      rw [m1, m2]
      exact ⟨y, Lat.nine.join lv l2, c, s1, s1', rfl, by dsimp only; rw [nine_join0]⟩
    · rw [if_neg hc, if_neg hc]
      exact ⟨false, l2, c2, st12, st12, rfl, rfl⟩
  have hcp : ∃ x lv c s1 s2, st12.copiedT Lat.nine a b = (x, lv, c, s1) ∧ st12.copiedT Lat.nine a.erase b.erase = (x, 0, c, s2) := by
    have hvl := vars_length a
    have hcopy : st12.copyT a = ((Term.renum a.vars a).shift st12.cells.length, 0, st12.fresh a.vars.length) := by
      unfold PStore.copyT
      rw [fa, if_pos rfl]
      unfold PStore.freshT
      rw [if_pos (by show 12 + a.vars.length ≤ 4096; omega)]
    have hcopy' : st12.copyT a.erase = (((Term.renum a.vars a).shift st12.cells.length).erase, 0, st12.fresh a.vars.length) := by
      unfold PStore.copyT
      rw [fa', if_pos rfl]
      dsimp only
      rw [erase_vars]
      unfold PStore.freshT
      rw [if_pos (by show 12 + a.vars.length ≤ 4096; omega)]
      unfold Term.shift Term.renum
      rw [Term.ren_erase, Term.ren_erase]
    unfold PStore.copiedT
    rw [hcopy, hcopy', if_pos rfl, if_pos rfl]
    obtain ⟨y, lv, c, s1, s1', m1, m2, _⟩ := matchT_erase (rel12f a.vars.length) sb (ren_sound _ (ren_sound _ sa))
    exact ⟨y, lv, c, s1, s1', m1, m2⟩
  rcases (by omega : i = 0 ∨ i = 1 ∨ i = 2 ∨ i = 3 ∨ i = 4 ∨ i = 5 ∨ i = 6 ∨ i = 7 ∨ i = 8 ∨ i = 9 ∨ i = 10 ∨ i = 11 ∨ i = 12 ∨ i = 13 ∨ i = 14 ∨ i = 15 ∨ i = 16 ∨ i = 17 ∨ i = 18) with
    rfl | rfl | rfl | rfl | rfl | rfl | rfl | rfl | rfl | rfl | rfl | rfl | rfl | rfl | rfl | rfl | rfl | rfl | rfl
  · exact absurd h2 (by decide)
  · exact absurd h2 (by decide)
  · exact ⟨x, lv, c, s1, s2, m1, m2⟩
  · exact hun
  · exact cmp isZ
  · exact cmp isNZ
  · exact cmp isNeg
  · exact his
  · exact absurd h2 (by decide)
  · exact absurd h2 (by decide)
  · exact absurd h2 (by decide)
  · exact absurd h2 (by decide)
  · exact hcp
  · exact tst _
  · exact tst _
  · exact tst _
  · exact tst _
  · exact tst _
  · exact tst _
theorem call_erased {a b : Term} (ca : a.check 9 = 0) (cb : b.check 9 = 0) (hsz : a.size ≤ 200) (name : ByteArray) : ∃ k x lv c s1 s2, callR Lat.nine st12 name [a, b] = (k, x, lv, c, s1) ∧ callR Lat.nine st12 name [a.erase, b.erase] = (k, x, 0, c, s2) := by
  have hl : ([a, b] : List Term).length = [a.erase, b.erase].length := rfl
  unfold callR
  rw [← hl]
  cases hi : goalIdx name ([a, b] : List Term).length with
  | none => exact ⟨false, false, Lat.nine.bottom, 0, st12, st12, rfl, by dsimp only; rw [nine_bottom]⟩
  | some i =>
    obtain ⟨h1, h2⟩ := goalIdx_lt hi
    obtain ⟨x, lv, c, s1, s2, g1, g2⟩ := goal_erased ca cb hsz i h1 h2
    exact ⟨true, x, lv, c, s1, s2, by dsimp only; rw [g1], by dsimp only; rw [g2]⟩
end Go.Proofs.YtkiofaojokofbaaGreat
