/- Contracts and plain laws: EvalB2 LawSums. -/
import Derived.Test.YtkiofaojokofbaaGreatBuiltL
import Derived.Test.YtkiofaojokofbaaGreatBuiltM
import Derived.WalkSpells
import Derived.WalkLawsBesides
import Derived.Deep.QuietTactic
import Derived.BigQuiet
import Derived.Deep.DeepCutAuto
import Derived.Deep.RegionHeld3
import Derived.Lib.Hide
import Derived.Handy
namespace Go.Proofs.YtkiofaojokofbaaGreat
open Go.RowKit

theorem opened_fn (l : Lat) (s : ByteArray) (ts : List Term) : l.opened (Term.fn s ts) = (Term.fn s ts, l.bottom) := by
  unfold Lat.opened
  rw [if_neg (by simp [Term.fn, Term.sealOf, Term.kind])]
theorem walk_fn (st : PStore) (s : ByteArray) (ts : List Term) : st.walk (Term.fn s ts) = Term.fn s ts := PStore.walk_free (PStore.next_ne (by decide))
theorem evalT_num9 (s : PStore) (d m : Nat) (a : Int) (hm : m < 2000) : evalT Lat.nine s (d + 1) m (Term.num a) 0 = (.ok a, 0, m + 1) := by
  rw [evalT_succ _ _ _ _ _ _ (by omega), walk_num, opened_num, nine_bottom]
  show evalB _ (m + 1) (Lat.nine.join 0 0) 2 a _ [] = _
  rw [nine_join0]
  rfl
theorem evalT_two9 (s : PStore) (d m m1 m2 : Nat) (op : ByteArray) (t u : Term) (x y : Int) (hk : Arith.known op 2 = true) (hm : m < 2000) (ht : evalT Lat.nine s d (m + 1) t 0 = (.ok x, 0, m1)) (hu : evalT Lat.nine s d m1 u 0 = (.ok y, 0, m2)) :
    evalT Lat.nine s (d + 1) m (Term.fn op [t, u]) 0 = (Arith.two op x y, 0, m2) := by
  rw [evalT_succ _ _ _ _ _ _ (by omega), walk_fn, opened_fn, nine_bottom]
  show evalB _ (m + 1) (Lat.nine.join 0 0) 3 0 op [t, u] = _
  rw [nine_join0]
  exact evalB_two _ _ _ _ op [t, u] hk rfl ht hu
theorem fit_ok {n : Int} (h1 : -9223372036854775808 ≤ n) (h2 : n ≤ 9223372036854775807) : Arith.fit n = .ok n := if_pos ⟨h1, h2⟩
def sumOf (a b : Int) : Term := Term.fn ⟨#[43]⟩ [Term.num a, Term.num b]
theorem evalT_sum (s : PStore) (d m : Nat) (a b : Int) (hm : m + 2 < 2000) (h1 : -9223372036854775808 ≤ a + b) (h2 : a + b ≤ 9223372036854775807) : evalT Lat.nine s (d + 2) m (sumOf a b) 0 = (.ok (a + b), 0, m + 3) := by
  rw [sumOf, evalT_two9 s (d + 1) m (m + 2) (m + 3) _ _ _ a b (by decide) (by omega) (evalT_num9 _ _ _ _ (by omega)) (evalT_num9 _ _ _ _ (by omega))]
  show (Arith.plus a b, _, _) = _
  rw [Arith.plus, fit_ok h1 h2]
theorem evalS_sum (s : PStore) (a b : Int) (h1 : -9223372036854775808 ≤ a + b) (h2 : a + b ≤ 9223372036854775807) : evalS Lat.nine s (sumOf a b) = (a + b, 0, 0) := by
  unfold evalS
  rw [nine_bottom, show (2000 : Nat) = 1998 + 2 from rfl, evalT_sum s 1998 0 a b (by omega) h1 h2]
def lessOne (a b : Int) : Term := Term.fn ⟨#[45]⟩ [sumOf a b, Term.num 1]
theorem evalS_less (s : PStore) (a b : Int) (h1 : -9223372036854775807 ≤ a + b) (h2 : a + b ≤ 9223372036854775807) : evalS Lat.nine s (lessOne a b) = (a + b - 1, 0, 0) := by
  unfold evalS
  rw [nine_bottom, show (2000 : Nat) = 1997 + 2 + 1 from rfl, lessOne, evalT_two9 s (1997 + 2) 0 4 5 _ _ _ (a + b) 1 (by decide) (by omega) (evalT_sum s 1997 1 a b (by omega) (by omega) h2) (evalT_num9 _ _ _ _ (by omega))]
  show (match (Arith.two ⟨#[45]⟩ (a + b) 1, (0 : Int), (5 : Nat)) with | (.ok a, lev, _) => (a, lev, 0) | (.error c, lev, _) => (0, lev, c)) = _
  have : Arith.two ⟨#[45]⟩ (a + b) 1 = .ok (a + b - 1) := by
    show Arith.fit (a + b - 1) = _
    exact fit_ok (by omega) (by omega)
  rw [this]
theorem matchT_congr {l : Lat} {s : PStore} {t t' u u' : Term} (ht : s.walk t = s.walk t') (hu : s.walk u = s.walk u') : s.matchT l [t] [u] = s.matchT l [t'] [u'] := by
  unfold PStore.matchT
  rw [if_pos (show [t].length = [u].length from rfl), if_pos (show [t'].length = [u'].length from rfl)]
  show PStore.matchF l (1999 + 1) s [(t, u)] l.bottom = PStore.matchF l (1999 + 1) s [(t', u')] l.bottom
  rw [PStore.matchF]
  dsimp only
  rw [ht, hu]
  conv => rhs; rw [PStore.matchF]
theorem full_num {s : PStore} {t : Term} {n : Int} (h : s.walk t = Term.num n) : s.full t = (Term.num n, 0) := by
  have hf : s.fillT 61 1 1000 0 t = (Term.num n, 999, 0) := by
    rw [show (61 : Nat) = 60 + 1 from rfl, PStore.fillT_ok (by decide) (by unfold wrap64; omega), h]
    rw [show wrap64 (1000 - 1) = 999 from by unfold wrap64; omega]
    rfl
  unfold PStore.full
  rw [hf]
  rfl
def stSum (n : Int) : PStore := st12.bind 0 (Term.num n)
theorem stSum_walk (n : Int) : (stSum n).walk (Term.var 0) = Term.num n := by
  have h1 : (stSum n).next (Term.var 0) = some (Term.num n) := by
    rw [Term.var, PStore.next_var]
    exact PStore.get_in (m := 0) (by kernel_rfl)
  have h2 : (stSum n).next (Term.num n) = none := PStore.next_ne (by decide)
  have h3 : (stSum n).walkN 1 (Term.var 0) = Term.num n := by rw [PStore.walkN_some h1]; rfl
  rw [PStore.walk_eq (k := 1) (by rw [h3]; exact h2), h3]
theorem isT_at {s : PStore} {a b : Term} {n : Int} (h : evalS Lat.nine s b = (n, 0, 0)) : s.isT Lat.nine a b = ((s.matchT Lat.nine [a] [Term.num n]).1, Lat.nine.join (s.matchT Lat.nine [a] [Term.num n]).2.1 0, (s.matchT Lat.nine [a] [Term.num n]).2.2) := by
  unfold PStore.isT
  rw [h]
  rfl
theorem sums_is (a b : Int) (h1 : -9223372036854775807 ≤ a + b) (h2 : a + b ≤ 9223372036854775807) (hh : st12.has (Term.num (a + b)) 0 false) : askR st12 ⟨#[105, 115]⟩ [Term.var 0, sumOf a b] = (true, 0, stSum (a + b)) := by
  rw [askR_at (i := 7) (by kernel_rfl)]
  show ((st12.isT Lat.nine (Term.var 0) (sumOf a b)).1, (st12.isT Lat.nine (Term.var 0) (sumOf a b)).2.2.1, (st12.isT Lat.nine (Term.var 0) (sumOf a b)).2.2.2) = _
  rw [isT_at (evalS_sum st12 a b (by omega) h2)]
  have := matchT_bind Lat.nine st12 0 (Term.num (a + b)) (st12_cell (by decide)) (walk_num _ _) (by simp [Term.num, Term.kind]) hh
  rw [show ((0 : Nat) : Int) = 0 from rfl] at this
  rw [this]
  rfl
theorem sums_again (a b : Int) (h1 : -9223372036854775807 ≤ a + b) (h2 : a + b ≤ 9223372036854775807) : askR (stSum (a + b)) ⟨#[105, 115]⟩ [Term.var 0, sumOf a b] = (true, 0, stSum (a + b)) := by
  rw [askR_at (i := 7) (by kernel_rfl)]
  show (((stSum (a + b)).isT Lat.nine (Term.var 0) (sumOf a b)).1, ((stSum (a + b)).isT Lat.nine (Term.var 0) (sumOf a b)).2.2.1, ((stSum (a + b)).isT Lat.nine (Term.var 0) (sumOf a b)).2.2.2) = _
  rw [isT_at (evalS_sum _ a b (by omega) h2), matchT_congr (t' := Term.num (a + b)) (u' := Term.num (a + b)) (by rw [stSum_walk, walk_num]) rfl, matchT_num]
  simp
theorem sums_other (a b : Int) (h1 : -9223372036854775807 ≤ a + b) (h2 : a + b ≤ 9223372036854775807) : askR (stSum (a + b)) ⟨#[105, 115]⟩ [Term.var 0, lessOne a b] = (false, 0, stSum (a + b)) := by
  rw [askR_at (i := 7) (by kernel_rfl)]
  show (((stSum (a + b)).isT Lat.nine (Term.var 0) (lessOne a b)).1, ((stSum (a + b)).isT Lat.nine (Term.var 0) (lessOne a b)).2.2.1, ((stSum (a + b)).isT Lat.nine (Term.var 0) (lessOne a b)).2.2.2) = _
  rw [isT_at (evalS_less _ a b h1 h2), matchT_congr (t' := Term.num (a + b)) (u' := Term.num (a + b - 1)) (by rw [stSum_walk, walk_num]) rfl, matchT_num]
  simp
  omega
theorem sums_same (n : Int) : askR (stSum n) ⟨#[61, 61]⟩ [Term.var 0, Term.num n] = (true, 0, stSum n) := by
  rw [askR_at (i := 4) (by kernel_rfl)]
  show (((stSum n).cmpT Lat.nine isZ (Term.var 0) (Term.num n)).1, ((stSum n).cmpT Lat.nine isZ (Term.var 0) (Term.num n)).2.2.1, ((stSum n).cmpT Lat.nine isZ (Term.var 0) (Term.num n)).2.2.2) = _
  unfold PStore.cmpT
  rw [full_num (stSum_walk n), full_num (walk_num _ n)]
  have : bareF (Term.num n).erase (Term.num n).erase = 0 := by
    show bareF (Term.num n) (Term.num n) = 0
    simp [bareF, Term.num, bare0, cmpI, Term.kind, Term.n]
  rw [if_pos rfl, if_pos rfl, this]
  rfl
end Go.Proofs.YtkiofaojokofbaaGreat
namespace Go.Proofs.YtkiofaojokofbaaGreat
open Go.RowKit

set_option maxRecDepth 100000 in
set_option maxHeartbeats 4000000 in
theorem law_BuiltSums (a b : Int) (w : World) (ha : -2147483648 ≤ a) (ha2 : a ≤ 2147483647) (hbb : -2147483648 ≤ b) (hbb2 : b ≤ 2147483647) : Calls Tryz.prog 5 #[.int .i32 a, .int .i32 b] w fun e w' => e = .returned (.bool true) ∧ Frm [] w w' := by
  have ia : I64 a := by unfold I64; omega
  have ib : I64 b := by unfold I64; omega
  have is : I64 (a + b) := by unfold I64; omega
  have hw : wrap64 (a + b) = a + b := by unfold wrap64; omega
  have e1 := Lib.hid (sums_is a b (by omega) (by omega) (has_num _ _ _))
  have e2 := Lib.hid (sums_again a b (by omega) (by omega))
  have e3 := Lib.hid (sums_other a b (by omega) (by omega))
  have e4 := Lib.hid (sums_same (a + b))
  have HM : Hid ((stSum (a + b)).trail.length = 1) := rfl
  have m0 : True := trivial
  have m1 : True := trivial
  have m2 : True := trivial
  go_enter Tryz.func5, Tryz.ntmps5
  go_wp2_with (first
    | (go_at_call 9; refine (law_shown _).mono ?_; rintro e w1 ⟨rfl, F1⟩; have HB1 := Lib.hid F1.size)
    | (go_at_call 11; refine (law_bound_nil _).mono ?_; intro e w2 hbd; obtain ⟨sb, rfl, hr, F2⟩ := hbd.ready; have hb : Below w.heap.size w w2 := (Frm.trans0 F1 F2).below)
    | (go_at_call 14; refine (term_num _ _).mono ?_; rintro e w3 ⟨rfl, F0⟩; have hr' := hr.keep F0; clear hr; have hr := hr'; clear hr'; have hb' := hb.trans (F0.below.mono hb.size); clear hb; have hb := hb'; clear hb')
    | (go_at_call 16; refine (term_let _ _).mono ?_; rintro e w3 ⟨rfl, F0⟩; have hr' := hr.keep F0; clear hr; have hr := hr'; clear hr'; have hb' := hb.trans (F0.below.mono hb.size); clear hb; have hb := hb'; clear hb')
    | (go_at_call 15; clear m0; have hr2 := hr.addTwo (t := Term.num a) (u := Term.num b) (ty := 25) (fun F _ _ => num_v F _ ia) (fun F _ _ => num_v F _ ib); refine (ready_make2 hr2 ⟨#[43]⟩ (Term.num a) (Term.num b) _ _ 2 (fun F h => h.1) (by decide)).mono ?_; rintro e w4 ⟨⟨As, caps, rfl, hr'⟩, F0⟩; clear hr hr2; have hr := hr'; clear hr'; have hb' := (hb.alloc hb.size _).trans (F0.below.mono (hb.alloc hb.size _).size); clear hb; have hb := hb'; clear hb'))
  have hrb := hr.addBox #[.int .i64 3, .int .i64 0, .string ⟨#[43]⟩, .slice As 2 caps] 25
  have hbb := hb.alloc hb.size (.cells #[.int .i64 3, .int .i64 0, .string ⟨#[43]⟩, .slice As 2 caps] 25)
  generalize hW : World.alloc w4 _ = W at *
  generalize w4.heap.size = sx at *
  clear hW hr hb
  obtain ⟨sx0, sx1, sx2, sx3, -, sxl⟩ := blk4 (hrb.imp (fun F h => h.1.2))
  refine wp_region_U (fun w' => Frm [] W w') (fun i => Nat.blt i 4) (by kernel_rfl) ?rgnS1 (fun hHeld => ?rgnB1)
  case rgnS1 => (first | (dsimp only; exact (by repeat (first | with_reducible (first | refine .alloc ?_ _ | refine .drewN ?_ _ | refine .drew ?_) | ((with_reducible refine .setCell ?_ ?_ _); rotate_left; focus (first | (left; simp; done) | (right; simp; (first | done | omega)))) | with_reducible (first | assumption | exact .refl _ _ | refine .trans0 ?_ ‹_›)))) | exact (by repeat (first | with_reducible (first | refine .alloc ?_ _ | refine .drewN ?_ _ | refine .drew ?_) | ((with_reducible refine .setCell ?_ ?_ _); rotate_left; focus (first | (left; simp; done) | (right; simp; (first | done | omega)))) | with_reducible (first | assumption | exact .refl _ _ | refine .trans0 ?_ ‹_›))))
  case' rgnB1 => skip
  refine Pend.start [0, 2] ?_
  iterate 2 (refine tk (v := ?_) rfl (by kernel_rfl) (by rfl) (fun _ _ _ h => h) (by assumption) ?_ ?_; rotate_left; (focus (intro wq hSw; (try dsimp only at hSw); have X0 := (hSw.cell sxl (by simp)).trans sx0; have X1 := (hSw.cell sxl (by simp)).trans sx1; have X2 := (hSw.cell sxl (by simp)).trans sx2; have X3 := (hSw.cell sxl (by simp)).trans sx3; go_simp; (first | done | with_reducible rfl))); try simp only [Act.put, List.setIfInBounds_toArray, List.set_cons_zero, List.set_cons_succ])
  refine Pend.done ?_
  refine one 1 (by kernel_rfl) rfl (fun K' hK => ?_)
  (go_simp; refine (term_let 0 _).mono ?_; rintro e w5 ⟨rfl, F5⟩; have F05 : Frm [] W w5 := Frm.trans0 (by repeat (first | with_reducible (first | refine .alloc ?_ _ | refine .drewN ?_ _ | refine .drew ?_) | ((with_reducible refine .setCell ?_ ?_ _); rotate_left; focus (first | (left; simp; done) | (right; simp; (first | done | omega)))) | with_reducible (first | assumption | exact .refl _ _ | refine .trans0 ?_ ‹_›))) F5; dsimp only)
  refine hK.out _ _ (fun _ => ?rgnS2) (fun hH => ?rgnB2)
  case rgnS2 => (first | (dsimp only; exact (by repeat (first | with_reducible (first | refine .alloc ?_ _ | refine .drewN ?_ _ | refine .drew ?_) | ((with_reducible refine .setCell ?_ ?_ _); rotate_left; focus (first | (left; simp; done) | (right; simp; (first | done | omega)))) | with_reducible (first | assumption | exact .refl _ _ | refine .trans0 ?_ ‹_›)))) | exact (by repeat (first | with_reducible (first | refine .alloc ?_ _ | refine .drewN ?_ _ | refine .drew ?_) | ((with_reducible refine .setCell ?_ ?_ _); rotate_left; focus (first | (left; simp; done) | (right; simp; (first | done | omega)))) | with_reducible (first | assumption | exact .refl _ _ | refine .trans0 ?_ ‹_›))))
  case' rgnB2 => ((try clear hHeld); have hHeld := hH (by decide); clear hH)
  clear hK K'
  try simp only [Act.put, List.setIfInBounds_toArray, List.set_cons_zero, List.set_cons_succ]
  refine one 3 (by kernel_rfl) rfl (fun K' hK => ?_)
  (rw [if_pos (by rfl)]; go_simp)
  refine hK.out _ _ (fun _ => ?rgnS3) (fun hH => ?rgnB3)
  case rgnS3 => (first | (dsimp only; exact (by repeat (first | with_reducible (first | refine .alloc ?_ _ | refine .drewN ?_ _ | refine .drew ?_) | ((with_reducible refine .setCell ?_ ?_ _); rotate_left; focus (first | (left; simp; done) | (right; simp; (first | done | omega)))) | with_reducible (first | assumption | exact .refl _ _ | refine .trans0 ?_ ‹_›)))) | exact (by repeat (first | with_reducible (first | refine .alloc ?_ _ | refine .drewN ?_ _ | refine .drew ?_) | ((with_reducible refine .setCell ?_ ?_ _); rotate_left; focus (first | (left; simp; done) | (right; simp; (first | done | omega)))) | with_reducible (first | assumption | exact .refl _ _ | refine .trans0 ?_ ‹_›))))
  case' rgnB3 => ((try clear hHeld); have hHeld := hH (by decide); clear hH)
  clear hK K'
  try simp only [Act.put, List.setIfInBounds_toArray, List.set_cons_zero, List.set_cons_succ]
  refine one 4 (by kernel_rfl) rfl (fun K' hK => ?_)
  (go_simp; have hr5 := (hrb.keep F05).addTwo (t := Term.var 0) (u := sumOf a b) (ty := 25) (fun F _ _ => var_v F _ (by unfold I64; omega)) (fun F h _ => h.2.1); refine (ready_asked hr5 ⟨#[105, 115]⟩ [Term.var 0, sumOf a b] _ 2 (fun F h => h.1) (by decide) (by simp) e1.out).mono ?_; rintro e w6 ⟨rfl, hr6, b6⟩; dsimp only)
  refine hK.out _ _ (fun h => absurd h (by decide)) (fun _ => ?_)
  clear hK K'
  try simp only [Act.put, List.setIfInBounds_toArray, List.set_cons_zero, List.set_cons_succ]
  refine Pend.start [5, 6, 7, 8, 9] ?_
  iterate 5 (refine tkl (v := ?_) rfl (by kernel_rfl) (by rfl) (fun _ _ _ h => h) ?_ ?_; rotate_left; (focus (intro wq hSw; go_simp; (first | done | with_reducible rfl))); try simp only [Act.put, List.setIfInBounds_toArray, List.set_cons_zero, List.set_cons_succ])
  refine Pend.done ?_
  refine wpAnyU_done (by kernel_rfl) ?_ _
  skip
  have hbn := ((hbb.trans (F05.below.mono hbb.size)).alloc (Nat.le_trans hbb.size F05.size) _).trans (b6.mono HB1.out)
  clear hbb hrb hHeld sx0 sx1 sx2 sx3
  have hbb := hbn
  have hrb := (hr6).dropRow
  clear hbn hr6 b6 F05 F5 hr5
  obtain ⟨sx0, sx1, sx2, sx3, -, sxl⟩ := blk4 (hrb.imp (fun F h => h.1.2))
  go_upto_region 8 with (go_at_call 12; refine (ready_mark hrb).mono ?_; rw [HM.out]; rintro e w7 ⟨rfl, hrm, F7⟩)
  have hbn := hbb.trans (F7.below.mono hbb.size)
  clear hbb hrb sx0 sx1 sx2 sx3
  have hbb := hbn
  have hrb := hrm
  clear hbn hrm F7
  obtain ⟨sx0, sx1, sx2, sx3, -, sxl⟩ := blk4 (hrb.imp (fun F h => h.1.2))
  refine wp_region_U (fun w' => Frm [] w7 w') (fun i => Nat.blt i 4) (by kernel_rfl) ?rgnS4 (fun hHeld => ?rgnB4)
  case rgnS4 => (first | (dsimp only; exact (by repeat (first | with_reducible (first | refine .alloc ?_ _ | refine .drewN ?_ _ | refine .drew ?_) | ((with_reducible refine .setCell ?_ ?_ _); rotate_left; focus (first | (left; simp; done) | (right; simp; (first | done | omega)))) | with_reducible (first | assumption | exact .refl _ _ | refine .trans0 ?_ ‹_›)))) | exact (by repeat (first | with_reducible (first | refine .alloc ?_ _ | refine .drewN ?_ _ | refine .drew ?_) | ((with_reducible refine .setCell ?_ ?_ _); rotate_left; focus (first | (left; simp; done) | (right; simp; (first | done | omega)))) | with_reducible (first | assumption | exact .refl _ _ | refine .trans0 ?_ ‹_›))))
  case' rgnB4 => skip
  refine Pend.start [0, 2] ?_
  iterate 2 (refine tk (v := ?_) rfl (by kernel_rfl) (by rfl) (fun _ _ _ h => h) (by assumption) ?_ ?_; rotate_left; (focus (intro wq hSw; (try dsimp only at hSw); have X0 := (hSw.cell sxl (by simp)).trans sx0; have X1 := (hSw.cell sxl (by simp)).trans sx1; have X2 := (hSw.cell sxl (by simp)).trans sx2; have X3 := (hSw.cell sxl (by simp)).trans sx3; go_simp; (first | done | with_reducible rfl))); try simp only [Act.put, List.setIfInBounds_toArray, List.set_cons_zero, List.set_cons_succ])
  refine Pend.done ?_
  refine one 1 (by kernel_rfl) rfl (fun K' hK => ?_)
  (go_simp; refine (term_let 0 _).mono ?_; rintro e w5 ⟨rfl, F5⟩; have F05 : Frm [] w7 w5 := Frm.trans0 (by repeat (first | with_reducible (first | refine .alloc ?_ _ | refine .drewN ?_ _ | refine .drew ?_) | ((with_reducible refine .setCell ?_ ?_ _); rotate_left; focus (first | (left; simp; done) | (right; simp; (first | done | omega)))) | with_reducible (first | assumption | exact .refl _ _ | refine .trans0 ?_ ‹_›))) F5; dsimp only)
  refine hK.out _ _ (fun _ => ?rgnS5) (fun hH => ?rgnB5)
  case rgnS5 => (first | (dsimp only; exact (by repeat (first | with_reducible (first | refine .alloc ?_ _ | refine .drewN ?_ _ | refine .drew ?_) | ((with_reducible refine .setCell ?_ ?_ _); rotate_left; focus (first | (left; simp; done) | (right; simp; (first | done | omega)))) | with_reducible (first | assumption | exact .refl _ _ | refine .trans0 ?_ ‹_›)))) | exact (by repeat (first | with_reducible (first | refine .alloc ?_ _ | refine .drewN ?_ _ | refine .drew ?_) | ((with_reducible refine .setCell ?_ ?_ _); rotate_left; focus (first | (left; simp; done) | (right; simp; (first | done | omega)))) | with_reducible (first | assumption | exact .refl _ _ | refine .trans0 ?_ ‹_›))))
  case' rgnB5 => ((try clear hHeld); have hHeld := hH (by decide); clear hH)
  clear hK K'
  try simp only [Act.put, List.setIfInBounds_toArray, List.set_cons_zero, List.set_cons_succ]
  refine one 3 (by kernel_rfl) rfl (fun K' hK => ?_)
  (rw [if_pos (by rfl)]; go_simp)
  refine hK.out _ _ (fun _ => ?rgnS6) (fun hH => ?rgnB6)
  case rgnS6 => (first | (dsimp only; exact (by repeat (first | with_reducible (first | refine .alloc ?_ _ | refine .drewN ?_ _ | refine .drew ?_) | ((with_reducible refine .setCell ?_ ?_ _); rotate_left; focus (first | (left; simp; done) | (right; simp; (first | done | omega)))) | with_reducible (first | assumption | exact .refl _ _ | refine .trans0 ?_ ‹_›)))) | exact (by repeat (first | with_reducible (first | refine .alloc ?_ _ | refine .drewN ?_ _ | refine .drew ?_) | ((with_reducible refine .setCell ?_ ?_ _); rotate_left; focus (first | (left; simp; done) | (right; simp; (first | done | omega)))) | with_reducible (first | assumption | exact .refl _ _ | refine .trans0 ?_ ‹_›))))
  case' rgnB6 => ((try clear hHeld); have hHeld := hH (by decide); clear hH)
  clear hK K'
  try simp only [Act.put, List.setIfInBounds_toArray, List.set_cons_zero, List.set_cons_succ]
  refine one 4 (by kernel_rfl) rfl (fun K' hK => ?_)
  (go_simp; have hr5 := (hrb.keep F05).addTwo (t := Term.var 0) (u := sumOf a b) (ty := 25) (fun F _ _ => var_v F _ (by unfold I64; omega)) (fun F h _ => h.2.1); refine (ready_asked hr5 ⟨#[105, 115]⟩ [Term.var 0, sumOf a b] _ 2 (fun F h => h.1) (by decide) (by simp) e2.out).mono ?_; rintro e w8 ⟨rfl, hr8, b8⟩; dsimp only)
  refine hK.out _ _ (fun h => absurd h (by decide)) (fun _ => ?_)
  clear hK K'
  try simp only [Act.put, List.setIfInBounds_toArray, List.set_cons_zero, List.set_cons_succ]
  refine Pend.start [5, 6, 7, 8, 9] ?_
  iterate 5 (refine tkl (v := ?_) rfl (by kernel_rfl) (by rfl) (fun _ _ _ h => h) ?_ ?_; rotate_left; (focus (intro wq hSw; go_simp; (first | done | with_reducible rfl))); try simp only [Act.put, List.setIfInBounds_toArray, List.set_cons_zero, List.set_cons_succ])
  refine Pend.done ?_
  refine wpAnyU_done (by kernel_rfl) ?_ _
  skip
  have hbn := ((hbb.trans (F05.below.mono hbb.size)).alloc (Nat.le_trans hbb.size F05.size) _).trans (b8.mono HB1.out)
  clear hbb hrb hHeld sx0 sx1 sx2 sx3
  have hbb := hbn
  have hrb := (hr8).dropRow
  clear hbn hr8 b8 F05 F5 hr5
  obtain ⟨sx0, sx1, sx2, sx3, -, sxl⟩ := blk4 (hrb.imp (fun F h => h.1.2))
  go_upto_region 9 with (fail)
  refine wp_region_U (fun w' => Frm [] w8 w') (fun i => Nat.blt i 7) (by kernel_rfl) ?rgnS7 (fun hHeld => ?rgnB7)
  case rgnS7 => (first | (dsimp only; (first | exact F05 | exact F06 | exact F07 | exact F07.alloc _ | exact F06.alloc _ | exact (by repeat (first | with_reducible (first | refine .alloc ?_ _ | refine .drewN ?_ _ | refine .drew ?_) | ((with_reducible refine .setCell ?_ ?_ _); rotate_left; focus (first | (left; simp; done) | (right; simp; (first | done | omega)))) | with_reducible (first | assumption | exact .refl _ _ | refine .trans0 ?_ ‹_›))))) | (first | exact F05 | exact F06 | exact F07 | exact F07.alloc _ | exact F06.alloc _ | exact (by repeat (first | with_reducible (first | refine .alloc ?_ _ | refine .drewN ?_ _ | refine .drew ?_) | ((with_reducible refine .setCell ?_ ?_ _); rotate_left; focus (first | (left; simp; done) | (right; simp; (first | done | omega)))) | with_reducible (first | assumption | exact .refl _ _ | refine .trans0 ?_ ‹_›)))))
  case' rgnB7 => skip
  refine Pend.start [0, 2] ?_
  iterate 2 (refine tk (v := ?_) rfl (by kernel_rfl) (by rfl) (fun _ _ _ h => h) (by assumption) ?_ ?_; rotate_left; (focus (intro wq hSw; (try dsimp only at hSw); have X0 := (hSw.cell sxl (by simp)).trans sx0; have X1 := (hSw.cell sxl (by simp)).trans sx1; have X2 := (hSw.cell sxl (by simp)).trans sx2; have X3 := (hSw.cell sxl (by simp)).trans sx3; go_simp; (first | done | with_reducible rfl))); try simp only [Act.put, List.setIfInBounds_toArray, List.set_cons_zero, List.set_cons_succ])
  refine Pend.done ?_
  refine one 1 (by kernel_rfl) rfl (fun K' hK => ?_)
  (go_simp; refine (term_let 0 _).mono ?_; rintro e w9 ⟨rfl, F5⟩; have F05 : Frm [] w8 w9 := Frm.trans0 (by repeat (first | with_reducible (first | refine .alloc ?_ _ | refine .drewN ?_ _ | refine .drew ?_) | ((with_reducible refine .setCell ?_ ?_ _); rotate_left; focus (first | (left; simp; done) | (right; simp; (first | done | omega)))) | with_reducible (first | assumption | exact .refl _ _ | refine .trans0 ?_ ‹_›))) F5; dsimp only)
  refine hK.out _ _ (fun _ => ?rgnS8) (fun hH => ?rgnB8)
  case rgnS8 => (first | (dsimp only; (first | exact F05 | exact F06 | exact F07 | exact F07.alloc _ | exact F06.alloc _ | exact (by repeat (first | with_reducible (first | refine .alloc ?_ _ | refine .drewN ?_ _ | refine .drew ?_) | ((with_reducible refine .setCell ?_ ?_ _); rotate_left; focus (first | (left; simp; done) | (right; simp; (first | done | omega)))) | with_reducible (first | assumption | exact .refl _ _ | refine .trans0 ?_ ‹_›))))) | (first | exact F05 | exact F06 | exact F07 | exact F07.alloc _ | exact F06.alloc _ | exact (by repeat (first | with_reducible (first | refine .alloc ?_ _ | refine .drewN ?_ _ | refine .drew ?_) | ((with_reducible refine .setCell ?_ ?_ _); rotate_left; focus (first | (left; simp; done) | (right; simp; (first | done | omega)))) | with_reducible (first | assumption | exact .refl _ _ | refine .trans0 ?_ ‹_›)))))
  case' rgnB8 => ((try clear hHeld); have hHeld := hH (by decide); clear hH)
  clear hK K'
  try simp only [Act.put, List.setIfInBounds_toArray, List.set_cons_zero, List.set_cons_succ]
  refine one 3 (by kernel_rfl) rfl (fun K' hK => ?_)
  (go_simp; refine (term_num 1 _).mono ?_; rintro e w10 ⟨rfl, F6⟩; have F06 : Frm [] w8 w10 := F05.trans0 F6; dsimp only)
  refine hK.out _ _ (fun _ => ?rgnS9) (fun hH => ?rgnB9)
  case rgnS9 => (first | (dsimp only; (first | exact F05 | exact F06 | exact F07 | exact F07.alloc _ | exact F06.alloc _ | exact (by repeat (first | with_reducible (first | refine .alloc ?_ _ | refine .drewN ?_ _ | refine .drew ?_) | ((with_reducible refine .setCell ?_ ?_ _); rotate_left; focus (first | (left; simp; done) | (right; simp; (first | done | omega)))) | with_reducible (first | assumption | exact .refl _ _ | refine .trans0 ?_ ‹_›))))) | (first | exact F05 | exact F06 | exact F07 | exact F07.alloc _ | exact F06.alloc _ | exact (by repeat (first | with_reducible (first | refine .alloc ?_ _ | refine .drewN ?_ _ | refine .drew ?_) | ((with_reducible refine .setCell ?_ ?_ _); rotate_left; focus (first | (left; simp; done) | (right; simp; (first | done | omega)))) | with_reducible (first | assumption | exact .refl _ _ | refine .trans0 ?_ ‹_›)))))
  case' rgnB9 => ((try clear hHeld); have hHeld := hH (by decide); clear hH)
  clear hK K'
  try simp only [Act.put, List.setIfInBounds_toArray, List.set_cons_zero, List.set_cons_succ]
  refine one 4 (by kernel_rfl) rfl (fun K' hK => ?_)
  (rw [if_pos (by rfl)]; go_simp)
  refine hK.out _ _ (fun _ => ?rgnS10) (fun hH => ?rgnB10)
  case rgnS10 => (first | (dsimp only; (first | exact F05 | exact F06 | exact F07 | exact F07.alloc _ | exact F06.alloc _ | exact (by repeat (first | with_reducible (first | refine .alloc ?_ _ | refine .drewN ?_ _ | refine .drew ?_) | ((with_reducible refine .setCell ?_ ?_ _); rotate_left; focus (first | (left; simp; done) | (right; simp; (first | done | omega)))) | with_reducible (first | assumption | exact .refl _ _ | refine .trans0 ?_ ‹_›))))) | (first | exact F05 | exact F06 | exact F07 | exact F07.alloc _ | exact F06.alloc _ | exact (by repeat (first | with_reducible (first | refine .alloc ?_ _ | refine .drewN ?_ _ | refine .drew ?_) | ((with_reducible refine .setCell ?_ ?_ _); rotate_left; focus (first | (left; simp; done) | (right; simp; (first | done | omega)))) | with_reducible (first | assumption | exact .refl _ _ | refine .trans0 ?_ ‹_›)))))
  case' rgnB10 => ((try clear hHeld); have hHeld := hH (by decide); clear hH)
  clear hK K'
  try simp only [Act.put, List.setIfInBounds_toArray, List.set_cons_zero, List.set_cons_succ]
  refine one 5 (by kernel_rfl) rfl (fun K' hK => ?_)
  (go_simp; have hr5 := (hrb.keep F06).addTwo (t := sumOf a b) (u := Term.num 1) (ty := 25) (fun F h _ => h.2.1) (fun F _ _ => num_v F _ (by unfold I64; omega)); refine (ready_make2 hr5 ⟨#[45]⟩ (sumOf a b) (Term.num 1) _ _ 2 (fun F h => h.1) (by decide)).mono ?_; rintro e w11 ⟨⟨Al, capl, rfl, hr6⟩, F7⟩; have F07 : Frm [] w8 w11 := (F06.alloc _).trans0 F7; dsimp only)
  refine hK.out _ _ (fun _ => ?rgnS11) (fun hH => ?rgnB11)
  case rgnS11 => (first | (dsimp only; (first | exact F05 | exact F06 | exact F07 | exact F07.alloc _ | exact F06.alloc _ | exact (by repeat (first | with_reducible (first | refine .alloc ?_ _ | refine .drewN ?_ _ | refine .drew ?_) | ((with_reducible refine .setCell ?_ ?_ _); rotate_left; focus (first | (left; simp; done) | (right; simp; (first | done | omega)))) | with_reducible (first | assumption | exact .refl _ _ | refine .trans0 ?_ ‹_›))))) | (first | exact F05 | exact F06 | exact F07 | exact F07.alloc _ | exact F06.alloc _ | exact (by repeat (first | with_reducible (first | refine .alloc ?_ _ | refine .drewN ?_ _ | refine .drew ?_) | ((with_reducible refine .setCell ?_ ?_ _); rotate_left; focus (first | (left; simp; done) | (right; simp; (first | done | omega)))) | with_reducible (first | assumption | exact .refl _ _ | refine .trans0 ?_ ‹_›)))))
  case' rgnB11 => ((try clear hHeld); have hHeld := hH (by decide); clear hH)
  clear hK K'
  try simp only [Act.put, List.setIfInBounds_toArray, List.set_cons_zero, List.set_cons_succ]
  refine one 6 (by kernel_rfl) rfl (fun K' hK => ?_)
  (rw [if_pos (by rfl)]; go_simp)
  refine hK.out _ _ (fun _ => ?rgnS12) (fun hH => ?rgnB12)
  case rgnS12 => (first | (dsimp only; (first | exact F05 | exact F06 | exact F07 | exact F07.alloc _ | exact F06.alloc _ | exact (by repeat (first | with_reducible (first | refine .alloc ?_ _ | refine .drewN ?_ _ | refine .drew ?_) | ((with_reducible refine .setCell ?_ ?_ _); rotate_left; focus (first | (left; simp; done) | (right; simp; (first | done | omega)))) | with_reducible (first | assumption | exact .refl _ _ | refine .trans0 ?_ ‹_›))))) | (first | exact F05 | exact F06 | exact F07 | exact F07.alloc _ | exact F06.alloc _ | exact (by repeat (first | with_reducible (first | refine .alloc ?_ _ | refine .drewN ?_ _ | refine .drew ?_) | ((with_reducible refine .setCell ?_ ?_ _); rotate_left; focus (first | (left; simp; done) | (right; simp; (first | done | omega)))) | with_reducible (first | assumption | exact .refl _ _ | refine .trans0 ?_ ‹_›)))))
  case' rgnB12 => ((try clear hHeld); have hHeld := hH (by decide); clear hH)
  clear hK K'
  try simp only [Act.put, List.setIfInBounds_toArray, List.set_cons_zero, List.set_cons_succ]
  refine one 7 (by kernel_rfl) rfl (fun K' hK => ?_)
  (go_simp; have hr7 := hr6.addTwo (t := Term.var 0) (u := lessOne a b) (ty := 25) (fun F _ _ => var_v F _ (by unfold I64; omega)) (fun F h _ => h.1); refine (ready_asked hr7 ⟨#[105, 115]⟩ [Term.var 0, lessOne a b] _ 2 (fun F h => h.1) (by decide) (by simp) e3.out).mono ?_; rintro e w12 ⟨rfl, hr8, b8⟩; dsimp only)
  refine hK.out _ _ (fun h => absurd h (by decide)) (fun _ => ?_)
  clear hK K'
  try simp only [Act.put, List.setIfInBounds_toArray, List.set_cons_zero, List.set_cons_succ]
  refine Pend.start [8, 9, 10, 11, 12] ?_
  iterate 5 (refine tkl (v := ?_) rfl (by kernel_rfl) (by rfl) (fun _ _ _ h => h) ?_ ?_; rotate_left; (focus (intro wq hSw; go_simp; (first | done | with_reducible rfl))); try simp only [Act.put, List.setIfInBounds_toArray, List.set_cons_zero, List.set_cons_succ])
  refine Pend.done ?_
  refine wpAnyU_done (by kernel_rfl) ?_ _
  skip
  have hb := ((hbb.trans (F07.below.mono hbb.size)).alloc (Nat.le_trans hbb.size F07.size) _).trans (b8.mono HB1.out)
  have hr := hr8.dropRow.dropTerm.dropRow
  clear hbb hrb hHeld sx0 sx1 sx2 sx3 hr8 hr7 hr6 hr5 b8 F05 F5 F06 F6 F07 F7
  go_wp2_with (first
    | (go_at_call 14; refine (term_num _ _).mono ?_; rintro e w3 ⟨rfl, F0⟩; have hr' := hr.keep F0; clear hr; have hr := hr'; clear hr'; have hb' := hb.trans (F0.below.mono hb.size); clear hb; have hb := hb'; clear hb')
    | (go_at_call 16; refine (term_let _ _).mono ?_; rintro e w3 ⟨rfl, F0⟩; have hr' := hr.keep F0; clear hr; have hr := hr'; clear hr'; have hb' := hb.trans (F0.below.mono hb.size); clear hb; have hb := hb'; clear hb')
    | (go_at_call 13; have hr5 := hr.addTwo (t := Term.var 0) (u := Term.num (a + b)) (ty := 25) (fun F _ _ => var_v F _ (by unfold I64; omega)) (fun F _ _ => num_v F _ is); refine (ready_asked hr5 ⟨#[61, 61]⟩ [Term.var 0, Term.num (a + b)] _ 2 (fun F h => h.1) (by decide) (by simp) e4.out).mono ?_; rintro e w13 ⟨rfl, hr8, b8⟩; have hb' := (hb.alloc hb.size _).trans (b8.mono HB1.out); clear hb hr hr5; have hb := hb'; have hr := hr8; clear hb' hr8 b8)
    | (go_at_call 12; refine (ready_mark hr).mono ?_; rw [HM.out]; rintro e w14 ⟨rfl, hrm, F0⟩; have hb' := hb.trans (F0.below.mono hb.size); clear hb; have hb := hb'; clear hb'))
  go_ret
  exact ⟨rfl, Frm.of_below hb⟩
end Go.Proofs.YtkiofaojokofbaaGreat
