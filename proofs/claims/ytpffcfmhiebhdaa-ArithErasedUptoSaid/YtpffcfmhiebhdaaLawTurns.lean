/- ArithTurns. -/
import Derived.Test.YtpffcfmhiebhdaaLawEvs
import Derived.WalkSpells
import Derived.WalkLawsBesides
import Derived.Deep.QuietTactic
import Derived.BigQuiet
import Derived.Deep.DeepCutAuto
import Derived.Deep.RegionHeld3
import Derived.Lib.Hide
import Derived.Handy
namespace Go.Proofs.Ytpffcfmhiebhdaa
open Go.RowKit

def negT (t : Term) : Term := .mk 3 0 ⟨#[45]⟩ [t]
def absT (t : Term) : Term := .mk 3 0 ⟨#[97, 98, 115]⟩ [t]
def subT (t u : Term) : Term := .mk 3 0 ⟨#[45]⟩ [t, u]
def ansV (r : Except Int Int) : Int × Int × Int := match r with | .ok n => (n, 0, 0) | .error c => (0, 0, c)
theorem alloc_heap_eq (w : World) (cs : Array Value) (t : TypeId) {k : Nat} (h : k = w.heap.size) : (w.alloc (.cells cs t)).heap[k]? = some (.cells cs t (0, 0)) := by
  subst h; exact alloc_heap_new _ _
theorem known_neg1 : Arith.known ⟨#[45]⟩ ((1 : Nat) : Int) = true := by decide
theorem known_abs1 : Arith.known ⟨#[97, 98, 115]⟩ ((1 : Nat) : Int) = true := by decide
theorem one_neg {d m m' : Nat} {a : Int} {t : Term} (hm : ¬2000 < m + 1) (h : evalT Lat.one .empty d (m + 1) t 0 = (.ok a, 0, m')) : evalT Lat.one .empty (d + 1) m (negT t) 0 = (Arith.minus a, 0, m') :=
  (one_step hm rfl).trans (evalB_minus _ _ _ _ _ _ known_neg1 (by simp) h (.inl (by decide)))
theorem one_neg_err {d m m' : Nat} {c : Int} {t : Term} (hm : ¬2000 < m + 1) (h : evalT Lat.one .empty d (m + 1) t 0 = (.error c, 0, m')) : evalT Lat.one .empty (d + 1) m (negT t) 0 = (.error c, 0, m') :=
  (one_step hm rfl).trans (evalB_err _ _ _ _ _ _ known_neg1 h)
theorem one_abs {d m m' : Nat} {a : Int} {t : Term} (hm : ¬2000 < m + 1) (h : evalT Lat.one .empty d (m + 1) t 0 = (.ok a, 0, m')) (ha : 0 ≤ a) : evalT Lat.one .empty (d + 1) m (absT t) 0 = (.ok a, 0, m') :=
  (one_step hm rfl).trans (evalB_abs _ _ _ _ _ _ known_abs1 (by simp) h (by decide) ha)
theorem one_abs_neg {d m m' : Nat} {a : Int} {t : Term} (hm : ¬2000 < m + 1) (h : evalT Lat.one .empty d (m + 1) t 0 = (.ok a, 0, m')) (ha : a < 0) : evalT Lat.one .empty (d + 1) m (absT t) 0 = (Arith.minus a, 0, m') :=
  (one_step hm rfl).trans (evalB_minus _ _ _ _ _ _ known_abs1 (by simp) h (.inr ha))
theorem evalS_one {t : Term} {r : Except Int Int} {m : Nat} (h : evalT Lat.one .empty (1999 + 1) 0 t 0 = (r, 0, m)) : evalS Lat.one .empty t = ansV r := by
  rw [evalS, one_bottom, show (2000 : Nat) = 1999 + 1 from rfl, h]
  cases r <;> rfl
theorem turn_neg2_ok {a b c : Int} (h1 : Arith.minus a = .ok b) (h2 : Arith.minus b = .ok c) : evalS Lat.one .empty (negT (negT (numT a))) = (c, 0, 0) := by
  have h := one_neg (d := 1998) (m := 1) (by decide) (one_num 1997 2 a (by decide))
  rw [h1] at h
  have k := one_neg (d := 1999) (m := 0) (by decide) h
  rw [h2] at k
  exact evalS_one k
theorem turn_neg2_no {a c : Int} (h1 : Arith.minus a = .error c) : evalS Lat.one .empty (negT (negT (numT a))) = (0, 0, c) := by
  have h := one_neg (d := 1998) (m := 1) (by decide) (one_num 1997 2 a (by decide))
  rw [h1] at h
  exact evalS_one (one_neg_err (d := 1999) (m := 0) (by decide) h)
theorem turn_abs_pos {a : Int} (ha : 0 ≤ a) : evalS Lat.one .empty (absT (numT a)) = (a, 0, 0) := evalS_one (one_abs (d := 1999) (m := 0) (by decide) (one_num 1998 1 a (by decide)) ha)
theorem turn_abs_neg {a : Int} (ha : a < 0) : evalS Lat.one .empty (absT (numT a)) = ansV (Arith.minus a) := evalS_one (one_abs_neg (d := 1999) (m := 0) (by decide) (one_num 1998 1 a (by decide)) ha)
theorem turn_sub (a : Int) : evalS Lat.one .empty (subT (numT a) (numT a)) = (0, 0, 0) := by
  have h := ev_minus a a
  rw [Int.sub_self, fit_ok (by unfold I64; omega)] at h
  exact h

theorem law_ArithTurns (a : Int) (w : World) (ia : I64 a) :
    Calls Try.prog 5 #[.int .i64 a] w fun e w' => e = .returned (.bool true) ∧ Frm [] w w' := by
  have core : ∀ x e y f : Int, evalS Lat.one .empty (negT (negT (numT a))) = (x, 0, e) → evalS Lat.one .empty (absT (numT a)) = (y, 0, f) →
      ((a == -9223372036854775808) = true ∧ e = 10 ∧ f = 10) ∨ ((a == -9223372036854775808) = false ∧ e = 0 ∧ f = 0 ∧ a = x ∧ max a (-a) = y ∧ -9223372036854775808 < a) →
      Calls Try.prog 5 #[.int .i64 a] w fun e w' => e = .returned (.bool true) ∧ Frm [] w w' := by
    intro x e y f t1 t2 hx
    have T1 := Lib.hid t1
    have T2 := Lib.hid t2
    have T3 := Lib.hid (turn_sub a)
    clear t1 t2
    have ha := ia
    obtain ⟨a1, a2⟩ := ha
    rcases hx with ⟨hb, rfl, rfl⟩ | ⟨hb, rfl, rfl, rfl, rfl, hlo⟩
    all_goals
      have k1 : True := trivial
      have k2 : True := trivial
      have k3 : True := trivial
      have e1 : True := trivial
      have e2 : True := trivial
      go_enter Try.func5, Try.ntmps5
      go_wp2_with (first
        | (go_at_call 9; refine (law_shown _).mono ?_; rintro e w1 ⟨rfl, F1⟩)
        | (go_at_call 11; refine (lat_new 1 none 0 [] _ (by decide) (by decide) (fun i p h => by simp at h) (by decide)).mono ?_; rintro e w2 ⟨r, hr, F2, hm⟩; obtain rfl := Lat.made_one hr; obtain ⟨lb, hlb, hl, rfl⟩ := hm; dsimp only)
        | (go_at_call 12; refine (store_new [] _ (by simp)).mono ?_; rintro e w3 ⟨rfl, hst, F3⟩; have hsz := hst.lt w2.heap.size (by simp))
        | (go_at_call 13; refine (term_num _ _).mono ?_; rintro e w4 ⟨rfl, F4⟩; have hsz := Nat.lt_of_lt_of_le hsz F4.size)
        | (go_at_call 15; clear k1; have hrow := kids_row1 (F := [w2.heap.size]) (t := numT a) (alloc_heap_eq (w4.alloc (.cells #[.int .i64 2, .int .i64 a, .string ⟨#[]⟩, .slice none 0 0] 35)) #[.int .i64 2, .int .i64 a, .string ⟨#[]⟩, .slice none 0 0] 35 (heap_size_alloc _ _).symm) (by simp <;> omega) (num_v _ _ ia); refine (term_make [w2.heap.size] ⟨#[45]⟩ _ [numT a] 1 _ hrow (.inr ⟨_, _, rfl⟩) (by simp <;> omega) (by simp) (by decide)).mono ?_; rintro e w5 ⟨⟨v5, rfl, hv5⟩, F5⟩; have hb5 := F5.at0 (((Frm.refl [] _).alloc _).at0 (alloc_heap_new w4 _)); have hw4 : w4.heap.size < w5.heap.size := (Array.getElem?_eq_some_iff.1 hb5).1; have hsz : w2.heap.size < w5.heap.size := (by have := F5.size; (try simp at this); omega); obtain ⟨A5, cap5, rfl⟩ := hv5.form)
        | (go_at_call 15; clear k2; refine (term_make [w2.heap.size] ⟨#[45]⟩ _ [negT (numT a)] 1 _ (kids_row1 (alloc_heap_new _ _) (by simp <;> omega) (hv5.keep (by repeat (first | (with_reducible refine Frm.alloc ?_ _) | (with_reducible refine Frm.drewN ?_ _) | (with_reducible refine Frm.drew ?_) | ((with_reducible refine Frm.setCell ?_ ?_ _); rotate_left; (focus (first | (left; simp; done) | (right; simp; done) | (right; simp; omega)))) | with_reducible assumption | with_reducible exact Frm.refl _ _ | (with_reducible refine Frm.trans0 ?_ ‹_›))))) (.inr ⟨_, _, rfl⟩) (by simp <;> omega) (by simp) (by decide)).mono ?_; rintro e w6 ⟨⟨v6, rfl, hv6⟩, F6⟩; have hsz : w2.heap.size < w6.heap.size := (by have := F6.size; (try simp at this); omega))
        | (go_at_call 14; clear e1; refine (arith_Eval_is T1.out [w2.heap.size] [w2.heap.size] _ _ _ _ (hl.frm0 (by repeat (first | (with_reducible refine Frm.alloc ?_ _) | (with_reducible refine Frm.drewN ?_ _) | (with_reducible refine Frm.drew ?_) | ((with_reducible refine Frm.setCell ?_ ?_ _); rotate_left; (focus (first | (left; simp; done) | (right; simp; done) | (right; simp; omega)))) | with_reducible assumption | with_reducible exact Frm.refl _ _ | (with_reducible refine Frm.trans0 ?_ ‹_›)))) (hst.keep (by repeat (first | (with_reducible refine Frm.alloc ?_ _) | (with_reducible refine Frm.drewN ?_ _) | (with_reducible refine Frm.drew ?_) | ((with_reducible refine Frm.setCell ?_ ?_ _); rotate_left; (focus (first | (left; simp; done) | (right; simp; done) | (right; simp; omega)))) | with_reducible assumption | with_reducible exact Frm.refl _ _ | (with_reducible refine Frm.trans0 ?_ ‹_›)))) hv6).mono ?_; rintro e w7 ⟨rfl, F7⟩; have hb7 := F7.at0 (F6.at0 (((Frm.refl [] w5).alloc _).at0 hb5)); obtain ⟨z0, z1, z2, z3, z4, z5⟩ := blk4 hb7; have hsz := Nat.lt_of_lt_of_le hsz F7.size)
        | (go_at_call 15; clear k3; refine (term_make [w2.heap.size] ⟨#[97, 98, 115]⟩ _ [numT a] 1 _ (kids_row1 (alloc_heap_new _ _) (by simp <;> omega) (num_v _ _ ia)) (.inr ⟨_, _, rfl⟩) (by simp <;> omega) (by simp) (by decide)).mono ?_; rintro e w8 ⟨⟨v8, rfl, hv8⟩, F8⟩; have hsz : w2.heap.size < w8.heap.size := (by have := F8.size; (try simp at this); omega))
        | (go_at_call 14; clear e2; refine (arith_Eval_is T2.out [w2.heap.size] [w2.heap.size] _ _ _ _ (hl.frm0 (by repeat (first | (with_reducible refine Frm.alloc ?_ _) | (with_reducible refine Frm.drewN ?_ _) | (with_reducible refine Frm.drew ?_) | ((with_reducible refine Frm.setCell ?_ ?_ _); rotate_left; (focus (first | (left; simp; done) | (right; simp; done) | (right; simp; omega)))) | with_reducible assumption | with_reducible exact Frm.refl _ _ | (with_reducible refine Frm.trans0 ?_ ‹_›)))) (hst.keep (by repeat (first | (with_reducible refine Frm.alloc ?_ _) | (with_reducible refine Frm.drewN ?_ _) | (with_reducible refine Frm.drew ?_) | ((with_reducible refine Frm.setCell ?_ ?_ _); rotate_left; (focus (first | (left; simp; done) | (right; simp; done) | (right; simp; omega)))) | with_reducible assumption | with_reducible exact Frm.refl _ _ | (with_reducible refine Frm.trans0 ?_ ‹_›)))) hv8).mono ?_; rintro e w9 ⟨rfl, F9⟩; have hb9 := F9.at0 (F8.at0 (((Frm.refl [] w7).alloc _).at0 hb7)); obtain ⟨y0, y1, y2, y3, y4, y5⟩ := blk4 hb9; have hsz := Nat.lt_of_lt_of_le hsz F9.size)
        | (go_at_call 15; refine (term_make [w2.heap.size] ⟨#[45]⟩ _ [numT a, numT a] 2 _ (kids_row2 (alloc_heap_new _ _) (by simp <;> omega) (num_v _ _ ia) (num_v _ _ ia)) (.inr ⟨_, _, rfl⟩) (by simp <;> omega) (by simp) (by decide)).mono ?_; rintro e w10 ⟨⟨v10, rfl, hv10⟩, F10⟩)
        | (go_at_call 14; refine (arith_Eval_is T3.out [w2.heap.size] [w2.heap.size] _ _ _ _ (hl.frm0 (by repeat (first | (with_reducible refine Frm.alloc ?_ _) | (with_reducible refine Frm.drewN ?_ _) | (with_reducible refine Frm.drew ?_) | ((with_reducible refine Frm.setCell ?_ ?_ _); rotate_left; (focus (first | (left; simp; done) | (right; simp; done) | (right; simp; omega)))) | with_reducible assumption | with_reducible exact Frm.refl _ _ | (with_reducible refine Frm.trans0 ?_ ‹_›)))) (hst.keep (by repeat (first | (with_reducible refine Frm.alloc ?_ _) | (with_reducible refine Frm.drewN ?_ _) | (with_reducible refine Frm.drew ?_) | ((with_reducible refine Frm.setCell ?_ ?_ _); rotate_left; (focus (first | (left; simp; done) | (right; simp; done) | (right; simp; omega)))) | with_reducible assumption | with_reducible exact Frm.refl _ _ | (with_reducible refine Frm.trans0 ?_ ‹_›)))) hv10).mono ?_; rintro e w11 ⟨rfl, F11⟩))
    all_goals
      go_ret
      exact ⟨rfl, (by repeat (first | (with_reducible refine Frm.alloc ?_ _) | (with_reducible refine Frm.drewN ?_ _) | (with_reducible refine Frm.drew ?_) | ((with_reducible refine Frm.setCell ?_ ?_ _); rotate_left; (focus (first | (left; simp; done) | (right; simp; done) | (right; simp; omega)))) | with_reducible assumption | with_reducible exact Frm.refl _ _ | (with_reducible refine Frm.trans0 ?_ ‹_›)))⟩
  obtain ⟨a1, a2⟩ := ia
  by_cases hm : a = -9223372036854775808
  · subst hm
    exact core 0 10 0 10 (turn_neg2_no rfl) (turn_abs_neg (by decide)) (.inl ⟨by decide, rfl, rfl⟩)
  · have hn : (a == -9223372036854775808) = false := by simpa using hm
    have u1 : Arith.minus a = .ok (-a) := fit_ok (by unfold I64; omega)
    have u2 : Arith.minus (-a) = .ok a := by rw [Arith.minus, Int.neg_neg]; exact fit_ok ⟨a1, a2⟩
    by_cases hp : 0 ≤ a
    · exact core a 0 (max a (-a)) 0 (turn_neg2_ok u1 u2) (by rw [turn_abs_pos hp, show max a (-a) = a by omega]) (.inr ⟨hn, rfl, rfl, rfl, rfl, by omega⟩)
    · exact core a 0 (max a (-a)) 0 (turn_neg2_ok u1 u2) (by rw [turn_abs_neg (by omega), u1, show max a (-a) = -a by omega]; rfl) (.inr ⟨hn, rfl, rfl, rfl, rfl, by omega⟩)
end Go.Proofs.Ytpffcfmhiebhdaa
