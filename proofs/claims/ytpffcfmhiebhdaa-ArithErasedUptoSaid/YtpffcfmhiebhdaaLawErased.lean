/- ArithErased: the walk. -/
import Derived.Test.YtpffcfmhiebhdaaErasedP
import Derived.Test.YtpffcfmhiebhdaaTermCheck
import Derived.Test.YtpffcfmhiebhdaaLawFaults
import Derived.WalkSpells
import Derived.WalkLawsBesides
import Derived.Deep.QuietTactic
import Derived.BigQuiet
import Derived.Deep.DeepCutAuto
import Derived.Deep.RegionHeld3
import Derived.Lib.Hide
import Derived.Handy
namespace Go.Proofs.Ytpffcfmhiebhdaa
open Go.RowKit

theorem term_Check_is {t : Term} {levels c : Int} (hc : t.check levels = c) (F : List Nat) (v : Value) (w : World) (hv : TermV F w t v) (hs : t.size ≤ 1048576) (hl : I64 levels) :
    Calls Try.prog 20 #[v, .int .i64 levels] w fun e w' => e = .returned (.int .i64 c) ∧ Frm [] w w' := by
  subst hc
  exact term_Check F t v levels w hv hs hl

set_option maxHeartbeats 4000000 in
theorem law_ArithErased (t : Term) (v : Value) (w : World) (ht : TermV [] w t v) (st : t.size ≤ 1048576) :
    Calls Try.prog 8 #[v] w fun e w' => e = .returned (.bool true) ∧ Frm [] w w' := by
  have core : ∀ (qa : Bool) (c x lev e x2 l2 e2 : Int), decide (t.size ≤ 300) = qa → t.check 9 = c → evalS Lat.nine .empty t = (x, lev, e) → evalS Lat.nine .empty t.erase = (x2, l2, e2) →
      (qa = false ∨ (qa = true ∧ (c == 0) = false) ∨ (qa = true ∧ c = 0 ∧ x2 = x ∧ e2 = e ∧ l2 = 0 ∧ Lat.nine.leq lev (Lat.nine.joinT t) = true)) →
      Calls Try.prog 8 #[v] w fun e w' => e = .returned (.bool true) ∧ Frm [] w w' := by
    intro qa c x lev e x2 l2 e2 q1 q2 t1 t2 hx
    have Q1 := Lib.hid q1
    have Q2 := Lib.hid q2
    have T1 := Lib.hid t1
    have T2 := Lib.hid t2
    clear q1 q2 t1 t2
    have hv := ht
    obtain ⟨A0, ca, rfl⟩ := ht.form
    generalize t.kids.length = la at *
    generalize t.kind = ka at *
    generalize t.n = na at *
    generalize t.s = za at *
    have e1 : True := trivial
    rcases hx with rfl | ⟨rfl, h1⟩ | ⟨rfl, rfl, rfl, rfl, rfl, h4⟩
    all_goals
      go_enter Try.func8, Try.ntmps8
      go_wp2_with (first
        | (go_at_call 9; refine (law_shown _).mono ?_; rintro e w1 ⟨rfl, F1⟩; have hbA1 := F1.at0 (((Frm.refl [] _)).at0 (alloc_heap_new w _)); have Fw1 : Frm [] w w1 := (by repeat (first | (with_reducible refine Frm.alloc ?_ _) | (with_reducible refine Frm.drewN ?_ _) | (with_reducible refine Frm.drew ?_) | ((with_reducible refine Frm.setCell ?_ ?_ _); rotate_left; (focus (first | (left; simp; done) | (right; simp; done) | (right; simp; omega)))) | with_reducible assumption | with_reducible exact Frm.refl _ _ | (with_reducible refine Frm.trans0 ?_ ‹_›))); clear F1)
        | (go_at_call 17; refine (law_chain 9 _ (by decide) (by decide)).mono ?_; rintro e w2 ⟨A, cap, rfl, hp, F2⟩)
        | (go_at_call 11; refine (lat_new 9 A cap (chainL (9 - 1)) _ (by decide) (by decide) hp (by decide)).mono ?_; rintro e w3 ⟨r, hr, F3, hm⟩; obtain rfl := Lat.made_nine hr; obtain ⟨lb, hlb, hl, rfl⟩ := hm; dsimp only)
        | (go_at_call 12; refine (store_new [] _ (by simp)).mono ?_; rintro e w4 ⟨rfl, hst, F4⟩; have hsz := hst.lt w3.heap.size (by simp); obtain ⟨z0, z1, z2, z3, z4, z5⟩ := blk4 (((by repeat (first | (with_reducible refine Frm.alloc ?_ _) | (with_reducible refine Frm.drewN ?_ _) | (with_reducible refine Frm.drew ?_) | ((with_reducible refine Frm.setCell ?_ ?_ _); rotate_left; (focus (first | (left; simp; done) | (right; simp; done) | (right; simp; omega)))) | with_reducible assumption | with_reducible exact Frm.refl _ _ | (with_reducible refine Frm.trans0 ?_ ‹_›))) : Frm [] w1 w4).at0 hbA1); have hlw : w.heap.size ≤ w3.heap.size := (Frm.size (F := []) (by repeat (first | (with_reducible refine Frm.alloc ?_ _) | (with_reducible refine Frm.drewN ?_ _) | (with_reducible refine Frm.drew ?_) | ((with_reducible refine Frm.setCell ?_ ?_ _); rotate_left; (focus (first | (left; simp; done) | (right; simp; done) | (right; simp; omega)))) | with_reducible assumption | with_reducible exact Frm.refl _ _ | (with_reducible refine Frm.trans0 ?_ ‹_›)))); have hA := hv.away (F' := [w3.heap.size]) (by simp; omega))
        | (go_at_call 18; refine (law_few_is Q1.out [] _ _ (hv.keep (by repeat (first | (with_reducible refine Frm.alloc ?_ _) | (with_reducible refine Frm.drewN ?_ _) | (with_reducible refine Frm.drew ?_) | ((with_reducible refine Frm.setCell ?_ ?_ _); rotate_left; (focus (first | (left; simp; done) | (right; simp; done) | (right; simp; omega)))) | with_reducible assumption | with_reducible exact Frm.refl _ _ | (with_reducible refine Frm.trans0 ?_ ‹_›)))) st).mono ?_; rintro e w5 ⟨rfl, F5⟩; obtain ⟨z0, z1, z2, z3, z4, z5⟩ := blk4 (((by repeat (first | (with_reducible refine Frm.alloc ?_ _) | (with_reducible refine Frm.drewN ?_ _) | (with_reducible refine Frm.drew ?_) | ((with_reducible refine Frm.setCell ?_ ?_ _); rotate_left; (focus (first | (left; simp; done) | (right; simp; done) | (right; simp; omega)))) | with_reducible assumption | with_reducible exact Frm.refl _ _ | (with_reducible refine Frm.trans0 ?_ ‹_›))) : Frm [] w1 w5).at0 hbA1))
        | (go_at_call 20; refine (term_Check_is Q2.out [] _ _ (hv.keep (by repeat (first | (with_reducible refine Frm.alloc ?_ _) | (with_reducible refine Frm.drewN ?_ _) | (with_reducible refine Frm.drew ?_) | ((with_reducible refine Frm.setCell ?_ ?_ _); rotate_left; (focus (first | (left; simp; done) | (right; simp; done) | (right; simp; omega)))) | with_reducible assumption | with_reducible exact Frm.refl _ _ | (with_reducible refine Frm.trans0 ?_ ‹_›)))) st (by unfold I64; omega)).mono ?_; rintro e w6 ⟨rfl, F6⟩; obtain ⟨z0, z1, z2, z3, z4, z5⟩ := blk4 (((by repeat (first | (with_reducible refine Frm.alloc ?_ _) | (with_reducible refine Frm.drewN ?_ _) | (with_reducible refine Frm.drew ?_) | ((with_reducible refine Frm.setCell ?_ ?_ _); rotate_left; (focus (first | (left; simp; done) | (right; simp; done) | (right; simp; omega)))) | with_reducible assumption | with_reducible exact Frm.refl _ _ | (with_reducible refine Frm.trans0 ?_ ‹_›))) : Frm [] w1 w6).at0 hbA1))
        | (go_at_call 14; clear e1; refine (arith_Eval_is T1.out [w3.heap.size] [w3.heap.size] _ _ _ _ (hl.frm0 (by repeat (first | (with_reducible refine Frm.alloc ?_ _) | (with_reducible refine Frm.drewN ?_ _) | (with_reducible refine Frm.drew ?_) | ((with_reducible refine Frm.setCell ?_ ?_ _); rotate_left; (focus (first | (left; simp; done) | (right; simp; done) | (right; simp; omega)))) | with_reducible assumption | with_reducible exact Frm.refl _ _ | (with_reducible refine Frm.trans0 ?_ ‹_›)))) (hst.keep (by repeat (first | (with_reducible refine Frm.alloc ?_ _) | (with_reducible refine Frm.drewN ?_ _) | (with_reducible refine Frm.drew ?_) | ((with_reducible refine Frm.setCell ?_ ?_ _); rotate_left; (focus (first | (left; simp; done) | (right; simp; done) | (right; simp; omega)))) | with_reducible assumption | with_reducible exact Frm.refl _ _ | (with_reducible refine Frm.trans0 ?_ ‹_›)))) (hA.keep (by repeat (first | (with_reducible refine Frm.alloc ?_ _) | (with_reducible refine Frm.drewN ?_ _) | (with_reducible refine Frm.drew ?_) | ((with_reducible refine Frm.setCell ?_ ?_ _); rotate_left; (focus (first | (left; simp; done) | (right; simp; done) | (right; simp; omega)))) | with_reducible assumption | with_reducible exact Frm.refl _ _ | (with_reducible refine Frm.trans0 ?_ ‹_›))))).mono ?_; rintro e w7 ⟨rfl, F7⟩; obtain ⟨z0, z1, z2, z3, z4, z5⟩ := blk4 (((by repeat (first | (with_reducible refine Frm.alloc ?_ _) | (with_reducible refine Frm.drewN ?_ _) | (with_reducible refine Frm.drew ?_) | ((with_reducible refine Frm.setCell ?_ ?_ _); rotate_left; (focus (first | (left; simp; done) | (right; simp; done) | (right; simp; omega)))) | with_reducible assumption | with_reducible exact Frm.refl _ _ | (with_reducible refine Frm.trans0 ?_ ‹_›))) : Frm [] w1 w7).at0 hbA1); have hsz : w3.heap.size < w7.heap.size := (by have := Frm.size (F := []) (w := w4) (w' := w7) (by repeat (first | (with_reducible refine Frm.alloc ?_ _) | (with_reducible refine Frm.drewN ?_ _) | (with_reducible refine Frm.drew ?_) | ((with_reducible refine Frm.setCell ?_ ?_ _); rotate_left; (focus (first | (left; simp; done) | (right; simp; done) | (right; simp; omega)))) | with_reducible assumption | with_reducible exact Frm.refl _ _ | (with_reducible refine Frm.trans0 ?_ ‹_›))); omega))
        | (go_at_call 21; refine (seal_erase t [w3.heap.size] _ _ (hA.keep (by repeat (first | (with_reducible refine Frm.alloc ?_ _) | (with_reducible refine Frm.drewN ?_ _) | (with_reducible refine Frm.drew ?_) | ((with_reducible refine Frm.setCell ?_ ?_ _); rotate_left; (focus (first | (left; simp; done) | (right; simp; done) | (right; simp; omega)))) | with_reducible assumption | with_reducible exact Frm.refl _ _ | (with_reducible refine Frm.trans0 ?_ ‹_›)))) (by simp; omega)).mono ?_; rintro e w8 ⟨⟨v8, rfl, hv8⟩, F8⟩)
        | (go_at_call 14; refine (arith_Eval_is T2.out [w3.heap.size] [w3.heap.size] _ _ _ _ (hl.frm0 (by repeat (first | (with_reducible refine Frm.alloc ?_ _) | (with_reducible refine Frm.drewN ?_ _) | (with_reducible refine Frm.drew ?_) | ((with_reducible refine Frm.setCell ?_ ?_ _); rotate_left; (focus (first | (left; simp; done) | (right; simp; done) | (right; simp; omega)))) | with_reducible assumption | with_reducible exact Frm.refl _ _ | (with_reducible refine Frm.trans0 ?_ ‹_›)))) (hst.keep (by repeat (first | (with_reducible refine Frm.alloc ?_ _) | (with_reducible refine Frm.drewN ?_ _) | (with_reducible refine Frm.drew ?_) | ((with_reducible refine Frm.setCell ?_ ?_ _); rotate_left; (focus (first | (left; simp; done) | (right; simp; done) | (right; simp; omega)))) | with_reducible assumption | with_reducible exact Frm.refl _ _ | (with_reducible refine Frm.trans0 ?_ ‹_›)))) hv8).mono ?_; rintro e w9 ⟨rfl, F9⟩; obtain ⟨z0, z1, z2, z3, z4, z5⟩ := blk4 (((by repeat (first | (with_reducible refine Frm.alloc ?_ _) | (with_reducible refine Frm.drewN ?_ _) | (with_reducible refine Frm.drew ?_) | ((with_reducible refine Frm.setCell ?_ ?_ _); rotate_left; (focus (first | (left; simp; done) | (right; simp; done) | (right; simp; omega)))) | with_reducible assumption | with_reducible exact Frm.refl _ _ | (with_reducible refine Frm.trans0 ?_ ‹_›))) : Frm [] w1 w9).at0 hbA1))
        | (go_at_call 22; refine (lat_bottom _ _ _ (hl.frm0 (by repeat (first | (with_reducible refine Frm.alloc ?_ _) | (with_reducible refine Frm.drewN ?_ _) | (with_reducible refine Frm.drew ?_) | ((with_reducible refine Frm.setCell ?_ ?_ _); rotate_left; (focus (first | (left; simp; done) | (right; simp; done) | (right; simp; omega)))) | with_reducible assumption | with_reducible exact Frm.refl _ _ | (with_reducible refine Frm.trans0 ?_ ‹_›))))).mono ?_; rintro e w10 ⟨rfl, rfl⟩; rw [nine_bottom])
        | (go_at_call 23; refine (seal_join _ _ t [] _ _ (hl.frm0 (by repeat (first | (with_reducible refine Frm.alloc ?_ _) | (with_reducible refine Frm.drewN ?_ _) | (with_reducible refine Frm.drew ?_) | ((with_reducible refine Frm.setCell ?_ ?_ _); rotate_left; (focus (first | (left; simp; done) | (right; simp; done) | (right; simp; omega)))) | with_reducible assumption | with_reducible exact Frm.refl _ _ | (with_reducible refine Frm.trans0 ?_ ‹_›)))) (hv.keep (by repeat (first | (with_reducible refine Frm.alloc ?_ _) | (with_reducible refine Frm.drewN ?_ _) | (with_reducible refine Frm.drew ?_) | ((with_reducible refine Frm.setCell ?_ ?_ _); rotate_left; (focus (first | (left; simp; done) | (right; simp; done) | (right; simp; omega)))) | with_reducible assumption | with_reducible exact Frm.refl _ _ | (with_reducible refine Frm.trans0 ?_ ‹_›))))).mono ?_; rintro e w11 ⟨rfl, F11⟩)
        | (go_at_call 19; refine (lat_leq _ _ _ _ _ (hl.frm0 (by repeat (first | (with_reducible refine Frm.alloc ?_ _) | (with_reducible refine Frm.drewN ?_ _) | (with_reducible refine Frm.drew ?_) | ((with_reducible refine Frm.setCell ?_ ?_ _); rotate_left; (focus (first | (left; simp; done) | (right; simp; done) | (right; simp; omega)))) | with_reducible assumption | with_reducible exact Frm.refl _ _ | (with_reducible refine Frm.trans0 ?_ ‹_›))))).mono ?_; rintro e w12 ⟨rfl, rfl⟩; rw [h4]))
    all_goals
      go_ret
      exact ⟨rfl, (by repeat (first | (with_reducible refine Frm.alloc ?_ _) | (with_reducible refine Frm.drewN ?_ _) | (with_reducible refine Frm.drew ?_) | ((with_reducible refine Frm.setCell ?_ ?_ _); rotate_left; (focus (first | (left; simp; done) | (right; simp; done) | (right; simp; omega)))) | with_reducible assumption | with_reducible exact Frm.refl _ _ | (with_reducible refine Frm.trans0 ?_ ‹_›)))⟩
  cases h1 : evalS Lat.nine .empty t with
  | mk x r1 =>
  obtain ⟨lev, e⟩ := r1
  cases h2 : evalS Lat.nine .empty t.erase with
  | mk x2 r2 =>
  obtain ⟨l2, e2⟩ := r2
  refine core _ _ _ _ _ _ _ _ rfl rfl h1 h2 ?_
  by_cases q1 : t.size ≤ 300
  · refine .inr ?_
    rw [decide_eq_true q1]
    by_cases c0 : t.check 9 = 0
    · obtain ⟨y, l, c, g1, g2, g3⟩ := erased_law t (wf_check c0)
      rw [h1] at g1
      rw [h2] at g2
      cases g1
      cases g2
      exact .inr ⟨rfl, c0, rfl, rfl, rfl, g3⟩
    · exact .inl ⟨rfl, beq_eq_false_iff_ne.2 c0⟩
  · exact .inl (decide_eq_false q1)
end Go.Proofs.Ytpffcfmhiebhdaa
