/- ArithFaults: the walk. -/
import Derived.Test.YtpffcfmhiebhdaaFaultsP
import Derived.Test.YtpffcfmhiebhdaaRefSize
import Derived.Test.YtpffcfmhiebhdaaLawTurns
import Derived.WalkSpells
import Derived.WalkLawsBesides
import Derived.Deep.QuietTactic
import Derived.BigQuiet
import Derived.Deep.DeepCutAuto
import Derived.Deep.RegionHeld3
import Derived.Lib.Hide
import Derived.Handy
namespace Go.Proofs.Ytpffcfmhiebhdaa
open Go.RowKit

theorem kids_row3 {F : List Nat} {w : World} {b : Nat} {c0 c1 c2 c3 d0 d1 d2 d3 e0 e1 e2 e3 : Value} {ty : TypeId} {t u x : Term} (h : w.heap[b]? = some (.cells #[c0, c1, c2, c3, d0, d1, d2, d3, e0, e1, e2, e3] ty (0, 0))) (hb : b ∉ F)
    (ht : TermV F w t (.agg #[c0, c1, c2, c3])) (hu : TermV F w u (.agg #[d0, d1, d2, d3])) (hx : TermV F w x (.agg #[e0, e1, e2, e3])) : KidsV F w [t, u, x] (some ⟨b, 0, none⟩) 0 := by
  simp only [KidsV, and_true]
  exact ⟨⟨b, 0, c0, c1, c2, c3, rfl, hb, by simp [World.cell?, h], by simp [World.cell?, h], by simp [World.cell?, h], by simp [World.cell?, h], ht⟩,
    ⟨b, 0, d0, d1, d2, d3, rfl, hb, by simp [World.cell?, h], by simp [World.cell?, h], by simp [World.cell?, h], by simp [World.cell?, h], hu⟩,
    ⟨b, 0, e0, e1, e2, e3, rfl, hb, by simp [World.cell?, h], by simp [World.cell?, h], by simp [World.cell?, h], by simp [World.cell?, h], hx⟩⟩
theorem law_few_is {t : Term} {q : Bool} (hq : decide (t.size ≤ 300) = q) (F : List Nat) (v : Value) (w : World) (h : TermV F w t v) (hs : t.size ≤ 1048576) :
    Calls Try.prog 18 #[v] w fun e w' => e = .returned (.bool q) ∧ Frm [] w w' := by
  subst hq
  exact law_few F t v w h hs
def sumT (a b : Term) : Term := .mk 3 0 ⟨#[43]⟩ [a, b]

set_option maxHeartbeats 4000000 in
theorem law_ArithFaults (s : ByteArray) (a b : Term) (va vb : Value) (w : World) (hs : s.size ≤ 1048576) (ha : TermV [] w a va) (hb : TermV [] w b vb) (sa : a.size ≤ 1048576) (sb : b.size ≤ 1048576) :
    Calls Try.prog 7 #[.string s, va, vb] w fun e w' => e = .returned (.bool true) ∧ Frm [] w w' := by
  have core : ∀ (qa qb : Bool) (x1 n e x2 n2 f x3 m h x4 n4 : Int), decide (a.size ≤ 300) = qa → decide (b.size ≤ 300) = qb → evalS Lat.nine .empty a = (x1, n, e) → evalS Lat.nine .empty b = (x2, n2, f) →
      evalS Lat.nine .empty (sumT a b) = (x3, m, h) → evalS Lat.nine .empty (.mk 3 0 s [a, b, a]) = (x4, n4, 9) →
      (qa = false ∨ (qa = true ∧ qb = false) ∨ (qa = true ∧ qb = true ∧ (e == 3) = true) ∨ (qa = true ∧ qb = true ∧ (e == 3) = false ∧ (f == 3) = true) ∨ (qa = true ∧ qb = true ∧ (e == 3) = false ∧ (f == 3) = false ∧ (h == 3) = true) ∨
        (qa = true ∧ qb = true ∧ (e == 3) = false ∧ (f == 3) = false ∧ (e == 0) = false ∧ h = e ∧ m = n) ∨
        (qa = true ∧ qb = true ∧ e = 0 ∧ f = 0 ∧ (h == 3) = false ∧ Lat.nine.leq n m = true) ∨
        (qa = true ∧ qb = true ∧ e = 0 ∧ (f == 0) = false ∧ (f == 3) = false ∧ h = f ∧ Lat.nine.leq n m = true)) →
      Calls Try.prog 7 #[.string s, va, vb] w fun e w' => e = .returned (.bool true) ∧ Frm [] w w' := by
    intro qa qb x1 n e x2 n2 f x3 m h x4 n4 q1 q2 t1 t2 t3 t4 hx
    have Q1 := Lib.hid q1
    have Q2 := Lib.hid q2
    have T1 := Lib.hid t1
    have T2 := Lib.hid t2
    have T3 := Lib.hid t3
    have T4 := Lib.hid t4
    clear q1 q2 t1 t2 t3 t4
    obtain ⟨A0, ca, rfl⟩ := ha.form
    obtain ⟨B0, cb, rfl⟩ := hb.form
    generalize a.kids.length = la at *
    generalize b.kids.length = lb at *
    generalize a.kind = ka at *
    generalize b.kind = kb at *
    generalize a.n = na at *
    generalize b.n = nb at *
    generalize a.s = za at *
    generalize b.s = zb at *
    have f1 : True := trivial
    have k1 : True := trivial
    have e1 : True := trivial
    have e2 : True := trivial
    have e3 : True := trivial
    rcases hx with rfl | ⟨rfl, rfl⟩ | ⟨rfl, rfl, h1⟩ | ⟨rfl, rfl, h1, h2⟩ | ⟨rfl, rfl, h1, h2, h3⟩ | ⟨rfl, rfl, h1, h2, h3, rfl, rfl⟩ | ⟨rfl, rfl, rfl, rfl, h3, h4⟩ | ⟨rfl, rfl, rfl, h2, h3, rfl, h4⟩
    all_goals
      go_enter Try.func7, Try.ntmps7
      go_wp2_with (first
        | (go_at_call 9; refine (law_shown _).mono ?_; rintro e w1 ⟨rfl, F1⟩; have hbA1 := F1.at0 (((Frm.refl [] _).alloc _).at0 (alloc_heap_new w _)); have hbB1 := F1.at0 (alloc_heap_eq _ _ _ (heap_size_alloc w _).symm); have Fw1 : Frm [] w w1 := (by repeat (first | (with_reducible refine Frm.alloc ?_ _) | (with_reducible refine Frm.drewN ?_ _) | (with_reducible refine Frm.drew ?_) | ((with_reducible refine Frm.setCell ?_ ?_ _); rotate_left; (focus (first | (left; simp; done) | (right; simp; done) | (right; simp; omega)))) | with_reducible assumption | with_reducible exact Frm.refl _ _ | (with_reducible refine Frm.trans0 ?_ ‹_›))); clear F1)
        | (go_at_call 17; refine (law_chain 9 _ (by decide) (by decide)).mono ?_; rintro e w2 ⟨A, cap, rfl, hp, F2⟩)
        | (go_at_call 11; refine (lat_new 9 A cap (chainL (9 - 1)) _ (by decide) (by decide) hp (by decide)).mono ?_; rintro e w3 ⟨r, hr, F3, hm⟩; obtain rfl := Lat.made_nine hr; obtain ⟨lb, hlb, hl, rfl⟩ := hm; dsimp only)
        | (go_at_call 12; refine (store_new [] _ (by simp)).mono ?_; rintro e w4 ⟨rfl, hst, F4⟩; have hsz := hst.lt w3.heap.size (by simp); obtain ⟨z0, z1, z2, z3, z4, z5⟩ := blk4 (((by repeat (first | (with_reducible refine Frm.alloc ?_ _) | (with_reducible refine Frm.drewN ?_ _) | (with_reducible refine Frm.drew ?_) | ((with_reducible refine Frm.setCell ?_ ?_ _); rotate_left; (focus (first | (left; simp; done) | (right; simp; done) | (right; simp; omega)))) | with_reducible assumption | with_reducible exact Frm.refl _ _ | (with_reducible refine Frm.trans0 ?_ ‹_›))) : Frm [] w1 w4).at0 hbA1); have hlw : w.heap.size ≤ w3.heap.size := (Frm.size (F := []) (by repeat (first | (with_reducible refine Frm.alloc ?_ _) | (with_reducible refine Frm.drewN ?_ _) | (with_reducible refine Frm.drew ?_) | ((with_reducible refine Frm.setCell ?_ ?_ _); rotate_left; (focus (first | (left; simp; done) | (right; simp; done) | (right; simp; omega)))) | with_reducible assumption | with_reducible exact Frm.refl _ _ | (with_reducible refine Frm.trans0 ?_ ‹_›)))))
        | (go_at_call 18; clear f1; refine (law_few_is Q1.out [] _ _ (ha.keep (by repeat (first | (with_reducible refine Frm.alloc ?_ _) | (with_reducible refine Frm.drewN ?_ _) | (with_reducible refine Frm.drew ?_) | ((with_reducible refine Frm.setCell ?_ ?_ _); rotate_left; (focus (first | (left; simp; done) | (right; simp; done) | (right; simp; omega)))) | with_reducible assumption | with_reducible exact Frm.refl _ _ | (with_reducible refine Frm.trans0 ?_ ‹_›)))) sa).mono ?_; rintro e w5 ⟨rfl, F5⟩; obtain ⟨y0, y1, y2, y3, y4, y5⟩ := blk4 (((by repeat (first | (with_reducible refine Frm.alloc ?_ _) | (with_reducible refine Frm.drewN ?_ _) | (with_reducible refine Frm.drew ?_) | ((with_reducible refine Frm.setCell ?_ ?_ _); rotate_left; (focus (first | (left; simp; done) | (right; simp; done) | (right; simp; omega)))) | with_reducible assumption | with_reducible exact Frm.refl _ _ | (with_reducible refine Frm.trans0 ?_ ‹_›))) : Frm [] w1 w5).at0 hbB1))
        | (go_at_call 18; refine (law_few_is Q2.out [] _ _ (hb.keep (by repeat (first | (with_reducible refine Frm.alloc ?_ _) | (with_reducible refine Frm.drewN ?_ _) | (with_reducible refine Frm.drew ?_) | ((with_reducible refine Frm.setCell ?_ ?_ _); rotate_left; (focus (first | (left; simp; done) | (right; simp; done) | (right; simp; omega)))) | with_reducible assumption | with_reducible exact Frm.refl _ _ | (with_reducible refine Frm.trans0 ?_ ‹_›)))) sb).mono ?_; rintro e w6 ⟨rfl, F6⟩; obtain ⟨z0, z1, z2, z3, z4, z5⟩ := blk4 (((by repeat (first | (with_reducible refine Frm.alloc ?_ _) | (with_reducible refine Frm.drewN ?_ _) | (with_reducible refine Frm.drew ?_) | ((with_reducible refine Frm.setCell ?_ ?_ _); rotate_left; (focus (first | (left; simp; done) | (right; simp; done) | (right; simp; omega)))) | with_reducible assumption | with_reducible exact Frm.refl _ _ | (with_reducible refine Frm.trans0 ?_ ‹_›))) : Frm [] w1 w6).at0 hbA1); have hA := ha.away (F' := [w3.heap.size]) (by simp; omega); have hB := hb.away (F' := [w3.heap.size]) (by simp; omega))
        | (go_at_call 14; clear e1; refine (arith_Eval_is T1.out [w3.heap.size] [w3.heap.size] _ _ _ _ (hl.frm0 (by repeat (first | (with_reducible refine Frm.alloc ?_ _) | (with_reducible refine Frm.drewN ?_ _) | (with_reducible refine Frm.drew ?_) | ((with_reducible refine Frm.setCell ?_ ?_ _); rotate_left; (focus (first | (left; simp; done) | (right; simp; done) | (right; simp; omega)))) | with_reducible assumption | with_reducible exact Frm.refl _ _ | (with_reducible refine Frm.trans0 ?_ ‹_›)))) (hst.keep (by repeat (first | (with_reducible refine Frm.alloc ?_ _) | (with_reducible refine Frm.drewN ?_ _) | (with_reducible refine Frm.drew ?_) | ((with_reducible refine Frm.setCell ?_ ?_ _); rotate_left; (focus (first | (left; simp; done) | (right; simp; done) | (right; simp; omega)))) | with_reducible assumption | with_reducible exact Frm.refl _ _ | (with_reducible refine Frm.trans0 ?_ ‹_›)))) (hA.keep (by repeat (first | (with_reducible refine Frm.alloc ?_ _) | (with_reducible refine Frm.drewN ?_ _) | (with_reducible refine Frm.drew ?_) | ((with_reducible refine Frm.setCell ?_ ?_ _); rotate_left; (focus (first | (left; simp; done) | (right; simp; done) | (right; simp; omega)))) | with_reducible assumption | with_reducible exact Frm.refl _ _ | (with_reducible refine Frm.trans0 ?_ ‹_›))))).mono ?_; rintro e w7 ⟨rfl, F7⟩; obtain ⟨y0, y1, y2, y3, y4, y5⟩ := blk4 (((by repeat (first | (with_reducible refine Frm.alloc ?_ _) | (with_reducible refine Frm.drewN ?_ _) | (with_reducible refine Frm.drew ?_) | ((with_reducible refine Frm.setCell ?_ ?_ _); rotate_left; (focus (first | (left; simp; done) | (right; simp; done) | (right; simp; omega)))) | with_reducible assumption | with_reducible exact Frm.refl _ _ | (with_reducible refine Frm.trans0 ?_ ‹_›))) : Frm [] w1 w7).at0 hbB1))
        | (go_at_call 14; clear e2; refine (arith_Eval_is T2.out [w3.heap.size] [w3.heap.size] _ _ _ _ (hl.frm0 (by repeat (first | (with_reducible refine Frm.alloc ?_ _) | (with_reducible refine Frm.drewN ?_ _) | (with_reducible refine Frm.drew ?_) | ((with_reducible refine Frm.setCell ?_ ?_ _); rotate_left; (focus (first | (left; simp; done) | (right; simp; done) | (right; simp; omega)))) | with_reducible assumption | with_reducible exact Frm.refl _ _ | (with_reducible refine Frm.trans0 ?_ ‹_›)))) (hst.keep (by repeat (first | (with_reducible refine Frm.alloc ?_ _) | (with_reducible refine Frm.drewN ?_ _) | (with_reducible refine Frm.drew ?_) | ((with_reducible refine Frm.setCell ?_ ?_ _); rotate_left; (focus (first | (left; simp; done) | (right; simp; done) | (right; simp; omega)))) | with_reducible assumption | with_reducible exact Frm.refl _ _ | (with_reducible refine Frm.trans0 ?_ ‹_›)))) (hB.keep (by repeat (first | (with_reducible refine Frm.alloc ?_ _) | (with_reducible refine Frm.drewN ?_ _) | (with_reducible refine Frm.drew ?_) | ((with_reducible refine Frm.setCell ?_ ?_ _); rotate_left; (focus (first | (left; simp; done) | (right; simp; done) | (right; simp; omega)))) | with_reducible assumption | with_reducible exact Frm.refl _ _ | (with_reducible refine Frm.trans0 ?_ ‹_›))))).mono ?_; rintro e w8 ⟨rfl, F8⟩; obtain ⟨z0, z1, z2, z3, z4, z5⟩ := blk4 (((by repeat (first | (with_reducible refine Frm.alloc ?_ _) | (with_reducible refine Frm.drewN ?_ _) | (with_reducible refine Frm.drew ?_) | ((with_reducible refine Frm.setCell ?_ ?_ _); rotate_left; (focus (first | (left; simp; done) | (right; simp; done) | (right; simp; omega)))) | with_reducible assumption | with_reducible exact Frm.refl _ _ | (with_reducible refine Frm.trans0 ?_ ‹_›))) : Frm [] w1 w8).at0 hbA1); obtain ⟨y0, y1, y2, y3, y4, y5⟩ := blk4 (((by repeat (first | (with_reducible refine Frm.alloc ?_ _) | (with_reducible refine Frm.drewN ?_ _) | (with_reducible refine Frm.drew ?_) | ((with_reducible refine Frm.setCell ?_ ?_ _); rotate_left; (focus (first | (left; simp; done) | (right; simp; done) | (right; simp; omega)))) | with_reducible assumption | with_reducible exact Frm.refl _ _ | (with_reducible refine Frm.trans0 ?_ ‹_›))) : Frm [] w1 w8).at0 hbB1); have hsz : w3.heap.size < w8.heap.size := (by have := Frm.size (F := []) (w := w4) (w' := w8) (by repeat (first | (with_reducible refine Frm.alloc ?_ _) | (with_reducible refine Frm.drewN ?_ _) | (with_reducible refine Frm.drew ?_) | ((with_reducible refine Frm.setCell ?_ ?_ _); rotate_left; (focus (first | (left; simp; done) | (right; simp; done) | (right; simp; omega)))) | with_reducible assumption | with_reducible exact Frm.refl _ _ | (with_reducible refine Frm.trans0 ?_ ‹_›))); omega))
        | (go_at_call 15; clear k1; refine (term_make [w3.heap.size] ⟨#[43]⟩ _ [a, b] 2 _ (kids_row2 (alloc_heap_new _ _) (by simp; omega) (hA.keep (by repeat (first | (with_reducible refine Frm.alloc ?_ _) | (with_reducible refine Frm.drewN ?_ _) | (with_reducible refine Frm.drew ?_) | ((with_reducible refine Frm.setCell ?_ ?_ _); rotate_left; (focus (first | (left; simp; done) | (right; simp; done) | (right; simp; omega)))) | with_reducible assumption | with_reducible exact Frm.refl _ _ | (with_reducible refine Frm.trans0 ?_ ‹_›)))) (hB.keep (by repeat (first | (with_reducible refine Frm.alloc ?_ _) | (with_reducible refine Frm.drewN ?_ _) | (with_reducible refine Frm.drew ?_) | ((with_reducible refine Frm.setCell ?_ ?_ _); rotate_left; (focus (first | (left; simp; done) | (right; simp; done) | (right; simp; omega)))) | with_reducible assumption | with_reducible exact Frm.refl _ _ | (with_reducible refine Frm.trans0 ?_ ‹_›))))) (.inr ⟨_, _, rfl⟩) (by simp; omega) (by simp) (by decide)).mono ?_; rintro e w9 ⟨⟨v9, rfl, hv9⟩, F9⟩)
        | (go_at_call 14; clear e3; refine (arith_Eval_is T3.out [w3.heap.size] [w3.heap.size] _ _ _ _ (hl.frm0 (by repeat (first | (with_reducible refine Frm.alloc ?_ _) | (with_reducible refine Frm.drewN ?_ _) | (with_reducible refine Frm.drew ?_) | ((with_reducible refine Frm.setCell ?_ ?_ _); rotate_left; (focus (first | (left; simp; done) | (right; simp; done) | (right; simp; omega)))) | with_reducible assumption | with_reducible exact Frm.refl _ _ | (with_reducible refine Frm.trans0 ?_ ‹_›)))) (hst.keep (by repeat (first | (with_reducible refine Frm.alloc ?_ _) | (with_reducible refine Frm.drewN ?_ _) | (with_reducible refine Frm.drew ?_) | ((with_reducible refine Frm.setCell ?_ ?_ _); rotate_left; (focus (first | (left; simp; done) | (right; simp; done) | (right; simp; omega)))) | with_reducible assumption | with_reducible exact Frm.refl _ _ | (with_reducible refine Frm.trans0 ?_ ‹_›)))) hv9).mono ?_; rintro e w10 ⟨rfl, F10⟩; obtain ⟨z0, z1, z2, z3, z4, z5⟩ := blk4 (((by repeat (first | (with_reducible refine Frm.alloc ?_ _) | (with_reducible refine Frm.drewN ?_ _) | (with_reducible refine Frm.drew ?_) | ((with_reducible refine Frm.setCell ?_ ?_ _); rotate_left; (focus (first | (left; simp; done) | (right; simp; done) | (right; simp; omega)))) | with_reducible assumption | with_reducible exact Frm.refl _ _ | (with_reducible refine Frm.trans0 ?_ ‹_›))) : Frm [] w1 w10).at0 hbA1); obtain ⟨y0, y1, y2, y3, y4, y5⟩ := blk4 (((by repeat (first | (with_reducible refine Frm.alloc ?_ _) | (with_reducible refine Frm.drewN ?_ _) | (with_reducible refine Frm.drew ?_) | ((with_reducible refine Frm.setCell ?_ ?_ _); rotate_left; (focus (first | (left; simp; done) | (right; simp; done) | (right; simp; omega)))) | with_reducible assumption | with_reducible exact Frm.refl _ _ | (with_reducible refine Frm.trans0 ?_ ‹_›))) : Frm [] w1 w10).at0 hbB1); have hsz : w3.heap.size < w10.heap.size := (by have := Frm.size (F := []) (w := w4) (w' := w10) (by repeat (first | (with_reducible refine Frm.alloc ?_ _) | (with_reducible refine Frm.drewN ?_ _) | (with_reducible refine Frm.drew ?_) | ((with_reducible refine Frm.setCell ?_ ?_ _); rotate_left; (focus (first | (left; simp; done) | (right; simp; done) | (right; simp; omega)))) | with_reducible assumption | with_reducible exact Frm.refl _ _ | (with_reducible refine Frm.trans0 ?_ ‹_›))); omega))
        | (go_at_call 15; refine (term_make [w3.heap.size] s _ [a, b, a] 3 _ (kids_row3 (alloc_heap_new _ _) (by simp; omega) (hA.keep (by repeat (first | (with_reducible refine Frm.alloc ?_ _) | (with_reducible refine Frm.drewN ?_ _) | (with_reducible refine Frm.drew ?_) | ((with_reducible refine Frm.setCell ?_ ?_ _); rotate_left; (focus (first | (left; simp; done) | (right; simp; done) | (right; simp; omega)))) | with_reducible assumption | with_reducible exact Frm.refl _ _ | (with_reducible refine Frm.trans0 ?_ ‹_›)))) (hB.keep (by repeat (first | (with_reducible refine Frm.alloc ?_ _) | (with_reducible refine Frm.drewN ?_ _) | (with_reducible refine Frm.drew ?_) | ((with_reducible refine Frm.setCell ?_ ?_ _); rotate_left; (focus (first | (left; simp; done) | (right; simp; done) | (right; simp; omega)))) | with_reducible assumption | with_reducible exact Frm.refl _ _ | (with_reducible refine Frm.trans0 ?_ ‹_›)))) (hA.keep (by repeat (first | (with_reducible refine Frm.alloc ?_ _) | (with_reducible refine Frm.drewN ?_ _) | (with_reducible refine Frm.drew ?_) | ((with_reducible refine Frm.setCell ?_ ?_ _); rotate_left; (focus (first | (left; simp; done) | (right; simp; done) | (right; simp; omega)))) | with_reducible assumption | with_reducible exact Frm.refl _ _ | (with_reducible refine Frm.trans0 ?_ ‹_›))))) (.inr ⟨_, _, rfl⟩) (by simp; omega) (by simp) hs).mono ?_; rintro e w11 ⟨⟨v11, rfl, hv11⟩, F11⟩)
        | (go_at_call 14; refine (arith_Eval_is T4.out [w3.heap.size] [w3.heap.size] _ _ _ _ (hl.frm0 (by repeat (first | (with_reducible refine Frm.alloc ?_ _) | (with_reducible refine Frm.drewN ?_ _) | (with_reducible refine Frm.drew ?_) | ((with_reducible refine Frm.setCell ?_ ?_ _); rotate_left; (focus (first | (left; simp; done) | (right; simp; done) | (right; simp; omega)))) | with_reducible assumption | with_reducible exact Frm.refl _ _ | (with_reducible refine Frm.trans0 ?_ ‹_›)))) (hst.keep (by repeat (first | (with_reducible refine Frm.alloc ?_ _) | (with_reducible refine Frm.drewN ?_ _) | (with_reducible refine Frm.drew ?_) | ((with_reducible refine Frm.setCell ?_ ?_ _); rotate_left; (focus (first | (left; simp; done) | (right; simp; done) | (right; simp; omega)))) | with_reducible assumption | with_reducible exact Frm.refl _ _ | (with_reducible refine Frm.trans0 ?_ ‹_›)))) hv11).mono ?_; rintro e w12 ⟨rfl, F12⟩)
        | (go_at_call 19; refine (lat_leq _ _ _ _ _ (hl.frm0 (by repeat (first | (with_reducible refine Frm.alloc ?_ _) | (with_reducible refine Frm.drewN ?_ _) | (with_reducible refine Frm.drew ?_) | ((with_reducible refine Frm.setCell ?_ ?_ _); rotate_left; (focus (first | (left; simp; done) | (right; simp; done) | (right; simp; omega)))) | with_reducible assumption | with_reducible exact Frm.refl _ _ | (with_reducible refine Frm.trans0 ?_ ‹_›))))).mono ?_; rintro e w13 ⟨rfl, rfl⟩; rw [h4]))
    all_goals
      go_ret
      exact ⟨rfl, (by repeat (first | (with_reducible refine Frm.alloc ?_ _) | (with_reducible refine Frm.drewN ?_ _) | (with_reducible refine Frm.drew ?_) | ((with_reducible refine Frm.setCell ?_ ?_ _); rotate_left; (focus (first | (left; simp; done) | (right; simp; done) | (right; simp; omega)))) | with_reducible assumption | with_reducible exact Frm.refl _ _ | (with_reducible refine Frm.trans0 ?_ ‹_›)))⟩
  cases h1 : evalS Lat.nine .empty a with
  | mk x1 r1 =>
  obtain ⟨n, e⟩ := r1
  cases h2 : evalS Lat.nine .empty b with
  | mk x2 r2 =>
  obtain ⟨n2, f⟩ := r2
  cases h3 : evalS Lat.nine .empty (sumT a b) with
  | mk x3 r3 =>
  obtain ⟨m, h⟩ := r3
  cases h4 : evalS Lat.nine .empty (.mk 3 0 s [a, b, a]) with
  | mk x4 r4 =>
  obtain ⟨n4, i⟩ := r4
  have t3 := faults_three s a b
  rw [h4] at t3
  obtain rfl : i = 9 := t3
  have t := faults_sum a b
  rw [show (Term.mk 3 0 ⟨#[43]⟩ [a, b]) = sumT a b from rfl, h1, h2, h3] at t
  dsimp only at t
  refine core _ _ _ _ _ _ _ _ _ _ _ _ _ rfl rfl h1 h2 h3 h4 ?_
  simp only [beq_iff_eq, beq_eq_false_iff_ne]
  cases decide (a.size ≤ 300)
  · exact .inl rfl
  cases decide (b.size ≤ 300)
  · exact .inr (.inl ⟨rfl, rfl⟩)
  refine .inr (.inr ?_)
  by_cases c1 : e = 3
  · exact .inl ⟨rfl, rfl, c1⟩
  by_cases c2 : f = 3
  · exact .inr (.inl ⟨rfl, rfl, c1, c2⟩)
  by_cases c3 : h = 3
  · exact .inr (.inr (.inl ⟨rfl, rfl, c1, c2, c3⟩))
  refine .inr (.inr (.inr ?_))
  rcases t with t | t | ⟨u1, u2, u3⟩ | ⟨u1, u2, u3⟩
  · exact absurd t c1
  · exact absurd t c3
  · exact .inl ⟨rfl, rfl, c1, c2, u1, u2, u3⟩
  · by_cases c4 : f = 0
    · exact .inr (.inl ⟨rfl, rfl, u1, c4, c3, u3⟩)
    · exact .inr (.inr ⟨rfl, rfl, u1, c4, c2, u2.resolve_left c4, u3⟩)
end Go.Proofs.Ytpffcfmhiebhdaa
