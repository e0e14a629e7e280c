/- BuiltErased. -/
import Derived.Test.YtkiofaojokofbaaGreatRowBErasedB
import Derived.WalkSpells
import Derived.WalkLawsBesides
import Derived.Deep.QuietTactic
import Derived.BigQuiet
import Derived.Deep.DeepCutAuto
import Derived.Deep.RegionHeld3
import Derived.Lib.Hide
import Derived.Handy
namespace Go.Proofs.YtkiofaojokofbaaGreat
open Go.RowKit

/-- A store with nothing bound lies away from whatever. -/
theorem StoreAt.bare {G F F' : List Nat} {w : World} {sb : Nat} {st : PStore} (h : StoreAt G F w sb st) (hn : ∀ t, some t ∉ st.cells) (h1 : ∀ b ∈ G, b ∈ F') (h2 : ∀ b ∈ F', b < w.heap.size) : StoreAt G F' w sb st := by
  obtain ⟨cv, tv, xs, k1, k2, k3, k4, k5, k6, k7, k8⟩ := h
  refine ⟨cv, tv, xs, k1, k2, k3, fun j o hj => ?_, k5, k6, h1, h2⟩
  obtain ⟨c0, c1, c2, c3, c4, e0, e1, e2, e3, e4, hc⟩ := k4 j o hj
  cases o with
  | none => exact ⟨c0, c1, c2, c3, c4, e0, e1, e2, e3, e4, hc⟩
  | some t => exact absurd (List.mem_of_getElem? hj) (hn t)
theorem st12_bare : ∀ t, some t ∉ st12.cells := fun t h => by
  have : st12.cells = List.replicate 12 none := rfl
  rw [this, List.mem_replicate] at h
  cases h.2

set_option maxRecDepth 100000 in
set_option maxHeartbeats 4000000 in
theorem erased_let (name : ByteArray) (a b : Term) (va vb : Value) (w : World) (hva : TermV [] w a va) (hsa : a.size ≤ 1048576) (hvb : TermV [] w b vb) (hsb : b.size ≤ 1048576) (h0 : ¬ (a.size ≤ 200 ∧ b.size ≤ 200 ∧ a.check 9 = 0 ∧ b.check 9 = 0)) :
    Calls Tryz.prog 6 #[.string name, va, vb] w fun e w' => e = .returned (.bool true) ∧ Frm [] w w' := by
  obtain ⟨A, ca, rfl⟩ := hva.form
  obtain ⟨B, cb, rfl⟩ := hvb.form
  have hx : ∃ (x y : Bool) (c d : Int), Hid (decide (a.size ≤ 200) = x) ∧ Hid (decide (b.size ≤ 200) = y) ∧ Hid (a.check 9 = c) ∧ Hid (b.check 9 = d) ∧ (x = false ∨ (x = true ∧ y = false) ∨ (x = true ∧ y = true ∧ (c != 0) = true) ∨ (x = true ∧ y = true ∧ c = 0 ∧ (d != 0) = true)) := by
    refine ⟨_, _, _, _, rfl, rfl, rfl, rfl, ?_⟩
    by_cases h1 : a.size ≤ 200
    · by_cases h2 : b.size ≤ 200
      · by_cases h3 : a.check 9 = 0
        · exact .inr (.inr (.inr ⟨by simpa using h1, by simpa using h2, h3, by simpa using fun h => h0 ⟨h1, h2, h3, h⟩⟩))
        · exact .inr (.inr (.inl ⟨by simpa using h1, by simpa using h2, by simpa using h3⟩))
      · exact .inr (.inl ⟨by simpa using h1, by simpa using h2⟩)
    · exact .inl (by simpa using h1)
  obtain ⟨x, y, c, d, HX, HY, HC, HD, hq⟩ := hx
  clear h0
  have m1 : True := trivial
  have m2 : True := trivial
  rcases hq with rfl | ⟨rfl, rfl⟩ | ⟨rfl, rfl, hc⟩ | ⟨rfl, rfl, rfl, hd⟩
  all_goals
    go_enter Tryz.func6, Tryz.ntmps6
    go_wp2_with (first
      | (go_at_call 9; refine (law_shown _).mono ?_; rintro e w1 ⟨rfl, F1⟩; have hba1 := F1.at0 (b := w.heap.size) (o := .cells #[.int .i64 a.kind, .int .i64 a.n, .string a.s, .slice A a.kids.length ca] 25 (0, 0)) (by repeat (first | rw [heap_alloc_at] | rw [heap_size_alloc] | rfl | rw [if_pos (by omega)] | rw [if_neg (by omega)])); have hbb1 := F1.at0 (b := w.heap.size + 1) (o := .cells #[.int .i64 b.kind, .int .i64 b.n, .string b.s, .slice B b.kids.length cb] 25 (0, 0)) (by repeat (first | rw [heap_alloc_at] | rw [heap_size_alloc] | rfl | rw [if_pos (by omega)] | rw [if_neg (by omega)])); obtain ⟨q0, q1, q2, q3, q4, q5⟩ := blk4 hba1; obtain ⟨z0, z1, z2, z3, z4, z5⟩ := blk4 hbb1)
      | (go_at_call 10; clear m1; refine (law_few [] a _ _ (hva.keep (by repeat (first | with_reducible (first | refine .alloc ?_ _ | refine .drewN ?_ _ | refine .drew ?_) | ((with_reducible refine .setCell ?_ ?_ _); rotate_left; focus (first | (left; simp; done) | (right; simp; (first | done | omega)))) | with_reducible (first | assumption | exact .refl _ _ | refine .trans0 ?_ ‹_›)))) hsa).mono ?_; rw [HX.out]; rintro e w2 ⟨rfl, F2⟩; have hba2 := F2.at0 hba1; have hbb2 := F2.at0 hbb1; obtain ⟨q0, q1, q2, q3, q4, q5⟩ := blk4 hba2; obtain ⟨z0, z1, z2, z3, z4, z5⟩ := blk4 hbb2)
      | (go_at_call 10; refine (law_few [] b _ _ (hvb.keep (by repeat (first | with_reducible (first | refine .alloc ?_ _ | refine .drewN ?_ _ | refine .drew ?_) | ((with_reducible refine .setCell ?_ ?_ _); rotate_left; focus (first | (left; simp; done) | (right; simp; (first | done | omega)))) | with_reducible (first | assumption | exact .refl _ _ | refine .trans0 ?_ ‹_›)))) hsb).mono ?_; rw [HY.out]; rintro e w3 ⟨rfl, F3⟩; have hba3 := F3.at0 hba2; have hbb3 := F3.at0 hbb2; obtain ⟨q0, q1, q2, q3, q4, q5⟩ := blk4 hba3; obtain ⟨z0, z1, z2, z3, z4, z5⟩ := blk4 hbb3)
      | (go_at_call 17; clear m2; refine (term_Check_is HC.out [] _ _ (hva.keep (by repeat (first | with_reducible (first | refine .alloc ?_ _ | refine .drewN ?_ _ | refine .drew ?_) | ((with_reducible refine .setCell ?_ ?_ _); rotate_left; focus (first | (left; simp; done) | (right; simp; (first | done | omega)))) | with_reducible (first | assumption | exact .refl _ _ | refine .trans0 ?_ ‹_›)))) hsa (by unfold I64; omega)).mono ?_; rintro e w4 ⟨rfl, F4⟩; obtain ⟨z0, z1, z2, z3, z4, z5⟩ := blk4 (F4.at0 hbb3))
      | (go_at_call 17; refine (term_Check_is HD.out [] _ _ (hvb.keep (by repeat (first | with_reducible (first | refine .alloc ?_ _ | refine .drewN ?_ _ | refine .drew ?_) | ((with_reducible refine .setCell ?_ ?_ _); rotate_left; focus (first | (left; simp; done) | (right; simp; (first | done | omega)))) | with_reducible (first | assumption | exact .refl _ _ | refine .trans0 ?_ ‹_›)))) hsb (by unfold I64; omega)).mono ?_; rintro e w5 ⟨rfl, F5⟩))
    go_ret
    exact ⟨rfl, (by repeat (first | with_reducible (first | refine .alloc ?_ _ | refine .drewN ?_ _ | refine .drew ?_) | ((with_reducible refine .setCell ?_ ?_ _); rotate_left; focus (first | (left; simp; done) | (right; simp; (first | done | omega)))) | with_reducible (first | assumption | exact .refl _ _ | refine .trans0 ?_ ‹_›)))⟩

set_option maxRecDepth 100000 in
set_option maxHeartbeats 4000000 in
theorem erased_ask (name : ByteArray) (hnm : name.size ≤ 1048576) (a b : Term) (va vb : Value) (w : World) (hva : TermV [] w a va) (hsa : a.size ≤ 1048576) (hvb : TermV [] w b vb) (hsb : b.size ≤ 1048576) (h1 : a.size ≤ 200) (h2 : b.size ≤ 200) (h3 : a.check 9 = 0) (h4 : b.check 9 = 0) :
    Calls Tryz.prog 6 #[.string name, va, vb] w fun e w' => e = .returned (.bool true) ∧ Frm [] w w' := by
  obtain ⟨A, ca, rfl⟩ := hva.form
  obtain ⟨B, cb, rfl⟩ := hvb.form
  have HX : Hid (decide (a.size ≤ 200) = true) := by show _ = _; simpa using h1
  have HY : Hid (decide (b.size ≤ 200) = true) := by show _ = _; simpa using h2
  have HC := Lib.hid h3
  have HD := Lib.hid h4
  obtain ⟨k, x, lv, c, s1, s2, e1, e2⟩ := call_erased h3 h4 h1 name
  have E1 := Lib.hid e1
  have E2 := Lib.hid e2
  clear h1 h2 h3 h4 e1 e2
  have m1 : True := trivial
  have m2 : True := trivial
  have m3 : True := trivial
  go_enter Tryz.func6, Tryz.ntmps6
  go_upto_region 8 with (first
    | (go_at_call 9; refine (law_shown _).mono ?_; rintro e w1 ⟨rfl, F1⟩; have hba1 := F1.at0 (b := w.heap.size) (o := .cells #[.int .i64 a.kind, .int .i64 a.n, .string a.s, .slice A a.kids.length ca] 25 (0, 0)) (by repeat (first | rw [heap_alloc_at] | rw [heap_size_alloc] | rfl | rw [if_pos (by omega)] | rw [if_neg (by omega)])); have hbb1 := F1.at0 (b := w.heap.size + 1) (o := .cells #[.int .i64 b.kind, .int .i64 b.n, .string b.s, .slice B b.kids.length cb] 25 (0, 0)) (by repeat (first | rw [heap_alloc_at] | rw [heap_size_alloc] | rfl | rw [if_pos (by omega)] | rw [if_neg (by omega)])); obtain ⟨q0, q1, q2, q3, q4, q5⟩ := blk4 hba1; obtain ⟨z0, z1, z2, z3, z4, z5⟩ := blk4 hbb1)
    | (go_at_call 10; clear m1; refine (law_few [] a _ _ (hva.keep (by repeat (first | with_reducible (first | refine .alloc ?_ _ | refine .drewN ?_ _ | refine .drew ?_) | ((with_reducible refine .setCell ?_ ?_ _); rotate_left; focus (first | (left; simp; done) | (right; simp; (first | done | omega)))) | with_reducible (first | assumption | exact .refl _ _ | refine .trans0 ?_ ‹_›)))) hsa).mono ?_; rw [HX.out]; rintro e w2 ⟨rfl, F2⟩; have hba2 := F2.at0 hba1; have hbb2 := F2.at0 hbb1; obtain ⟨q0, q1, q2, q3, q4, q5⟩ := blk4 hba2; obtain ⟨z0, z1, z2, z3, z4, z5⟩ := blk4 hbb2)
    | (go_at_call 10; refine (law_few [] b _ _ (hvb.keep (by repeat (first | with_reducible (first | refine .alloc ?_ _ | refine .drewN ?_ _ | refine .drew ?_) | ((with_reducible refine .setCell ?_ ?_ _); rotate_left; focus (first | (left; simp; done) | (right; simp; (first | done | omega)))) | with_reducible (first | assumption | exact .refl _ _ | refine .trans0 ?_ ‹_›)))) hsb).mono ?_; rw [HY.out]; rintro e w3 ⟨rfl, F3⟩; have hba3 := F3.at0 hba2; have hbb3 := F3.at0 hbb2; obtain ⟨q0, q1, q2, q3, q4, q5⟩ := blk4 hba3; obtain ⟨z0, z1, z2, z3, z4, z5⟩ := blk4 hbb3)
    | (go_at_call 17; clear m2; refine (term_Check_is HC.out [] _ _ (hva.keep (by repeat (first | with_reducible (first | refine .alloc ?_ _ | refine .drewN ?_ _ | refine .drew ?_) | ((with_reducible refine .setCell ?_ ?_ _); rotate_left; focus (first | (left; simp; done) | (right; simp; (first | done | omega)))) | with_reducible (first | assumption | exact .refl _ _ | refine .trans0 ?_ ‹_›)))) hsa (by unfold I64; omega)).mono ?_; rintro e w4 ⟨rfl, F4⟩; have hba4 := F4.at0 hba3; have hbb4 := F4.at0 hbb3; obtain ⟨z0, z1, z2, z3, z4, z5⟩ := blk4 hbb4)
    | (go_at_call 17; refine (term_Check_is HD.out [] _ _ (hvb.keep (by repeat (first | with_reducible (first | refine .alloc ?_ _ | refine .drewN ?_ _ | refine .drew ?_) | ((with_reducible refine .setCell ?_ ?_ _); rotate_left; focus (first | (left; simp; done) | (right; simp; (first | done | omega)))) | with_reducible (first | assumption | exact .refl _ _ | refine .trans0 ?_ ‹_›)))) hsb (by unfold I64; omega)).mono ?_; rintro e w5 ⟨rfl, F5⟩; have hba5 := F5.at0 hba4; have hbb5 := F5.at0 hbb4)
    | (go_at_call 18; refine (law_nine _).mono ?_; rintro e w6 ⟨lb, rfl, hl, -, F6⟩; have hba := F6.at0 hba5; have hbb := F6.at0 hbb5; have F06 : Frm [] w w6 := (by repeat (first | with_reducible (first | refine .alloc ?_ _ | refine .drewN ?_ _ | refine .drew ?_) | ((with_reducible refine .setCell ?_ ?_ _); rotate_left; focus (first | (left; simp; done) | (right; simp; (first | done | omega)))) | with_reducible (first | assumption | exact .refl _ _ | refine .trans0 ?_ ‹_›))); have hlta := (Array.getElem?_eq_some_iff.1 hba).1; have hltb := (Array.getElem?_eq_some_iff.1 hbb).1; have hlb := hl.lt)
    | (go_at_call 11; clear m3; refine (law_bound_nil _).mono ?_; rintro e w7 ⟨sb, G1, F1', rfl, hs1, F7, hF1⟩; have hsb1 := hs1.sub; have hlt1 := hs1.lt)
    | (go_at_call 11; refine (law_bound_nil _).mono ?_; rintro e w8 ⟨tb, G2, F2', rfl, hs2, F8, hF2⟩; have hsb2 := hs2.sub; have hlt2 := hs2.lt; have F68 : Frm [] w6 w8 := (by repeat (first | with_reducible (first | refine .alloc ?_ _ | refine .drewN ?_ _ | refine .drew ?_) | ((with_reducible refine .setCell ?_ ?_ _); rotate_left; focus (first | (left; simp; done) | (right; simp; (first | done | omega)))) | with_reducible (first | assumption | exact .refl _ _ | refine .trans0 ?_ ‹_›))); obtain ⟨q0, q1, q2, q3, q4, q5⟩ := blk4 (F68.at0 hba); obtain ⟨z0, z1, z2, z3, z4, z5⟩ := blk4 (F68.at0 hbb))
    | (go_at_call 19; refine (built_Call G1 F1' sb lb Lat.nine st12 name [a, b] _ 2 (World.alloc w8 _) (hl.frm0 (by repeat (first | with_reducible (first | refine .alloc ?_ _ | refine .drewN ?_ _ | refine .drew ?_) | ((with_reducible refine .setCell ?_ ?_ _); rotate_left; focus (first | (left; simp; done) | (right; simp; (first | done | omega)))) | with_reducible (first | assumption | exact .refl _ _ | refine .trans0 ?_ ‹_›)))) (fun h => by have := hF1 _ (hsb1 _ h); omega) (hs1.keep (by repeat (first | with_reducible (first | refine .alloc ?_ _ | refine .drewN ?_ _ | refine .drew ?_) | ((with_reducible refine .setCell ?_ ?_ _); rotate_left; focus (first | (left; simp; done) | (right; simp; (first | done | omega)))) | with_reducible (first | assumption | exact .refl _ _ | refine .trans0 ?_ ‹_›)))) (krow2 (alloc_heap_new w8 _) (fun hb => by have := hlt1 _ hb; have := F8.size; omega) (((hva.keep F06).newer F68.below hF1).keep (by repeat (first | with_reducible (first | refine .alloc ?_ _ | refine .drewN ?_ _ | refine .drew ?_) | ((with_reducible refine .setCell ?_ ?_ _); rotate_left; focus (first | (left; simp; done) | (right; simp; (first | done | omega)))) | with_reducible (first | assumption | exact .refl _ _ | refine .trans0 ?_ ‹_›)))) (((hvb.keep F06).newer F68.below hF1).keep (by repeat (first | with_reducible (first | refine .alloc ?_ _ | refine .drewN ?_ _ | refine .drew ?_) | ((with_reducible refine .setCell ?_ ?_ _); rotate_left; focus (first | (left; simp; done) | (right; simp; (first | done | omega)))) | with_reducible (first | assumption | exact .refl _ _ | refine .trans0 ?_ ‹_›))))) hnm (by simp)).mono ?_; rw [E1.out]; rintro e w9 ⟨rfl, TO⟩; dsimp only))
  obtain ⟨G1', F1'', -, F9, -, -, -⟩ := TO
  have F89 : Frm G1 w8 w9 := ((Frm.refl G1 w8).alloc _).trans' F9
  have hT : StoreAt G2 (G2 ++ G1) w9 tb st12 := (hs2.bare st12_bare (F' := G2 ++ G1) (fun b hb => List.mem_append.2 (.inl hb)) (fun b hb => (List.mem_append.1 hb).elim (fun h => hlt2 _ (hsb2 _ h)) (fun h => by have := hlt1 _ (hsb1 _ h); have := F8.size; omega))).frm F89
    (fun b hb hg => by have := hlt1 _ (hsb1 _ hb); have := hF2 _ (hsb2 _ hg); omega) (fun b hb => List.mem_append.2 (.inr hb))
  have B69 : Below w6.heap.size w6 w9 := F68.below.trans ⟨F89.os, F89.tape, F89.output, by have := F68.size; have := F89.size; omega, fun b hb => F89.block b (by have := F68.size; omega) (fun hg => by have := hF1 _ (hsb1 _ hg); omega)⟩
  have hA : TermV (G2 ++ G1) w9 a (.agg #[.int .i64 a.kind, .int .i64 a.n, .string a.s, .slice A a.kids.length ca]) := (hva.keep F06).newer B69 (fun b hb => (List.mem_append.1 hb).elim (fun h => by have := hF2 _ (hsb2 _ h); have := F7.size; omega) (fun h => hF1 _ (hsb1 _ h)))
  have hB : TermV (G2 ++ G1) w9 b (.agg #[.int .i64 b.kind, .int .i64 b.n, .string b.s, .slice B b.kids.length cb]) := (hvb.keep F06).newer B69 (fun b hb => (List.mem_append.1 hb).elim (fun h => by have := hF2 _ (hsb2 _ h); have := F7.size; omega) (fun h => hF1 _ (hsb1 _ h)))
  have hl9 := hl.frm0 F68
  have hl9' := hl9.frm F89 (fun h => by have := hF1 _ (hsb1 _ h); omega)
  have hFl := hT.lt
  have hlT : lb ∉ G2 := fun h => by have := hF2 _ (hsb2 _ h); have := F7.size; omega
  clear q0 q1 q2 q3 q4 q5 z0 z1 z2 z3 z4 z5
  obtain ⟨q0, q1, q2, q3, q4, q5⟩ := blk4 (blk_below B69 hba hlta)
  obtain ⟨z0, z1, z2, z3, z4, z5⟩ := blk4 (blk_below B69 hbb hltb)
  refine wp_region_U (fun w' => Frm [] w9 w') (fun i => Nat.blt i 8) (by kernel_rfl) ?rgnS1 (fun hHeld => ?rgnB1)
  case rgnS1 => (first | (dsimp only; (first | exact (by repeat (first | with_reducible (first | refine .alloc ?_ _ | refine .drewN ?_ _ | refine .drew ?_) | ((with_reducible refine .setCell ?_ ?_ _); rotate_left; focus (first | (left; simp; done) | (right; simp; (first | done | omega)))) | with_reducible (first | assumption | exact .refl _ _ | refine .trans0 ?_ ‹_›))) | exact F911 | exact F910 | exact F911.alloc _)) | (first | exact (by repeat (first | with_reducible (first | refine .alloc ?_ _ | refine .drewN ?_ _ | refine .drew ?_) | ((with_reducible refine .setCell ?_ ?_ _); rotate_left; focus (first | (left; simp; done) | (right; simp; (first | done | omega)))) | with_reducible (first | assumption | exact .refl _ _ | refine .trans0 ?_ ‹_›))) | exact F911 | exact F910 | exact F911.alloc _))
  case' rgnB1 => skip
  refine Pend.start [0, 1, 2, 3, 5] ?_
  iterate 5 (refine tk (v := ?_) rfl (by kernel_rfl) (by rfl) (fun _ _ _ h => h) (by assumption) ?_ ?_; rotate_left; (focus (intro wq hSw; (try dsimp only at hSw); have Q0 := (hSw.cell q5 (by simp)).trans q0; have Q1 := (hSw.cell q5 (by simp)).trans q1; have Q2 := (hSw.cell q5 (by simp)).trans q2; have Q3 := (hSw.cell q5 (by simp)).trans q3; have Z0 := (hSw.cell z5 (by simp)).trans z0; have Z1 := (hSw.cell z5 (by simp)).trans z1; have Z2 := (hSw.cell z5 (by simp)).trans z2; have Z3 := (hSw.cell z5 (by simp)).trans z3; go_simp; (first | done | with_reducible rfl))); try simp only [Act.put, List.setIfInBounds_toArray, List.set_cons_zero, List.set_cons_succ])
  refine Pend.done ?_
  refine one 4 (by kernel_rfl) rfl (fun K' hK => ?_)
  (go_simp; refine (seal_erase a (G2 ++ G1) _ _ (hA.keep (by repeat (first | with_reducible (first | refine .alloc ?_ _ | refine .drewN ?_ _ | refine .drew ?_) | ((with_reducible refine .setCell ?_ ?_ _); rotate_left; focus (first | (left; simp; done) | (right; simp; (first | done | omega)))) | with_reducible (first | assumption | exact .refl _ _ | refine .trans0 ?_ ‹_›)))) (by intro x hx; exact hFl x hx)).mono ?_; rintro e w10 ⟨⟨v10, rfl, hv10⟩, F10⟩; obtain ⟨A10, c10, rfl⟩ := hv10.form; have F910 : Frm [] w9 w10 := Frm.trans0 (by repeat (first | with_reducible (first | refine .alloc ?_ _ | refine .drewN ?_ _ | refine .drew ?_) | ((with_reducible refine .setCell ?_ ?_ _); rotate_left; focus (first | (left; simp; done) | (right; simp; (first | done | omega)))) | with_reducible (first | assumption | exact .refl _ _ | refine .trans0 ?_ ‹_›))) F10; dsimp only)
  refine hK.out _ _ (fun _ => ?rgnS2) (fun hH => ?rgnB2)
  case rgnS2 => (first | (dsimp only; (first | exact (by repeat (first | with_reducible (first | refine .alloc ?_ _ | refine .drewN ?_ _ | refine .drew ?_) | ((with_reducible refine .setCell ?_ ?_ _); rotate_left; focus (first | (left; simp; done) | (right; simp; (first | done | omega)))) | with_reducible (first | assumption | exact .refl _ _ | refine .trans0 ?_ ‹_›))) | exact F911 | exact F910 | exact F911.alloc _)) | (first | exact (by repeat (first | with_reducible (first | refine .alloc ?_ _ | refine .drewN ?_ _ | refine .drew ?_) | ((with_reducible refine .setCell ?_ ?_ _); rotate_left; focus (first | (left; simp; done) | (right; simp; (first | done | omega)))) | with_reducible (first | assumption | exact .refl _ _ | refine .trans0 ?_ ‹_›))) | exact F911 | exact F910 | exact F911.alloc _))
  case' rgnB2 => ((try clear hHeld); have hHeld := hH (by decide); clear hH)
  clear hK K'
  try simp only [Act.put, List.setIfInBounds_toArray, List.set_cons_zero, List.set_cons_succ]
  refine one 6 (by kernel_rfl) rfl (fun K' hK => ?_)
  (go_simp; refine (seal_erase b (G2 ++ G1) _ _ ((hB.keep F910).keep (by repeat (first | with_reducible (first | refine .alloc ?_ _ | refine .drewN ?_ _ | refine .drew ?_) | ((with_reducible refine .setCell ?_ ?_ _); rotate_left; focus (first | (left; simp; done) | (right; simp; (first | done | omega)))) | with_reducible (first | assumption | exact .refl _ _ | refine .trans0 ?_ ‹_›)))) (fun x hx => by have h1 := hFl x hx; have h2 := F910.size; first | omega | (simp; omega))).mono ?_; rintro e w11 ⟨⟨v11, rfl, hv11⟩, F11⟩; obtain ⟨A11, c11, rfl⟩ := hv11.form; have F1011 : Frm [] w10 w11 := Frm.trans0 (by repeat (first | with_reducible (first | refine .alloc ?_ _ | refine .drewN ?_ _ | refine .drew ?_) | ((with_reducible refine .setCell ?_ ?_ _); rotate_left; focus (first | (left; simp; done) | (right; simp; (first | done | omega)))) | with_reducible (first | assumption | exact .refl _ _ | refine .trans0 ?_ ‹_›))) F11; have F911 : Frm [] w9 w11 := F910.trans0 F1011; dsimp only)
  refine hK.out _ _ (fun _ => ?rgnS3) (fun hH => ?rgnB3)
  case rgnS3 => (first | (dsimp only; (first | exact (by repeat (first | with_reducible (first | refine .alloc ?_ _ | refine .drewN ?_ _ | refine .drew ?_) | ((with_reducible refine .setCell ?_ ?_ _); rotate_left; focus (first | (left; simp; done) | (right; simp; (first | done | omega)))) | with_reducible (first | assumption | exact .refl _ _ | refine .trans0 ?_ ‹_›))) | exact F911 | exact F910 | exact F911.alloc _)) | (first | exact (by repeat (first | with_reducible (first | refine .alloc ?_ _ | refine .drewN ?_ _ | refine .drew ?_) | ((with_reducible refine .setCell ?_ ?_ _); rotate_left; focus (first | (left; simp; done) | (right; simp; (first | done | omega)))) | with_reducible (first | assumption | exact .refl _ _ | refine .trans0 ?_ ‹_›))) | exact F911 | exact F910 | exact F911.alloc _))
  case' rgnB3 => ((try clear hHeld); have hHeld := hH (by decide); clear hH)
  clear hK K'
  try simp only [Act.put, List.setIfInBounds_toArray, List.set_cons_zero, List.set_cons_succ]
  refine one 7 (by kernel_rfl) rfl (fun K' hK => ?_)
  (rw [if_pos (by rfl)]; go_simp)
  refine hK.out _ _ (fun _ => ?rgnS4) (fun hH => ?rgnB4)
  case rgnS4 => (first | (dsimp only; (first | exact (by repeat (first | with_reducible (first | refine .alloc ?_ _ | refine .drewN ?_ _ | refine .drew ?_) | ((with_reducible refine .setCell ?_ ?_ _); rotate_left; focus (first | (left; simp; done) | (right; simp; (first | done | omega)))) | with_reducible (first | assumption | exact .refl _ _ | refine .trans0 ?_ ‹_›))) | exact F911 | exact F910 | exact F911.alloc _)) | (first | exact (by repeat (first | with_reducible (first | refine .alloc ?_ _ | refine .drewN ?_ _ | refine .drew ?_) | ((with_reducible refine .setCell ?_ ?_ _); rotate_left; focus (first | (left; simp; done) | (right; simp; (first | done | omega)))) | with_reducible (first | assumption | exact .refl _ _ | refine .trans0 ?_ ‹_›))) | exact F911 | exact F910 | exact F911.alloc _))
  case' rgnB4 => ((try clear hHeld); have hHeld := hH (by decide); clear hH)
  clear hK K'
  try simp only [Act.put, List.setIfInBounds_toArray, List.set_cons_zero, List.set_cons_succ]
  refine one 8 (by kernel_rfl) rfl (fun K' hK => ?_)
  (go_simp; refine (built_Call G2 (G2 ++ G1) tb lb Lat.nine st12 name [a.erase, b.erase] _ 2 (World.alloc w11 _) ((hl9'.frm0 F911).frm0 (by repeat (first | with_reducible (first | refine .alloc ?_ _ | refine .drewN ?_ _ | refine .drew ?_) | ((with_reducible refine .setCell ?_ ?_ _); rotate_left; focus (first | (left; simp; done) | (right; simp; (first | done | omega)))) | with_reducible (first | assumption | exact .refl _ _ | refine .trans0 ?_ ‹_›)))) hlT ((hT.keep F911).keep (by repeat (first | with_reducible (first | refine .alloc ?_ _ | refine .drewN ?_ _ | refine .drew ?_) | ((with_reducible refine .setCell ?_ ?_ _); rotate_left; focus (first | (left; simp; done) | (right; simp; (first | done | omega)))) | with_reducible (first | assumption | exact .refl _ _ | refine .trans0 ?_ ‹_›)))) (krow2 (alloc_heap_new w11 _) (fun hb => by have := hFl _ hb; have := F911.size; omega) ((hv10.keep F1011).keep (by repeat (first | with_reducible (first | refine .alloc ?_ _ | refine .drewN ?_ _ | refine .drew ?_) | ((with_reducible refine .setCell ?_ ?_ _); rotate_left; focus (first | (left; simp; done) | (right; simp; (first | done | omega)))) | with_reducible (first | assumption | exact .refl _ _ | refine .trans0 ?_ ‹_›)))) (hv11.keep (by repeat (first | with_reducible (first | refine .alloc ?_ _ | refine .drewN ?_ _ | refine .drew ?_) | ((with_reducible refine .setCell ?_ ?_ _); rotate_left; focus (first | (left; simp; done) | (right; simp; (first | done | omega)))) | with_reducible (first | assumption | exact .refl _ _ | refine .trans0 ?_ ‹_›))))) hnm (by simp)).mono ?_; rw [E2.out]; rintro e w12 ⟨rfl, TO2⟩; dsimp only)
  refine hK.out _ _ (fun h => absurd h (by decide)) (fun _ => ?_)
  clear hK K'
  try simp only [Act.put, List.setIfInBounds_toArray, List.set_cons_zero, List.set_cons_succ]
  refine Pend.start [9, 10, 11, 12, 13, 14, 15, 16, 17] ?_
  iterate 9 (refine tkl (v := ?_) rfl (by kernel_rfl) (by rfl) (fun _ _ _ h => h) ?_ ?_; rotate_left; (focus (intro wq hSw; go_simp; (first | done | with_reducible rfl))); try simp only [Act.put, List.setIfInBounds_toArray, List.set_cons_zero, List.set_cons_succ])
  refine Pend.done ?_
  refine wpAnyU_done (by kernel_rfl) ?_ _
  skip
  obtain ⟨G3, F3', -, F12, -, -, -⟩ := TO2
  have hl12 := hl9'.frm (((F911.mono (F' := G2) (by simp)).alloc _).trans' F12) hlT
  have FZ : Frm [] w6 w12 := ((F68.trans F89 (fun x hx => .inr (hF1 _ (hsb1 _ hx)))).trans0 (F911.alloc _)).trans F12 (fun x hx => .inr (by have := hF2 _ (hsb2 _ hx); have := F7.size; omega))
  go_wp2_with (go_at_call 21; refine (lat_bottom Lat.nine lb _ (hl12.frm0 (by repeat (first | with_reducible (first | refine .alloc ?_ _ | refine .drewN ?_ _ | refine .drew ?_) | ((with_reducible refine .setCell ?_ ?_ _); rotate_left; focus (first | (left; simp; done) | (right; simp; (first | done | omega)))) | with_reducible (first | assumption | exact .refl _ _ | refine .trans0 ?_ ‹_›))))).mono ?_; rintro e w13 ⟨rfl, rfl⟩; rw [nine_bottom])
  all_goals
    go_ret
    exact ⟨ret_bool (by cases k <;> cases x <;> simp), F06.trans0 FZ⟩
theorem law_BuiltErased (name : ByteArray) (hnm : name.size ≤ 1048576) (a b : Term) (va vb : Value) (w : World) (hva : TermV [] w a va) (hsa : a.size ≤ 1048576) (hvb : TermV [] w b vb) (hsb : b.size ≤ 1048576) :
    Calls Tryz.prog 6 #[.string name, va, vb] w fun e w' => e = .returned (.bool true) ∧ Frm [] w w' := by
  by_cases h : a.size ≤ 200 ∧ b.size ≤ 200 ∧ a.check 9 = 0 ∧ b.check 9 = 0
  · exact erased_ask name hnm a b va vb w hva hsa hvb hsb h.1 h.2.1 h.2.2.1 h.2.2.2
  · exact erased_let name a b va vb w hva hsa hvb hsb h
end Go.Proofs.YtkiofaojokofbaaGreat
