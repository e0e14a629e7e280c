/- Contracts and plain laws: ReadTerms LawUnknown. -/
import Derived.Test.YtkiofaojokofbaaBuiltJ
import Derived.WalkSpells
import Derived.WalkLawsBesides
import Derived.Deep.QuietTactic
import Derived.BigQuiet
import Derived.Deep.DeepCutAuto
import Derived.Deep.RegionHeld3
import Derived.Lib.Hide
import Derived.Handy
import Derived.Test.YtkiofaojokofbaaBuiltM
import Derived.Test.YtkiofaojokofbaaBuiltL
namespace Go.Proofs.Ytkiofaojokofbaa
open Go.ChangeShapes Go.WideShapes Go.ChangeAt Go.RowKit

set_option maxRecDepth 100000 in
theorem read_terms {H : Type} {enc : TypeId × Value → H} {W : World} {fuel : Nat} {c : Value} {d : DataW H} {ps : List MemPlace} (hd : Rows.uptoBulk d ≤ 1048576)
    (h : DataW.trod enc Try.prog W 0 (fun _ => true) true fuel 22 [c] = some (d, ps)) :
    ∃ A ts cap, c = .slice A (List.length ts) cap ∧ ts.length ≤ cap ∧ cap ≤ 9223372036854775807 ∧ KidsV [] W ts A 0 ∧ Term.sizes ts ≤ 1048576 := by
  rcases Go.Deep.open_slice Try.underlying22 h with ⟨e3, -⟩ | ⟨a, len, cap, mm, n', D, Pl, e3, hb, hl, hm, hmm, hx, hel⟩
  · cases e3
    exact ⟨none, [], 0, rfl, Nat.le_refl _, by decide, trivial, by simp [Term.sizes]⟩
  · cases e3
    simp only [Prod.mk.injEq] at hx
    obtain ⟨rfl, -⟩ := hx
    rw [Try.cellsTerm] at hel
    simp only [Rows.uptoBulk] at hd ⊢
    have hml : len ≤ mm := by rw [hmm]; simp; omega
    have hall : ∀ i, ∃ t : Term, i < len → (∃ c0 c1 c2 c3, W.cells? 0 (a.add (i * 4)) 4 = some [c0, c1, c2, c3] ∧ TermV [] W t (.agg #[c0, c1, c2, c3])) ∧ t.size ≤ Rows.uptoBulk (D i) := by
      intro i
      by_cases hi : i < len
      · obtain ⟨cs', hc, ht⟩ := hel i (by omega)
        have hb : Rows.uptoBulk (D i) ≤ 1048576 := by
          have := bulk_part (d := D i) (l := (List.range len).map D) (List.mem_map.2 ⟨i, List.mem_range.2 hi, rfl⟩)
          omega
        obtain ⟨t, c0, c1, c2, c3, rfl, htv, hsz⟩ := read_term 1048576 n' cs' (D i) (Pl i) hb (by omega) ht
        exact ⟨t, fun _ => ⟨⟨c0, c1, c2, c3, hc, htv⟩, hsz⟩⟩
      · exact ⟨default, fun h => absurd h hi⟩
    obtain ⟨f, hf⟩ := Classical.axiomOfChoice hall
    have hsize : Term.sizes ((List.range len).map f) ≤ Rows.uptoBulkAll ((List.range len).map D) := sizes_bulk f D _ (fun i hi => (hf i (List.mem_range.1 hi)).2)
    refine ⟨some a, (List.range len).map f, cap, by simp, by simpa using hl, by unfold maxLen at hm; omega, KidsV.of_get (some a) _ 0 (fun j t hj => ?_), by omega⟩
    have hjl : j < len := by have := (List.getElem?_eq_some_iff.1 hj).1; simpa using this
    have ht : t = f j := by
      rw [List.getElem?_map, List.getElem?_range hjl] at hj
      simpa using hj.symm
    subst ht
    have hspot : a = ⟨a.block, a.off, none⟩ := by
      obtain ⟨⟨c0, c1, c2, c3, hc, _⟩, _⟩ := hf 0 (by omega)
      obtain ⟨_, _, _, _, _, g0, _⟩ := cells_four hc
      exact cell_spot (by simpa [Addr.add] using g0)
    obtain ⟨⟨c0, c1, c2, c3, hc, htv⟩, _⟩ := hf j hjl
    obtain ⟨d0, d1, d2, d3, he, g0, g1, g2, g3⟩ := cells_four hc
    simp only [List.cons.injEq, and_true] at he
    obtain ⟨rfl, rfl, rfl, rfl⟩ := he
    rw [hspot] at g0 g1 g2 g3
    simp only [add_plain] at g0 g1 g2 g3
    refine ⟨a.block, a.off, c0, c1, c2, c3, by rw [← hspot], by simp, ?_, ?_, ?_, ?_, htv⟩
    · rw [Nat.zero_add]; exact g0
    · rw [Nat.zero_add]; exact g1
    · rw [Nat.zero_add]; exact g2
    · rw [Nat.zero_add]; exact g3

set_option maxRecDepth 100000 in
theorem open_terms {H : Type} {enc : TypeId × Value → H} {W : World} {base : Nat} {v : Value} {d : DataW H} {ps : List MemPlace} (hv : Value.okWide Try.prog W .any base 22 v)
    (h : DataW.Trod enc Try.prog W 0 (fun _ => true) true 22 v d ps) (hk : Rows.uptoBulk d ≤ 1048576) : ∃ A ts cap, v = .slice A (List.length ts) cap ∧ ts.length ≤ cap ∧ KidsV [] W ts A 0 ∧ Term.sizes ts ≤ 1048576 := by
  obtain ⟨n, h⟩ := h
  obtain ⟨a0, l0, c0, rfl⟩ := okWide_slice Try.underlying22 hv
  have h' : DataW.trod enc Try.prog W 0 (fun _ => true) true n 22 [.slice a0 l0 c0] = some (d, ps) := h
  obtain ⟨A, ts, cap, e, h1, -, h3, h4⟩ := read_terms hk h'
  exact ⟨A, ts, cap, e, h1, h3, h4⟩
end Go.Proofs.Ytkiofaojokofbaa
namespace Go.Proofs.Ytkiofaojokofbaa
open Go.RowKit

theorem goalTab_le : ∀ i, i < 19 → (goalTab.getD i default).2 ≤ 2 := by
  have : (List.range 19).all (fun i => decide ((goalTab.getD i default).2 ≤ 2)) = true := by kernel_rfl
  intro i hi
  have := List.all_eq_true.1 this i (List.mem_range.2 hi)
  simpa using this
/-- What is known has two arguments at most; what is not tells nothing. -/
theorem unknown_law (name : ByteArray) (ts : List Term) : ∃ k x lv c st', callR Lat.nine st12 name ts = (k, x, lv, c, st') ∧ (k = true ∧ ts.length ≤ 2 ∨ (k = false ∧ x = false ∧ lv = 0 ∧ c = 0 ∧ st' = st12)) := by
  unfold callR
  cases h : goalIdx name ts.length with
  | none => exact ⟨false, false, _, 0, st12, rfl, .inr ⟨rfl, rfl, nine_bottom, rfl, rfl⟩⟩
  | some i =>
    obtain ⟨h1, h2⟩ := goalIdx_lt h
    have := goalTab_le i h1
    exact ⟨true, _, _, _, _, rfl, .inl ⟨rfl, by omega⟩⟩

set_option maxRecDepth 100000 in
set_option maxHeartbeats 2000000 in
theorem law_BuiltUnknown (name : ByteArray) (hnm : name.size ≤ 1048576) (ts : List Term) (A : Option Addr) (cap : Nat) (w : World) (hk : KidsV [] w ts A 0) (hsz : Term.sizes ts ≤ 1048576) :
    Calls Try.prog 3 #[.string name, .slice A ts.length cap] w fun e w' => e = .returned (.bool true) ∧ Frm [] w w' := by
  by_cases h8 : 8 < ts.length
  · have h8' : (8 : Int) < ts.length := by omega
    go_enter Try.func3, Try.ntmps3
    go_wp2_with (go_at_call 4; refine (law_shown _).mono ?_; rintro e w1 ⟨rfl, F1⟩)
    go_ret
    exact ⟨rfl, F1⟩
  · have h8' : ¬ (8 : Int) < ts.length := by omega
    have hlen : ts.length ≤ 1048576 := by omega
    obtain ⟨k, x, lv, c, st', e1, hq⟩ := unknown_law name ts
    have E1 := Lib.hid e1
    have HQ := Lib.hid hq
    clear e1 hq h8
    go_enter Try.func3, Try.ntmps3
    go_wp2_with (go_at_call 4; refine (law_shown _).mono ?_; rintro e w1 ⟨rfl, F1⟩)
    go_loopw [6] (fun i wr => ∃ j : Nat, j ≤ ts.length ∧ i = .int .i64 j ∧ Frm [] w wr) (fun i _ => ts.length - (intOf i).toNat)
    case atStart => exact ⟨0, Nat.zero_le _, rfl, F1⟩
    case round =>
      obtain ⟨j, hj, rfl, FR⟩ := hrel
      by_cases hlt : j < ts.length
      · obtain ⟨b', off, A', cap', rfl, hb1, hb2, e0, e1, e2, e3, hkid⟩ := (hk.keep FR).kid j hlt
        have hts : ts[j].size ≤ 1048576 := Nat.le_trans (Term.size_mem (List.getElem_mem hlt)) hsz
        generalize ts[j] = t at *
        cases hx : decide (t.size ≤ 200)
        · have HX := Lib.hid hx
          clear hx
          go_wp2_with (go_at_call 5; refine (law_few [] t _ _ (hkid.keep (by repeat (first | with_reducible (first | refine .alloc ?_ _ | refine .drewN ?_ _ | refine .drew ?_) | ((with_reducible refine .setCell ?_ ?_ _); rotate_left; focus (first | (left; simp; done) | (right; simp; (first | done | omega)))) | with_reducible (first | assumption | exact .refl _ _ | refine .trans0 ?_ ‹_›)))) hts).mono ?_; rw [HX.out]; rintro e w2 ⟨rfl, F2⟩)
          go_ret
          exact ⟨rfl, (by repeat (first | with_reducible (first | refine .alloc ?_ _ | refine .drewN ?_ _ | refine .drew ?_) | ((with_reducible refine .setCell ?_ ?_ _); rotate_left; focus (first | (left; simp; done) | (right; simp; (first | done | omega)))) | with_reducible (first | assumption | exact .refl _ _ | refine .trans0 ?_ ‹_›)))⟩
        · have HX := Lib.hid hx
          clear hx
          go_wp2_with (go_at_call 5; refine (law_few [] t _ _ (hkid.keep (by repeat (first | with_reducible (first | refine .alloc ?_ _ | refine .drewN ?_ _ | refine .drew ?_) | ((with_reducible refine .setCell ?_ ?_ _); rotate_left; focus (first | (left; simp; done) | (right; simp; (first | done | omega)))) | with_reducible (first | assumption | exact .refl _ _ | refine .trans0 ?_ ‹_›)))) hts).mono ?_; rw [HX.out]; rintro e w2 ⟨rfl, F2⟩)
          go_roundw
          case rel => exact ⟨j + 1, by omega, by go_num, (by repeat (first | with_reducible (first | refine .alloc ?_ _ | refine .drewN ?_ _ | refine .drew ?_) | ((with_reducible refine .setCell ?_ ?_ _); rotate_left; focus (first | (left; simp; done) | (right; simp; (first | done | omega)))) | with_reducible (first | assumption | exact .refl _ _ | refine .trans0 ?_ ‹_›)))⟩
          case measure => simp [intOf]; omega
      · have : j = ts.length := by omega
        subst this
        have hq := HQ.out
        clear HQ
        rcases hq with ⟨rfl, h2⟩ | ⟨rfl, rfl, rfl, rfl, rfl⟩
        · have h2' : ¬ (2 : Int) < ts.length := by omega
          go_wp2_with (first
            | (go_at_call 6; refine (law_bound_nil _).mono ?_; rintro e w3 ⟨sb, G, F, rfl, hs, F3, hF⟩; have hsb := hs.sub; have hlt3 := hs.lt)
            | (go_at_call 8; refine (law_nine _).mono ?_; rintro e w4 ⟨lb, rfl, hl, hlb, F4⟩; have F34 : Frm [] wr w4 := (by repeat (first | with_reducible (first | refine .alloc ?_ _ | refine .drewN ?_ _ | refine .drew ?_) | ((with_reducible refine .setCell ?_ ?_ _); rotate_left; focus (first | (left; simp; done) | (right; simp; (first | done | omega)))) | with_reducible (first | assumption | exact .refl _ _ | refine .trans0 ?_ ‹_›))); have FRR : Frm [] w wr := FR)
            | (go_at_call 7; refine (built_Call G F sb lb Lat.nine st12 name ts A cap _ hl (fun h => by have := hlt3 _ (hsb _ h); omega) (hs.keep F4) ((hk.keep FRR).newer F34.below hF) hnm hlen).mono ?_; rw [E1.out]; rintro e w5 ⟨rfl, TO⟩; obtain ⟨G5, F5', h5, F5, -, -, -⟩ := TO; have FZ : Frm [] wr w5 := F34.trans F5 (fun b hb => .inr (hF b (hsb b hb))); dsimp only))
          go_ret
          exact ⟨rfl, FR.trans0 FZ⟩
        · go_wp2_with (first
            | (go_at_call 6; refine (law_bound_nil _).mono ?_; rintro e w3 ⟨sb, G, F, rfl, hs, F3, hF⟩; have hsb := hs.sub; have hlt3 := hs.lt)
            | (go_at_call 8; refine (law_nine _).mono ?_; rintro e w4 ⟨lb, rfl, hl, hlb, F4⟩; have F34 : Frm [] wr w4 := (by repeat (first | with_reducible (first | refine .alloc ?_ _ | refine .drewN ?_ _ | refine .drew ?_) | ((with_reducible refine .setCell ?_ ?_ _); rotate_left; focus (first | (left; simp; done) | (right; simp; (first | done | omega)))) | with_reducible (first | assumption | exact .refl _ _ | refine .trans0 ?_ ‹_›))); have FRR : Frm [] w wr := FR)
            | (go_at_call 7; refine (built_Call G F sb lb Lat.nine st12 name ts A cap _ hl (fun h => by have := hlt3 _ (hsb _ h); omega) (hs.keep F4) ((hk.keep FRR).newer F34.below hF) hnm hlen).mono ?_; rw [E1.out]; rintro e w5 ⟨rfl, TO⟩; obtain ⟨G5, F5', h5, F5, -, -, -⟩ := TO; have FZ : Frm [] wr w5 := F34.trans F5 (fun b hb => .inr (hF b (hsb b hb))); dsimp only)
            | (go_at_call 9; refine (store_mark G5 F5' sb st12 _ h5).mono ?_; rintro e w6 ⟨rfl, F6⟩; have FZ6 : Frm [] wr w6 := FZ.trans0 F6; rw [show ((st12.trail.length : Nat) : Int) = 0 from rfl]))
          all_goals
            go_ret
            exact ⟨rfl, FR.trans0 FZ6⟩
end Go.Proofs.Ytkiofaojokofbaa
