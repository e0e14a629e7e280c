/- Contracts and plain laws: ErasedP EvalK TermAlone TermCheck LawKinds ReadGoals LawB3 OrderP EvalPairs. -/
import Derived.Test.YtkiofaojokofbaaGreatBuiltL
import Derived.Test.YtkiofaojokofbaaGreatBuiltH
import Derived.WalkSpells
import Derived.WalkLawsBesides
import Derived.Deep.QuietTactic
import Derived.BigQuiet
import Derived.Deep.DeepCutAuto
import Derived.Deep.RegionHeld3
import Derived.Lib.Hide
import Derived.Handy
import Derived.Test.YtkiofaojokofbaaGreatBuiltM
import Derived.Test.YtkiofaojokofbaaGreatBuiltJ
import Derived.Test.YtkiofaojokofbaaGreatBuiltF
namespace Go.Proofs.YtkiofaojokofbaaGreat
open Go.RowKit

/-- Each seal stands round one term. -/
def Term.WF (t : Term) : Prop := ∀ p ∈ t.parts, p.kind = 4 → ∃ x, p.kids = [x]
theorem wf_mk {k n : Int} {s : ByteArray} {ts : List Term} : Term.WF (.mk k n s ts) ↔ (k = 4 → ∃ x, ts = [x]) ∧ ∀ x ∈ ts, Term.WF x := by
  unfold Term.WF
  simp only [Term.parts, Term.partss_eq, List.mem_cons, List.mem_flatMap, forall_eq_or_imp, Term.kind, Term.kids]
  refine and_congr Iff.rfl ⟨fun h x hx p hp => h p ⟨x, hx, hp⟩, fun h p ⟨x, hx, hp⟩ => h x hx p hp⟩
theorem wf_default : Term.WF default := wf_mk.2 ⟨fun h => absurd h (by decide), fun _ h => by cases h⟩

theorem joinTs_nine : ∀ (ts : List Term) (a : Int), In9 a → (∀ x ∈ ts, In9 (Lat.nine.joinT x)) → In9 (Lat.nine.joinTs a ts) ∧ a ≤ Lat.nine.joinTs a ts ∧ ∀ x ∈ ts, Lat.nine.joinT x ≤ Lat.nine.joinTs a ts
  | [], a, ha, _ => ⟨ha, Int.le_refl _, fun _ h => by cases h⟩
  | t :: ts, a, ha, h => by
    have ht := h t (by simp)
    have hm := in9_max ha ht
    have := joinTs_nine ts (Lat.nine.join a (Lat.nine.joinT t)) (by rw [nine_join ha ht]; exact hm) (fun x hx => h x (by simp [hx]))
    simp only [Lat.joinTs]
    rw [nine_join ha ht] at this ⊢
    obtain ⟨h1, h2, h3⟩ := this
    refine ⟨h1, by omega, fun x hx => ?_⟩
    rcases List.mem_cons.1 hx with rfl | hx
    · omega
    · exact h3 x hx
theorem joinT_nine : ∀ t : Term, In9 (Lat.nine.joinT t) := by
  intro t
  induction t using Term.induct with
  | h k n s ts ih =>
    simp only [Lat.joinT]
    refine (joinTs_nine ts _ ?_ ih).1
    split
    · exact nine_level n
    · rw [nine_bottom]; exact ⟨by decide, by decide⟩
theorem joinT_kid {k n : Int} {s : ByteArray} {ts : List Term} {x : Term} (hx : x ∈ ts) : Lat.nine.joinT x ≤ Lat.nine.joinT (.mk k n s ts) := by
  simp only [Lat.joinT]
  refine (joinTs_nine ts _ ?_ (fun x _ => joinT_nine x)).2.2 x hx
  split
  · exact nine_level n
  · rw [nine_bottom]; exact ⟨by decide, by decide⟩
theorem joinT_seal (n : Int) (s : ByteArray) (x : Term) : Lat.nine.joinT (.mk 4 n s [x]) = max (Lat.nine.level n) (Lat.nine.joinT x) := by
  show Lat.nine.join (Lat.nine.level n) (Lat.nine.joinT x) = _
  exact nine_join (nine_level n) (joinT_nine x)
theorem level_in {q : Int} (h : In9 q) : Lat.nine.level q = q := by
  unfold Lat.level
  have h9 : ((Lat.nine.n : Nat) : Int) = 9 := rfl
  rw [h9, if_neg]
  obtain ⟨h1, h2⟩ := h
  omega

theorem peel_facts : ∀ (t : Term) (a : Int), t.WF → In9 a → ∃ k n s ts q, Lat.nine.peel a t = (.mk k n s ts, q) ∧ k ≠ 4 ∧ t.erase = .mk k n s (ts.map Term.erase) ∧ In9 q ∧ q ≤ max a (Lat.nine.joinT t) ∧
    ∀ x ∈ ts, x.WF ∧ Lat.nine.joinT x ≤ Lat.nine.joinT t := by
  intro t
  induction t using Term.induct with
  | h k n s ts ih =>
    intro a hw ha
    obtain ⟨hw1, hw2⟩ := wf_mk.1 hw
    cases hs : (Term.mk k n s ts).sealOf
    · have hk : k ≠ 4 := by
        rintro rfl
        obtain ⟨x, rfl⟩ := hw1 rfl
        cases hs
      exact ⟨k, n, s, ts, a, Lat.peel_else _ _ _ hs, hk, Term.erase_else (fun h => hk h.1), ha, by omega, fun x hx => ⟨hw2 x hx, joinT_kid hx⟩⟩
    · obtain ⟨rfl, x, rfl⟩ := Term.sealOf_true hs
      rw [Lat.peel_seal, nine_join ha (nine_level n), Term.erase_seal, joinT_seal]
      obtain ⟨k', n', s', ts', q, h1, h2, h3, h4, h5, h6⟩ := ih x (by simp) _ (hw2 x (by simp)) (in9_max ha (nine_level n))
      exact ⟨k', n', s', ts', q, h1, h2, h3, h4, by omega, fun y hy => ⟨(h6 y hy).1, by have := (h6 y hy).2; omega⟩⟩

theorem opened_facts (t : Term) (hw : t.WF) : ∃ k n s ts q, Lat.nine.opened t = (.mk k n s ts, q) ∧ k ≠ 4 ∧ t.erase = .mk k n s (ts.map Term.erase) ∧ In9 q ∧ q ≤ Lat.nine.joinT t ∧ ∀ x ∈ ts, x.WF ∧ Lat.nine.joinT x ≤ Lat.nine.joinT t := by
  have h0 : In9 Lat.nine.bottom := by rw [nine_bottom]; exact ⟨by decide, by decide⟩
  obtain ⟨k, n, s, ts, q, h1, h2, h3, h4, h5, h6⟩ := peel_facts t Lat.nine.bottom hw h0
  have hj := (joinT_nine t).1
  rw [nine_bottom] at h5
  unfold Lat.opened
  split
  · rw [h1]
    refine ⟨k, n, s, ts.map (Term.put q), q, rfl, h2, ?_, h4, by omega, ?_⟩
    · rw [h3, List.map_map]; rfl
    · intro y hy
      obtain ⟨x, hx, rfl⟩ := List.mem_map.1 hy
      obtain ⟨g1, g2⟩ := h6 x hx
      refine ⟨wf_mk.2 ⟨fun _ => ⟨x, rfl⟩, fun z hz => by rw [List.mem_singleton.1 hz]; exact g1⟩, ?_⟩
      show Lat.nine.joinT (.mk 4 q _ [x]) ≤ _
      rw [joinT_seal, level_in h4]
      omega
  · rename_i hs
    have hs' : t.sealOf = false := by simpa using hs
    rw [Lat.peel_else _ _ _ hs'] at h1
    simp only [Prod.mk.injEq] at h1
    obtain ⟨rfl, -⟩ := h1
    exact ⟨k, n, s, ts, _, rfl, h2, h3, h0, by rw [nine_bottom]; exact hj, h6⟩

theorem getD_erase (ts : List Term) (i : Nat) : (ts.map Term.erase).getD i default = (ts.getD i default).erase := by
  rw [List.getD_eq_getElem?_getD, List.getD_eq_getElem?_getD, List.getElem?_map]
  cases ts[i]? <;> rfl
theorem getD_facts {ts : List Term} {J : Int} (hJ : 0 ≤ J) (h : ∀ x ∈ ts, x.WF ∧ Lat.nine.joinT x ≤ J) (i : Nat) : (ts.getD i default).WF ∧ Lat.nine.joinT (ts.getD i default) ≤ J := by
  rw [List.getD_eq_getElem?_getD]
  cases hi : ts[i]? with
  | none => exact ⟨wf_default, by show Lat.nine.bottom ≤ J; rw [nine_bottom]; exact hJ⟩
  | some x => exact h x (List.mem_of_getElem? hi)

theorem eval_erased : ∀ d m t a b, Term.WF t → In9 a → In9 b →
    (evalT Lat.nine .empty d m t a).1 = (evalT Lat.nine .empty d m t.erase b).1 ∧ (evalT Lat.nine .empty d m t a).2.2 = (evalT Lat.nine .empty d m t.erase b).2.2 ∧
      (evalT Lat.nine .empty d m t.erase b).2.1 = b ∧ In9 (evalT Lat.nine .empty d m t a).2.1 ∧ (evalT Lat.nine .empty d m t a).2.1 ≤ max a (Lat.nine.joinT t)
  | 0, m, t, a, b, _, ha, _ => ⟨rfl, rfl, rfl, ha, by simp only [evalT]; omega⟩
  | d + 1, m, t, a, b, hw, ha, hb => by
    by_cases h : 2000 < m + 1
    · simp only [evalT, h, if_true, true_and]; exact ⟨ha, by omega⟩
    · obtain ⟨k, n, s, ts, q, h1, h2, h3, h4, h5, h6⟩ := opened_facts t hw
      have hJ := (joinT_nine t).1
      have hwalk : ∀ u, PStore.empty.walk u = u := fun u => by cases u; rfl
      have ho : Lat.nine.opened t.erase = (.mk k n s (ts.map Term.erase), 0) := by
        rw [h3]
        unfold Lat.opened
        rw [if_neg (by simp [Term.sealOf, Term.kind, h2]), nine_bottom]
      rw [evalT_succ _ _ _ _ _ _ h, evalT_succ _ _ _ _ _ _ h, hwalk, hwalk, h1, ho]
      dsimp only [Term.kind, Term.n, Term.s, Term.kids]
      rw [nine_join ha h4, nine_join hb ⟨by decide, by decide⟩, show max b 0 = b by have := hb.1; omega]
      have h7 := in9_max ha h4
      generalize hJJ : Lat.nine.joinT t = J at *
      have h8 : max a q ≤ max a J := by omega
      generalize max a q = a1 at *
      have e0 := eval_erased d (m + 1) (ts.getD 0 default) a1 b (getD_facts hJ h6 0).1 h7 hb
      have j0 := (getD_facts hJ h6 0).2
      rw [← getD_erase] at e0
      unfold evalB
      rw [List.length_map]
      split
      · exact ⟨rfl, rfl, rfl, h7, h8⟩
      split
      · exact ⟨rfl, rfl, rfl, h7, h8⟩
      split
      · exact ⟨rfl, rfl, rfl, h7, h8⟩
      generalize evalT Lat.nine .empty d (m + 1) (ts.getD 0 default) a1 = r1 at *
      generalize evalT Lat.nine .empty d (m + 1) ((ts.map Term.erase).getD 0 default) b = r2 at *
      obtain ⟨x1, l1, m1⟩ := r1
      obtain ⟨x2, l2, m2⟩ := r2
      dsimp only at e0
      obtain ⟨rfl, rfl, rfl, g4, g5⟩ := e0
      cases x1 with
      | error c => exact ⟨rfl, rfl, rfl, g4, by dsimp only; omega⟩
      | ok v =>
        dsimp only
        split
        · have e1 := eval_erased d m1 (ts.getD 1 default) l1 l2 (getD_facts hJ h6 1).1 g4 hb
          have j1 := (getD_facts hJ h6 1).2
          rw [← getD_erase] at e1
          generalize evalT Lat.nine .empty d m1 (ts.getD 1 default) l1 = r1 at *
          generalize evalT Lat.nine .empty d m1 ((ts.map Term.erase).getD 1 default) l2 = r2 at *
          obtain ⟨x1, l3, m3⟩ := r1
          obtain ⟨x2, l4, m4⟩ := r2
          dsimp only at e1
          obtain ⟨rfl, rfl, rfl, k4, k5⟩ := e1
          cases x1 with
          | error c => exact ⟨rfl, rfl, rfl, k4, by dsimp only; omega⟩
          | ok v => exact ⟨rfl, rfl, rfl, k4, by dsimp only; omega⟩
        · split
          · exact ⟨rfl, rfl, rfl, g4, by dsimp only; omega⟩
          · exact ⟨rfl, rfl, rfl, g4, by dsimp only; omega⟩

theorem erased_law (t : Term) (hw : t.WF) : ∃ x lev c, evalS Lat.nine .empty t = (x, lev, c) ∧ evalS Lat.nine .empty t.erase = (x, 0, c) ∧ Lat.nine.leq lev (Lat.nine.joinT t) = true := by
  have i0 : In9 0 := ⟨by decide, by decide⟩
  obtain ⟨h1, h2, h3, h4, h5⟩ := eval_erased 2000 0 t 0 0 hw i0 i0
  have hJ := joinT_nine t
  unfold evalS
  rw [nine_bottom]
  generalize evalT Lat.nine .empty 2000 0 t 0 = r1 at *
  generalize evalT Lat.nine .empty 2000 0 t.erase 0 = r2 at *
  obtain ⟨x1, l1, m1⟩ := r1
  obtain ⟨x2, l2, m2⟩ := r2
  dsimp only at h1 h2 h3 h4 h5
  subst h1 h2 h3
  have hl : Lat.nine.leq l1 (Lat.nine.joinT t) = true := by rw [nine_leq h4 hJ]; have := hJ.1; exact decide_eq_true (by omega)
  cases x1 with
  | ok v => exact ⟨v, l1, 0, rfl, rfl, hl⟩
  | error c => exact ⟨0, l1, c, rfl, rfl, hl⟩
theorem wf_check {t : Term} {levels : Int} (h : t.check levels = 0) : t.WF := by
  unfold Term.check at h
  split at h
  · cases h
  split at h
  · cases h
  split at h
  · rename_i ha
    intro p hp hk
    have := List.all_eq_true.1 ha p hp
    unfold Term.alone at this
    obtain ⟨k, n, s, ts⟩ := p
    simp only [Term.kind] at hk
    subst hk
    match ts with
    | [] => simp [Term.kind, Term.kids] at this
    | [x] => exact ⟨x, rfl⟩
    | x :: y :: r => simp [Term.kind, Term.kids] at this
  · cases h
end Go.Proofs.YtkiofaojokofbaaGreat
namespace Go.Proofs.YtkiofaojokofbaaGreat
open Go.RowKit

def oneOf (p : Term → Bool) : Prop := ∀ k n s ts k' n' s' ts', k = k' → List.length ts = List.length ts' → p (.mk k n s ts) = p (.mk k' n' s' ts')
theorem isAtom_one : oneOf isAtom := fun k n s ts k' n' s' ts' h1 h2 => by subst h1; show (decide (k = 3) && decide (ts.length = 0)) = (decide (k = 3) && decide (ts'.length = 0)); rw [h2]
theorem isInt_one : oneOf isInt := fun k n s ts k' n' s' ts' h1 h2 => by subst h1; rfl
theorem isVar_one : oneOf isVar := fun k n s ts k' n' s' ts' h1 h2 => by subst h1; rfl
theorem kind_is {p : Term → Bool} (hp : oneOf p) {t : Term} (hw : t.WF) : p (Lat.nine.opened t).1 = p t.erase := by
  obtain ⟨k, n, s, ts, q, h1, _, h3, _⟩ := opened_facts t hw
  rw [h1, h3]
  exact hp _ _ _ _ _ _ _ _ rfl (by simp)
theorem ask_atom {t : Term} (hw : t.WF) : askR st12 ⟨#[97, 116, 111, 109]⟩ [t] = (isAtom t.erase, 0, st12) := by
  rw [askR_at (i := 10) (by kernel_rfl)]
  show (isAtom (Lat.nine.opened (st12.walk t)).1, (0 : Int), st12) = _
  rw [st12_walk, kind_is isAtom_one hw]
theorem ask_int {t : Term} (hw : t.WF) : askR st12 ⟨#[105, 110, 116, 101, 103, 101, 114]⟩ [t] = (isInt t.erase, 0, st12) := by
  rw [askR_at (i := 11) (by kernel_rfl)]
  show (isInt (Lat.nine.opened (st12.walk t)).1, (0 : Int), st12) = _
  rw [st12_walk, kind_is isInt_one hw]
theorem ask_var {t : Term} (hw : t.WF) : askR st12 ⟨#[118, 97, 114]⟩ [t] = (isVar t.erase, 0, st12) := by
  rw [askR_at (i := 8) (by kernel_rfl)]
  show (isVar (Lat.nine.opened (st12.walk t)).1, (0 : Int), st12) = _
  rw [st12_walk, kind_is isVar_one hw]
theorem put_wf {t : Term} (n : Int) (hw : t.WF) : (t.put n).WF := wf_mk.2 ⟨fun _ => ⟨t, rfl⟩, fun x hx => by rw [List.mem_singleton.1 hx]; exact hw⟩
theorem erase_put (t : Term) (n : Int) : (t.put n).erase = t.erase := rfl
theorem alone_kind {l : Int} {p : Term} (h : Term.alone l p = true) : p.kind = 1 ∨ p.kind = 2 ∨ p.kind = 3 ∨ (p.kind = 4 ∧ ∃ x, p.kids = [x]) := by
  unfold Term.alone at h
  split at h
  · rename_i h1; exact .inl (by simpa using h1)
  split at h
  · rename_i h1; exact .inr (.inl (by simpa using h1))
  split at h
  · rename_i h1; exact .inr (.inr (.inl (by simpa using h1)))
  split at h
  · rename_i h1
    refine .inr (.inr (.inr ⟨by simpa using h1, ?_⟩))
    simp only [Bool.and_eq_true] at h
    have h2 := h.2
    split at h2
    · rename_i k hk; exact ⟨k, hk⟩
    · cases h2
  · cases h
theorem erase_kind {l : Int} : ∀ t : Term, (∀ p ∈ t.parts, Term.alone l p = true) → t.erase.kind = 1 ∨ t.erase.kind = 2 ∨ t.erase.kind = 3 := by
  intro t
  induction t using Term.induct with
  | h k n s ts ih =>
    intro h
    have h0 := alone_kind (h (.mk k n s ts) (by simp [Term.parts]))
    by_cases h4 : k = 4
    · subst h4
      rcases h0 with h0 | h0 | h0 | ⟨_, x, hx⟩
      · exact absurd h0 (by simp [Term.kind])
      · exact absurd h0 (by simp [Term.kind])
      · exact absurd h0 (by simp [Term.kind])
      · have hx' : ts = [x] := hx
        subst hx'
        rw [Term.erase_seal]
        exact ih x (by simp) (fun p hp => h p (by simp [Term.parts, Term.partss, hp]))
    · rw [Term.erase_else (fun x => h4 x.1)]
      rcases h0 with h0 | h0 | h0 | ⟨h0, _⟩
      · exact .inl h0
      · exact .inr (.inl h0)
      · exact .inr (.inr h0)
      · exact absurd h0 h4
theorem check_alone {l : Int} {t : Term} (h : t.check l = 0) : ∀ p ∈ t.parts, Term.alone l p = true := by
  unfold Term.check at h
  split at h
  · cases h
  split at h
  · cases h
  split at h
  · rename_i h1; exact fun p hp => List.all_eq_true.1 h1 p hp
  · cases h
/-- Just one of atom, number, variable, name with arguments. -/
theorem one_kind {t : Term} (h : t.check 9 = 0) : (isAtom t.erase = true ∧ isInt t.erase = false ∧ isVar t.erase = false ∧ (t.erase.kind = 3 ∧ t.erase.kids.length = 0)) ∨
    (isAtom t.erase = false ∧ isInt t.erase = true ∧ isVar t.erase = false ∧ t.erase.kind ≠ 3) ∨ (isAtom t.erase = false ∧ isInt t.erase = false ∧ isVar t.erase = true ∧ t.erase.kind ≠ 3) ∨
    (isAtom t.erase = false ∧ isInt t.erase = false ∧ isVar t.erase = false ∧ (t.erase.kind = 3 ∧ 0 < t.erase.kids.length)) := by
  have hk := erase_kind t (check_alone h)
  by_cases h0 : t.erase.kids.length = 0
  · rcases hk with hk | hk | hk <;> simp [isAtom, isInt, isVar, hk, h0]
  · rcases hk with hk | hk | hk <;> simp [isAtom, isInt, isVar, hk, h0]
    omega
end Go.Proofs.YtkiofaojokofbaaGreat
namespace Go.Proofs.YtkiofaojokofbaaGreat
open Go.RowKit

namespace Term
theorem deeps_append (xs ys : List Term) : deeps (xs ++ ys) = max (deeps xs) (deeps ys) := by
  induction xs with
  | nil => simp [deeps]
  | cons x xs ih => simp only [List.cons_append, deeps, ih]; omega
theorem deeps_take {ts : List Term} {j : Nat} (h : j < ts.length) : deeps (ts.take (j + 1)) = max (deeps (ts.take j)) ts[j].deep := by
  rw [List.take_succ_eq_append_getElem h, deeps_append]; simp [deeps]
theorem deep_le : ∀ t : Term, t.deep ≤ t.size := by
  intro t
  induction t using Term.induct with
  | h k n s ts ih =>
    simp only [deep, size]
    have : deeps ts ≤ sizes ts := by
      clear k n s
      induction ts with
      | nil => simp [deeps]
      | cons x xs ih2 => have h1 := ih x (by simp); have h2 := ih2 (fun t ht => ih t (by simp [ht])); simp only [deeps, sizes]; omega
    omega
end Term

theorem term_deep : ∀ (t : Term) (F : List Nat) (v : Value) (w : World), TermV F w t v → t.size ≤ 1048576 →
    Calls Tryz.prog 24 #[v] w fun e w' => e = .returned (.int .i64 t.deep) ∧ Frm [] w w' := by
  intro t
  induction t using Term.induct with
  | h k n s ts ih =>
    intro F v w h hs
    have IH := Lib.hid ih
    clear ih
    simp only [TermV] at h
    obtain ⟨A, cap, rfl, _, _, _, hl1, hc, hc2, hk⟩ := h
    simp only [Term.size] at hs
    go_enter Tryz.func24, Tryz.ntmps24
    go_wp2
    go_loopw [3, 9] (fun a i wr => ∃ j : Nat, j ≤ ts.length ∧ i = .int .i64 j ∧ Frm [] w wr ∧ a = .int .i64 (Term.deeps (ts.take j))) (fun _ i _ => ts.length - (intOf i).toNat)
    case atStart => exact ⟨0, Nat.zero_le _, rfl, (by repeat (first | with_reducible (first | refine .alloc ?_ _ | refine .drewN ?_ _ | refine .drew ?_) | ((with_reducible refine .setCell ?_ ?_ _); rotate_left; focus (first | (left; simp; done) | (right; simp; (first | done | omega)))) | with_reducible (first | assumption | exact .refl _ _ | refine .trans0 ?_ ‹_›))), rfl⟩
    case round =>
      obtain ⟨j, hj, rfl, hF, rfl⟩ := hrel
      by_cases hlt : j < ts.length
      · obtain ⟨b', off, A', cap', rfl, hb1, hb2, e0, e1, e2, e3, hkid⟩ := (hk.keep hF).kid j hlt
        have HM : Hid (ts[j] ∈ ts) := List.getElem_mem hlt
        have HS := Lib.hid (Term.deeps_take hlt)
        have hz : ts[j].size ≤ 1048576 := by have := Term.size_mem (List.getElem_mem hlt); omega
        have hdl := Term.deep_le ts[j]
        have hd1 : Term.deeps (ts.take j) ≤ 1048576 := by
          have h1 := Term.deep_le (.mk k n s (ts.take j))
          simp only [Term.deep, Term.size] at h1
          have := Term.sizes_take hlt
          omega
        generalize ts[j] = t at *
        generalize Term.deeps (ts.take j) = acc at *
        go_wp2_with (go_at_call 24; refine (IH.out t HM.out F _ _ (hkid.keep (by repeat (first | with_reducible (first | refine .alloc ?_ _ | refine .drewN ?_ _ | refine .drew ?_) | ((with_reducible refine .setCell ?_ ?_ _); rotate_left; focus (first | (left; simp; done) | (right; simp; (first | done | omega)))) | with_reducible (first | assumption | exact .refl _ _ | refine .trans0 ?_ ‹_›)))) hz).mono ?_; rintro e w2 ⟨rfl, Fw2⟩; obtain ⟨hcw2, hfw2⟩ := Fw2.reads)
        go_roundw
        case rel =>
          exact ⟨j + 1, by omega, by go_num, (by repeat (first | with_reducible (first | refine .alloc ?_ _ | refine .drewN ?_ _ | refine .drew ?_) | ((with_reducible refine .setCell ?_ ?_ _); rotate_left; focus (first | (left; simp; done) | (right; simp; (first | done | omega)))) | with_reducible (first | assumption | exact .refl _ _ | refine .trans0 ?_ ‹_›))), by rw [HS.out]; congr 1; omega⟩
        case measure => simp [intOf]; omega
      · have : j = ts.length := by omega
        subst this
        have hd1 : Term.deeps ts ≤ 1048576 := by
          have h1 := Term.deep_le (.mk k n s ts)
          simp only [Term.deep, Term.size] at h1
          omega
        simp only [List.take_length]
        have H0 : Hid ((Term.mk k n s ts).deep = 1 + Term.deeps ts) := by show _ = _; rfl
        generalize Term.deeps ts = acc at *
        go_wp2
        go_ret
        exact ⟨ret_int (by rw [H0.out]; simp), hF⟩

theorem term_Vars_len (F : List Nat) (T : Term) (v : Value) (w : World) (hv : TermV F w T v) (hs : T.size ≤ 1048576) :
    Calls Tryz.prog 22 #[v] w fun e w' => (∃ A cap, e = .returned (.slice A T.vars.length cap)) ∧ Frm [] w w' :=
  (term_Vars F T v w hv hs).mono fun e w' ⟨⟨r, h1, h2⟩, h3⟩ => by
    rcases h2.2 with ⟨rfl, h4⟩ | ⟨g, cap, cur, rfl, _⟩
    · exact ⟨⟨none, 0, by rw [h1, h4]⟩, h3⟩
    · exact ⟨⟨_, _, h1⟩, h3⟩

theorem empty_beq (s : ByteArray) : (s == ByteArray.empty) = decide (s.toList = []) := by
  rw [ByteArray.toList_eq]
  show (s.data == #[]) = _
  by_cases h : s.data.toList = []
  · have : s.data = #[] := Array.toList_inj.1 h
    rw [this]; rfl
  · rw [decide_eq_false h, beq_eq_false_iff_ne]
    intro e
    rw [e] at h
    exact h rfl
theorem alone_var (levels n : Int) (s : ByteArray) (ts : List Term) : Term.alone levels (.mk 1 n s ts) = (decide (0 ≤ n) && decide (n < 4096) && decide (s.toList = []) && (ts.length == 0)) := by rw [← empty_beq]; rfl
theorem alone_int (levels n : Int) (s : ByteArray) (ts : List Term) : Term.alone levels (.mk 2 n s ts) = (decide (s.toList = []) && (ts.length == 0)) := by rw [← empty_beq]; rfl
theorem alone_fun (levels n : Int) (s : ByteArray) (ts : List Term) : Term.alone levels (.mk 3 n s ts) = ((n == 0) && decide (s.size ≤ 64) && decide (ts.length ≤ 8)) := rfl
theorem alone_seal1 (levels n : Int) (s : ByteArray) (t : Term) : Term.alone levels (.mk 4 n s [t]) = (decide (s.toList = []) && decide (0 ≤ n) && decide (n < levels) && (t.vars.length == 0)) := by rw [← empty_beq]; rfl
theorem alone_seal (levels n : Int) (s : ByteArray) (ts : List Term) (h : ts.length ≠ 1) : Term.alone levels (.mk 4 n s ts) = false := by
  match ts, h with
  | [], _ => simp [Term.alone, Term.kind, Term.n, Term.s, Term.kids]
  | [x], h => simp at h
  | x :: y :: r, _ => simp [Term.alone, Term.kind, Term.n, Term.s, Term.kids]
theorem alone_else (levels k n : Int) (s : ByteArray) (ts : List Term) (h1 : k ≠ 1) (h2 : k ≠ 2) (h3 : k ≠ 3) (h4 : k ≠ 4) : Term.alone levels (.mk k n s ts) = false := by
  simp [Term.alone, Term.kind, h1, h2, h3, h4]

set_option maxHeartbeats 1000000 in
theorem term_alone (F : List Nat) (t : Term) (v : Value) (levels : Int) (w : World) (h : TermV F w t v) (hs : t.size ≤ 1048576) (hl : I64 levels) :
    Calls Tryz.prog 35 #[v, .int .i64 levels] w fun e w' => e = .returned (.bool (t.alone levels)) ∧ Frm [] w w' := by
  obtain ⟨k, n, s, ts⟩ := t
  have hv := h
  simp only [TermV] at h
  obtain ⟨A, cap, rfl, ik, im, is, hl1, hc, hc2, hk⟩ := h
  obtain ⟨l1, l2⟩ := hl
  simp only [Term.size] at hs
  by_cases k1 : k = 1
  · subst k1
    go_enter Tryz.func35, Tryz.ntmps35
    go_wp2
    all_goals
      go_ret
      refine ⟨ret_bool ?_, (by repeat (first | with_reducible (first | refine .alloc ?_ _ | refine .drewN ?_ _ | refine .drew ?_) | ((with_reducible refine .setCell ?_ ?_ _); rotate_left; focus (first | (left; simp; done) | (right; simp; (first | done | omega)))) | with_reducible (first | assumption | exact .refl _ _ | refine .trans0 ?_ ‹_›)))⟩
      rw [alone_var]
      rw [Bool.eq_iff_iff]; first | (simp_all; done) | (simp_all; omega)
  by_cases k2 : k = 2
  · subst k2
    go_enter Tryz.func35, Tryz.ntmps35
    go_wp2
    all_goals
      go_ret
      refine ⟨ret_bool ?_, (by repeat (first | with_reducible (first | refine .alloc ?_ _ | refine .drewN ?_ _ | refine .drew ?_) | ((with_reducible refine .setCell ?_ ?_ _); rotate_left; focus (first | (left; simp; done) | (right; simp; (first | done | omega)))) | with_reducible (first | assumption | exact .refl _ _ | refine .trans0 ?_ ‹_›)))⟩
      rw [alone_int]
      rw [Bool.eq_iff_iff]; first | (simp_all; done) | (simp_all; omega)
  by_cases k3 : k = 3
  · subst k3
    go_enter Tryz.func35, Tryz.ntmps35
    go_wp2
    all_goals
      go_ret
      refine ⟨ret_bool ?_, (by repeat (first | with_reducible (first | refine .alloc ?_ _ | refine .drewN ?_ _ | refine .drew ?_) | ((with_reducible refine .setCell ?_ ?_ _); rotate_left; focus (first | (left; simp; done) | (right; simp; (first | done | omega)))) | with_reducible (first | assumption | exact .refl _ _ | refine .trans0 ?_ ‹_›)))⟩
      rw [alone_fun]
      rw [Bool.eq_iff_iff]; first | (simp_all; done) | (simp_all; omega)
  by_cases k4 : k = 4
  · subst k4
    by_cases hts : ts.length = 1
    · obtain ⟨x, rfl⟩ := List.length_eq_one_iff.1 hts
      obtain ⟨b', off, A', cap', rfl, hb1, hb2, e0, e1, e2, e3, hkid⟩ := hk.kid 0 (by simp)
      simp only [List.getElem_cons_zero, Nat.zero_mul, Nat.add_zero] at e0 e1 e2 e3 hkid
      simp only [Term.sizes] at hs
      go_enter Tryz.func35, Tryz.ntmps35
      go_wp2_with (go_at_call 22; refine (term_Vars_len F x _ _ (hkid.keep (by repeat (first | with_reducible (first | refine .alloc ?_ _ | refine .drewN ?_ _ | refine .drew ?_) | ((with_reducible refine .setCell ?_ ?_ _); rotate_left; focus (first | (left; simp; done) | (right; simp; (first | done | omega)))) | with_reducible (first | assumption | exact .refl _ _ | refine .trans0 ?_ ‹_›)))) (by omega)).mono ?_; rintro e w2 ⟨⟨A2, cap2, rfl⟩, F2⟩)
      all_goals
        go_ret
        refine ⟨ret_bool ?_, (by repeat (first | with_reducible (first | refine .alloc ?_ _ | refine .drewN ?_ _ | refine .drew ?_) | ((with_reducible refine .setCell ?_ ?_ _); rotate_left; focus (first | (left; simp; done) | (right; simp; (first | done | omega)))) | with_reducible (first | assumption | exact .refl _ _ | refine .trans0 ?_ ‹_›)))⟩
        rw [alone_seal1]
        rw [Bool.eq_iff_iff]; first | (simp_all; done) | (simp_all; omega)
    · have hlb : ((ts.length : Int) == 1) = false := by rw [beq_eq_false_iff_ne]; omega
      go_enter Tryz.func35, Tryz.ntmps35
      go_wp2
      all_goals
        go_ret
        refine ⟨ret_bool ?_, (by repeat (first | with_reducible (first | refine .alloc ?_ _ | refine .drewN ?_ _ | refine .drew ?_) | ((with_reducible refine .setCell ?_ ?_ _); rotate_left; focus (first | (left; simp; done) | (right; simp; (first | done | omega)))) | with_reducible (first | assumption | exact .refl _ _ | refine .trans0 ?_ ‹_›)))⟩
        rw [alone_seal _ _ _ _ hts]
  · go_enter Tryz.func35, Tryz.ntmps35
    go_wp2
    all_goals
      go_ret
      refine ⟨ret_bool ?_, (by repeat (first | with_reducible (first | refine .alloc ?_ _ | refine .drewN ?_ _ | refine .drew ?_) | ((with_reducible refine .setCell ?_ ?_ _); rotate_left; focus (first | (left; simp; done) | (right; simp; (first | done | omega)))) | with_reducible (first | assumption | exact .refl _ _ | refine .trans0 ?_ ‹_›)))⟩
      rw [alone_else _ _ _ _ _ k1 k2 k3 k4]
end Go.Proofs.YtkiofaojokofbaaGreat
namespace Go.Proofs.YtkiofaojokofbaaGreat
open Go.RowKit Go.Shelf

attribute [local go_sem] Oper.semAt_some

theorem frm_others {A B : World} (h : Frm [] A B) : KeepsOthers A B := ⟨h.size, fun k _ hk _ => (h.below.block k (Array.getElem?_eq_some_iff.1 hk).1).trans hk⟩
theorem boxed_keep {X Y : World} {row : Option Nat} {B : Nat} {b : Nat} {t : TypeId} {v : Value} (h : Boxed X b t v) (hg : X.grownBy Y row) (hr : ∀ r, row = some r → B ≤ r ∧ ∃ o : Obj, X.heap[r]? = some o ∧ o.isCells = false) : Boxed Y b t v := by
  refine h.kept hg (fun e => ?_)
  obtain ⟨_, o, ho, hc⟩ := hr b e.symm
  rw [show X.heap[b]? = _ from h] at ho; cases ho; cases hc

set_option maxRecDepth 100000 in
set_option maxHeartbeats 4000000 in
theorem term_Check_in (n : Nat) (hn : 3 ≤ n) (T : Term) (v : Value) (levels : Int) (w : World) (hv : TermV [] w T v) (hs : T.size ≤ 1048576) (hlv : I64 levels) :
    CallsIn Fence.wide n Tryz.prog 17 #[v, .int .i64 levels] w fun e w' => e = .returned (.int .i64 (T.check levels)) ∧ Below w.heap.size w w' := by
  have h1 : 1 ≤ n := by omega
  have hdl := Term.deep_le T
  obtain ⟨A, cap, rfl⟩ := hv.form
  by_cases c1 : 1000 < T.size
  · refine callsIn_of_wp_marks Tryz.func17 rfl trivial ?_ rfl
    simp only [Tryz.ntmps17, List.size_toArray, List.length_cons, List.length_nil, Nat.reduceAdd, Nat.reduceSub, Array.replicate_succ, Array.replicate_zero, List.push_toArray, List.append_toArray, List.nil_append, List.cons_append]
    gi_wp2_with (first
      | (refine ⟨trivial, ?_⟩; gi_at_call 33; refine (callsIn_wide.2 (term_Size [] T _ _ (hv.keep (by repeat (first | with_reducible (first | refine .alloc ?_ _ | refine .drewN ?_ _ | refine .drew ?_) | ((with_reducible refine .setCell ?_ ?_ _); rotate_left; focus (first | (left; simp; done) | (right; simp; (first | done | omega)))) | with_reducible (first | assumption | exact .refl _ _ | refine .trans0 ?_ ‹_›)))) hs)).mono ?_; rintro e w1 ⟨rfl, F1⟩; have bT1 := F1.at0 ((((Frm.refl [] _).alloc _).alloc _).at0 (alloc_heap_new w _)); have bR1 := F1.at0 (box_at (k := w.heap.size + 1 + 1) _ _ _ (by simp)); have bL1 := F1.at0 (((Frm.refl [] _).alloc _).at0 (box_at _ _ _ (heap_size_alloc w _).symm)); obtain ⟨z0, z1, z2, z3, z4, z5⟩ := blk4 bT1; have hc1 := Boxed.cell bR1; have hf1 := Boxed.frozen bR1)
      | (refine ⟨trivial, ?_⟩; gi_at_call 24; refine (callsIn_wide.2 (term_deep T [] _ _ (hv.keep (by repeat (first | with_reducible (first | refine .alloc ?_ _ | refine .drewN ?_ _ | refine .drew ?_) | ((with_reducible refine .setCell ?_ ?_ _); rotate_left; focus (first | (left; simp; done) | (right; simp; (first | done | omega)))) | with_reducible (first | assumption | exact .refl _ _ | refine .trans0 ?_ ‹_›)))) hs)).mono ?_; rintro e w2 ⟨rfl, F2⟩; have bT2 := F2.at0 bT1; obtain ⟨z0, z1, z2, z3, z4, z5⟩ := blk4 bT2; have bR2 := F2.at0 bR1; have hc2 := Boxed.cell bR2; have hf2 := Boxed.frozen bR2)
      | (refine ⟨trivial, ?_⟩; gi_at_call 34; refine (term_parts Fence.wide (n - 1) trivial rfl T _ w _ hv).mono ?_; rintro e w3 ⟨rfl, rfl⟩))
    have hck : T.check levels = 3 := by unfold Term.check; rw [if_pos c1]
    have hc5 := (Boxed.set (.int .i64 3) bR1).cell
    refine ⟨.int .i64 3, ?_, by rw [hck], (Frm.below (w := w) (by repeat (first | with_reducible (first | refine .alloc ?_ _ | refine .drewN ?_ _ | refine .drew ?_) | ((with_reducible refine .setCell ?_ ?_ _); rotate_left; focus (first | (left; simp; done) | (right; simp; (first | done | omega)))) | with_reducible (first | assumption | exact .refl _ _ | refine .trans0 ?_ ‹_›))) : Below w.heap.size w w1).setCell (p := ⟨w.heap.size + 1 + 1, 0, none⟩) (by simp; omega) _⟩
    simp [results, Tryz.f17, go_sem, hc5]
  by_cases c2 : 60 < T.deep
  · refine callsIn_of_wp_marks Tryz.func17 rfl trivial ?_ rfl
    simp only [Tryz.ntmps17, List.size_toArray, List.length_cons, List.length_nil, Nat.reduceAdd, Nat.reduceSub, Array.replicate_succ, Array.replicate_zero, List.push_toArray, List.append_toArray, List.nil_append, List.cons_append]
    gi_wp2_with (first
      | (refine ⟨trivial, ?_⟩; gi_at_call 33; refine (callsIn_wide.2 (term_Size [] T _ _ (hv.keep (by repeat (first | with_reducible (first | refine .alloc ?_ _ | refine .drewN ?_ _ | refine .drew ?_) | ((with_reducible refine .setCell ?_ ?_ _); rotate_left; focus (first | (left; simp; done) | (right; simp; (first | done | omega)))) | with_reducible (first | assumption | exact .refl _ _ | refine .trans0 ?_ ‹_›)))) hs)).mono ?_; rintro e w1 ⟨rfl, F1⟩; have bT1 := F1.at0 ((((Frm.refl [] _).alloc _).alloc _).at0 (alloc_heap_new w _)); have bR1 := F1.at0 (box_at (k := w.heap.size + 1 + 1) _ _ _ (by simp)); have bL1 := F1.at0 (((Frm.refl [] _).alloc _).at0 (box_at _ _ _ (heap_size_alloc w _).symm)); obtain ⟨z0, z1, z2, z3, z4, z5⟩ := blk4 bT1; have hc1 := Boxed.cell bR1; have hf1 := Boxed.frozen bR1)
      | (refine ⟨trivial, ?_⟩; gi_at_call 24; refine (callsIn_wide.2 (term_deep T [] _ _ (hv.keep (by repeat (first | with_reducible (first | refine .alloc ?_ _ | refine .drewN ?_ _ | refine .drew ?_) | ((with_reducible refine .setCell ?_ ?_ _); rotate_left; focus (first | (left; simp; done) | (right; simp; (first | done | omega)))) | with_reducible (first | assumption | exact .refl _ _ | refine .trans0 ?_ ‹_›)))) hs)).mono ?_; rintro e w2 ⟨rfl, F2⟩; have bT2 := F2.at0 bT1; obtain ⟨z0, z1, z2, z3, z4, z5⟩ := blk4 bT2; have bR2 := F2.at0 bR1; have hc2 := Boxed.cell bR2; have hf2 := Boxed.frozen bR2)
      | (refine ⟨trivial, ?_⟩; gi_at_call 34; refine (term_parts Fence.wide (n - 1) trivial rfl T _ w _ hv).mono ?_; rintro e w3 ⟨rfl, rfl⟩))
    have hck : T.check levels = 7 := by unfold Term.check; rw [if_neg c1, if_pos c2]
    have hc5 := (Boxed.set (.int .i64 7) bR2).cell
    refine ⟨.int .i64 7, ?_, by rw [hck], (Frm.below (w := w) (by repeat (first | with_reducible (first | refine .alloc ?_ _ | refine .drewN ?_ _ | refine .drew ?_) | ((with_reducible refine .setCell ?_ ?_ _); rotate_left; focus (first | (left; simp; done) | (right; simp; (first | done | omega)))) | with_reducible (first | assumption | exact .refl _ _ | refine .trans0 ?_ ‹_›))) : Below w.heap.size w w2).setCell (p := ⟨w.heap.size + 1 + 1, 0, none⟩) (by simp; omega) _⟩
    simp [results, Tryz.f17, go_sem, hc5]
  refine callsIn_of_wp_marks Tryz.func17 rfl trivial ?_ rfl
  simp only [Tryz.ntmps17, List.size_toArray, List.length_cons, List.length_nil, Nat.reduceAdd, Nat.reduceSub, Array.replicate_succ, Array.replicate_zero, List.push_toArray, List.append_toArray, List.nil_append, List.cons_append]
  gi_wp2_with (first
    | (refine ⟨trivial, ?_⟩; gi_at_call 33; refine (callsIn_wide.2 (term_Size [] T _ _ (hv.keep (by repeat (first | with_reducible (first | refine .alloc ?_ _ | refine .drewN ?_ _ | refine .drew ?_) | ((with_reducible refine .setCell ?_ ?_ _); rotate_left; focus (first | (left; simp; done) | (right; simp; (first | done | omega)))) | with_reducible (first | assumption | exact .refl _ _ | refine .trans0 ?_ ‹_›)))) hs)).mono ?_; rintro e w1 ⟨rfl, F1⟩; have bT1 := F1.at0 ((((Frm.refl [] _).alloc _).alloc _).at0 (alloc_heap_new w _)); have bR1 := F1.at0 (box_at (k := w.heap.size + 1 + 1) _ _ _ (by simp)); have bL1 := F1.at0 (((Frm.refl [] _).alloc _).at0 (box_at _ _ _ (heap_size_alloc w _).symm)); obtain ⟨z0, z1, z2, z3, z4, z5⟩ := blk4 bT1)
    | (refine ⟨trivial, ?_⟩; gi_at_call 24; refine (callsIn_wide.2 (term_deep T [] _ _ (hv.keep (by repeat (first | with_reducible (first | refine .alloc ?_ _ | refine .drewN ?_ _ | refine .drew ?_) | ((with_reducible refine .setCell ?_ ?_ _); rotate_left; focus (first | (left; simp; done) | (right; simp; (first | done | omega)))) | with_reducible (first | assumption | exact .refl _ _ | refine .trans0 ?_ ‹_›)))) hs)).mono ?_; rintro e w2 ⟨rfl, F2⟩; have bT2 := F2.at0 bT1; obtain ⟨z0, z1, z2, z3, z4, z5⟩ := blk4 bT2)
    | (refine ⟨trivial, ?_⟩; gi_at_call 34; refine (term_parts Fence.wide (n - 1) trivial rfl T _ w _ hv).mono ?_; rintro e w3 ⟨rfl, rfl⟩))
  have bL2 := F2.at0 bL1
  have bR2 := F2.at0 bR1
  have hB2 : Below w.heap.size w w2 := (Frm.below (w := w) (by repeat (first | with_reducible (first | refine .alloc ?_ _ | refine .drewN ?_ _ | refine .drew ?_) | ((with_reducible refine .setCell ?_ ?_ _); rotate_left; focus (first | (left; simp; done) | (right; simp; (first | done | omega)))) | with_reducible (first | assumption | exact .refl _ _ | refine .trans0 ?_ ‹_›))))
  have hsz2 : w.heap.size + 3 ≤ w2.heap.size := by have := (Array.getElem?_eq_some_iff.1 bR2).1; omega
  obtain ⟨W0, hW0⟩ : ∃ W0, w2.alloc (.cells #[.int .i64 T.kind, .int .i64 T.n, .string T.s, .slice A T.kids.length cap] 25) = W0 := ⟨_, rfl⟩
  have hbt : W0.heap[w2.heap.size]? = some (.cells #[.int .i64 T.kind, .int .i64 T.n, .string T.s, .slice A T.kids.length cap] 25 (0, 0)) := by rw [← hW0]; exact alloc_heap_new _ _
  have hbl : Boxed W0 (w.heap.size + 1) 3 (.int .i64 levels) := by rw [← hW0]; exact Boxed.alloc bL2 _
  have hbr : Boxed W0 (w.heap.size + 1 + 1) 31 (.int .i64 0) := by rw [← hW0]; exact Boxed.alloc bR2 _
  have hB0 : Below w.heap.size w W0 := by rw [← hW0]; exact hB2.alloc (by omega) _
  have hsz : w.heap.size + 3 ≤ W0.heap.size := by rw [← hW0]; simp; omega
  rw [hW0]
  clear hW0
  refine wpIn_rangeFunc_ownH (w0 := W0) rfl h1 (gf := 46) (lb := #[.pointer (some ⟨w2.heap.size, 0, none⟩)]) rfl trivial (enters_of Tryz.func46 (by kernel_rfl) rfl)
    (parts_stops Fence.wide rfl (n - 1) trivial trivial rfl w2.heap.size w W0 T _ hv hs hB0 hbt) Kept.trans (Kept.put (by omega)) (Below.refl _ _) (fun _ => rfl)
    (fun pre W => (Boxed W (w.heap.size + 1) 3 (.int .i64 levels) ∧ Boxed W (w.heap.size + 1 + 1) 31 (.int .i64 0) ∧ (pre.map TV.tm).all (Term.alone levels) = true) ∧ Below w.heap.size w W)
    (fun c pre W => (c = .ret ∧ Boxed W (w.heap.size + 1 + 1) 31 (.int .i64 4) ∧ (pre.map TV.tm).all (Term.alone levels) = false) ∧ Below w.heap.size w W)
    (OwnFrom.and (fun s X Y row hs hg hr => ⟨boxed_keep hs.1 hg hr, boxed_keep hs.2.1 hg hr, hs.2.2⟩) (ownFrom_below (Nat.le_refl _) (by omega)))
    (fun c => OwnFrom.and (fun s X Y row hs hg hr => ⟨hs.1, boxed_keep hs.2.1 hg hr, hs.2.2⟩) (ownFrom_below (Nat.le_refl _) (by omega)))
    ⟨⟨hbl, hbr, rfl⟩, hB0⟩
    (fun x a' W => ∃ Bx, w.heap.size + 1 + 1 < Bx ∧ W.heap[Bx]? = some (.cells #[.int .i64 x.tm.kind, .int .i64 x.tm.n, .string x.tm.s, x.1.2.cells.toList.getD 3 default] 25 (0, 0)) ∧ a' = { tmps := #[.agg #[.int .i64 T.kind, .int .i64 T.n, .string T.s, .slice A T.kids.length cap], .int .i64 levels, .pointer (some ⟨w.heap.size, 0, none⟩), .pointer (some ⟨w.heap.size + 1, 0, none⟩), .pointer (some ⟨w.heap.size + 1 + 1, 0, none⟩), .pointer (some ⟨Bx, 0, none⟩), .bool (decide (1000 < (T.size : Int))), .agg #[.int .i64 T.kind, .int .i64 T.n, .string T.s, .slice A T.kids.length cap], .int .i64 T.size, .bool (decide (1000 < (T.size : Int))), .bool (decide (60 < (T.deep : Int))),
      .agg #[.int .i64 T.kind, .int .i64 T.n, .string T.s, .slice A T.kids.length cap], .int .i64 T.deep, .bool (decide (60 < (T.deep : Int))), .agg #[.int .i64 T.kind, .int .i64 T.n, .string T.s, .slice A T.kids.length cap], .func (.func 46) #[] #[.pointer (some ⟨w2.heap.size, 0, none⟩)], x.1.2, undef, undef, undef, undef], defers := [] })
    (fun x a' _ X Y row hs hg hr => by
      obtain ⟨Bx, h1, h2, h3⟩ := hs
      refine ⟨Bx, h1, (hg.block Bx (Array.getElem?_eq_some_iff.1 h2).1 (fun e => ?_)).trans h2, h3⟩
      obtain ⟨_, o, ho, hc⟩ := hr Bx e.symm
      rw [h2] at ho; cases ho; cases hc)
    ?assign ?body ?done ?stop
  case assign =>
    rintro l pre x W K ⟨⟨hb1, hb2, hall⟩, hB1⟩ hK
    obtain ⟨⟨X, xv⟩, hx⟩ := x
    have hx' : TermV [] w X xv := hx.1
    obtain ⟨A', cap', hxv⟩ := hx'.form
    subst hxv
    clear hx'
    simp only [tvEnc, List.zip_toArray, List.zip_cons_cons, List.zip_nil_right, List.size_toArray, List.length_cons, List.length_nil, List.foldl_toArray', List.foldl_cons, List.foldl_nil, List.setIfInBounds_toArray, List.set_cons_succ, List.set_cons_zero]
    gi_wp2
    exact hK _ _ ((KeepsOthers.alloc _ _).from _) ((Kept.refl _ _ W).alloc hB1.size _) ⟨⟨hb1.alloc _, hb2.alloc _, hall⟩, hB1.alloc hB1.size _⟩ ⟨W.heap.size, hb2.lt, World.alloc_heap_new W _, rfl⟩
  case body =>
    rintro l pre x a' W hl ⟨r, hr⟩ ⟨⟨hb1, hb2, hall⟩, hB1⟩ ⟨Bx, hBx, hbX, rfl⟩ hlt
    obtain ⟨⟨X, xv⟩, hx⟩ := x
    have hx' : TermV [] w X xv := hx.1
    obtain ⟨A', cap', hxv⟩ := hx'.form
    subst hxv
    simp only [TV.tm, Value.cells, List.getD_cons_succ, List.getD_cons_zero] at hbX
    obtain ⟨z0, z1, z2, z3, z4, z5⟩ := blk4 hbX
    have hcl := hb1.cell
    have h1' : 1 ≤ n - 1 - 1 := by omega
    have hal : ((pre ++ [(⟨(X, _), hx⟩ : TV w)]).map TV.tm).all (Term.alone levels) = Term.alone levels X := by
      rw [List.map_append, List.all_append, hall]; simp [TV.tm]
    have hxs : X.size ≤ 1048576 := hx.2
    cases ha : Term.alone levels X
    · rw [ha] at hal
      gi_wp2_with (refine ⟨trivial, ?_⟩; gi_at_call 35; refine (CallsIn.inRound l (callsIn_wide.2 (term_alone [] X _ levels W (hx'.below hB1) hxs hlv))).mono ?_; rw [ha]; rintro e w3 ⟨rfl, F3⟩; have hb2' : Boxed w3 (w.heap.size + 1 + 1) 31 (.int .i64 0) := (F3.at0 hb2); have hc2 := hb2'.cell; have hf2 := hb2'.frozen)
      have hk3 : Kept w.heap.size W0.heap.size W w3 := (Kept.refl _ _ W).frm hB1.size F3
      exact ⟨((frm_others F3).trans (KeepsOthers.setCell _ _ _)).from _, ⟨rfl, hb2'.set _, hal⟩, (hB1.trans hk3.1).setCell (p := ⟨w.heap.size + 1 + 1, 0, none⟩) (by simp; omega) _⟩
    · rw [ha] at hal
      gi_wp2_with (refine ⟨trivial, ?_⟩; gi_at_call 35; refine (CallsIn.inRound l (callsIn_wide.2 (term_alone [] X _ levels W (hx'.below hB1) hxs hlv))).mono ?_; rw [ha]; rintro e w3 ⟨rfl, F3⟩)
      have hk3 : Kept w.heap.size W0.heap.size W w3 := (Kept.refl _ _ W).frm hB1.size F3
      exact ⟨(frm_others F3).from _, hk3, ⟨F3.at0 hb1, F3.at0 hb2, hal⟩, hB1.trans hk3.1⟩
  case done =>
    rintro D ys W hD hS ⟨⟨hb1, hb2, hall⟩, hB⟩ hK
    rw [hS] at hall
    have hck : T.check levels = 0 := by unfold Term.check; rw [if_neg c1, if_neg c2, if_pos hall]
    have hcr := hb2.cell
    have hfr := hb2.frozen
    gi_wp2
    have hK' := (KeepsOthers.setCell W ⟨w.heap.size + 1 + 1, 0, none⟩ (.int .i64 0)).same D _ hK rfl
    refine ⟨by simp, .inl ⟨_, _, rfl, run_takeDeferred hK', ?_⟩⟩
    have hc5 := cell_kept (hb2.set (.int .i64 0)).cell (grownBy_putObj' _ D (.deferred none)) (fun r e => by cases e; exact ⟨_, hK', rfl⟩)
    refine ⟨.int .i64 0, ?_, by rw [hck], (hB.setCell (p := ⟨w.heap.size + 1 + 1, 0, none⟩) (by simp; omega) _).trans (belowK_b (w := w) (Nat.le_refl _) _ D _ _ (by omega) hK' rfl rfl)⟩
    simp [results, Tryz.f17, go_sem, hc5]
  case stop =>
    rintro D c pre W hD hS ⟨⟨rfl, hb2, hall⟩, hB⟩ hK
    have hck : T.check levels = 4 := by
      unfold Term.check
      rw [if_neg c1, if_neg c2, if_neg]
      intro h
      obtain ⟨r, hr⟩ := hS
      rw [← hr, List.all_append, hall] at h
      cases h
    gi_wp2
    refine ⟨by simp, .inl ⟨_, _, rfl, run_takeDeferred hK, ?_⟩⟩
    have hc5 := cell_kept hb2.cell (grownBy_putObj' _ D (.deferred none)) (fun r e => by cases e; exact ⟨_, hK, rfl⟩)
    refine ⟨.int .i64 4, ?_, by rw [hck], hB.trans (belowK_b (w := w) (Nat.le_refl _) W D _ _ (by omega) hK rfl rfl)⟩
    simp [results, Tryz.f17, go_sem, hc5]

theorem term_Check (F : List Nat) (T : Term) (v : Value) (levels : Int) (w : World) (hv : TermV F w T v) (hs : T.size ≤ 1048576) (hl : I64 levels) :
    Calls Tryz.prog 17 #[v, .int .i64 levels] w fun e w' => e = .returned (.int .i64 (T.check levels)) ∧ Frm [] w w' :=
  (callsIn_wide.1 (term_Check_in 3 (by omega) T v levels w (hv.away (by simp)) hs hl)).mono fun e w' h => ⟨h.1, Frm.of_below h.2⟩
end Go.Proofs.YtkiofaojokofbaaGreat
namespace Go.Proofs.YtkiofaojokofbaaGreat
open Go.RowKit

theorem term_Check_is {t : Term} {levels c : Int} (hc : t.check levels = c) (F : List Nat) (v : Value) (w : World) (hv : TermV F w t v) (hs : t.size ≤ 1048576) (hl : I64 levels) :
    Calls Tryz.prog 17 #[v, .int .i64 levels] w fun e w' => e = .returned (.int .i64 c) ∧ Frm [] w w' := by
  have h := term_Check F t v levels w hv hs hl
  rw [hc] at h
  exact h

set_option maxRecDepth 100000 in
set_option maxHeartbeats 4000000 in
theorem kinds_let (t : Term) (v : Value) (n : Int) (w : World) (hv : TermV [] w t v) (hs : t.size ≤ 1048576) (h0 : ¬ (t.size ≤ 200 ∧ t.check 9 = 0)) : Calls Tryz.prog 7 #[v, .int .u8 n] w fun e w' => e = .returned (.bool true) ∧ Frm [] w w' := by
  obtain ⟨A, cap, rfl⟩ := hv.form
  have hx : ∃ x c : _, Hid (decide (t.size ≤ 200) = x) ∧ Hid (t.check 9 = c) ∧ (x = false ∨ (x = true ∧ (c != 0) = true)) := by
    refine ⟨_, _, rfl, rfl, ?_⟩
    by_cases h1 : t.size ≤ 200
    · exact .inr ⟨by simpa using h1, by simpa using fun h => h0 ⟨h1, h⟩⟩
    · exact .inl (by simpa using h1)
  obtain ⟨x, c, HX, HC, hq⟩ := hx
  clear h0
  rcases hq with rfl | ⟨rfl, hc⟩
  all_goals
    go_enter Tryz.func7, Tryz.ntmps7
    go_wp2_with (first
      | (go_at_call 9; refine (law_shown _).mono ?_; rintro e w1 ⟨rfl, F1⟩; have hb1 := F1.at0 (alloc_heap_new w _); obtain ⟨q0, q1, q2, q3, q4, q5⟩ := blk4 hb1)
      | (go_at_call 10; refine (law_few [] t _ _ (hv.keep (by repeat (first | with_reducible (first | refine .alloc ?_ _ | refine .drewN ?_ _ | refine .drew ?_) | ((with_reducible refine .setCell ?_ ?_ _); rotate_left; focus (first | (left; simp; done) | (right; simp; (first | done | omega)))) | with_reducible (first | assumption | exact .refl _ _ | refine .trans0 ?_ ‹_›)))) hs).mono ?_; rw [HX.out]; rintro e w2 ⟨rfl, F2⟩; obtain ⟨q0, q1, q2, q3, q4, q5⟩ := blk4 (F2.at0 hb1))
      | (go_at_call 17; refine (term_Check_is HC.out [] _ _ (hv.keep (by repeat (first | with_reducible (first | refine .alloc ?_ _ | refine .drewN ?_ _ | refine .drew ?_) | ((with_reducible refine .setCell ?_ ?_ _); rotate_left; focus (first | (left; simp; done) | (right; simp; (first | done | omega)))) | with_reducible (first | assumption | exact .refl _ _ | refine .trans0 ?_ ‹_›)))) hs (by unfold I64; omega)).mono ?_; rintro e w3 ⟨rfl, F3⟩))
    go_ret
    exact ⟨rfl, (by repeat (first | with_reducible (first | refine .alloc ?_ _ | refine .drewN ?_ _ | refine .drew ?_) | ((with_reducible refine .setCell ?_ ?_ _); rotate_left; focus (first | (left; simp; done) | (right; simp; (first | done | omega)))) | with_reducible (first | assumption | exact .refl _ _ | refine .trans0 ?_ ‹_›)))⟩

def cntB : List Bool → Nat → Int
  | _, 0 => 0
  | [], _ => 0
  | b :: l, j + 1 => (if b then 1 else 0) + cntB l j
theorem cnt_succ : ∀ (l : List Bool) (j : Nat) (b : Bool), l[j]? = some b → cntB l (j + 1) = cntB l j + (if b then 1 else 0)
  | [], j, b, h => by simp at h
  | x :: l, 0, b, h => by simp at h; subst h; simp [cntB]
  | x :: l, j + 1, b, h => by
    have := cnt_succ l j b (by simpa using h)
    rw [cntB, this, cntB]; omega
theorem cnt_rng : ∀ (l : List Bool) (j : Nat), 0 ≤ cntB l j ∧ cntB l j ≤ j
  | _, 0 => by simp [cntB]
  | [], j + 1 => by simp [cntB]; omega
  | x :: l, j + 1 => by
    have := cnt_rng l j
    rw [cntB]; split <;> omega
theorem cnt_t {l : List Bool} {j : Nat} (h : l[j]? = some true) (hj : j < 4) : wrap64 (cntB l j + 1) = cntB l (j + 1) := by
  have := cnt_rng l j
  rw [cnt_succ l j true h]
  unfold wrap64; simp; omega
theorem cnt_f {l : List Bool} {j : Nat} (h : l[j]? = some false) : cntB l j = cntB l (j + 1) := by
  rw [cnt_succ l j false h]; simp
theorem ready_put {B : Nat} {w : World} {sb : Nat} {st : PStore} {P : KeepP} (h : Ready B w sb st P) (t : Term) (v : Value) (n : Int) (ht : ∀ F, (∀ b ∈ F, B ≤ b) → TermV F w t v) (hn : I64 n) :
    Calls Tryz.prog 23 #[v, .int .i64 n] w fun e w' => (∃ A' cap', e = .returned (.agg #[.int .i64 4, .int .i64 n, .string ByteArray.empty, .slice A' 1 cap']) ∧ Ready B w' sb st (P.term (t.put n) (.agg #[.int .i64 4, .int .i64 n, .string ByteArray.empty, .slice A' 1 cap']))) ∧ Frm [] w w' := by
  obtain ⟨G, F, h1, h2, h3⟩ := h
  refine (seal_put F t v n w (ht F h3) hn h1.lt).mono ?_
  rintro e w' ⟨⟨v', rfl, hv⟩, f⟩
  obtain ⟨A', cap', rfl⟩ := hv.form
  exact ⟨⟨A', cap', rfl, G, F, h1.keep f, ⟨hv, P.2 _ _ _ _ _ h2 h1.lt (by simp) f (fun _ h => h) (fun _ h => .inl h)⟩, h3⟩, f⟩
theorem blk_below {B b : Nat} {w w' : World} {o : Obj} (h : Below B w w') (hb : w.heap[b]? = some o) (hlt : b < B) : w'.heap[b]? = some o := (h.block b hlt).trans hb

set_option maxRecDepth 100000 in
set_option maxHeartbeats 4000000 in
theorem kinds_ask (t : Term) (v : Value) (n : Int) (w : World) (hv : TermV [] w t v) (hs : t.size ≤ 1048576) (hn0 : 0 ≤ n) (hn1 : n ≤ 255) (h0 : t.size ≤ 200) (h1 : t.check 9 = 0) : Calls Tryz.prog 7 #[v, .int .u8 n] w fun e w' => e = .returned (.bool true) ∧ Frm [] w w' := by
  obtain ⟨A, cap, rfl⟩ := hv.form
  have hwf := wf_check h1
  have HX : Hid (decide (t.size ≤ 200) = true) := by show _ = _; simpa using h0
  have HC := Lib.hid h1
  have HK := one_kind h1
  obtain ⟨xd, HXD⟩ : ∃ xd, Hid ((decide (t.erase.kind = 3) && decide (0 < t.erase.kids.length)) = xd) := ⟨_, rfl⟩
  have HCNT : Hid (cntB [isAtom t.erase, isInt t.erase, isVar t.erase, xd] 4 = 1) := by
    show _ = _
    rw [← HXD.out]
    rcases HK with ⟨k1, k2, k3, k4, k5⟩ | ⟨k1, k2, k3, k4⟩ | ⟨k1, k2, k3, k4⟩ | ⟨k1, k2, k3, k4, k5⟩ <;> simp [cntB, *]
  have E1 := Lib.hid (ask_atom hwf)
  have E2 := Lib.hid (ask_int hwf)
  have E3 := Lib.hid (ask_var hwf)
  have D1 := Lib.hid (ask_atom (put_wf (n % 9) hwf))
  have D2 := Lib.hid (ask_int (put_wf (n % 9) hwf))
  rw [erase_put] at D1 D2
  clear h0 h1 hwf
  generalize hxa : isAtom t.erase = xa at *
  generalize hxi : isInt t.erase = xi at *
  generalize hxv : isVar t.erase = xv at *
  clear hxa hxi hxv
  have m1 : True := trivial
  have m2 : True := trivial
  have m3 : True := trivial
  have m4 : True := trivial
  have m5 : True := trivial
  go_enter Tryz.func7, Tryz.ntmps7
  go_wp2_with (first
    | (go_at_call 9; refine (law_shown _).mono ?_; rintro e w1 ⟨rfl, F1⟩; have hb1 := F1.at0 (alloc_heap_new w _); obtain ⟨q0, q1, q2, q3, q4, q5⟩ := blk4 hb1)
    | (go_at_call 10; refine (law_few [] t _ _ (hv.keep (by repeat (first | with_reducible (first | refine .alloc ?_ _ | refine .drewN ?_ _ | refine .drew ?_) | ((with_reducible refine .setCell ?_ ?_ _); rotate_left; focus (first | (left; simp; done) | (right; simp; (first | done | omega)))) | with_reducible (first | assumption | exact .refl _ _ | refine .trans0 ?_ ‹_›)))) hs).mono ?_; rw [HX.out]; rintro e w2 ⟨rfl, F2⟩; have hb2 := F2.at0 hb1; obtain ⟨q0, q1, q2, q3, q4, q5⟩ := blk4 hb2)
    | (go_at_call 17; refine (term_Check_is HC.out [] _ _ (hv.keep (by repeat (first | with_reducible (first | refine .alloc ?_ _ | refine .drewN ?_ _ | refine .drew ?_) | ((with_reducible refine .setCell ?_ ?_ _); rotate_left; focus (first | (left; simp; done) | (right; simp; (first | done | omega)))) | with_reducible (first | assumption | exact .refl _ _ | refine .trans0 ?_ ‹_›)))) hs (by unfold I64; omega)).mono ?_; rintro e w3 ⟨rfl, F3⟩; have hb3 := F3.at0 hb2; have F03 : Frm [] w w3 := (by repeat (first | with_reducible (first | refine .alloc ?_ _ | refine .drewN ?_ _ | refine .drew ?_) | ((with_reducible refine .setCell ?_ ?_ _); rotate_left; focus (first | (left; simp; done) | (right; simp; (first | done | omega)))) | with_reducible (first | assumption | exact .refl _ _ | refine .trans0 ?_ ‹_›))); have hlt3 := (Array.getElem?_eq_some_iff.1 hb3).1)
    | (go_at_call 11; refine (law_bound_nil _).mono ?_; intro e w4 hbd; obtain ⟨sb, rfl, hr, F4⟩ := hbd.ready; have hb : Below w3.heap.size w3 w4 := F4.below; obtain ⟨q0, q1, q2, q3, q4, q5⟩ := blk4 (blk_below hb hb3 hlt3))
    | (go_at_call 13; clear m1; have hr0 := hr.addOne (t := t) (ty := 25) (fun F _ hF => (hv.keep F03).newer hb hF); refine (ready_asked hr0 ⟨#[97, 116, 111, 109]⟩ [t] _ 1 (fun F h => h.1) (by decide) (by simp) E1.out).mono ?_; rintro e w5 ⟨rfl, hr', b5⟩; clear hr hr0; have hr := hr'; clear hr'; have hbn := (hb.alloc hb.size _).trans b5; clear hb; have hb := hbn; clear hbn b5; obtain ⟨q0, q1, q2, q3, q4, q5⟩ := blk4 (blk_below hb hb3 hlt3))
    | (go_at_call 13; clear m2; refine (ready_asked hr ⟨#[105, 110, 116, 101, 103, 101, 114]⟩ [t] _ 1 (fun F h => h.1) (by decide) (by simp) E2.out).mono ?_; rintro e w5 ⟨rfl, hr', b5⟩; clear hr; have hr := hr'; clear hr'; have hbn := hb.trans b5; clear hb; have hb := hbn; clear hbn b5; obtain ⟨q0, q1, q2, q3, q4, q5⟩ := blk4 (blk_below hb hb3 hlt3))
    | (go_at_call 13; clear m3; refine (ready_asked hr ⟨#[118, 97, 114]⟩ [t] _ 1 (fun F h => h.1) (by decide) (by simp) E3.out).mono ?_; rintro e w5 ⟨rfl, hr', b5⟩; clear hr; have hr := hr'; clear hr'; have hbn := hb.trans b5; clear hb; have hb := hbn; clear hbn b5; obtain ⟨q0, q1, q2, q3, q4, q5⟩ := blk4 (blk_below hb hb3 hlt3))
    | (go_at_call 20; refine (seal_erase t [] _ _ ((hv.keep F03).newer hb (by simp)) (by simp)).mono ?_; rintro e w6 ⟨⟨v6, rfl, hv6⟩, F6⟩; obtain ⟨A6, cap6, rfl⟩ := hv6.form))
  · have hk : t.erase.kind = 3 := by assumption
    have hc4 : Hid (cntB [xa, xi, xv, decide (0 < t.erase.kids.length)] 4 = 1) := by rw [decide_eq_true hk, Bool.true_and] at HXD; rw [HXD.out]; exact HCNT
    clear HCNT HXD HK
    (generalize hD : decide (0 < t.erase.kids.length) = D at *; clear hD)
    have FW : Frm [] w5 ((w6.alloc (.cells #[.int .i64 t.erase.kind, .int .i64 t.erase.n, .string t.erase.s, .slice A6 t.erase.kids.length cap6] 25)).alloc (.cells #[.bool xa, .bool xi, .bool xv, .bool D] 4)) := (by repeat (first | with_reducible (first | refine .alloc ?_ _ | refine .drewN ?_ _ | refine .drew ?_) | ((with_reducible refine .setCell ?_ ?_ _); rotate_left; focus (first | (left; simp; done) | (right; simp; (first | done | omega)))) | with_reducible (first | assumption | exact .refl _ _ | refine .trans0 ?_ ‹_›)))
    obtain ⟨c0, c1, c2, c3, c4, c5⟩ := blk4 (alloc_heap_new (w6.alloc (.cells #[.int .i64 t.erase.kind, .int .i64 t.erase.n, .string t.erase.s, .slice A6 t.erase.kids.length cap6] 25)) (.cells #[.bool xa, .bool xi, .bool xv, .bool D] 4))
    simp only [heap_size_alloc] at c0 c1 c2 c3 c4 c5
    rw [hk] at FW c0 c1 c2 c3 c4
    have hr7 := hr.keep FW
    have hb7 := hb.trans (FW.below.mono hb.size)
    clear hr hb
    generalize World.alloc (World.alloc w6 _) _ = W at *
    have hr := hr7
    have hb := hb7
    clear hr7 hb7
    obtain ⟨q0, q1, q2, q3, q4, q5⟩ := blk4 (blk_below hb hb3 hlt3)
    go_loop [16, 18] (fun c i => ∃ j : Nat, j ≤ 4 ∧ i = .int .i64 j ∧ c = .int .i64 (cntB [xa, xi, xv, D] j)) (fun _ i => 4 - (intOf i).toNat)
    case atStart => exact ⟨0, by omega, rfl, rfl⟩
    case round =>
      obtain ⟨j, hj, rfl, rfl⟩ := hrel
      rcases (by omega : j = 0 ∨ j = 1 ∨ j = 2 ∨ j = 3 ∨ j = 4) with rfl | rfl | rfl | rfl | rfl
      · (go_wp2; all_goals first | (have hx : xa = true := (by assumption); subst hx; exact ⟨⟨1, by omega, rfl, congrArg _ (cnt_t rfl (by decide))⟩, by simp [intOf]⟩) | (have hx : xa = false := (by assumption); subst hx; exact ⟨⟨1, by omega, rfl, congrArg _ (cnt_f rfl)⟩, by simp [intOf]⟩) | exact ⟨⟨1, by omega, rfl, congrArg _ (cnt_f rfl)⟩, by simp [intOf]⟩)
      · (go_wp2; all_goals first | (have hx : xi = true := (by assumption); subst hx; exact ⟨⟨2, by omega, rfl, congrArg _ (cnt_t rfl (by decide))⟩, by simp [intOf]⟩) | (have hx : xi = false := (by assumption); subst hx; exact ⟨⟨2, by omega, rfl, congrArg _ (cnt_f rfl)⟩, by simp [intOf]⟩) | exact ⟨⟨2, by omega, rfl, congrArg _ (cnt_f rfl)⟩, by simp [intOf]⟩)
      · (go_wp2; all_goals first | (have hx : xv = true := (by assumption); subst hx; exact ⟨⟨3, by omega, rfl, congrArg _ (cnt_t rfl (by decide))⟩, by simp [intOf]⟩) | (have hx : xv = false := (by assumption); subst hx; exact ⟨⟨3, by omega, rfl, congrArg _ (cnt_f rfl)⟩, by simp [intOf]⟩) | exact ⟨⟨3, by omega, rfl, congrArg _ (cnt_f rfl)⟩, by simp [intOf]⟩)
      · (go_wp2; all_goals first | (have hx : D = true := (by assumption); subst hx; exact ⟨⟨4, by omega, rfl, congrArg _ (cnt_t rfl (by decide))⟩, by simp [intOf]⟩) | (have hx : D = false := (by assumption); subst hx; exact ⟨⟨4, by omega, rfl, congrArg _ (cnt_f rfl)⟩, by simp [intOf]⟩) | exact ⟨⟨4, by omega, rfl, congrArg _ (cnt_f rfl)⟩, by simp [intOf]⟩)
      · rw [hc4.out]
        go_wp2_with (first
          | (go_at_call 22; refine (term_Vars_len [] t _ _ ((hv.keep F03).newer hb (by simp)) hs).mono ?_; rintro e w8 ⟨⟨A8, cap8, rfl⟩, F8⟩; have hr8 := hr.keep F8; have hb8 := hb.trans (F8.below.mono hb.size); clear hr hb; have hr := hr8; have hb := hb8; clear hr8 hb8; obtain ⟨q0, q1, q2, q3, q4, q5⟩ := blk4 (blk_below hb hb3 hlt3))
          | (go_at_call 23; refine (ready_put hr t _ _ (fun F hF => (hv.keep F03).newer hb hF) (by unfold I64; omega)).mono ?_; rintro e w9 ⟨⟨A9, cap9, rfl, hr9⟩, F9⟩; have hb9 := hb.trans (F9.below.mono hb.size); clear hr hb; have hr := hr9; have hb := hb9; clear hr9 hb9; obtain ⟨q0, q1, q2, q3, q4, q5⟩ := blk4 (blk_below hb hb3 hlt3))
          | (go_at_call 13; clear m4; have hr0 := hr.addOne (t := t.put (n % 9)) (ty := 25) (fun F h hF => h.1); refine (ready_asked hr0 ⟨#[97, 116, 111, 109]⟩ [t.put (n % 9)] _ 1 (fun F h => h.1) (by decide) (by simp) D1.out).mono ?_; rintro e w10 ⟨rfl, hr', b5⟩; clear hr hr0; have hr := hr'; clear hr'; have hbn := (hb.alloc hb.size _).trans b5; clear hb; have hb := hbn; clear hbn b5; obtain ⟨q0, q1, q2, q3, q4, q5⟩ := blk4 (blk_below hb hb3 hlt3))
          | (go_at_call 13; clear m5; refine (ready_asked hr ⟨#[105, 110, 116, 101, 103, 101, 114]⟩ [t.put (n % 9)] _ 1 (fun F h => h.1) (by decide) (by simp) D2.out).mono ?_; rintro e w11 ⟨rfl, hr', b5⟩; clear hr; have hr := hr'; clear hr'; have hbn := hb.trans b5; clear hb; have hb := hbn; clear hbn b5; obtain ⟨q0, q1, q2, q3, q4, q5⟩ := blk4 (blk_below hb hb3 hlt3)))
        all_goals
          go_ret
          exact ⟨rfl, F03.trans0 (Frm.of_below hb)⟩
  · have hk : ¬ t.erase.kind = 3 := by assumption
    have hc4 : Hid (cntB [xa, xi, xv, false] 4 = 1) := by rw [decide_eq_false hk, Bool.false_and] at HXD; rw [HXD.out]; exact HCNT
    clear HCNT HXD HK
    skip
    have FW : Frm [] w5 ((w6.alloc (.cells #[.int .i64 t.erase.kind, .int .i64 t.erase.n, .string t.erase.s, .slice A6 t.erase.kids.length cap6] 25)).alloc (.cells #[.bool xa, .bool xi, .bool xv, .bool false] 4)) := (by repeat (first | with_reducible (first | refine .alloc ?_ _ | refine .drewN ?_ _ | refine .drew ?_) | ((with_reducible refine .setCell ?_ ?_ _); rotate_left; focus (first | (left; simp; done) | (right; simp; (first | done | omega)))) | with_reducible (first | assumption | exact .refl _ _ | refine .trans0 ?_ ‹_›)))
    obtain ⟨c0, c1, c2, c3, c4, c5⟩ := blk4 (alloc_heap_new (w6.alloc (.cells #[.int .i64 t.erase.kind, .int .i64 t.erase.n, .string t.erase.s, .slice A6 t.erase.kids.length cap6] 25)) (.cells #[.bool xa, .bool xi, .bool xv, .bool false] 4))
    simp only [heap_size_alloc] at c0 c1 c2 c3 c4 c5
    skip
    have hr7 := hr.keep FW
    have hb7 := hb.trans (FW.below.mono hb.size)
    clear hr hb
    generalize World.alloc (World.alloc w6 _) _ = W at *
    have hr := hr7
    have hb := hb7
    clear hr7 hb7
    obtain ⟨q0, q1, q2, q3, q4, q5⟩ := blk4 (blk_below hb hb3 hlt3)
    go_loop [16, 18] (fun c i => ∃ j : Nat, j ≤ 4 ∧ i = .int .i64 j ∧ c = .int .i64 (cntB [xa, xi, xv, false] j)) (fun _ i => 4 - (intOf i).toNat)
    case atStart => exact ⟨0, by omega, rfl, rfl⟩
    case round =>
      obtain ⟨j, hj, rfl, rfl⟩ := hrel
      rcases (by omega : j = 0 ∨ j = 1 ∨ j = 2 ∨ j = 3 ∨ j = 4) with rfl | rfl | rfl | rfl | rfl
      · (go_wp2; all_goals first | (have hx : xa = true := (by assumption); subst hx; exact ⟨⟨1, by omega, rfl, congrArg _ (cnt_t rfl (by decide))⟩, by simp [intOf]⟩) | (have hx : xa = false := (by assumption); subst hx; exact ⟨⟨1, by omega, rfl, congrArg _ (cnt_f rfl)⟩, by simp [intOf]⟩) | exact ⟨⟨1, by omega, rfl, congrArg _ (cnt_f rfl)⟩, by simp [intOf]⟩)
      · (go_wp2; all_goals first | (have hx : xi = true := (by assumption); subst hx; exact ⟨⟨2, by omega, rfl, congrArg _ (cnt_t rfl (by decide))⟩, by simp [intOf]⟩) | (have hx : xi = false := (by assumption); subst hx; exact ⟨⟨2, by omega, rfl, congrArg _ (cnt_f rfl)⟩, by simp [intOf]⟩) | exact ⟨⟨2, by omega, rfl, congrArg _ (cnt_f rfl)⟩, by simp [intOf]⟩)
      · (go_wp2; all_goals first | (have hx : xv = true := (by assumption); subst hx; exact ⟨⟨3, by omega, rfl, congrArg _ (cnt_t rfl (by decide))⟩, by simp [intOf]⟩) | (have hx : xv = false := (by assumption); subst hx; exact ⟨⟨3, by omega, rfl, congrArg _ (cnt_f rfl)⟩, by simp [intOf]⟩) | exact ⟨⟨3, by omega, rfl, congrArg _ (cnt_f rfl)⟩, by simp [intOf]⟩)
      · (go_wp2; all_goals first | (have hx : false = true := (by assumption); subst hx; exact ⟨⟨4, by omega, rfl, congrArg _ (cnt_t rfl (by decide))⟩, by simp [intOf]⟩) | (have hx : false = false := (by assumption); subst hx; exact ⟨⟨4, by omega, rfl, congrArg _ (cnt_f rfl)⟩, by simp [intOf]⟩) | exact ⟨⟨4, by omega, rfl, congrArg _ (cnt_f rfl)⟩, by simp [intOf]⟩)
      · rw [hc4.out]
        go_wp2_with (first
          | (go_at_call 22; refine (term_Vars_len [] t _ _ ((hv.keep F03).newer hb (by simp)) hs).mono ?_; rintro e w8 ⟨⟨A8, cap8, rfl⟩, F8⟩; have hr8 := hr.keep F8; have hb8 := hb.trans (F8.below.mono hb.size); clear hr hb; have hr := hr8; have hb := hb8; clear hr8 hb8; obtain ⟨q0, q1, q2, q3, q4, q5⟩ := blk4 (blk_below hb hb3 hlt3))
          | (go_at_call 23; refine (ready_put hr t _ _ (fun F hF => (hv.keep F03).newer hb hF) (by unfold I64; omega)).mono ?_; rintro e w9 ⟨⟨A9, cap9, rfl, hr9⟩, F9⟩; have hb9 := hb.trans (F9.below.mono hb.size); clear hr hb; have hr := hr9; have hb := hb9; clear hr9 hb9; obtain ⟨q0, q1, q2, q3, q4, q5⟩ := blk4 (blk_below hb hb3 hlt3))
          | (go_at_call 13; clear m4; have hr0 := hr.addOne (t := t.put (n % 9)) (ty := 25) (fun F h hF => h.1); refine (ready_asked hr0 ⟨#[97, 116, 111, 109]⟩ [t.put (n % 9)] _ 1 (fun F h => h.1) (by decide) (by simp) D1.out).mono ?_; rintro e w10 ⟨rfl, hr', b5⟩; clear hr hr0; have hr := hr'; clear hr'; have hbn := (hb.alloc hb.size _).trans b5; clear hb; have hb := hbn; clear hbn b5; obtain ⟨q0, q1, q2, q3, q4, q5⟩ := blk4 (blk_below hb hb3 hlt3))
          | (go_at_call 13; clear m5; refine (ready_asked hr ⟨#[105, 110, 116, 101, 103, 101, 114]⟩ [t.put (n % 9)] _ 1 (fun F h => h.1) (by decide) (by simp) D2.out).mono ?_; rintro e w11 ⟨rfl, hr', b5⟩; clear hr; have hr := hr'; clear hr'; have hbn := hb.trans b5; clear hb; have hb := hbn; clear hbn b5; obtain ⟨q0, q1, q2, q3, q4, q5⟩ := blk4 (blk_below hb hb3 hlt3)))
        all_goals
          go_ret
          exact ⟨rfl, F03.trans0 (Frm.of_below hb)⟩
theorem law_BuiltKinds (t : Term) (v : Value) (n : Int) (w : World) (hv : TermV [] w t v) (hs : t.size ≤ 1048576) (hn0 : 0 ≤ n) (hn1 : n ≤ 255) : Calls Tryz.prog 7 #[v, .int .u8 n] w fun e w' => e = .returned (.bool true) ∧ Frm [] w w' := by
  by_cases h : t.size ≤ 200 ∧ t.check 9 = 0
  · exact kinds_ask t v n w hv hs hn0 hn1 h.1 h.2
  · exact kinds_let t v n w hv hs h
end Go.Proofs.YtkiofaojokofbaaGreat
namespace Go.Proofs.YtkiofaojokofbaaGreat
open Go.ChangeShapes Go.WideShapes Go.ChangeAt Go.RowKit

theorem cells_two {w : World} {a : Addr} {cs : List Value} (h : w.cells? 0 a 2 = some cs) : ∃ c0 c1, cs = [c0, c1] ∧ w.cell? a = some c0 ∧ w.cell? (a.add 1) = some c1 := by
  unfold World.cells? at h
  rw [if_pos (Nat.zero_le _)] at h
  cases h0 : w.cell? (a.add 0) with
  | none => simp [List.range, List.range.loop, h0] at h
  | some c0 =>
    cases h1 : w.cell? (a.add 1) with
    | none => simp [List.range, List.range.loop, h0, h1] at h
    | some c1 =>
      simp [List.range, List.range.loop, h0, h1] at h
      exact ⟨c0, c1, h.symm, by simpa [Addr.add] using h0, rfl⟩
set_option maxRecDepth 100000 in
theorem read_terms {H : Type} {enc : TypeId × Value → H} {W : World} {fuel : Nat} {c : Value} {d : DataW H} {ps : List MemPlace} (hd : Rows.uptoBulk d ≤ 1048576)
    (h : DataW.trod enc Tryz.prog W 0 (fun _ => true) true fuel 23 [c] = some (d, ps)) :
    ∃ A ts cap, c = .slice A (List.length ts) cap ∧ ts.length ≤ cap ∧ cap ≤ 9223372036854775807 ∧ KidsV [] W ts A 0 ∧ Term.sizes ts ≤ 1048576 := by
  rcases Go.Deep.open_slice Tryz.underlying23 h with ⟨e3, -⟩ | ⟨a, len, cap, mm, n', D, Pl, e3, hb, hl, hm, hmm, hx, hel⟩
  · cases e3
    exact ⟨none, [], 0, rfl, Nat.le_refl _, by decide, trivial, by simp [Term.sizes]⟩
  · cases e3
    simp only [Prod.mk.injEq] at hx
    obtain ⟨rfl, -⟩ := hx
    rw [Tryz.cellsTerm] at hel
    simp only [Rows.uptoBulk] at hd ⊢
    have hml : len ≤ mm := by rw [hmm]; simp; omega
    have hall : ∀ i, ∃ t : Term, i < len → (∃ c0 c1 c2 c3, W.cells? 0 (a.add (i * 4)) 4 = some [c0, c1, c2, c3] ∧ TermV [] W t (.agg #[c0, c1, c2, c3])) ∧ t.size ≤ Rows.uptoBulk (D i) := by
      intro i
      by_cases hi : i < len
      · obtain ⟨cs', hc, ht⟩ := hel i (by omega)
        have hb : Rows.uptoBulk (D i) ≤ 1048576 := by
          have := bulk_part (d := D i) (l := (List.range len).map D) (List.mem_map.2 ⟨i, List.mem_range.2 hi, rfl⟩)
          omega
        obtain ⟨t, c0, c1, c2, c3, rfl, htv, hsz⟩ := read_term 1048576 n' cs' (D i) (Pl i) hb (by omega) ht
        exact ⟨t, fun _ => ⟨⟨c0, c1, c2, c3, hc, htv⟩, hsz⟩⟩
      · exact ⟨default, fun h => absurd h hi⟩
    obtain ⟨f, hf⟩ := Classical.axiomOfChoice hall
    have hsize : Term.sizes ((List.range len).map f) ≤ Rows.uptoBulkAll ((List.range len).map D) := sizes_bulk f D _ (fun i hi => (hf i (List.mem_range.1 hi)).2)
    refine ⟨some a, (List.range len).map f, cap, by simp, by simpa using hl, by unfold maxLen at hm; omega, KidsV.of_get (some a) _ 0 (fun j t hj => ?_), by omega⟩
    have hjl : j < len := by have := (List.getElem?_eq_some_iff.1 hj).1; simpa using this
    have ht : t = f j := by
      rw [List.getElem?_map, List.getElem?_range hjl] at hj
      simpa using hj.symm
    subst ht
    have hspot : a = ⟨a.block, a.off, none⟩ := by
      obtain ⟨⟨c0, c1, c2, c3, hc, _⟩, _⟩ := hf 0 (by omega)
      obtain ⟨_, _, _, _, _, g0, _⟩ := cells_four hc
      exact cell_spot (by simpa [Addr.add] using g0)
    obtain ⟨⟨c0, c1, c2, c3, hc, htv⟩, _⟩ := hf j hjl
    obtain ⟨d0, d1, d2, d3, he, g0, g1, g2, g3⟩ := cells_four hc
    simp only [List.cons.injEq, and_true] at he
    obtain ⟨rfl, rfl, rfl, rfl⟩ := he
    rw [hspot] at g0 g1 g2 g3
    simp only [add_plain] at g0 g1 g2 g3
    refine ⟨a.block, a.off, c0, c1, c2, c3, by rw [← hspot], by simp, ?_, ?_, ?_, ?_, htv⟩
    · rw [Nat.zero_add]; exact g0
    · rw [Nat.zero_add]; exact g1
    · rw [Nat.zero_add]; exact g2
    · rw [Nat.zero_add]; exact g3

/-- Goals in memory: their arguments. -/
def GoalsV (W : World) (gs : List (List Term)) (A : Option Addr) : Prop :=
  ∀ j ts, gs[j]? = some ts → ∃ b off A' cap, A = some ⟨b, off, none⟩ ∧ b < W.heap.size ∧ W.cell? ⟨b, off + j * 2 + 1, none⟩ = some (.slice A' ts.length cap) ∧ KidsV [] W ts A' 0 ∧ Term.sizes ts ≤ 1048576 ∧ ts.length ≤ cap
theorem GoalsV.keep {w w' : World} {gs : List (List Term)} {A : Option Addr} (h : GoalsV w gs A) (f : Frm [] w w') : GoalsV w' gs A := fun j ts hj => by
  obtain ⟨b, off, A', cap, h1, h2, h3, h4, h5, h6⟩ := h j ts hj
  exact ⟨b, off, A', cap, h1, Nat.lt_of_lt_of_le h2 f.size, (f.cell h2 (by simp)).trans h3, h4.keep f, h5, h6⟩
theorem Tryz.cellsGoal : Tryz.prog.cellsOf 59 = 2 := by kernel_rfl
set_option maxRecDepth 100000 in
theorem read_goal {H : Type} {enc : TypeId × Value → H} {W : World} {fuel : Nat} {cs : List Value} {d : DataW H} {ps : List MemPlace} (hd : Rows.uptoBulk d ≤ 1048576)
    (h : DataW.trod enc Tryz.prog W 0 (fun _ => true) true fuel 59 cs = some (d, ps)) :
    ∃ c0 c1 A ts cap, cs = [c0, c1] ∧ c1 = .slice A (List.length ts) cap ∧ ts.length ≤ cap ∧ KidsV [] W ts A 0 ∧ Term.sizes ts ≤ 1048576 := by
  obtain ⟨y0, y1, n, hx, hlen, h0, h1⟩ := trod_struct2 Tryz.underlying59 h
  rw [Tryz.cellsGoal] at hlen
  match cs, hlen with
  | [c0, c1], _ =>
    have k0 : Tryz.prog.cellsOf 9 = 1 := by kernel_rfl
    have k1 : Tryz.prog.cellsOf 23 = 1 := by kernel_rfl
    simp only [k0, k1, List.drop_zero, List.drop_succ_cons, List.take_succ_cons, List.take_zero] at h0 h1
    simp only [Prod.mk.injEq] at hx
    obtain ⟨rfl, -⟩ := hx
    simp only [Rows.uptoBulk, Rows.uptoBulkAll] at hd
    obtain ⟨A, ts, cap, e, h2, -, h3, h4⟩ := read_terms (by omega) h1
    exact ⟨c0, c1, A, ts, cap, rfl, e, h2, h3, h4⟩
set_option maxRecDepth 100000 in
theorem open_goals {H : Type} {enc : TypeId × Value → H} {W : World} {base : Nat} {v : Value} {d : DataW H} {ps : List MemPlace} (hv : Value.okWide Tryz.prog W .any base 22 v)
    (h : DataW.Trod enc Tryz.prog W 0 (fun _ => true) true 22 v d ps) (hk : Rows.uptoBulk d ≤ 1048576) : ∃ A gs cap, v = .slice A (List.length gs) cap ∧ GoalsV W gs A ∧ gs.length ≤ 1048576 := by
  obtain ⟨n, h⟩ := h
  obtain ⟨a0, l0, c0, rfl⟩ := okWide_slice Tryz.underlying22 hv
  have h' : DataW.trod enc Tryz.prog W 0 (fun _ => true) true n 22 [.slice a0 l0 c0] = some (d, ps) := h
  rcases Go.Deep.open_slice Tryz.underlying22 h' with ⟨e3, -⟩ | ⟨a, len, cap, mm, n', D, Pl, e3, hb, hl, hm, hmm, hx, hel⟩
  · cases e3
    exact ⟨none, [], 0, rfl, fun j ts hj => by simp at hj, by simp⟩
  · cases e3
    simp only [Prod.mk.injEq] at hx
    obtain ⟨rfl, -⟩ := hx
    rw [Tryz.cellsGoal] at hel
    simp only [Rows.uptoBulk] at hk
    have hml : l0 ≤ mm := by rw [hmm]; simp; omega
    have hln := bulk_len ((List.range l0).map D)
    simp only [List.length_map, List.length_range] at hln
    have hall : ∀ i, ∃ ts : List Term, i < l0 → ∃ c0 c1 A cap, W.cells? 0 (a.add (i * 2)) 2 = some [c0, c1] ∧ c1 = .slice A ts.length cap ∧ ts.length ≤ cap ∧ KidsV [] W ts A 0 ∧ Term.sizes ts ≤ 1048576 := by
      intro i
      by_cases hi : i < l0
      · obtain ⟨cs', hc, ht⟩ := hel i (by omega)
        have hb : Rows.uptoBulk (D i) ≤ 1048576 := by
          have := bulk_part (d := D i) (l := (List.range l0).map D) (List.mem_map.2 ⟨i, List.mem_range.2 hi, rfl⟩)
          omega
        obtain ⟨c0, c1, A, ts, cap, rfl, h1, h2, h3, h4⟩ := read_goal hb ht
        exact ⟨ts, fun _ => ⟨c0, c1, A, cap, hc, h1, h2, h3, h4⟩⟩
      · exact ⟨default, fun h => absurd h hi⟩
    obtain ⟨f, hf⟩ := Classical.axiomOfChoice hall
    refine ⟨some a, (List.range l0).map f, c0, by simp, fun j ts hj => ?_, by simp; omega⟩
    have hjl : j < l0 := by have := (List.getElem?_eq_some_iff.1 hj).1; simpa using this
    have ht : ts = f j := by
      rw [List.getElem?_map, List.getElem?_range hjl] at hj
      simpa using hj.symm
    subst ht
    have hspot : a = ⟨a.block, a.off, none⟩ := by
      obtain ⟨c0, c1, A, cap, hc, _⟩ := hf 0 (by omega)
      obtain ⟨_, _, _, g0, _⟩ := cells_two hc
      exact cell_spot (by simpa [Addr.add] using g0)
    obtain ⟨c0, c1, A, cap, hc, rfl, h2, h3, h4⟩ := hf j hjl
    obtain ⟨d0, d1, he, g0, g1⟩ := cells_two hc
    simp only [List.cons.injEq, and_true] at he
    obtain ⟨rfl, rfl⟩ := he
    rw [hspot] at g0 g1
    simp only [add_plain] at g0 g1
    exact ⟨a.block, a.off, A, cap, by rw [← hspot], World.block_lt_of_cell? W ⟨a.block, _, none⟩ g0, g1, h3, h4, h2⟩
end Go.Proofs.YtkiofaojokofbaaGreat
namespace Go.Proofs.YtkiofaojokofbaaGreat
open Go.RowKit

def BoundInv (w : World) (gs : List (List Term)) (lb : Nat) (i : Value) (wr : World) : Prop :=
  ∃ (j : Nat) (st : PStore) (G F : List Nat), j ≤ gs.length ∧ i = .int .i64 j ∧ StoreAt G F wr w.heap.size st ∧ Frm [] w wr ∧ (∀ b ∈ F, w.heap.size ≤ b) ∧ LatAt wr lb Lat.nine ∧ lb ∉ F
theorem BoundInv.next {w wr w' : World} {gs : List (List Term)} {lb j : Nat} {st' : PStore} {G F : List Nat} (hj : j < gs.length) (FR : Frm [] w wr) (hF : ∀ b ∈ F, w.heap.size ≤ b) (hl : LatAt wr lb Lat.nine) (hlF : lb ∉ F) (hlb : lb < wr.heap.size) (hsub : ∀ b ∈ G, b ∈ F)
    (TO : StoreTo G F wr w' w.heap.size st') : BoundInv w gs lb (.int .i64 ((j : Int) + 1)) w' := by
  obtain ⟨G', F', h1, h2, h3, h4, h5⟩ := TO
  refine ⟨j + 1, st', G', F', by omega, by go_num, h1, FR.trans h2 (fun b hb => .inr (hF b (hsub b hb))), fun b hb => ?_, hl.frm h2 (fun h => hlF (hsub _ h)), fun h => ?_⟩
  · rcases h4 b hb with h | h
    · exact hF b h
    · have := FR.size; omega
  · rcases h4 lb h with h | h
    · exact hlF h
    · omega

set_option maxRecDepth 100000 in
set_option maxHeartbeats 2000000 in
theorem law_bound (gs : List (List Term)) (A : Option Addr) (cap : Nat) (w : World) (hg : GoalsV w gs A) (hlen : gs.length ≤ 1048576) : Calls Tryz.prog 11 #[.slice A gs.length cap] w fun e w' => ∃ st, BoundTo w st e w' := by
  have _ := hlen
  go_enter Tryz.func11, Tryz.ntmps11
  go_wp2_with (first
    | (go_at_call 26; refine (store_new [] _ (by simp)).mono ?_; rintro e w1 ⟨rfl, hst, F1⟩; have hsz := hst.lt w.heap.size (by simp))
    | (go_at_call 18; refine (law_nine _).mono ?_; rintro e w2 ⟨lb, rfl, hl, hlb, F2⟩; have hst2 := hst.keep F2)
    | (go_at_call 27; refine (store_fresh _ _ _ .empty 12 _ hst2 (by decide)).mono ?_; rintro e w3 ⟨rfl, TO⟩; obtain ⟨G3, F3', hs3, F3, k3, k4, k5⟩ := TO))
  go_loopw [5] (fun i wr => BoundInv w gs lb i wr) (fun i _ => gs.length - (intOf i).toNat)
  case atStart =>
    refine ⟨0, _, G3, F3', Nat.zero_le _, rfl, hs3, ((F1.trans0 F2).trans F3 (fun b hb => by rw [List.mem_singleton.1 hb]; exact .inr (Nat.le_refl _))), fun b hb => ?_, hl.frm F3 (fun h => by rw [List.mem_singleton.1 h] at hlb; omega), fun h => ?_⟩
    · rcases k4 b hb with h | h
      · rw [List.mem_singleton.1 h]; exact Nat.le_refl _
      · have := (F1.trans0 F2).size; omega
    · rcases k4 lb h with h | h
      · rw [List.mem_singleton.1 h] at hlb; omega
      · have := hl.lt; omega
  case round =>
    obtain ⟨j, st, G, F, hj, rfl, hs, FR, hF, hlr, hlF⟩ := hrel
    have hend : BoundTo w st (.returned (.pointer (some ⟨w.heap.size, 0, none⟩))) wr := ⟨_, G, F, rfl, hs, FR, hF⟩
    by_cases hlt : j < gs.length
    · by_cases h10 : j < 10
      · obtain ⟨b, off, A', cap', rfl, hb0, hc0, hk0, hsz, hcap⟩ := hg j gs[j] (List.getElem?_eq_getElem hlt)
        have hb := Nat.lt_of_lt_of_le hb0 FR.size
        have hc1 := (FR.cell hb0 (by simp)).trans hc0
        have hk := hk0.keep FR
        clear hc0
        generalize gs[j] = ts at *
        have hlw := hlr.lt
        have hsub := hs.sub
        by_cases h2 : ts.length = 2
        · match ts, h2 with
          | [x, y], _ =>
            obtain ⟨g, off2, A1, c1, A2, c2, rfl, hgg, -, e0, e1, e2, e3, d0, d1, d2, d3, hA, hB⟩ := hk.pair
            simp only [Term.sizes] at hsz
            simp only [List.length_cons, List.length_nil, Nat.reduceAdd] at hc1 hcap
            have HC := Lib.hid (fun (w1 : World) (f : Frm [] wr w1) => built_Call G F w.heap.size lb Lat.nine st ⟨#[61]⟩ [x, y] (some ⟨g, off2, none⟩) cap' w1 (hlr.frm0 f) (fun h => hlF (hsub _ h)) (hs.keep f) (hk0.newer (FR.trans0 f).below hF) (by decide) (by simp))
            clear h2
            have m1 : True := trivial
            cases hqa : decide (x.size ≤ 200)
            · have HX := Lib.hid hqa
              clear hqa
              go_wp2_with (first
                | (go_at_call 10; clear m1; refine (law_few [] x _ _ (hA.keep (by repeat (first | with_reducible (first | refine .alloc ?_ _ | refine .drewN ?_ _ | refine .drew ?_) | ((with_reducible refine .setCell ?_ ?_ _); rotate_left; focus (first | (left; simp; done) | (right; simp; (first | done | omega)))) | with_reducible (first | assumption | exact .refl _ _ | refine .trans0 ?_ ‹_›)))) (by omega)).mono ?_; rw [HX.out]; rintro e w4 ⟨rfl, F4⟩; have C1 := (F4.cell hb (by simp)).trans hc1; have D0 := (F4.cell hgg (by simp)).trans d0; have D1 := (F4.cell hgg (by simp)).trans d1; have D2 := (F4.cell hgg (by simp)).trans d2; have D3 := (F4.cell hgg (by simp)).trans d3)
                | (go_at_call 10; refine (law_few [] y _ _ (hB.keep (by repeat (first | with_reducible (first | refine .alloc ?_ _ | refine .drewN ?_ _ | refine .drew ?_) | ((with_reducible refine .setCell ?_ ?_ _); rotate_left; focus (first | (left; simp; done) | (right; simp; (first | done | omega)))) | with_reducible (first | assumption | exact .refl _ _ | refine .trans0 ?_ ‹_›)))) (by omega)).mono ?_; rw [HY.out]; rintro e w5 ⟨rfl, F5⟩; have C2 := (F5.cell (Nat.lt_of_lt_of_le hb F4.size) (by simp)).trans C1)
                | (go_at_call 19; refine (HC.out _ (by repeat (first | with_reducible (first | refine .alloc ?_ _ | refine .drewN ?_ _ | refine .drew ?_) | ((with_reducible refine .setCell ?_ ?_ _); rotate_left; focus (first | (left; simp; done) | (right; simp; (first | done | omega)))) | with_reducible (first | assumption | exact .refl _ _ | refine .trans0 ?_ ‹_›)))).mono ?_; rintro e w6 ⟨rfl, TO⟩))
              go_roundw
              case rel => exact BoundInv.next hlt FR hF hlr hlF hlw hsub (StoreTo.quiet hs (by repeat (first | with_reducible (first | refine .alloc ?_ _ | refine .drewN ?_ _ | refine .drew ?_) | ((with_reducible refine .setCell ?_ ?_ _); rotate_left; focus (first | (left; simp; done) | (right; simp; (first | done | omega)))) | with_reducible (first | assumption | exact .refl _ _ | refine .trans0 ?_ ‹_›))))
              case measure => simp [intOf]; omega
            · cases hqb : decide (y.size ≤ 200)
              · have HX := Lib.hid hqa
                have HY := Lib.hid hqb
                clear hqa hqb
                go_wp2_with (first
                  | (go_at_call 10; clear m1; refine (law_few [] x _ _ (hA.keep (by repeat (first | with_reducible (first | refine .alloc ?_ _ | refine .drewN ?_ _ | refine .drew ?_) | ((with_reducible refine .setCell ?_ ?_ _); rotate_left; focus (first | (left; simp; done) | (right; simp; (first | done | omega)))) | with_reducible (first | assumption | exact .refl _ _ | refine .trans0 ?_ ‹_›)))) (by omega)).mono ?_; rw [HX.out]; rintro e w4 ⟨rfl, F4⟩; have C1 := (F4.cell hb (by simp)).trans hc1; have D0 := (F4.cell hgg (by simp)).trans d0; have D1 := (F4.cell hgg (by simp)).trans d1; have D2 := (F4.cell hgg (by simp)).trans d2; have D3 := (F4.cell hgg (by simp)).trans d3)
                  | (go_at_call 10; refine (law_few [] y _ _ (hB.keep (by repeat (first | with_reducible (first | refine .alloc ?_ _ | refine .drewN ?_ _ | refine .drew ?_) | ((with_reducible refine .setCell ?_ ?_ _); rotate_left; focus (first | (left; simp; done) | (right; simp; (first | done | omega)))) | with_reducible (first | assumption | exact .refl _ _ | refine .trans0 ?_ ‹_›)))) (by omega)).mono ?_; rw [HY.out]; rintro e w5 ⟨rfl, F5⟩; have C2 := (F5.cell (Nat.lt_of_lt_of_le hb F4.size) (by simp)).trans C1)
                  | (go_at_call 19; refine (HC.out _ (by repeat (first | with_reducible (first | refine .alloc ?_ _ | refine .drewN ?_ _ | refine .drew ?_) | ((with_reducible refine .setCell ?_ ?_ _); rotate_left; focus (first | (left; simp; done) | (right; simp; (first | done | omega)))) | with_reducible (first | assumption | exact .refl _ _ | refine .trans0 ?_ ‹_›)))).mono ?_; rintro e w6 ⟨rfl, TO⟩))
                go_roundw
                case rel => exact BoundInv.next hlt FR hF hlr hlF hlw hsub (StoreTo.quiet hs (by repeat (first | with_reducible (first | refine .alloc ?_ _ | refine .drewN ?_ _ | refine .drew ?_) | ((with_reducible refine .setCell ?_ ?_ _); rotate_left; focus (first | (left; simp; done) | (right; simp; (first | done | omega)))) | with_reducible (first | assumption | exact .refl _ _ | refine .trans0 ?_ ‹_›))))
                case measure => simp [intOf]; omega
              · have HX := Lib.hid hqa
                have HY := Lib.hid hqb
                clear hqa hqb
                go_wp2_with (first
                  | (go_at_call 10; clear m1; refine (law_few [] x _ _ (hA.keep (by repeat (first | with_reducible (first | refine .alloc ?_ _ | refine .drewN ?_ _ | refine .drew ?_) | ((with_reducible refine .setCell ?_ ?_ _); rotate_left; focus (first | (left; simp; done) | (right; simp; (first | done | omega)))) | with_reducible (first | assumption | exact .refl _ _ | refine .trans0 ?_ ‹_›)))) (by omega)).mono ?_; rw [HX.out]; rintro e w4 ⟨rfl, F4⟩; have C1 := (F4.cell hb (by simp)).trans hc1; have D0 := (F4.cell hgg (by simp)).trans d0; have D1 := (F4.cell hgg (by simp)).trans d1; have D2 := (F4.cell hgg (by simp)).trans d2; have D3 := (F4.cell hgg (by simp)).trans d3)
                  | (go_at_call 10; refine (law_few [] y _ _ (hB.keep (by repeat (first | with_reducible (first | refine .alloc ?_ _ | refine .drewN ?_ _ | refine .drew ?_) | ((with_reducible refine .setCell ?_ ?_ _); rotate_left; focus (first | (left; simp; done) | (right; simp; (first | done | omega)))) | with_reducible (first | assumption | exact .refl _ _ | refine .trans0 ?_ ‹_›)))) (by omega)).mono ?_; rw [HY.out]; rintro e w5 ⟨rfl, F5⟩; have C2 := (F5.cell (Nat.lt_of_lt_of_le hb F4.size) (by simp)).trans C1)
                  | (go_at_call 19; refine (HC.out _ (by repeat (first | with_reducible (first | refine .alloc ?_ _ | refine .drewN ?_ _ | refine .drew ?_) | ((with_reducible refine .setCell ?_ ?_ _); rotate_left; focus (first | (left; simp; done) | (right; simp; (first | done | omega)))) | with_reducible (first | assumption | exact .refl _ _ | refine .trans0 ?_ ‹_›)))).mono ?_; rintro e w6 ⟨rfl, TO⟩))
                go_roundw
                case rel => exact BoundInv.next hlt FR hF hlr hlF hlw hsub (TO.after (by repeat (first | with_reducible (first | refine .alloc ?_ _ | refine .drewN ?_ _ | refine .drew ?_) | ((with_reducible refine .setCell ?_ ?_ _); rotate_left; focus (first | (left; simp; done) | (right; simp; (first | done | omega)))) | with_reducible (first | assumption | exact .refl _ _ | refine .trans0 ?_ ‹_›))))
                case measure => simp [intOf]; omega
        · have h2' : ((ts.length : Int) == 2) = false := by simpa using (by omega : ¬ (ts.length : Int) = 2)
          clear h2
          go_wp2
          go_roundw
          case rel => exact BoundInv.next hlt FR hF hlr hlF hlw hsub (StoreTo.quiet hs (by repeat (first | with_reducible (first | refine .alloc ?_ _ | refine .drewN ?_ _ | refine .drew ?_) | ((with_reducible refine .setCell ?_ ?_ _); rotate_left; focus (first | (left; simp; done) | (right; simp; (first | done | omega)))) | with_reducible (first | assumption | exact .refl _ _ | refine .trans0 ?_ ‹_›))))
          case measure => simp [intOf]; omega
      · go_wp2
        go_ret
        exact ⟨st, hend⟩
    · have : j = gs.length := by omega
      subst this
      go_wp2
      go_ret
      exact ⟨st, hend⟩
end Go.Proofs.YtkiofaojokofbaaGreat
namespace Go.Proofs.YtkiofaojokofbaaGreat
open Go.RowKit

theorem cmpI_neg (a b : Int) : cmpI b a = -cmpI a b := by
  unfold cmpI
  split <;> split <;> first | omega | (split <;> omega)
theorem u8_cases (x y : UInt8) : (x < y ∧ ¬ y < x ∧ x ≠ y) ∨ (x = y ∧ ¬ x < y ∧ ¬ y < x) ∨ (¬ x < y ∧ y < x ∧ x ≠ y) := by
  have h : ∀ a b : UInt8, a < b ↔ a.toNat < b.toNat := fun a b => UInt8.lt_iff_toNat_lt
  have e : x = y ↔ x.toNat = y.toNat := ⟨fun h => by rw [h], fun h => UInt8.toNat_inj.1 h⟩
  rw [h x y, h y x, ne_eq, e]
  omega
theorem less_asymm : ∀ a b : List UInt8, Op.bytesLess a b = true → Op.bytesLess b a = false ∧ a ≠ b
  | [], [], h => by simp [Op.bytesLess] at h
  | [], _ :: _, _ => by simp [Op.bytesLess]
  | _ :: _, [], h => by simp [Op.bytesLess] at h
  | x :: xs, y :: ys, h => by
    have ih := less_asymm xs ys
    simp only [Op.bytesLess] at h ⊢
    rcases u8_cases x y with ⟨h1, h2, h3⟩ | ⟨h1, h2, h3⟩ | ⟨h1, h2, h3⟩
    · refine ⟨?_, fun e => h3 (List.cons.inj e).1⟩
      have : (y == x) = false := by simpa using (Ne.symm h3)
      simp [h2, this]
    · subst h1
      simp only [h2, decide_false, Bool.false_or, beq_self_eq_true, Bool.true_and] at h ⊢
      obtain ⟨i1, i2⟩ := ih h
      exact ⟨i1, fun e => i2 (List.cons.inj e).2⟩
    · have : (x == y) = false := by simpa using h3
      simp [h1, this] at h
theorem less_total : ∀ a b : List UInt8, Op.bytesLess a b = false → a ≠ b → Op.bytesLess b a = true
  | [], [], _, h => absurd rfl h
  | [], _ :: _, h, _ => by simp [Op.bytesLess] at h
  | _ :: _, [], _, _ => by simp [Op.bytesLess]
  | x :: xs, y :: ys, h, hn => by
    have ih := less_total xs ys
    simp only [Op.bytesLess] at h ⊢
    rcases u8_cases x y with ⟨h1, h2, h3⟩ | ⟨h1, h2, h3⟩ | ⟨h1, h2, h3⟩
    · simp [h1] at h
    · subst h1
      simp only [h2, decide_false, Bool.false_or, beq_self_eq_true, Bool.true_and] at h ⊢
      exact ih h (fun e => hn (by rw [e]))
    · simp [h2]
theorem cmpS_neg (a b : ByteArray) : cmpS b a = -cmpS a b := by
  unfold cmpS
  cases h : Op.bytesLess a.toList b.toList with
  | true =>
    obtain ⟨h1, h2⟩ := less_asymm _ _ h
    rw [h1]
    simp [Ne.symm h2]
  | false =>
    by_cases e : a.toList = b.toList
    · rw [e] at h ⊢
      rw [h]; simp
    · rw [less_total _ _ h e]
      simp [e]
theorem orI_neg : ∀ l : List Int, orI (l.map (- ·)) = -orI l
  | [] => rfl
  | a :: l => by
    simp only [List.map_cons, orI]
    rw [orI_neg l]
    by_cases h : a = 0
    · simp [h]
    · rw [if_neg (by omega), if_neg h]
theorem bare0_neg (k n : Int) (s : ByteArray) (m : Nat) (k2 n2 : Int) (s2 : ByteArray) (m2 : Nat) : bare0 k2 n2 s2 m2 k n s m = -bare0 k n s m k2 n2 s2 m2 := by
  have h4 := orI_neg [cmpI k k2, cmpI m m2, cmpI n n2, cmpS s s2]
  have h2 := orI_neg [cmpI m m2, cmpS s s2]
  simp only [List.map_cons, List.map_nil, ← cmpI_neg, ← cmpS_neg] at h4 h2
  unfold bare0
  by_cases h : k = k2
  · subst h
    simp only [true_and]
    by_cases h1 : k = 1 ∨ k = 2
    · simp only [if_pos h1]; exact cmpI_neg _ _
    · simp only [if_neg h1]
      by_cases h3 : k = 3
      · simp only [if_pos h3]; exact h2
      · simp only [if_neg h3]; exact h4
  · rw [if_neg (fun x => h x.1.symm), if_neg (fun x => h x.1.symm), if_neg (fun x => h x.1), if_neg (fun x => h x.1), h4]
theorem bare0_kind {k n : Int} {s : ByteArray} {m : Nat} {k2 n2 : Int} {s2 : ByteArray} {m2 : Nat} (h : bare0 k n s m k2 n2 s2 m2 = 0) : k = k2 := by
  unfold bare0 at h
  split at h
  · rename_i hc; exact hc.1
  split at h
  · rename_i hc; exact hc.1
  · exact cmpI_zero.1 (orI_zero.1 h).1
theorem bareL_neg : ∀ (ts us : List Term), (∀ t ∈ ts, ∀ u, bareF u t = -bareF t u) → bareL us ts = -bareL ts us
  | [], us, _ => by cases us <;> rfl
  | t :: ts, [], _ => rfl
  | t :: ts, u :: us, h => by
    simp only [bareL]
    rw [h t (by simp) u, bareL_neg ts us (fun x hx => h x (by simp [hx]))]
    by_cases e : bareF t u = 0
    · simp [e]
    · rw [if_neg (by omega), if_neg e]
theorem bareF_neg : ∀ (t u : Term), bareF u t = -bareF t u := by
  intro t
  induction t using Term.induct with
  | h k n s ts ih =>
    intro u
    obtain ⟨k2, n2, s2, us⟩ := u
    have h0 := bare0_neg k n s ts.length k2 n2 s2 us.length
    have hL := bareL_neg ts us ih
    rw [bareF, bareF]
    show (if bare0 k2 n2 s2 us.length k n s ts.length = 0 ∧ k2 ≠ 1 ∧ k2 ≠ 2 then bareL us ts else bare0 k2 n2 s2 us.length k n s ts.length) = -(if bare0 k n s ts.length k2 n2 s2 us.length = 0 ∧ k ≠ 1 ∧ k ≠ 2 then bareL ts us else bare0 k n s ts.length k2 n2 s2 us.length)
    rw [h0]
    by_cases e : bare0 k n s ts.length k2 n2 s2 us.length = 0
    · have hk := bare0_kind e
      subst hk
      by_cases e2 : k ≠ 1 ∧ k ≠ 2
      · rw [if_pos ⟨by omega, e2⟩, if_pos ⟨e, e2⟩, hL]
      · rw [if_neg (fun x => e2 x.2), if_neg (fun x => e2 x.2)]
    · rw [if_neg (fun x => e (by omega)), if_neg (fun x => e x.1)]
end Go.Proofs.YtkiofaojokofbaaGreat
namespace Go.Proofs.YtkiofaojokofbaaGreat
open Go.RowKit

theorem opened_flip (t : Term) : isNonvar t = !isVar t := rfl
/-- What is asked of two terms, in any store: nothing of it changes the store. -/
theorem pairs_law (st : PStore) (a b : Term) : ∃ (p q less more v o is : Bool) (e e6 e7 g : Int) (st' : PStore),
    askR st ⟨#[61, 61]⟩ [a, b] = (p, e, st) ∧ askR st ⟨#[92, 61, 61]⟩ [a, b] = (q, e, st) ∧ askR st ⟨#[118, 97, 114]⟩ [a] = (v, 0, st) ∧ askR st ⟨#[110, 111, 110, 118, 97, 114]⟩ [a] = (!v, 0, st) ∧
    askR st ⟨#[92, 61]⟩ [a, b] = (o, g, st) ∧ askR st ⟨#[64, 60]⟩ [a, b] = (less, e6, st) ∧ askR st ⟨#[64, 60]⟩ [b, a] = (more, e7, st) ∧ askR st ⟨#[61]⟩ [a, b] = (is, g, st') ∧
    ((e != 0) = true ∨ (e = 0 ∧ ((p = true ∧ q = false ∧ less = false ∧ more = false) ∨ (p = false ∧ q = true ∧ less = true ∧ more = false) ∨ (p = false ∧ q = true ∧ less = false ∧ more = true)))) ∧
    ((g != 0) = true ∨ (g = 0 ∧ o = !is)) := by
  have key : ∀ (f : Int → Bool) (x y : Term), (st.cmpT Lat.nine f x y).1 = (if (st.full x).2 = 0 then (if (st.full y).2 = 0 then f (bareF (st.full x).1.erase (st.full y).1.erase) else false) else false) ∧
      (st.cmpT Lat.nine f x y).2.2.1 = (if (st.full x).2 = 0 then (st.full y).2 else (st.full x).2) := by
    intro f x y
    unfold PStore.cmpT
    split
    · split
      · rename_i h1 h2; exact ⟨rfl, h2.symm⟩
      · exact ⟨rfl, rfl⟩
    · exact ⟨rfl, rfl⟩
  refine ⟨(st.cmpT Lat.nine isZ a b).1, (st.cmpT Lat.nine isNZ a b).1, (st.cmpT Lat.nine isNeg a b).1, (st.cmpT Lat.nine isNeg b a).1, isVar (Lat.nine.opened (st.walk a)).1, (st.unequalT Lat.nine a b).1, (st.matchT Lat.nine [a] [b]).1,
    (st.cmpT Lat.nine isZ a b).2.2.1, (st.cmpT Lat.nine isNeg a b).2.2.1, (st.cmpT Lat.nine isNeg b a).2.2.1, (st.matchT Lat.nine [a] [b]).2.2.1, (st.matchT Lat.nine [a] [b]).2.2.2, (askR_at (i := 4) (by kernel_rfl)).trans ?h1, (askR_at (i := 5) (by kernel_rfl)).trans ?h2, (askR_at (i := 8) (by kernel_rfl)).trans ?h3, (askR_at (i := 9) (by kernel_rfl)).trans ?h4, (askR_at (i := 3) (by kernel_rfl)).trans ?h5,
    (askR_at (i := 6) (by kernel_rfl)).trans ?h6, (askR_at (i := 6) (by kernel_rfl)).trans ?h7, (askR_at (i := 2) (by kernel_rfl)).trans ?h8, ?h9, ?h10⟩
  case h1 => show ((st.cmpT Lat.nine isZ a b).1, (st.cmpT Lat.nine isZ a b).2.2.1, (st.cmpT Lat.nine isZ a b).2.2.2) = _; rw [cmpT_st]
  case h2 =>
    show ((st.cmpT Lat.nine isNZ a b).1, (st.cmpT Lat.nine isNZ a b).2.2.1, (st.cmpT Lat.nine isNZ a b).2.2.2) = _
    rw [cmpT_st, (key isNZ a b).2, ← (key isZ a b).2]
  case h3 => rfl
  case h4 => rfl
  case h5 => rfl
  case h6 => show ((st.cmpT Lat.nine isNeg a b).1, (st.cmpT Lat.nine isNeg a b).2.2.1, (st.cmpT Lat.nine isNeg a b).2.2.2) = _; rw [cmpT_st]
  case h7 => show ((st.cmpT Lat.nine isNeg b a).1, (st.cmpT Lat.nine isNeg b a).2.2.1, (st.cmpT Lat.nine isNeg b a).2.2.2) = _; rw [cmpT_st]
  case h8 => rfl
  case h9 =>
    rw [(key isZ a b).1, (key isZ a b).2, (key isNZ a b).1, (key isNeg a b).1, (key isNeg b a).1]
    have hn := bareF_neg (st.full a).1.erase (st.full b).1.erase
    by_cases h1 : (st.full a).2 = 0
    · by_cases h2 : (st.full b).2 = 0
      · simp only [h1, h2, if_true]
        refine .inr ⟨trivial, ?_⟩
        rw [hn]
        generalize bareF (st.full a).1.erase (st.full b).1.erase = c
        rcases (by omega : c = 0 ∨ c < 0 ∨ 0 < c) with h | h | h
        · subst h; exact .inl ⟨rfl, rfl, rfl, rfl⟩
        · refine .inr (.inl ⟨?_, ?_, ?_, ?_⟩)
          · simp [isZ]; omega
          · simp [isNZ]; omega
          · simp [isNeg]; omega
          · simp [isNeg]; omega
        · refine .inr (.inr ⟨?_, ?_, ?_, ?_⟩)
          · simp [isZ]; omega
          · simp [isNZ]; omega
          · simp [isNeg]; omega
          · simp [isNeg]; omega
      · exact .inl (by rw [if_pos h1]; simpa using h2)
    · exact .inl (by rw [if_neg h1]; simpa using h1)
  case h10 =>
    show _ ∨ ((st.matchT Lat.nine [a] [b]).2.2.1 = 0 ∧ (!(st.matchT Lat.nine [a] [b]).1 && ((st.matchT Lat.nine [a] [b]).2.2.1 == 0)) = !(st.matchT Lat.nine [a] [b]).1)
    by_cases h : (st.matchT Lat.nine [a] [b]).2.2.1 = 0
    · exact .inr ⟨h, by rw [h]; simp⟩
    · exact .inl (by simpa using h)
end Go.Proofs.YtkiofaojokofbaaGreat
