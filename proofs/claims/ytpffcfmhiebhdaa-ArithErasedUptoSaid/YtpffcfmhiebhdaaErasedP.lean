/- ArithErased's plain law: a term and itself without seals have the same value; the level is below all in the term. -/
import Derived.Test.YtpffcfmhiebhdaaNineP
namespace Go.Proofs.Ytpffcfmhiebhdaa
open Go.RowKit

/-- Each seal stands round one term. -/
def Term.WF (t : Term) : Prop := ∀ p ∈ t.parts, p.kind = 4 → ∃ x, p.kids = [x]
theorem wf_mk {k n : Int} {s : ByteArray} {ts : List Term} : Term.WF (.mk k n s ts) ↔ (k = 4 → ∃ x, ts = [x]) ∧ ∀ x ∈ ts, Term.WF x := by
  unfold Term.WF
  simp only [Term.parts, Term.partss_eq, List.mem_cons, List.mem_flatMap, forall_eq_or_imp, Term.kind, Term.kids]
  refine and_congr Iff.rfl ⟨fun h x hx p hp => h p ⟨x, hx, hp⟩, fun h p ⟨x, hx, hp⟩ => h x hx p hp⟩
theorem wf_default : Term.WF default := wf_mk.2 ⟨fun h => absurd h (by decide), fun _ h => by cases h⟩

theorem joinTs_nine : ∀ (ts : List Term) (a : Int), In9 a → (∀ x ∈ ts, In9 (Lat.nine.joinT x)) → In9 (Lat.nine.joinTs a ts) ∧ a ≤ Lat.nine.joinTs a ts ∧ ∀ x ∈ ts, Lat.nine.joinT x ≤ Lat.nine.joinTs a ts
  | [], a, ha, _ => ⟨ha, Int.le_refl _, fun _ h => by cases h⟩
  | t :: ts, a, ha, h => by
    have ht := h t (by simp)
    have hm := in9_max ha ht
    have := joinTs_nine ts (Lat.nine.join a (Lat.nine.joinT t)) (by rw [nine_join ha ht]; exact hm) (fun x hx => h x (by simp [hx]))
    simp only [Lat.joinTs]
    rw [nine_join ha ht] at this ⊢
    obtain ⟨h1, h2, h3⟩ := this
    refine ⟨h1, by omega, fun x hx => ?_⟩
    rcases List.mem_cons.1 hx with rfl | hx
    · omega
    · exact h3 x hx
theorem joinT_nine : ∀ t : Term, In9 (Lat.nine.joinT t) := by
  intro t
  induction t using Term.induct with
  | h k n s ts ih =>
    simp only [Lat.joinT]
    refine (joinTs_nine ts _ ?_ ih).1
    split
    · exact nine_level n
    · rw [nine_bottom]; exact ⟨by decide, by decide⟩
theorem joinT_kid {k n : Int} {s : ByteArray} {ts : List Term} {x : Term} (hx : x ∈ ts) : Lat.nine.joinT x ≤ Lat.nine.joinT (.mk k n s ts) := by
  simp only [Lat.joinT]
  refine (joinTs_nine ts _ ?_ (fun x _ => joinT_nine x)).2.2 x hx
  split
  · exact nine_level n
  · rw [nine_bottom]; exact ⟨by decide, by decide⟩
theorem joinT_seal (n : Int) (s : ByteArray) (x : Term) : Lat.nine.joinT (.mk 4 n s [x]) = max (Lat.nine.level n) (Lat.nine.joinT x) := by
  show Lat.nine.join (Lat.nine.level n) (Lat.nine.joinT x) = _
  exact nine_join (nine_level n) (joinT_nine x)
theorem level_in {q : Int} (h : In9 q) : Lat.nine.level q = q := by
  unfold Lat.level
  have h9 : ((Lat.nine.n : Nat) : Int) = 9 := rfl
  rw [h9, if_neg]
  obtain ⟨h1, h2⟩ := h
  omega

theorem peel_facts : ∀ (t : Term) (a : Int), t.WF → In9 a → ∃ k n s ts q, Lat.nine.peel a t = (.mk k n s ts, q) ∧ k ≠ 4 ∧ t.erase = .mk k n s (ts.map Term.erase) ∧ In9 q ∧ q ≤ max a (Lat.nine.joinT t) ∧
    ∀ x ∈ ts, x.WF ∧ Lat.nine.joinT x ≤ Lat.nine.joinT t := by
  intro t
  induction t using Term.induct with
  | h k n s ts ih =>
    intro a hw ha
    obtain ⟨hw1, hw2⟩ := wf_mk.1 hw
    cases hs : (Term.mk k n s ts).sealOf
    · have hk : k ≠ 4 := by
        rintro rfl
        obtain ⟨x, rfl⟩ := hw1 rfl
        cases hs
      exact ⟨k, n, s, ts, a, Lat.peel_else _ _ _ hs, hk, Term.erase_else (fun h => hk h.1), ha, by omega, fun x hx => ⟨hw2 x hx, joinT_kid hx⟩⟩
    · obtain ⟨rfl, x, rfl⟩ := Term.sealOf_true hs
      rw [Lat.peel_seal, nine_join ha (nine_level n), Term.erase_seal, joinT_seal]
      obtain ⟨k', n', s', ts', q, h1, h2, h3, h4, h5, h6⟩ := ih x (by simp) _ (hw2 x (by simp)) (in9_max ha (nine_level n))
      exact ⟨k', n', s', ts', q, h1, h2, h3, h4, by omega, fun y hy => ⟨(h6 y hy).1, by have := (h6 y hy).2; omega⟩⟩

theorem opened_facts (t : Term) (hw : t.WF) : ∃ k n s ts q, Lat.nine.opened t = (.mk k n s ts, q) ∧ k ≠ 4 ∧ t.erase = .mk k n s (ts.map Term.erase) ∧ In9 q ∧ q ≤ Lat.nine.joinT t ∧ ∀ x ∈ ts, x.WF ∧ Lat.nine.joinT x ≤ Lat.nine.joinT t := by
  have h0 : In9 Lat.nine.bottom := by rw [nine_bottom]; exact ⟨by decide, by decide⟩
  obtain ⟨k, n, s, ts, q, h1, h2, h3, h4, h5, h6⟩ := peel_facts t Lat.nine.bottom hw h0
  have hj := (joinT_nine t).1
  rw [nine_bottom] at h5
  unfold Lat.opened
  split
  · rw [h1]
    refine ⟨k, n, s, ts.map (Term.put q), q, rfl, h2, ?_, h4, by omega, ?_⟩
    · rw [h3, List.map_map]; rfl
    · intro y hy
      obtain ⟨x, hx, rfl⟩ := List.mem_map.1 hy
      obtain ⟨g1, g2⟩ := h6 x hx
      refine ⟨wf_mk.2 ⟨fun _ => ⟨x, rfl⟩, fun z hz => by rw [List.mem_singleton.1 hz]; exact g1⟩, ?_⟩
      show Lat.nine.joinT (.mk 4 q _ [x]) ≤ _
      rw [joinT_seal, level_in h4]
      omega
  · rename_i hs
    have hs' : t.sealOf = false := by simpa using hs
    rw [Lat.peel_else _ _ _ hs'] at h1
    simp only [Prod.mk.injEq] at h1
    obtain ⟨rfl, -⟩ := h1
    exact ⟨k, n, s, ts, _, rfl, h2, h3, h0, by rw [nine_bottom]; exact hj, h6⟩

theorem getD_erase (ts : List Term) (i : Nat) : (ts.map Term.erase).getD i default = (ts.getD i default).erase := by
  rw [List.getD_eq_getElem?_getD, List.getD_eq_getElem?_getD, List.getElem?_map]
  cases ts[i]? <;> rfl
theorem getD_facts {ts : List Term} {J : Int} (hJ : 0 ≤ J) (h : ∀ x ∈ ts, x.WF ∧ Lat.nine.joinT x ≤ J) (i : Nat) : (ts.getD i default).WF ∧ Lat.nine.joinT (ts.getD i default) ≤ J := by
  rw [List.getD_eq_getElem?_getD]
  cases hi : ts[i]? with
  | none => exact ⟨wf_default, by show Lat.nine.bottom ≤ J; rw [nine_bottom]; exact hJ⟩
  | some x => exact h x (List.mem_of_getElem? hi)

theorem eval_erased : ∀ d m t a b, Term.WF t → In9 a → In9 b →
    (evalT Lat.nine .empty d m t a).1 = (evalT Lat.nine .empty d m t.erase b).1 ∧ (evalT Lat.nine .empty d m t a).2.2 = (evalT Lat.nine .empty d m t.erase b).2.2 ∧
      (evalT Lat.nine .empty d m t.erase b).2.1 = b ∧ In9 (evalT Lat.nine .empty d m t a).2.1 ∧ (evalT Lat.nine .empty d m t a).2.1 ≤ max a (Lat.nine.joinT t)
  | 0, m, t, a, b, _, ha, _ => ⟨rfl, rfl, rfl, ha, by simp only [evalT]; omega⟩
  | d + 1, m, t, a, b, hw, ha, hb => by
    by_cases h : 2000 < m + 1
    · simp only [evalT, h, if_true, true_and]; exact ⟨ha, by omega⟩
    · obtain ⟨k, n, s, ts, q, h1, h2, h3, h4, h5, h6⟩ := opened_facts t hw
      have hJ := (joinT_nine t).1
      have hwalk : ∀ u, PStore.empty.walk u = u := fun u => by cases u; rfl
      have ho : Lat.nine.opened t.erase = (.mk k n s (ts.map Term.erase), 0) := by
        rw [h3]
        unfold Lat.opened
        rw [if_neg (by simp [Term.sealOf, Term.kind, h2]), nine_bottom]
      rw [evalT_succ _ _ _ _ _ _ h, evalT_succ _ _ _ _ _ _ h, hwalk, hwalk, h1, ho]
      dsimp only [Term.kind, Term.n, Term.s, Term.kids]
      rw [nine_join ha h4, nine_join hb ⟨by decide, by decide⟩, show max b 0 = b by have := hb.1; omega]
      have h7 := in9_max ha h4
      generalize hJJ : Lat.nine.joinT t = J at *
      have h8 : max a q ≤ max a J := by omega
      generalize max a q = a1 at *
      have e0 := eval_erased d (m + 1) (ts.getD 0 default) a1 b (getD_facts hJ h6 0).1 h7 hb
      have j0 := (getD_facts hJ h6 0).2
      rw [← getD_erase] at e0
      unfold evalB
      rw [List.length_map]
      split
      · exact ⟨rfl, rfl, rfl, h7, h8⟩
      split
      · exact ⟨rfl, rfl, rfl, h7, h8⟩
      split
      · exact ⟨rfl, rfl, rfl, h7, h8⟩
      generalize evalT Lat.nine .empty d (m + 1) (ts.getD 0 default) a1 = r1 at *
      generalize evalT Lat.nine .empty d (m + 1) ((ts.map Term.erase).getD 0 default) b = r2 at *
      obtain ⟨x1, l1, m1⟩ := r1
      obtain ⟨x2, l2, m2⟩ := r2
      dsimp only at e0
      obtain ⟨rfl, rfl, rfl, g4, g5⟩ := e0
      cases x1 with
      | error c => exact ⟨rfl, rfl, rfl, g4, by dsimp only; omega⟩
      | ok v =>
        dsimp only
        split
        · have e1 := eval_erased d m1 (ts.getD 1 default) l1 l2 (getD_facts hJ h6 1).1 g4 hb
          have j1 := (getD_facts hJ h6 1).2
          rw [← getD_erase] at e1
          generalize evalT Lat.nine .empty d m1 (ts.getD 1 default) l1 = r1 at *
          generalize evalT Lat.nine .empty d m1 ((ts.map Term.erase).getD 1 default) l2 = r2 at *
          obtain ⟨x1, l3, m3⟩ := r1
          obtain ⟨x2, l4, m4⟩ := r2
          dsimp only at e1
          obtain ⟨rfl, rfl, rfl, k4, k5⟩ := e1
          cases x1 with
          | error c => exact ⟨rfl, rfl, rfl, k4, by dsimp only; omega⟩
          | ok v => exact ⟨rfl, rfl, rfl, k4, by dsimp only; omega⟩
        · split
          · exact ⟨rfl, rfl, rfl, g4, by dsimp only; omega⟩
          · exact ⟨rfl, rfl, rfl, g4, by dsimp only; omega⟩

theorem erased_law (t : Term) (hw : t.WF) : ∃ x lev c, evalS Lat.nine .empty t = (x, lev, c) ∧ evalS Lat.nine .empty t.erase = (x, 0, c) ∧ Lat.nine.leq lev (Lat.nine.joinT t) = true := by
  have i0 : In9 0 := ⟨by decide, by decide⟩
  obtain ⟨h1, h2, h3, h4, h5⟩ := eval_erased 2000 0 t 0 0 hw i0 i0
  have hJ := joinT_nine t
  unfold evalS
  rw [nine_bottom]
  generalize evalT Lat.nine .empty 2000 0 t 0 = r1 at *
  generalize evalT Lat.nine .empty 2000 0 t.erase 0 = r2 at *
  obtain ⟨x1, l1, m1⟩ := r1
  obtain ⟨x2, l2, m2⟩ := r2
  dsimp only at h1 h2 h3 h4 h5
  subst h1 h2 h3
  have hl : Lat.nine.leq l1 (Lat.nine.joinT t) = true := by rw [nine_leq h4 hJ]; have := hJ.1; exact decide_eq_true (by omega)
  cases x1 with
  | ok v => exact ⟨v, l1, 0, rfl, rfl, hl⟩
  | error c => exact ⟨0, l1, c, rfl, rfl, hl⟩
theorem wf_check {t : Term} {levels : Int} (h : t.check levels = 0) : t.WF := by
  unfold Term.check at h
  split at h
  · cases h
  split at h
  · cases h
  split at h
  · rename_i ha
    intro p hp hk
    have := List.all_eq_true.1 ha p hp
    unfold Term.alone at this
    obtain ⟨k, n, s, ts⟩ := p
    simp only [Term.kind] at hk
    subst hk
    match ts with
    | [] => simp [Term.kind, Term.kids] at this
    | [x] => exact ⟨x, rfl⟩
    | x :: y :: r => simp [Term.kind, Term.kids] at this
  · cases h
end Go.Proofs.Ytpffcfmhiebhdaa
