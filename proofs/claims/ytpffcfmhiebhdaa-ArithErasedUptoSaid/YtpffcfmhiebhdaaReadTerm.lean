/- A term that comes in as an argument: read, and as TermV. -/
import Derived.Test.YtpffcfmhiebhdaaRows
import Derived.Test.YtpffcfmhiebhdaaTermMem
import Derived.Deep.Slices
import Derived.Lib.SmallJoins
namespace Go.Proofs.Ytpffcfmhiebhdaa
open Go.RowKit

theorem bulk_part {H : Type} {d : DataW H} {l : List (DataW H)} (h : d ∈ l) : Rows.uptoBulk d ≤ Rows.uptoBulkAll l := by
  induction l with
  | nil => cases h
  | cons x r ih =>
    simp only [Rows.uptoBulkAll]
    rcases List.mem_cons.1 h with rfl | h
    · omega
    · have := ih h; omega
theorem bulk_pos {H : Type} (d : DataW H) : 1 ≤ Rows.uptoBulk d := by
  cases d with
  | lit l => cases l <;> simp [Rows.uptoBulk]
  | nil => simp [Rows.uptoBulk]
  | ptr d => simp [Rows.uptoBulk]
  | slice elems spare => simp [Rows.uptoBulk]
  | agg parts => simp [Rows.uptoBulk]
  | iface t d => simp [Rows.uptoBulk]
  | map entries => simp [Rows.uptoBulk]
  | held h => simp [Rows.uptoBulk]
theorem bulk_len {H : Type} (l : List (DataW H)) : l.length ≤ Rows.uptoBulkAll l := by
  induction l with
  | nil => simp [Rows.uptoBulkAll]
  | cons x r ih => have := bulk_pos x; simp only [Rows.uptoBulkAll, List.length_cons]; omega
theorem cells_four {w : World} {a : Addr} {cs : List Value} (h : w.cells? 0 a 4 = some cs) : ∃ c0 c1 c2 c3, cs = [c0, c1, c2, c3] ∧ w.cell? a = some c0 ∧ w.cell? (a.add 1) = some c1 ∧ w.cell? (a.add 2) = some c2 ∧ w.cell? (a.add 3) = some c3 := by
  unfold World.cells? at h
  rw [if_pos (Nat.zero_le _)] at h
  cases h0 : w.cell? (a.add 0) with
  | none => simp [List.range, List.range.loop, h0] at h
  | some c0 =>
    cases h1 : w.cell? (a.add 1) with
    | none => simp [List.range, List.range.loop, h0, h1] at h
    | some c1 =>
      cases h2 : w.cell? (a.add 2) with
      | none => simp [List.range, List.range.loop, h0, h1, h2] at h
      | some c2 =>
        cases h3 : w.cell? (a.add 3) with
        | none => simp [List.range, List.range.loop, h0, h1, h2, h3] at h
        | some c3 =>
          simp [List.range, List.range.loop, h0, h1, h2, h3] at h
          exact ⟨c0, c1, c2, c3, h.symm, by simpa [Addr.add] using h0, rfl, rfl, rfl⟩
theorem cell_spot {w : World} {a : Addr} {c : Value} (h : w.cell? a = some c) : a = ⟨a.block, a.off, none⟩ := by
  obtain ⟨b, o, sp⟩ := a
  cases sp with
  | none => rfl
  | some x =>
    unfold World.cell? at h
    split at h <;> simp at h
theorem add_plain (b o n : Nat) : (⟨b, o, none⟩ : Addr).add n = ⟨b, o + n, none⟩ := by cases n <;> simp [Addr.add]
theorem sizes_bulk {H : Type} (f : Nat → Term) (D : Nat → DataW H) : ∀ (l : List Nat), (∀ i ∈ l, (f i).size ≤ Rows.uptoBulk (D i)) → Term.sizes (l.map f) ≤ Rows.uptoBulkAll (l.map D)
  | [], _ => by simp [Term.sizes, Rows.uptoBulkAll]
  | i :: l, h => by
    have h1 := h i (by simp)
    have h2 := sizes_bulk f D l (fun j hj => h j (by simp [hj]))
    simp only [List.map_cons, Term.sizes, Rows.uptoBulkAll]
    omega
theorem Try.cellsTerm : Try.prog.cellsOf 35 = 4 := by kernel_rfl

theorem read_term {H : Type} {enc : TypeId × Value → H} {W : World} : ∀ (N fuel : Nat) (cs : List Value) (d : DataW H) (ps : List MemPlace), Rows.uptoBulk d ≤ N → N ≤ 1048576 →
    DataW.trod enc Try.prog W 0 (fun _ => true) true fuel 35 cs = some (d, ps) → ∃ t c0 c1 c2 c3, cs = [c0, c1, c2, c3] ∧ TermV [] W t (.agg #[c0, c1, c2, c3]) ∧ t.size ≤ Rows.uptoBulk d := by
  intro N
  induction N with
  | zero => intro fuel cs d ps hd; have := bulk_pos d; omega
  | succ N ih =>
    intro fuel cs d ps hd hN h
    obtain ⟨y0, y1, y2, y3, n, hx, hlen, h0, h1, h2, h3⟩ := Go.Joins.trod_struct4 Try.underlying35 h
    rw [Try.cellsTerm] at hlen
    match cs, hlen with
    | [c0, c1, c2, c3], _ =>
      have k0 : Try.prog.cellsOf 3 = 1 := by kernel_rfl
      have k1 : Try.prog.cellsOf 2 = 1 := by kernel_rfl
      have k2 : Try.prog.cellsOf 9 = 1 := by kernel_rfl
      have k3 : Try.prog.cellsOf 33 = 1 := by kernel_rfl
      simp only [k0, k1, k2, k3, List.drop_zero, List.drop_succ_cons, List.take_succ_cons, List.take_zero] at h0 h1 h2 h3
      obtain ⟨k, e0, rfl, w0⟩ := DataW.trod_int Try.underlying3 h0
      obtain ⟨m, e1, rfl, w1⟩ := DataW.trod_int Try.underlying2 h1
      obtain ⟨s, e2, rfl, w2⟩ := DataW.trod_string Try.underlying9 h2
      cases e0; cases e1; cases e2
      simp only [Prod.mk.injEq] at hx
      obtain ⟨rfl, -⟩ := hx
      simp only [Rows.uptoBulk, Rows.uptoBulkAll] at hd ⊢
      have ik : I64 k := by simpa [I64, Lit.wf, IntKind.min, IntKind.max, IntKind.signed, IntKind.bits] using w0
      have im : I64 m := by simpa [I64, Lit.wf, IntKind.min, IntKind.max, IntKind.signed, IntKind.bits] using w1
      have hs : s.size ≤ 1048576 := by
        have : s.data.toList.length = s.size := by rw [Array.length_toList]; rfl
        omega
      rcases Go.Deep.open_slice Try.underlying33 h3 with ⟨e3, rfl⟩ | ⟨a, len, cap, mm, n', D, Pl, e3, hb, hl, hm, hmm, rfl, hel⟩
      · cases e3
        exact ⟨.mk k m s [], _, _, _, _, rfl, TermV.leaf [] W ik im hs, by simp [Term.size, Term.sizes]⟩
      · cases e3
        rw [Try.cellsTerm] at hel
        simp only [Rows.uptoBulk] at hd ⊢
        have hml : len ≤ mm := by rw [hmm]; simp; omega
        have hln : len ≤ 1048576 := by
          have := bulk_len ((List.range len).map D)
          simp only [List.length_map, List.length_range] at this
          omega
        have hall : ∀ i, ∃ t : Term, i < len → (∃ c0 c1 c2 c3, W.cells? 0 (a.add (i * 4)) 4 = some [c0, c1, c2, c3] ∧ TermV [] W t (.agg #[c0, c1, c2, c3])) ∧ t.size ≤ Rows.uptoBulk (D i) := by
          intro i
          by_cases hi : i < len
          · obtain ⟨cs', hc, ht⟩ := hel i (by omega)
            have hb : Rows.uptoBulk (D i) ≤ N := by
              have := bulk_part (d := D i) (l := (List.range len).map D) (List.mem_map.2 ⟨i, List.mem_range.2 hi, rfl⟩)
              omega
            obtain ⟨t, c0, c1, c2, c3, rfl, htv, hsz⟩ := ih n' cs' (D i) (Pl i) hb (by omega) ht
            exact ⟨t, fun _ => ⟨⟨c0, c1, c2, c3, hc, htv⟩, hsz⟩⟩
          · exact ⟨default, fun h => absurd h hi⟩
        obtain ⟨f, hf⟩ := Classical.axiomOfChoice hall
        have hsize : Term.sizes ((List.range len).map f) ≤ Rows.uptoBulkAll ((List.range len).map D) := sizes_bulk f D _ (fun i hi => (hf i (List.mem_range.1 hi)).2)
        refine ⟨.mk k m s ((List.range len).map f), _, _, _, _, rfl, ?_, by simp only [Term.size]; omega⟩
        simp only [TermV]
        refine ⟨some a, cap, by simp, ik, im, hs, by simpa using hln, by simpa using hl, by unfold maxLen at hm; omega, KidsV.of_get (some a) _ 0 (fun j t hj => ?_)⟩
        have hjl : j < len := by have := (List.getElem?_eq_some_iff.1 hj).1; simpa using this
        have ht : t = f j := by
          rw [List.getElem?_map, List.getElem?_range hjl] at hj
          simpa using hj.symm
        subst ht
        have hspot : a = ⟨a.block, a.off, none⟩ := by
          obtain ⟨⟨c0, c1, c2, c3, hc, _⟩, _⟩ := hf 0 (by omega)
          obtain ⟨_, _, _, _, _, g0, _⟩ := cells_four hc
          exact cell_spot (by simpa [Addr.add] using g0)
        obtain ⟨⟨c0, c1, c2, c3, hc, htv⟩, _⟩ := hf j hjl
        obtain ⟨d0, d1, d2, d3, he, g0, g1, g2, g3⟩ := cells_four hc
        simp only [List.cons.injEq, and_true] at he
        obtain ⟨rfl, rfl, rfl, rfl⟩ := he
        rw [hspot] at g0 g1 g2 g3
        simp only [add_plain] at g0 g1 g2 g3
        refine ⟨a.block, a.off, c0, c1, c2, c3, by rw [← hspot], by simp, ?_, ?_, ?_, ?_, htv⟩
        · rw [Nat.zero_add]; exact g0
        · rw [Nat.zero_add]; exact g1
        · rw [Nat.zero_add]; exact g2
        · rw [Nat.zero_add]; exact g3
end Go.Proofs.Ytpffcfmhiebhdaa
