/- A slice of terms that a call builds by append: what lies in it, and what an append does to it. -/
import Derived.Test.YtpffcfmhiebhdaaTermMem
import Derived.Maps.AppendAt
namespace Go.Proofs.Ytpffcfmhiebhdaa
open Go.RowKit

/-- The slice v, of the call's own from block base on, holds these terms, which lie away from F and from the slice's own row. -/
def OwnTerms (F : List Nat) (w : World) (base : Nat) (v : Value) (ts : List Term) (xs : List Value) : Prop :=
  w.ownsRow base 35 4 v ts.length xs ∧ xs.length = ts.length * 4 ∧
  ∀ j t, ts[j]? = some t → ∃ c0 c1 c2 c3, xs[j * 4]? = some c0 ∧ xs[j * 4 + 1]? = some c1 ∧ xs[j * 4 + 2]? = some c2 ∧ xs[j * 4 + 3]? = some c3 ∧ TermV (v.ownBlock.toList ++ F) w t (.agg #[c0, c1, c2, c3])

theorem OwnTerms.nil (F : List Nat) (w : World) (base : Nat) : OwnTerms F w base (.slice none 0 0) [] [] :=
  ⟨w.ownsRow_nil base _ _, rfl, fun j t h => by simp at h⟩

/-- A world in which no block but new ones has turned. -/
theorem OwnTerms.keep {F : List Nat} {w w' : World} {base : Nat} {v : Value} {ts : List Term} {xs : List Value} (h : OwnTerms F w base v ts xs) (f : Frm [] w w') : OwnTerms F w' base v ts xs := by
  obtain ⟨h1, h2, h3⟩ := h
  refine ⟨?_, h2, fun j t hj => ?_⟩
  · refine h1.kept (row := none) ⟨f.os, f.tape, f.output, f.size, fun k hk _ => f.block k hk (by simp)⟩ ?_
    cases v.ownBlock <;> simp
  · obtain ⟨c0, c1, c2, c3, e0, e1, e2, e3, ht⟩ := h3 j t hj
    exact ⟨c0, c1, c2, c3, e0, e1, e2, e3, ht.keep f⟩

/-- Behind an append of one term. -/
theorem OwnTerms.snoc {F : List Nat} {w w' : World} {base : Nat} {v v' : Value} {ts : List Term} {xs : List Value} {t : Term} {c0 c1 c2 c3 : Value} (h : OwnTerms F w base v ts xs)
    (ht : TermV (v.ownBlock.toList ++ F) w t (.agg #[c0, c1, c2, c3])) (ho : w'.ownsRow base 35 4 v' (ts.length + 1) (xs ++ [c0, c1, c2, c3])) (hg : w.grownBy w' v.ownBlock)
    (hat : v'.ownBlock = v.ownBlock ∨ v'.ownBlock = some w.heap.size) : OwnTerms F w' base v' (ts ++ [t]) (xs ++ [c0, c1, c2, c3]) := by
  obtain ⟨h1, h2, h3⟩ := h
  have move : ∀ u x, TermV (v.ownBlock.toList ++ F) w u x → TermV (v'.ownBlock.toList ++ F) w' u x := by
    intro u x hx
    refine TermV.same _ _ w w' (fun b hb hlt hb' => ?_) (fun b hb hlt => hg.block b hlt (fun e => hb (by rw [← e]; simp))) u x hx
    simp only [List.mem_append, Option.mem_toList] at hb hb'
    rcases hb' with hb' | hb'
    · rcases hat with hat | hat
      · rw [hat] at hb'; exact hb (.inl hb')
      · rw [hat] at hb'; simp at hb'; omega
    · exact hb (.inr hb')
  refine ⟨by simpa using ho, by simp [h2]; omega, fun j u hj => ?_⟩
  by_cases hlt : j < ts.length
  · rw [List.getElem?_append_left hlt] at hj
    obtain ⟨d0, d1, d2, d3, e0, e1, e2, e3, hu⟩ := h3 j u hj
    refine ⟨d0, d1, d2, d3, ?_, ?_, ?_, ?_, move u _ hu⟩ <;> (rw [List.getElem?_append_left (by omega)]; assumption)
  · have hj' : j = ts.length := by
      have := (List.getElem?_eq_some_iff.1 hj).1
      simp at this; omega
    subst hj'
    simp at hj
    subst hj
    refine ⟨c0, c1, c2, c3, ?_, ?_, ?_, ?_, move t _ ht⟩ <;> (rw [List.getElem?_append_right (by omega)]; simp [h2])

/-- Such a slice, as the kids of a term. -/
theorem OwnTerms.kids {F : List Nat} {w : World} {base : Nat} {v : Value} {ts : List Term} {xs : List Value} (h : OwnTerms F w base v ts xs) (hF : ∀ b, b ∈ F → b < base) :
    ∃ A cap, v = .slice A ts.length cap ∧ ts.length ≤ cap ∧ cap ≤ 9223372036854775807 ∧ KidsV F w ts A 0 := by
  obtain ⟨h1, h2, h3⟩ := h
  obtain ⟨hl, h1⟩ := h1
  rcases h1 with ⟨rfl, hx⟩ | ⟨g, cap, cur, rfl, hg, hh, hcap, hm, hsz, htake⟩
  · have : ts = [] := List.length_eq_zero_iff.1 hx
    subst this
    exact ⟨none, 0, rfl, by simp, by simp, by simp [KidsV]⟩
  · refine ⟨some ⟨g, 0, none⟩, cap, rfl, hcap, hm, KidsV.of_get _ ts 0 (fun j t hj => ?_)⟩
    have hlt := (List.getElem?_eq_some_iff.1 hj).1
    obtain ⟨c0, c1, c2, c3, e0, e1, e2, e3, ht⟩ := h3 j t hj
    have rd : ∀ i c, i < ts.length * 4 → xs[i]? = some c → w.cell? ⟨g, i, none⟩ = some c := by
      intro i c hi hc
      rw [← htake, List.getElem?_take_of_lt hi] at hc
      rw [show w.cell? ⟨g, i, none⟩ = cur[i]? by simp [World.cell?, hh]]
      simpa using hc
    refine ⟨g, 0, c0, c1, c2, c3, rfl, fun hx => by have := hF g hx; omega, ?_, ?_, ?_, ?_, ht.away (fun b hb => .inl (by simp [hb]))⟩
    · rw [show 0 + (0 + j) * 4 = j * 4 by omega]; exact rd _ _ (by omega) e0
    · rw [show 0 + (0 + j) * 4 + 1 = j * 4 + 1 by omega]; exact rd _ _ (by omega) e1
    · rw [show 0 + (0 + j) * 4 + 2 = j * 4 + 2 by omega]; exact rd _ _ (by omega) e2
    · rw [show 0 + (0 + j) * 4 + 3 = j * 4 + 3 by omega]; exact rd _ _ (by omega) e3

theorem OwnTerms.own_lt {F : List Nat} {w : World} {base : Nat} {v : Value} {ts : List Term} {xs : List Value} (h : OwnTerms F w base v ts xs) : ∀ b, b ∈ v.ownBlock.toList → base ≤ b ∧ b < w.heap.size := by
  intro b hb
  simp only [Option.mem_toList] at hb
  exact h.1.lt b hb
theorem KidsV.away_own {F : List Nat} {w wr : World} {base : Nat} {a : Value} {ts us : List Term} {xs : List Value} {A : Option Addr} {i : Nat} (h : KidsV F w ts A i) (ho : OwnTerms F wr base a us xs)
    (hb : w.heap.size ≤ base) : KidsV (a.ownBlock.toList ++ F) w ts A i :=
  h.away (fun b hb' => by
    rcases List.mem_append.1 hb' with hx | hx
    · have := (ho.own_lt b hx).1; exact .inr (by omega)
    · exact .inl hx)
theorem OwnTerms.all_lt {F : List Nat} {wr : World} {base n : Nat} {a : Value} {us : List Term} {xs : List Value} (ho : OwnTerms F wr base a us xs) (hF : ∀ b, b ∈ F → b < n) (hn : wr.heap.size ≤ n) :
    ∀ b, b ∈ a.ownBlock.toList ++ F → b < n := fun b hb => by
  rcases List.mem_append.1 hb with hx | hx
  · have := (ho.own_lt b hx).2; omega
  · exact hF b hx
theorem lt_two {F : List Nat} {x y n m : Nat} (hF : ∀ b, b ∈ F → b < m) (hx : x < n) (hy : y < n) (hm : m ≤ n) : ∀ b, b ∈ x :: y :: F → b < n := fun b hb => by
  rcases List.mem_cons.1 hb with rfl | hb
  · exact hx
  rcases List.mem_cons.1 hb with rfl | hb
  · exact hy
  have := hF b hb; omega
theorem lt_one {F : List Nat} {x n m : Nat} (hF : ∀ b, b ∈ F → b < m) (hx : x < n) (hm : m ≤ n) : ∀ b, b ∈ x :: F → b < n := fun b hb => by
  rcases List.mem_cons.1 hb with rfl | hb
  · exact hx
  have := hF b hb; omega
theorem new_two {F : List Nat} {x y n : Nat} (hx : n ≤ x) (hy : n ≤ y) : ∀ b, b ∈ x :: y :: F → b ∈ F ∨ n ≤ b := fun b hb => by
  rcases List.mem_cons.1 hb with rfl | hb
  · exact .inr hx
  rcases List.mem_cons.1 hb with rfl | hb
  · exact .inr hy
  exact .inl hb
theorem new_one {F : List Nat} {x n : Nat} (hx : n ≤ x) : ∀ b, b ∈ x :: F → b ∈ F ∨ n ≤ b := fun b hb => by
  rcases List.mem_cons.1 hb with rfl | hb
  · exact .inr hx
  exact .inl hb
/-- A term of kids that were gathered, in a later world. -/
theorem TermV.of_kids {F F2 G : List Nat} {wr W : World} {k n : Int} {s : ByteArray} {ts : List Term} {A : Option Addr} {m cap : Nat} (h1 : I64 k) (h2 : I64 n) (h3 : s.size ≤ 1048576) (h4 : ts.length ≤ 1048576)
    (h5 : ts.length ≤ cap) (h6 : cap ≤ 9223372036854775807) (h7 : KidsV F2 wr ts A 0) (f : Frm G wr W) (hG : ∀ b, b ∈ G → b ∈ F2) (hF : ∀ b, b ∈ F → b ∈ F2) (hm : m = ts.length) :
    TermV F W (.mk k n s ts) (.agg #[.int .i64 k, .int .i64 n, .string s, .slice A m cap]) := by
  subst hm
  exact TermV.mk' h1 h2 h3 h4 h5 h6 ((h7.frm f hG).away (fun b hb => .inl (hF b hb)))
theorem cells_new (w : World) (cs : List Value) (t : TypeId) : ∀ j u, cs[j]? = some u → (w.alloc (.cells cs.toArray t)).cell? ((⟨w.heap.size, 0, none⟩ : Addr).add j) = some u := by
  intro j u hj
  have hb : (w.alloc (.cells cs.toArray t)).heap[w.heap.size]? = some (.cells cs.toArray t (0, 0)) := alloc_heap_new _ _
  unfold Addr.add
  split
  · subst_vars; simp only [World.cell?, hb]; simpa using hj
  · simp only [World.cell?, hb]; simpa using hj
theorem TermV.form {F : List Nat} {w : World} {t : Term} {v : Value} (h : TermV F w t v) : ∃ A cap, v = .agg #[.int .i64 t.kind, .int .i64 t.n, .string t.s, .slice A t.kids.length cap] := by
  obtain ⟨k, n, s, ts⟩ := t
  simp only [TermV] at h
  obtain ⟨A, cap, rfl, _⟩ := h
  exact ⟨A, cap, rfl⟩
end Go.Proofs.Ytpffcfmhiebhdaa
