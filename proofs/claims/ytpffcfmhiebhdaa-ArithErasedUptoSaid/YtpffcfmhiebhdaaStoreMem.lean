/- How a store lies in memory. -/
import Derived.Test.YtpffcfmhiebhdaaStores
import Derived.Test.YtpffcfmhiebhdaaAcc
namespace Go.Proofs.Ytpffcfmhiebhdaa
open Go.RowKit

/-- A slice from the head of a row: its elements' cells. -/
def RowAt (w : World) (e : TypeId) (size : Nat) (v : Value) (n : Nat) (xs : List Value) : Prop :=
  xs.length = n * size ∧ ∃ A cap, v = .slice A n cap ∧ n ≤ cap ∧ cap ≤ 9223372036854775807 ∧
    ((A = none ∧ n = 0 ∧ cap = 0) ∨ ∃ g cur, A = some ⟨g, 0, none⟩ ∧ w.heap[g]? = some (.cells cur e (0, 0)) ∧ cap * size ≤ cur.size ∧ cur.toList.take (n * size) = xs)

theorem RowAt.cell {w : World} {e : TypeId} {size n : Nat} {v : Value} {xs : List Value} (h : RowAt w e size v n xs) {i : Nat} {u : Value} (hi : xs[i]? = some u) :
    ∃ g cap, v = .slice (some ⟨g, 0, none⟩) n cap ∧ w.cell? ⟨g, i, none⟩ = some u ∧ v.ownBlock = some g := by
  obtain ⟨hl, A, cap, rfl, h1, h2, h3⟩ := h
  have hlt := (List.getElem?_eq_some_iff.1 hi).1
  rcases h3 with ⟨rfl, rfl, rfl⟩ | ⟨g, cur, rfl, hh, hc, ht⟩
  · rw [hl] at hlt; simp at hlt
  · refine ⟨g, cap, rfl, ?_, rfl⟩
    rw [← ht, List.getElem?_take_of_lt (by omega)] at hi
    rw [show w.cell? ⟨g, i, none⟩ = cur[i]? by simp [World.cell?, hh]]
    simpa using hi
theorem RowAt.keep {w w' : World} {e : TypeId} {size n : Nat} {v : Value} {xs : List Value} (h : RowAt w e size v n xs) (hb : ∀ g, v.ownBlock = some g → w'.heap[g]? = w.heap[g]?) : RowAt w' e size v n xs := by
  obtain ⟨hl, A, cap, rfl, h1, h2, h3⟩ := h
  refine ⟨hl, A, cap, rfl, h1, h2, ?_⟩
  rcases h3 with h3 | ⟨g, cur, rfl, hh, hc, ht⟩
  · exact .inl h3
  · exact .inr ⟨g, cur, rfl, (hb g rfl).trans hh, hc, ht⟩
theorem RowAt.lt {w : World} {e : TypeId} {size n : Nat} {v : Value} {xs : List Value} (h : RowAt w e size v n xs) {g : Nat} (hg : v.ownBlock = some g) : g < w.heap.size ∧ ∃ cur, w.heap[g]? = some (.cells cur e (0, 0)) := by
  obtain ⟨hl, A, cap, rfl, h1, h2, h3⟩ := h
  rcases h3 with ⟨rfl, _, _⟩ | ⟨g', cur, rfl, hh, _⟩
  · cases hg
  · cases hg
    exact ⟨(Array.getElem?_eq_some_iff.1 hh).1, cur, hh⟩

def CellV (F : List Nat) (w : World) (o : Option Term) (c0 c1 c2 c3 c4 : Value) : Prop :=
  match o with
  | none => c0 = .bool false ∧ c1 = .int .i64 0 ∧ c2 = .int .i64 0 ∧ c3 = .string ⟨#[]⟩ ∧ c4 = .slice none 0 0
  | some t => c0 = .bool true ∧ (∃ A cap, c1 = .int .i64 t.kind ∧ c2 = .int .i64 t.n ∧ c3 = .string t.s ∧ c4 = .slice A t.kids.length cap) ∧ TermV F w t (.agg #[c1, c2, c3, c4])
def CellsV (F : List Nat) (w : World) (cs : List (Option Term)) (xs : List Value) : Prop :=
  ∀ j o, cs[j]? = some o → ∃ c0 c1 c2 c3 c4, xs[j * 5]? = some c0 ∧ xs[j * 5 + 1]? = some c1 ∧ xs[j * 5 + 2]? = some c2 ∧ xs[j * 5 + 3]? = some c3 ∧ xs[j * 5 + 4]? = some c4 ∧ CellV F w o c0 c1 c2 c3 c4
theorem CellV.same {F F' : List Nat} {w w' : World} {o : Option Term} {c0 c1 c2 c3 c4 : Value} (h : CellV F w o c0 c1 c2 c3 c4) (ht : ∀ t v, TermV F w t v → TermV F' w' t v) : CellV F' w' o c0 c1 c2 c3 c4 := by
  cases o with
  | none => exact h
  | some t => exact ⟨h.1, h.2.1, ht _ _ h.2.2⟩
theorem CellsV.same {F F' : List Nat} {w w' : World} {cs : List (Option Term)} {xs : List Value} (h : CellsV F w cs xs) (ht : ∀ t v, TermV F w t v → TermV F' w' t v) : CellsV F' w' cs xs := by
  intro j o hj
  obtain ⟨c0, c1, c2, c3, c4, e0, e1, e2, e3, e4, hc⟩ := h j o hj
  exact ⟨c0, c1, c2, c3, c4, e0, e1, e2, e3, e4, hc.same ht⟩

/-- The cell of a variable. -/
theorem StoreCell {F : List Nat} {w : World} {cv : Value} {cs : List (Option Term)} {xs : List Value} (h : RowAt w 83 5 cv cs.length xs) (hc : CellsV F w cs xs) {m : Nat} {o : Option Term} (ho : cs[m]? = some o) :
    ∃ g cap c0 c1 c2 c3 c4, cv = .slice (some ⟨g, 0, none⟩) cs.length cap ∧ cv.ownBlock = some g ∧ g < w.heap.size ∧ w.cell? ⟨g, m * 5, none⟩ = some c0 ∧ w.cell? ⟨g, m * 5 + 1, none⟩ = some c1 ∧ w.cell? ⟨g, m * 5 + 2, none⟩ = some c2 ∧
      w.cell? ⟨g, m * 5 + 3, none⟩ = some c3 ∧ w.cell? ⟨g, m * 5 + 4, none⟩ = some c4 ∧ CellV F w o c0 c1 c2 c3 c4 := by
  obtain ⟨c0, c1, c2, c3, c4, e0, e1, e2, e3, e4, hv⟩ := hc m o ho
  obtain ⟨g, cap, rfl, k0, hg⟩ := h.cell e0
  have rd : ∀ i u, xs[i]? = some u → w.cell? ⟨g, i, none⟩ = some u := by
    intro i u hi
    obtain ⟨g', cap', h1, h2, h3⟩ := h.cell hi
    have : g' = g := by simpa using h3.symm.trans hg
    subst this; exact h2
  exact ⟨g, cap, c0, c1, c2, c3, c4, rfl, hg, World.block_lt_of_cell? w _ k0, k0, rd _ _ e1, rd _ _ e2, rd _ _ e3, rd _ _ e4, hv⟩

/-- What the bound variables and the trail have to do with each other. -/
structure PStore.OK (s : PStore) : Prop where
  wf : s.WF
  many : s.cells.length ≤ 4096
  nodup : s.trail.Nodup
  bound : ∀ v, v ∈ s.trail ↔ ∃ t, s.cells[v]? = some (some t)
theorem PStore.OK.trail_le {s : PStore} (h : s.OK) : s.trail.length ≤ s.cells.length :=
  PStore.nodup_le _ _ h.nodup (fun x hx => by
    obtain ⟨t, ht⟩ := (h.bound x).1 hx
    exact (List.getElem?_eq_some_iff.1 ht).1)
theorem PStore.empty_ok : PStore.empty.OK := ⟨PStore.empty_wf, by simp [PStore.empty], by simp [PStore.empty], by simp [PStore.empty]⟩

/-- Block sb holds a store whose memory is G's blocks; its terms lie away from F, which G is a part of. -/
def StoreAt (G F : List Nat) (w : World) (sb : Nat) (s : PStore) : Prop :=
  ∃ cv tv xs, w.heap[sb]? = some (.cells #[cv, tv] 63 (0, 0)) ∧ RowAt w 83 5 cv s.cells.length xs ∧ RowAt w 3 1 tv s.trail.length (s.trail.map fun (x : Nat) => Value.int .i64 (x : Int)) ∧
    CellsV F w s.cells xs ∧ s.OK ∧ G = sb :: (cv.ownBlock.toList ++ tv.ownBlock.toList) ∧ (∀ b, b ∈ G → b ∈ F) ∧ (∀ b, b ∈ F → b < w.heap.size)

theorem StoreAt.ok {G F : List Nat} {w : World} {sb : Nat} {s : PStore} (h : StoreAt G F w sb s) : s.OK := by
  obtain ⟨cv, tv, xs, h1, h2, h3, h4, h5, _⟩ := h; exact h5
/-- A world in which the store's own blocks stand, and the terms' too. -/
theorem StoreAt.frm {G F H : List Nat} {w w' : World} {sb : Nat} {s : PStore} (h : StoreAt G F w sb s) (f : Frm H w w') (hG : ∀ b, b ∈ H → b ∉ G) (hF : ∀ b, b ∈ H → b ∈ F) : StoreAt G F w' sb s := by
  obtain ⟨cv, tv, xs, h1, h2, h3, h4, h5, h6, h7, h8⟩ := h
  have keep : ∀ g, g ∈ G → w'.heap[g]? = w.heap[g]? := fun g hg => f.block g (h8 g (h7 g hg)) (fun hx => hG g hx hg)
  subst h6
  refine ⟨cv, tv, xs, (keep sb (by simp)).trans h1, h2.keep (fun g hg => keep g (by simp [hg])), h3.keep (fun g hg => keep g (by simp [hg])), h4.same (fun t v ht => ht.frm f hF), h5, rfl, h7, fun b hb => ?_⟩
  exact Nat.lt_of_lt_of_le (h8 b hb) f.size
/-- The same, away from blocks more that are new. -/
theorem StoreAt.more {G F F' H : List Nat} {w w' : World} {sb : Nat} {s : PStore} (h : StoreAt G F w sb s) (f : Frm H w w') (hG : ∀ b, b ∈ H → b ∉ G) (hF : ∀ b, b ∈ H → b ∈ F)
    (hn : ∀ b, b ∈ F' → b ∈ F ∨ w.heap.size ≤ b) (hs : ∀ b, b ∈ F → b ∈ F') (hl : ∀ b, b ∈ F' → b < w'.heap.size) : StoreAt G F' w' sb s := by
  obtain ⟨cv, tv, xs, h1, h2, h3, h4, h5, h6, h7, h8⟩ := h
  have keep : ∀ g, g ∈ G → w'.heap[g]? = w.heap[g]? := fun g hg => f.block g (h8 g (h7 g hg)) (fun hx => hG g hx hg)
  subst h6
  exact ⟨cv, tv, xs, (keep sb (by simp)).trans h1, h2.keep (fun g hg => keep g (by simp [hg])), h3.keep (fun g hg => keep g (by simp [hg])),
    h4.same (fun t v ht => (ht.away hn).frm f (fun b hb => hs b (hF b hb))), h5, rfl, fun b hb => hs b (h7 b hb), hl⟩
theorem StoreAt.lt {G F : List Nat} {w : World} {sb : Nat} {s : PStore} (h : StoreAt G F w sb s) : ∀ b, b ∈ F → b < w.heap.size := by
  obtain ⟨_, _, _, _, _, _, _, _, _, _, hF⟩ := h; exact hF
theorem StoreAt.sub {G F : List Nat} {w : World} {sb : Nat} {s : PStore} (h : StoreAt G F w sb s) : ∀ b, b ∈ G → b ∈ F := by
  obtain ⟨_, _, _, _, _, _, _, _, _, hF, _⟩ := h; exact hF
theorem StoreAt.keep {G F : List Nat} {w w' : World} {sb : Nat} {s : PStore} (h : StoreAt G F w sb s) (f : Frm [] w w') : StoreAt G F w' sb s := h.frm f (by simp) (by simp)
end Go.Proofs.Ytpffcfmhiebhdaa
