/- Contracts and plain laws: Stores StoreMem Store RowMem StoreW StoreU HasP MapR. -/
import Derived.Test.YtkiofaojokofbaaBuiltA
import Derived.WalkSpells
import Derived.WalkLawsBesides
import Derived.Deep.QuietTactic
import Derived.BigQuiet
import Derived.Deep.DeepCutAuto
import Derived.Deep.RegionHeld3
import Derived.Lib.Hide
import Derived.Handy
import Derived.Lib.AppendZerosOnto
import Derived.Maps.AppendAt
import Derived.Maps.Keyed
import Derived.Maps.Own
namespace Go.Proofs.Ytkiofaojokofbaa
open Go.RowKit

structure PStore where
  cells : List (Option Term)
  trail : List Nat
deriving Inhabited

namespace PStore
def empty : PStore := ⟨[], []⟩
/-- What the variable of that number is bound to. -/
def get (s : PStore) (n : Int) : Option Term := if 0 ≤ n then (s.cells[n.toNat]?).join else none
/-- What a term stands for, one step on. -/
def next (s : PStore) (t : Term) : Option Term := if t.kind = 1 then s.get t.n else none
def walkN (s : PStore) : Nat → Term → Term
  | 0, t => t
  | k + 1, t => match s.next t with
    | some u => walkN s k u
    | none => t
def walk (s : PStore) (t : Term) : Term := s.walkN s.cells.length t
def Ends (s : PStore) (t : Term) : Prop := ∃ k, s.next (s.walkN k t) = none
def WF (s : PStore) : Prop := ∀ t, s.Ends t

theorem walkN_none {s : PStore} {t : Term} (h : s.next t = none) (k : Nat) : s.walkN k t = t := by
  cases k <;> simp [walkN, h]
theorem walkN_some {s : PStore} {t u : Term} (h : s.next t = some u) (k : Nat) : s.walkN (k + 1) t = s.walkN k u := by
  simp [walkN, h]
theorem walkN_add (s : PStore) : ∀ a b t, s.walkN (a + b) t = s.walkN b (s.walkN a t)
  | 0, b, t => by simp [walkN]
  | a + 1, b, t => by
    cases h : s.next t with
    | none => rw [walkN_none h, walkN_none h, walkN_none h]
    | some u => rw [show a + 1 + b = (a + b) + 1 by omega, walkN_some h, walkN_some h, walkN_add s a b u]

/-- Numbers that are all below n, each once, are at most n. -/
theorem nodup_le : ∀ (n : Nat) (l : List Nat), l.Nodup → (∀ x, x ∈ l → x < n) → l.length ≤ n
  | 0, l, _, h => by
    cases l with
    | nil => simp
    | cons x xs => exact absurd (h x (by simp)) (by omega)
  | n + 1, l, hn, h => by
    have h1 : (l.erase n).length ≤ n := nodup_le n (l.erase n) (hn.erase n) (fun x hx => by
      have h2 := h x (List.mem_of_mem_erase hx)
      have h3 : x ≠ n := fun e => by subst e; exact (List.Nodup.not_mem_erase hn) hx
      omega)
    have h2 := List.length_erase_add_one_le_or n l
    omega
where
  List.length_erase_add_one_le_or (n : Nat) (l : List Nat) : l.length ≤ (l.erase n).length + 1 := by
    rw [List.length_erase]; split <;> omega

/-- The variables that are passed on the way. -/
def passed (s : PStore) : Nat → Term → List Nat
  | 0, _ => []
  | k + 1, t => match s.next t with
    | some u => t.n.toNat :: passed s k u
    | none => []
theorem next_lt {s : PStore} {t u : Term} (h : s.next t = some u) : t.kind = 1 ∧ 0 ≤ t.n ∧ t.n.toNat < s.cells.length ∧ s.cells[t.n.toNat]? = some (some u) := by
  unfold next at h
  split at h
  · rename_i hk
    unfold get at h
    split at h
    · rename_i h0
      cases hc : s.cells[t.n.toNat]? with
      | none => simp [hc] at h
      | some o =>
        rw [hc] at h
        simp only [Option.join] at h
        cases o with
        | none => simp at h
        | some x =>
          simp at h; subst h
          exact ⟨hk, h0, (List.getElem?_eq_some_iff.1 hc).1, rfl⟩
    · cases h
  · cases h
theorem passed_lt (s : PStore) : ∀ k t x, x ∈ s.passed k t → x < s.cells.length
  | 0, t, x, h => by simp [passed] at h
  | k + 1, t, x, h => by
    unfold passed at h
    cases hn : s.next t with
    | none => simp [hn] at h
    | some u =>
      rw [hn] at h
      rcases List.mem_cons.1 h with rfl | h
      · exact (next_lt hn).2.2.1
      · exact passed_lt s k u x h
/-- Two terms that pass the same variable go on alike. -/
theorem next_same {s : PStore} {t t' u u' : Term} (h : s.next t = some u) (h' : s.next t' = some u') (e : t.n.toNat = t'.n.toNat) : u = u' := by
  have h1 := (next_lt h).2.2.2
  have h2 := (next_lt h').2.2.2
  rw [e, h2] at h1
  simpa using h1.symm
/-- How many steps a term is from its end: the least number. -/
theorem passed_fix (s : PStore) : ∀ k t, s.next (s.walkN k t) = none → (∀ j, j < k → s.next (s.walkN j t) ≠ none) → (s.passed k t).Nodup ∧ (s.passed k t).length = k
  | 0, t, _, _ => by simp [passed]
  | k + 1, t, h, hl => by
    cases hn : s.next t with
    | none => exact absurd hn (hl 0 (by omega))
    | some u =>
      rw [walkN_some hn] at h
      have hl' : ∀ j, j < k → s.next (s.walkN j u) ≠ none := fun j hj => by
        have := hl (j + 1) (by omega)
        rwa [walkN_some hn] at this
      obtain ⟨h1, h2⟩ := passed_fix s k u h hl'
      have hnot : t.n.toNat ∉ s.passed k u := by
        intro hm
        obtain ⟨j, hj, y, z, hy, hz, he⟩ := mem_passed s k u _ hm
        have huz := next_same hn hz he.symm
        -- the walk from u comes back to u behind j + 1 steps: it never ends
        have hback : s.walkN (j + 1) u = u := by
          rw [walkN_add, hy, walkN_some hz]; simp [walkN, huz]
        have hloop : ∀ m, s.walkN (m * (j + 1)) u = u := by
          intro m
          induction m with
          | zero => simp [walkN]
          | succ m ih => rw [Nat.succ_mul, walkN_add, ih, hback]
        have hbig : s.next (s.walkN ((k + 1) * (j + 1)) u) = none := by
          have : (k + 1) * (j + 1) = k + ((k + 1) * (j + 1) - k) := by
            have : k ≤ (k + 1) * (j + 1) := by
              calc k ≤ k + 1 := by omega
                _ = (k + 1) * 1 := by omega
                _ ≤ (k + 1) * (j + 1) := Nat.mul_le_mul_left _ (by omega)
            omega
          rw [this, walkN_add, walkN_none h]; exact h
        rw [hloop] at hbig
        cases k with
        | zero => exact absurd hj (by omega)
        | succ k => exact hl' 0 (by omega) hbig
      constructor
      · simp only [passed, hn, List.nodup_cons]; exact ⟨hnot, h1⟩
      · simp [passed, hn, h2]
where
  mem_passed (s : PStore) : ∀ k t x, x ∈ s.passed k t → ∃ j, j < k ∧ ∃ y z, s.walkN j t = y ∧ s.next y = some z ∧ y.n.toNat = x
    | 0, t, x, h => by simp [passed] at h
    | k + 1, t, x, h => by
      unfold passed at h
      cases hn : s.next t with
      | none => simp [hn] at h
      | some u =>
        rw [hn] at h
        rcases List.mem_cons.1 h with rfl | h
        · exact ⟨0, by omega, t, u, rfl, hn, rfl⟩
        · obtain ⟨j, hj, y, z, h1, h2, h3⟩ := mem_passed s k u x h
          exact ⟨j + 1, by omega, y, z, by rw [walkN_some hn]; exact h1, h2, h3⟩

theorem least {p : Nat → Prop} (h : ∃ k, p k) : ∃ k, p k ∧ ∀ j, j < k → ¬ p j := by
  obtain ⟨k, hk⟩ := h
  induction k using Nat.strongRecOn with
  | _ k ih =>
    by_cases hm : ∃ j, j < k ∧ p j
    · obtain ⟨j, hj, hp⟩ := hm; exact ih j hj hp
    · exact ⟨k, hk, fun j hj hp => hm ⟨j, hj, hp⟩⟩

/-- Where a walk ends at all, it ends within as many steps as there are variables. -/
theorem walk_ends {s : PStore} {t : Term} (h : s.Ends t) : s.next (s.walk t) = none := by
  obtain ⟨k, hk, hl⟩ := least h
  obtain ⟨h1, h2⟩ := passed_fix s k t hk hl
  have h3 := nodup_le s.cells.length _ h1 (fun x hx => passed_lt s k t x hx)
  unfold walk
  rw [show s.cells.length = k + (s.cells.length - k) by omega, walkN_add, walkN_none hk]
  exact hk
/-- The walk's end, by whatever number of steps that comes to an end. -/
theorem walk_eq {s : PStore} {t : Term} {k : Nat} (h : s.next (s.walkN k t) = none) : s.walk t = s.walkN k t := by
  have h1 := walk_ends ⟨k, h⟩
  unfold walk at h1 ⊢
  rcases Nat.le_total k s.cells.length with hle | hle
  · rw [show s.cells.length = k + (s.cells.length - k) by omega, walkN_add, walkN_none h]
  · rw [show k = s.cells.length + (k - s.cells.length) by omega, walkN_add, walkN_none h1]
theorem walk_free {s : PStore} {t : Term} (h : s.next t = none) : s.walk t = t := walkN_none h _
theorem walk_step {s : PStore} {t u : Term} (h : s.next t = some u) (he : s.Ends u) : s.walk t = s.walk u := by
  obtain ⟨k, hk⟩ := he
  have h1 : s.next (s.walkN (k + 1) t) = none := by rw [walkN_some h]; exact hk
  rw [walk_eq h1, walkN_some h, walk_eq hk]
theorem Ends.step {s : PStore} {t u : Term} (h : s.Ends t) (hn : s.next t = some u) : s.Ends u := by
  obtain ⟨k, hk⟩ := h
  cases k with
  | zero => simp [walkN, hn] at hk
  | succ k => rw [walkN_some hn] at hk; exact ⟨k, hk⟩
theorem next_ne {st : PStore} {k n : Int} {s : ByteArray} {ts : List Term} (h : k ≠ 1) : st.next (.mk k n s ts) = none := if_neg h
theorem next_var (st : PStore) (n : Int) (s : ByteArray) (ts : List Term) : st.next (.mk 1 n s ts) = st.get n := if_pos rfl
theorem get_nat (st : PStore) (m : Nat) : st.get (m : Int) = (st.cells[m]?).join := by
  unfold get; rw [if_pos (by omega)]; rfl
theorem get_neg {st : PStore} {n : Int} (h : ¬ 0 ≤ n) : st.get n = none := if_neg h
theorem get_out {st : PStore} {m : Nat} (h : ¬ m < st.cells.length) : st.get (m : Int) = none := by
  rw [get_nat, List.getElem?_eq_none (by omega)]; rfl
theorem get_in {st : PStore} {m : Nat} {o : Option Term} (h : st.cells[m]? = some o) : st.get (m : Int) = o := by
  rw [get_nat, h]; rfl
theorem empty_wf : empty.WF := fun t => ⟨0, by simp [walkN, next, get, empty]⟩
theorem empty_walk (t : Term) : empty.walk t = t := walk_free (by simp [next, get, empty])
end PStore
end Go.Proofs.Ytkiofaojokofbaa
namespace Go.Proofs.Ytkiofaojokofbaa
open Go.RowKit

/-- A slice from the head of a row: its elements' cells. -/
def RowAt (w : World) (e : TypeId) (size : Nat) (v : Value) (n : Nat) (xs : List Value) : Prop :=
  xs.length = n * size ∧ ∃ A cap, v = .slice A n cap ∧ n ≤ cap ∧ cap ≤ 9223372036854775807 ∧
    ((A = none ∧ n = 0 ∧ cap = 0) ∨ ∃ g cur, A = some ⟨g, 0, none⟩ ∧ w.heap[g]? = some (.cells cur e (0, 0)) ∧ cap * size ≤ cur.size ∧ cur.toList.take (n * size) = xs)

theorem RowAt.cell {w : World} {e : TypeId} {size n : Nat} {v : Value} {xs : List Value} (h : RowAt w e size v n xs) {i : Nat} {u : Value} (hi : xs[i]? = some u) :
    ∃ g cap, v = .slice (some ⟨g, 0, none⟩) n cap ∧ w.cell? ⟨g, i, none⟩ = some u ∧ v.ownBlock = some g := by
  obtain ⟨hl, A, cap, rfl, h1, h2, h3⟩ := h
  have hlt := (List.getElem?_eq_some_iff.1 hi).1
  rcases h3 with ⟨rfl, rfl, rfl⟩ | ⟨g, cur, rfl, hh, hc, ht⟩
  · rw [hl] at hlt; simp at hlt
  · refine ⟨g, cap, rfl, ?_, rfl⟩
    rw [← ht, List.getElem?_take_of_lt (by omega)] at hi
    rw [show w.cell? ⟨g, i, none⟩ = cur[i]? by simp [World.cell?, hh]]
    simpa using hi
theorem RowAt.keep {w w' : World} {e : TypeId} {size n : Nat} {v : Value} {xs : List Value} (h : RowAt w e size v n xs) (hb : ∀ g, v.ownBlock = some g → w'.heap[g]? = w.heap[g]?) : RowAt w' e size v n xs := by
  obtain ⟨hl, A, cap, rfl, h1, h2, h3⟩ := h
  refine ⟨hl, A, cap, rfl, h1, h2, ?_⟩
  rcases h3 with h3 | ⟨g, cur, rfl, hh, hc, ht⟩
  · exact .inl h3
  · exact .inr ⟨g, cur, rfl, (hb g rfl).trans hh, hc, ht⟩
theorem RowAt.lt {w : World} {e : TypeId} {size n : Nat} {v : Value} {xs : List Value} (h : RowAt w e size v n xs) {g : Nat} (hg : v.ownBlock = some g) : g < w.heap.size ∧ ∃ cur, w.heap[g]? = some (.cells cur e (0, 0)) := by
  obtain ⟨hl, A, cap, rfl, h1, h2, h3⟩ := h
  rcases h3 with ⟨rfl, _, _⟩ | ⟨g', cur, rfl, hh, _⟩
  · cases hg
  · cases hg
    exact ⟨(Array.getElem?_eq_some_iff.1 hh).1, cur, hh⟩

def CellV (F : List Nat) (w : World) (o : Option Term) (c0 c1 c2 c3 c4 : Value) : Prop :=
  match o with
  | none => c0 = .bool false ∧ c1 = .int .i64 0 ∧ c2 = .int .i64 0 ∧ c3 = .string ⟨#[]⟩ ∧ c4 = .slice none 0 0
  | some t => c0 = .bool true ∧ (∃ A cap, c1 = .int .i64 t.kind ∧ c2 = .int .i64 t.n ∧ c3 = .string t.s ∧ c4 = .slice A t.kids.length cap) ∧ TermV F w t (.agg #[c1, c2, c3, c4])
def CellsV (F : List Nat) (w : World) (cs : List (Option Term)) (xs : List Value) : Prop :=
  ∀ j o, cs[j]? = some o → ∃ c0 c1 c2 c3 c4, xs[j * 5]? = some c0 ∧ xs[j * 5 + 1]? = some c1 ∧ xs[j * 5 + 2]? = some c2 ∧ xs[j * 5 + 3]? = some c3 ∧ xs[j * 5 + 4]? = some c4 ∧ CellV F w o c0 c1 c2 c3 c4
theorem CellV.same {F F' : List Nat} {w w' : World} {o : Option Term} {c0 c1 c2 c3 c4 : Value} (h : CellV F w o c0 c1 c2 c3 c4) (ht : ∀ t v, TermV F w t v → TermV F' w' t v) : CellV F' w' o c0 c1 c2 c3 c4 := by
  cases o with
  | none => exact h
  | some t => exact ⟨h.1, h.2.1, ht _ _ h.2.2⟩
theorem CellsV.same {F F' : List Nat} {w w' : World} {cs : List (Option Term)} {xs : List Value} (h : CellsV F w cs xs) (ht : ∀ t v, TermV F w t v → TermV F' w' t v) : CellsV F' w' cs xs := by
  intro j o hj
  obtain ⟨c0, c1, c2, c3, c4, e0, e1, e2, e3, e4, hc⟩ := h j o hj
  exact ⟨c0, c1, c2, c3, c4, e0, e1, e2, e3, e4, hc.same ht⟩

/-- The cell of a variable. -/
theorem StoreCell {F : List Nat} {w : World} {cv : Value} {cs : List (Option Term)} {xs : List Value} (h : RowAt w 71 5 cv cs.length xs) (hc : CellsV F w cs xs) {m : Nat} {o : Option Term} (ho : cs[m]? = some o) :
    ∃ g cap c0 c1 c2 c3 c4, cv = .slice (some ⟨g, 0, none⟩) cs.length cap ∧ cv.ownBlock = some g ∧ g < w.heap.size ∧ w.cell? ⟨g, m * 5, none⟩ = some c0 ∧ w.cell? ⟨g, m * 5 + 1, none⟩ = some c1 ∧ w.cell? ⟨g, m * 5 + 2, none⟩ = some c2 ∧
      w.cell? ⟨g, m * 5 + 3, none⟩ = some c3 ∧ w.cell? ⟨g, m * 5 + 4, none⟩ = some c4 ∧ CellV F w o c0 c1 c2 c3 c4 := by
  obtain ⟨c0, c1, c2, c3, c4, e0, e1, e2, e3, e4, hv⟩ := hc m o ho
  obtain ⟨g, cap, rfl, k0, hg⟩ := h.cell e0
  have rd : ∀ i u, xs[i]? = some u → w.cell? ⟨g, i, none⟩ = some u := by
    intro i u hi
    obtain ⟨g', cap', h1, h2, h3⟩ := h.cell hi
    have : g' = g := by simpa using h3.symm.trans hg
    subst this; exact h2
  exact ⟨g, cap, c0, c1, c2, c3, c4, rfl, hg, World.block_lt_of_cell? w _ k0, k0, rd _ _ e1, rd _ _ e2, rd _ _ e3, rd _ _ e4, hv⟩

/-- What the bound variables and the trail have to do with each other. -/
structure PStore.OK (s : PStore) : Prop where
  wf : s.WF
  many : s.cells.length ≤ 4096
  nodup : s.trail.Nodup
  bound : ∀ v, v ∈ s.trail ↔ ∃ t, s.cells[v]? = some (some t)
theorem PStore.OK.trail_le {s : PStore} (h : s.OK) : s.trail.length ≤ s.cells.length :=
  PStore.nodup_le _ _ h.nodup (fun x hx => by
    obtain ⟨t, ht⟩ := (h.bound x).1 hx
    exact (List.getElem?_eq_some_iff.1 ht).1)
theorem PStore.empty_ok : PStore.empty.OK := ⟨PStore.empty_wf, by simp [PStore.empty], by simp [PStore.empty], by simp [PStore.empty]⟩

/-- Block sb holds a store whose memory is G's blocks; its terms lie away from F, which G is a part of. -/
def StoreAt (G F : List Nat) (w : World) (sb : Nat) (s : PStore) : Prop :=
  ∃ cv tv xs, w.heap[sb]? = some (.cells #[cv, tv] 67 (0, 0)) ∧ RowAt w 71 5 cv s.cells.length xs ∧ RowAt w 3 1 tv s.trail.length (s.trail.map fun (x : Nat) => Value.int .i64 (x : Int)) ∧
    CellsV F w s.cells xs ∧ s.OK ∧ G = sb :: (cv.ownBlock.toList ++ tv.ownBlock.toList) ∧ (∀ b, b ∈ G → b ∈ F) ∧ (∀ b, b ∈ F → b < w.heap.size)

theorem StoreAt.ok {G F : List Nat} {w : World} {sb : Nat} {s : PStore} (h : StoreAt G F w sb s) : s.OK := by
  obtain ⟨cv, tv, xs, h1, h2, h3, h4, h5, _⟩ := h; exact h5
/-- A world in which the store's own blocks stand, and the terms' too. -/
theorem StoreAt.frm {G F H : List Nat} {w w' : World} {sb : Nat} {s : PStore} (h : StoreAt G F w sb s) (f : Frm H w w') (hG : ∀ b, b ∈ H → b ∉ G) (hF : ∀ b, b ∈ H → b ∈ F) : StoreAt G F w' sb s := by
  obtain ⟨cv, tv, xs, h1, h2, h3, h4, h5, h6, h7, h8⟩ := h
  have keep : ∀ g, g ∈ G → w'.heap[g]? = w.heap[g]? := fun g hg => f.block g (h8 g (h7 g hg)) (fun hx => hG g hx hg)
  subst h6
  refine ⟨cv, tv, xs, (keep sb (by simp)).trans h1, h2.keep (fun g hg => keep g (by simp [hg])), h3.keep (fun g hg => keep g (by simp [hg])), h4.same (fun t v ht => ht.frm f hF), h5, rfl, h7, fun b hb => ?_⟩
  exact Nat.lt_of_lt_of_le (h8 b hb) f.size
/-- The same, away from blocks more that are new. -/
theorem StoreAt.more {G F F' H : List Nat} {w w' : World} {sb : Nat} {s : PStore} (h : StoreAt G F w sb s) (f : Frm H w w') (hG : ∀ b, b ∈ H → b ∉ G) (hF : ∀ b, b ∈ H → b ∈ F)
    (hn : ∀ b, b ∈ F' → b ∈ F ∨ w.heap.size ≤ b) (hs : ∀ b, b ∈ F → b ∈ F') (hl : ∀ b, b ∈ F' → b < w'.heap.size) : StoreAt G F' w' sb s := by
  obtain ⟨cv, tv, xs, h1, h2, h3, h4, h5, h6, h7, h8⟩ := h
  have keep : ∀ g, g ∈ G → w'.heap[g]? = w.heap[g]? := fun g hg => f.block g (h8 g (h7 g hg)) (fun hx => hG g hx hg)
  subst h6
  exact ⟨cv, tv, xs, (keep sb (by simp)).trans h1, h2.keep (fun g hg => keep g (by simp [hg])), h3.keep (fun g hg => keep g (by simp [hg])),
    h4.same (fun t v ht => (ht.away hn).frm f (fun b hb => hs b (hF b hb))), h5, rfl, fun b hb => hs b (h7 b hb), hl⟩
theorem StoreAt.lt {G F : List Nat} {w : World} {sb : Nat} {s : PStore} (h : StoreAt G F w sb s) : ∀ b, b ∈ F → b < w.heap.size := by
  obtain ⟨_, _, _, _, _, _, _, _, _, _, hF⟩ := h; exact hF
theorem StoreAt.sub {G F : List Nat} {w : World} {sb : Nat} {s : PStore} (h : StoreAt G F w sb s) : ∀ b, b ∈ G → b ∈ F := by
  obtain ⟨_, _, _, _, _, _, _, _, _, hF, _⟩ := h; exact hF
theorem StoreAt.keep {G F : List Nat} {w w' : World} {sb : Nat} {s : PStore} (h : StoreAt G F w sb s) (f : Frm [] w w') : StoreAt G F w' sb s := h.frm f (by simp) (by simp)
end Go.Proofs.Ytkiofaojokofbaa
namespace Go.Proofs.Ytkiofaojokofbaa
open Go.RowKit

theorem store_new (F : List Nat) (w : World) (hF : ∀ b, b ∈ F → b < w.heap.size) :
    Calls Try.prog 10 #[] w fun e w' => e = .returned (.pointer (some ⟨w.heap.size, 0, none⟩)) ∧ StoreAt [w.heap.size] (w.heap.size :: F) w' w.heap.size .empty ∧ Frm [] w w' := by
  go_enter Try.func10, Try.ntmps10
  go_wp2
  go_ret
  refine ⟨rfl, ⟨.slice none 0 0, .slice none 0 0, [], (by repeat (first | rw [heap_alloc_at] | rw [heap_size_alloc] | rfl | rw [if_pos (by omega)] | rw [if_neg (by omega)])), ⟨rfl, none, 0, rfl, Nat.le_refl _, by decide, .inl ⟨rfl, rfl, rfl⟩⟩, ⟨rfl, none, 0, rfl, Nat.le_refl _, by decide, .inl ⟨rfl, rfl, rfl⟩⟩, ?_, PStore.empty_ok, rfl, by simp, ?_⟩, (by repeat (first | with_reducible (first | refine .alloc ?_ _ | refine .drewN ?_ _ | refine .drew ?_) | ((with_reducible refine .setCell ?_ ?_ _); rotate_left; focus (first | (left; simp; done) | (right; simp; (first | done | omega)))) | with_reducible (first | assumption | exact .refl _ _ | refine .trans0 ?_ ‹_›)))⟩
  · intro j o h; simp [PStore.empty] at h
  · intro b hb
    rcases List.mem_cons.1 hb with rfl | hb
    · simp
    · have := hF b hb; simp; omega

theorem store_bound (G F F' : List Nat) (sb : Nat) (st : PStore) (t : Term) (v : Value) (w : World) (hs : StoreAt G F w sb st) (ht : TermV F' w t v) :
    Calls Try.prog 26 #[.pointer (some ⟨sb, 0, none⟩), v] w fun e w' => e = .returned (.bool (st.next t).isSome) ∧ Frm [] w w' := by
  obtain ⟨cv, tv, xs, h1, h2, h3, h4, h5, h6, h7, h8⟩ := hs
  obtain ⟨k, n, s, ts⟩ := t
  simp only [TermV] at ht
  obtain ⟨A, cap, rfl, hk1, hn1, hs1, hl1, hc, hc2, hk⟩ := ht
  obtain ⟨hn2, hn3⟩ := hn1
  have h2' := h2
  obtain ⟨hxl, A2, cap2, rfl, hcap1, hcap2, hrow⟩ := h2
  obtain ⟨s0, s1, _, hlt⟩ := blk2 h1
  have hmany := h5.many
  clear h1 h3 h5 h6 h7 h8
  have hb3 : sb < w.heap.size + 1 := by omega
  cases hk : (k == 1)
  · have hE : Hid (st.next (.mk k n s ts) = none) := by
      exact PStore.next_ne (by simpa using hk)
    go_enter Try.func26, Try.ntmps26
    go_wp2
    go_quiet (fail)
    go_wp2
    go_ret
    exact ⟨by rw [hE.out]; rfl, (by repeat (first | with_reducible (first | refine .alloc ?_ _ | refine .drewN ?_ _ | refine .drew ?_) | ((with_reducible refine .setCell ?_ ?_ _); rotate_left; focus (first | (left; simp; done) | (right; simp; (first | done | omega)))) | with_reducible (first | assumption | exact .refl _ _ | refine .trans0 ?_ ‹_›)))⟩
  · have hk' : k = 1 := by simpa using hk
    subst hk'
    clear hk
    by_cases hn0 : 0 ≤ n
    · obtain ⟨m, rfl⟩ := Int.eq_ofNat_of_zero_le hn0
      clear hn0
      by_cases hm : m < st.cells.length
      · have hmi : (m : Int) < (st.cells.length : Int) := by omega
        obtain ⟨o, ho⟩ : ∃ o, st.cells[m]? = some o := ⟨_, List.getElem?_eq_getElem hm⟩
        obtain ⟨c0, c1, c2, c3, c4, e0, _, _, _, _, hcv⟩ := h4 m o ho
        obtain ⟨g, cap3, hsl, hcell, _⟩ := h2'.cell e0
        simp only [Value.slice.injEq, true_and] at hsl
        obtain ⟨rfl, rfl⟩ := hsl
        have hg := World.block_lt_of_cell? w _ hcell
        simp only at hg
        have hE : Hid (st.next (.mk 1 m s ts) = o) := by
          exact (PStore.next_var _ _ _ _).trans (PStore.get_in ho)
        clear h4 h2' hrow ho e0
        cases o with
        | none =>
          obtain ⟨rfl, _⟩ := hcv
          go_enter Try.func26, Try.ntmps26
          go_wp2
          go_quiet (fail)
          go_wp2
          go_ret
          exact ⟨by rw [hE.out]; rfl, (by repeat (first | with_reducible (first | refine .alloc ?_ _ | refine .drewN ?_ _ | refine .drew ?_) | ((with_reducible refine .setCell ?_ ?_ _); rotate_left; focus (first | (left; simp; done) | (right; simp; (first | done | omega)))) | with_reducible (first | assumption | exact .refl _ _ | refine .trans0 ?_ ‹_›)))⟩
        | some u =>
          obtain ⟨rfl, _⟩ := hcv
          go_enter Try.func26, Try.ntmps26
          go_wp2
          go_quiet (fail)
          go_wp2
          go_ret
          exact ⟨by rw [hE.out]; rfl, (by repeat (first | with_reducible (first | refine .alloc ?_ _ | refine .drewN ?_ _ | refine .drew ?_) | ((with_reducible refine .setCell ?_ ?_ _); rotate_left; focus (first | (left; simp; done) | (right; simp; (first | done | omega)))) | with_reducible (first | assumption | exact .refl _ _ | refine .trans0 ?_ ‹_›)))⟩
      · have hmi : decide ((m : Int) < (st.cells.length : Int)) = false := by simpa using hm
        have hE : Hid (st.next (.mk 1 m s ts) = none) := by
          exact (PStore.next_var _ _ _ _).trans (PStore.get_out hm)
        go_enter Try.func26, Try.ntmps26
        go_wp2
        go_quiet (fail)
        go_wp2
        go_ret
        exact ⟨by rw [hE.out]; rfl, (by repeat (first | with_reducible (first | refine .alloc ?_ _ | refine .drewN ?_ _ | refine .drew ?_) | ((with_reducible refine .setCell ?_ ?_ _); rotate_left; focus (first | (left; simp; done) | (right; simp; (first | done | omega)))) | with_reducible (first | assumption | exact .refl _ _ | refine .trans0 ?_ ‹_›)))⟩
    · have hni : decide (0 ≤ n) = false := by simpa using hn0
      have hE : Hid (st.next (.mk 1 n s ts) = none) := by
        exact (PStore.next_var _ _ _ _).trans (PStore.get_neg hn0)
      go_enter Try.func26, Try.ntmps26
      go_wp2
      go_quiet (fail)
      go_wp2
      go_ret
      exact ⟨by rw [hE.out]; rfl, (by repeat (first | with_reducible (first | refine .alloc ?_ _ | refine .drewN ?_ _ | refine .drew ?_) | ((with_reducible refine .setCell ?_ ?_ _); rotate_left; focus (first | (left; simp; done) | (right; simp; (first | done | omega)))) | with_reducible (first | assumption | exact .refl _ _ | refine .trans0 ?_ ‹_›)))⟩

set_option maxHeartbeats 1000000 in
theorem store_walk (G F : List Nat) (sb : Nat) (st : PStore) (t : Term) (v : Value) (w : World) (hs : StoreAt G F w sb st) (ht : TermV F w t v) :
    Calls Try.prog 18 #[.pointer (some ⟨sb, 0, none⟩), v] w fun e w' => (∃ v', e = .returned v' ∧ TermV F w' (st.walk t) v') ∧ Frm [] w w' := by
  have hF := hs
  obtain ⟨_, _, _, _, _, _, _, _, _, hGF, hF⟩ := hF
  obtain ⟨kk, hkk⟩ := hs.ok.wf t
  have hv2 := ht.away (F' := w.heap.size :: (w.heap.size + 1) :: F) (new_two (Nat.le_refl _) (by omega))
  obtain ⟨A, cap, rfl⟩ := ht.form
  go_enter Try.func18, Try.ntmps18
  go_wp2
  go_loopg [5] kk (fun g _ wr => ∃ T, st.next (st.walkN g T) = none ∧ st.walk t = st.walk T ∧ Frm [] w wr ∧ TBoxed (w.heap.size :: (w.heap.size + 1) :: F) wr w.heap.size T ∧ wr.heap[w.heap.size + 1]? = some (.cells #[.int .i64 0, .int .i64 0, .string ⟨#[]⟩, .slice none 0 0] 26 (0, 0)))
  case atStart => exact ⟨t, hkk, rfl, (by repeat (first | with_reducible (first | refine .alloc ?_ _ | refine .drewN ?_ _ | refine .drew ?_) | ((with_reducible refine .setCell ?_ ?_ _); rotate_left; focus (first | (left; simp; done) | (right; simp; (first | done | omega)))) | with_reducible (first | assumption | exact .refl _ _ | refine .trans0 ?_ ‹_›))), ⟨A, cap, (by repeat (first | rw [heap_alloc_at] | rw [heap_size_alloc] | rfl | rw [if_pos (by omega)] | rw [if_neg (by omega)])), hv2.keep (by repeat (first | with_reducible (first | refine .alloc ?_ _ | refine .drewN ?_ _ | refine .drew ?_) | ((with_reducible refine .setCell ?_ ?_ _); rotate_left; focus (first | (left; simp; done) | (right; simp; (first | done | omega)))) | with_reducible (first | assumption | exact .refl _ _ | refine .trans0 ?_ ‹_›)))⟩, (by repeat (first | rw [heap_alloc_at] | rw [heap_size_alloc] | rfl | rw [if_pos (by omega)] | rw [if_neg (by omega)]))⟩
  case round =>
    obtain ⟨T, hend, hwalk, FR, ⟨A1, cap1, hbox, hT⟩, hbox1⟩ := hrel
    have HE := Lib.hid hend
    have HW := Lib.hid hwalk
    clear hend hwalk
    obtain ⟨q0, q1, q2, q3, q4, q5⟩ := blk4 hbox
    cases hn : st.next T with
    | none =>
      have HN : Hid ((st.next T).isSome = false) := by show _ = _; rw [hn]; rfl
      have HW2 : Hid (st.walk t = T) := by show _ = _; rw [HW.out, PStore.walk_free hn]
      clear hn
      go_wp2_with ((go_at_call 26; refine (store_bound G F _ sb st T _ _ (hs.keep (by repeat (first | with_reducible (first | refine .alloc ?_ _ | refine .drewN ?_ _ | refine .drew ?_) | ((with_reducible refine .setCell ?_ ?_ _); rotate_left; focus (first | (left; simp; done) | (right; simp; (first | done | omega)))) | with_reducible (first | assumption | exact .refl _ _ | refine .trans0 ?_ ‹_›)))) (hT.keep (by repeat (first | with_reducible (first | refine .alloc ?_ _ | refine .drewN ?_ _ | refine .drew ?_) | ((with_reducible refine .setCell ?_ ?_ _); rotate_left; focus (first | (left; simp; done) | (right; simp; (first | done | omega)))) | with_reducible (first | assumption | exact .refl _ _ | refine .trans0 ?_ ‹_›))))).mono ?_; rintro e w2 ⟨rfl, Fw2⟩; rw [HN.out]; obtain ⟨q0, q1, q2, q3, q4, q5⟩ := blk4 (Fw2.at0 hbox); obtain ⟨r0, r1, r2, r3, r4, r5⟩ := blk4 (Fw2.at0 hbox1)))
      refine bodyPost_ret (v := .agg #[.int .i64 T.kind, .int .i64 T.n, .string T.s, .slice A1 T.kids.length cap1]) (by simp [results, Try.results18, go_sem, r0, r1, r2, r3]) rfl ?_
      rw [HW2.out]
      exact ⟨⟨_, rfl, (hT.frm (G := [w.heap.size + 1]) (by repeat (first | with_reducible (first | refine .alloc ?_ _ | refine .drewN ?_ _ | refine .drew ?_) | ((with_reducible refine .setCell ?_ ?_ _); rotate_left; focus (first | (left; simp; done) | (right; simp; (first | done | omega)))) | with_reducible (first | assumption | exact .refl _ _ | refine .trans0 ?_ ‹_›))) (by simp)).away (fun b hb => .inl (by simp [hb]))⟩, (by repeat (first | with_reducible (first | refine .alloc ?_ _ | refine .drewN ?_ _ | refine .drew ?_) | ((with_reducible refine .setCell ?_ ?_ _); rotate_left; focus (first | (left; simp; done) | (right; simp; (first | done | omega)))) | with_reducible (first | assumption | exact .refl _ _ | refine .trans0 ?_ ‹_›)))⟩
    | some u =>
      obtain ⟨hk1, hn0, hmlt, hcell⟩ := PStore.next_lt hn
      obtain ⟨cv, tv, xs, h1, h2, h3, h4, h5, h6, h7, h8⟩ := hs
      have hs : StoreAt G F w sb st := ⟨cv, tv, xs, h1, h2, h3, h4, h5, h6, h7, h8⟩
      obtain ⟨g, cap2, c0, c1, c2, c3, c4, rfl, hg1, hg2, p0, p1, p2, p3, p4, hcv⟩ := StoreCell h2 h4 hcell
      obtain ⟨rfl, ⟨A3, cap3, rfl, rfl, rfl, rfl⟩, hu⟩ := hcv
      obtain ⟨s0, s1, s2, s3⟩ := blk2 h1
      have hgF : g ∈ F := h7 g (by rw [h6]; simp [hg1])
      have hsbF : sb ∈ F := h7 sb (by rw [h6]; simp)
      have hg3 := hF g hgF
      have hsb3 := hF sb hsbF
      have HK : Hid (∃ k, gk = k + 1 ∧ st.next (st.walkN k u) = none) := by
        cases gk with
        | zero => have := HE.out; simp only [PStore.walkN] at this; rw [hn] at this; cases this
        | succ k => exact ⟨k, rfl, by have := HE.out; rwa [PStore.walkN_some hn] at this⟩
      have HW2 : Hid (st.walk t = st.walk u) := by
        obtain ⟨k, _, hk⟩ := HK
        show _ = _; rw [HW.out, PStore.walk_step hn ⟨k, hk⟩]
      have HN : Hid ((st.next T).isSome = true) := by show _ = _; rw [hn]; rfl
      obtain ⟨tk, tn, tS, tts⟩ := T
      obtain ⟨uk, un, uS, uts⟩ := u
      simp only [Term.kind, Term.n, Term.s, Term.kids] at hu hk1 hn0 hmlt q0 q1 q2 q3 p0 p1 p2 p3 p4 hT hbox
      subst hk1
      obtain ⟨m, rfl⟩ := Int.eq_ofNat_of_zero_le hn0
      have hmi : (m : Int) < (st.cells.length : Int) := by simpa using hmlt
      have hto : ((m : Int)).toNat = m := rfl
      simp only [hto] at p0 p1 p2 p3 p4
      clear hn hn0 hcell hmlt hto h2 h3 h4 h5 h6 h7 h8
      go_wp2_with ((go_at_call 26; refine (store_bound G F _ sb st _ _ _ (hs.keep (by repeat (first | with_reducible (first | refine .alloc ?_ _ | refine .drewN ?_ _ | refine .drew ?_) | ((with_reducible refine .setCell ?_ ?_ _); rotate_left; focus (first | (left; simp; done) | (right; simp; (first | done | omega)))) | with_reducible (first | assumption | exact .refl _ _ | refine .trans0 ?_ ‹_›)))) (hT.keep (by repeat (first | with_reducible (first | refine .alloc ?_ _ | refine .drewN ?_ _ | refine .drew ?_) | ((with_reducible refine .setCell ?_ ?_ _); rotate_left; focus (first | (left; simp; done) | (right; simp; (first | done | omega)))) | with_reducible (first | assumption | exact .refl _ _ | refine .trans0 ?_ ‹_›))))).mono ?_; rintro e w2 ⟨rfl, Fw2⟩; rw [HN.out]; obtain ⟨q0, q1, q2, q3, q4, q5⟩ := blk4 (Fw2.at0 hbox); have FW := FR.trans0 Fw2; replace s0 := (FW.cell s3 (by simp)).trans s0; replace p1 := (FW.cell hg2 (by simp)).trans p1; replace p2 := (FW.cell hg2 (by simp)).trans p2; replace p3 := (FW.cell hg2 (by simp)).trans p3; replace p4 := (FW.cell hg2 (by simp)).trans p4))
      go_region
      go_wp2
      obtain ⟨k, hk, hend⟩ := HK.out
      go_roundg k
      case measure => omega
      case rel =>
        refine ⟨.mk uk un uS uts, hend, HW2.out, (by repeat (first | with_reducible (first | refine .alloc ?_ _ | refine .drewN ?_ _ | refine .drew ?_) | ((with_reducible refine .setCell ?_ ?_ _); rotate_left; focus (first | (left; simp; done) | (right; simp; (first | done | omega)))) | with_reducible (first | assumption | exact .refl _ _ | refine .trans0 ?_ ‹_›))), ⟨A3, cap3, box_store4 (Fw2.at0 hbox) _ _ _ _, ?_⟩, ?_⟩
        · exact ((hu.away (F' := w.heap.size :: (w.heap.size + 1) :: F) (new_two (Nat.le_refl _) (by omega))).keep FW).frm (G := [w.heap.size]) (by repeat (first | with_reducible (first | refine .alloc ?_ _ | refine .drewN ?_ _ | refine .drew ?_) | ((with_reducible refine .setCell ?_ ?_ _); rotate_left; focus (first | (left; simp; done) | (right; simp; (first | done | omega)))) | with_reducible (first | assumption | exact .refl _ _ | refine .trans0 ?_ ‹_›))) (by simp)
        · show (World.setCell _ _ _).heap[_]? = _
          repeat rw [Below.heap_setCell _ _ _ _ (by simp)]
          exact Fw2.at0 hbox1
end Go.Proofs.Ytkiofaojokofbaa
namespace Go.Proofs.Ytkiofaojokofbaa
open Go.RowKit

theorem grown_row {w : World} {e : TypeId} {size n m cap : Nat} {xs news : List Value} {rest : Array Value} (hl : (xs ++ news).length = (n + m) * size) (hcap : n + m ≤ cap) (hc2 : cap ≤ 9223372036854775807)
    (hr : rest.size = (cap - (n + m)) * size) (w1 : World) (hw : w1.heap = w.heap) :
    RowAt (w1.alloc (.cells (xs.toArray ++ news.toArray ++ rest) e)) e size (.slice (some ⟨w.heap.size, 0, none⟩) (n + m) cap) (n + m) (xs ++ news) := by
  refine ⟨hl, some ⟨w.heap.size, 0, none⟩, cap, rfl, hcap, hc2, .inr ⟨w.heap.size, xs.toArray ++ news.toArray ++ rest, rfl, ?_, ?_, ?_⟩⟩
  · rw [← hw]; exact alloc_heap_new _ _
  · simp only [Array.size_append, List.size_toArray, hr]
    rw [List.length_append] at hl
    rw [hl, ← Nat.add_mul, show n + m + (cap - (n + m)) = cap by omega]; exact Nat.le_refl _
  · simp only [Array.toList_append, List.append_assoc]
    rw [← List.append_assoc, ← hl]
    exact List.take_left
theorem RowAt.cells' {w : World} {e : TypeId} {size n cap g : Nat} {xs : List Value} {l : Nat} (h : RowAt w e size (.slice (some ⟨g, 0, none⟩) l cap) n xs) : ∀ j u, xs[j]? = some u → w.cell? ((⟨g, 0, none⟩ : Addr).add j) = some u := by
  intro j u hj
  obtain ⟨g', cap', h1, h2, h3⟩ := h.cell hj
  obtain rfl : g = g' := by simpa [Value.ownBlock] using h3
  simpa [Addr.add_lit] using h2

theorem RowAt.form {w : World} {e : TypeId} {size n : Nat} {v : Value} {xs : List Value} (h : RowAt w e size v n xs) : ∃ A cap, v = .slice A n cap := by
  obtain ⟨_, A, cap, rfl, _⟩ := h; exact ⟨A, cap, rfl⟩
theorem RowAt.ne {w : World} {e T : TypeId} {size n b : Nat} {v : Value} {xs : List Value} {cs : Array Value} {z : Nat × Nat} (h : RowAt w e size v n xs) (hb : w.heap[b]? = some (.cells cs T z)) (hne : e ≠ T) : some b ≠ v.ownBlock := by
  intro he
  obtain ⟨_, cur, hc⟩ := h.lt he.symm
  rw [hb] at hc
  simp only [Option.some.injEq, Obj.cells.injEq] at hc
  exact hne hc.2.1.symm
theorem RowAt.grown {w w' : World} {e : TypeId} {size n : Nat} {v : Value} {xs : List Value} {row : Option Nat} (h : RowAt w e size v n xs) (hg : w.grownBy w' row) (hne : v.ownBlock = none ∨ v.ownBlock ≠ row) : RowAt w' e size v n xs :=
  h.keep (fun g hgo => hg.block g (h.lt hgo).1 (fun e => hne.elim (fun h => by rw [hgo] at h; cases h) (fun h => h (hgo.trans e))))
theorem RowAt.ne_row {w : World} {e e' : TypeId} {size size' n n' : Nat} {v v' : Value} {xs xs' : List Value} (h : RowAt w e size v n xs) (h' : RowAt w e' size' v' n' xs') (hne : e ≠ e') : v.ownBlock = none ∨ v.ownBlock ≠ v'.ownBlock := by
  cases hv : v.ownBlock with
  | none => exact .inl rfl
  | some g =>
    refine .inr fun e => ?_
    obtain ⟨_, cur, hc⟩ := h.lt hv
    exact h'.ne hc (Ne.symm hne) e

section
variable {P : Program} (w : World)
theorem run_append_row (t ty e : TypeId) (i : TypeInfo) (z : Value) (size bytes : Nat) (ht : P.underlying t = some (.slice e)) (hi : P.info? e = some i) (hz : i.zero = some z)
    (hsize : i.size = size) (hby : i.bytes = bytes) (hzs : z.cells.size = size) (v : Value) (n : Nat) (xs : List Value) (hown : RowAt w e size v n xs)
    (a : Addr) (m c : Nat) (hm : 0 < m) (news : List Value) (hl : news.length = m * size) (hnews : ∀ j u, news[j]? = some u → w.cell? (a.add j) = some u) (h1 : ∀ u ∈ news, u.oneCell' = true)
    (h63 : n + m ≤ maxLen) (hbytes : (n + m) * bytes ≤ 140737488355328) :
    ∃ v' w', (Builtin.append_ #[t, t] ty #[v, .slice (some a) m c]).run P w = .ok v' w' ∧ RowAt w' e size v' (n + m) (xs ++ news) ∧ w.grownBy w' v.ownBlock ∧
      (v'.ownBlock = v.ownBlock ∨ v'.ownBlock = some w.heap.size) := by
  subst hsize
  subst hby
  have h63' := h63
  simp only [maxLen] at h63'
  obtain ⟨hlx, A, cap, rfl, hc1, hc2, hrow⟩ := hown
  have hlen : (xs ++ news).length = (n + m) * i.size := by rw [List.length_append, hlx, hl, Nat.add_mul]
  rcases hrow with ⟨rfl, rfl, rfl⟩ | ⟨g, cur, rfl, hg, hcs, htake⟩
  · have hx : xs = [] := List.eq_nil_of_length_eq_zero (by simpa using hlx)
    subst hx
    have hr := run_append_nil (P := P) w t ty e i z ht hi hz a m c news hl hnews (by omega) (by omega) (by have hb := hbytes; simp only [Nat.zero_add] at hb; omega)
    have hge := grownCap_ge w m 0 e
    have hcm : grownCap w m 0 e ≤ maxLen := grownCap_le_maxLen w m 0 e (by simpa using h63)
    simp only [maxLen] at hcm
    refine ⟨_, _, hr, ?_, ⟨rfl, rfl, rfl, by simp, fun k hk _ => Below.heap_alloc w.drew _ k hk⟩, .inr rfl⟩
    have := grown_row (w := w) (e := e) (n := 0) (m := m) (size := i.size) (xs := []) (news := news) (rest := Builtin.zeroCells z.cells (grownCap w m 0 e - m)) (cap := grownCap w m 0 e) hlen (by omega) (by omega) (by rw [size_zeroCells, hzs, Nat.zero_add]) w.drew rfl
    simpa using this
  · by_cases hroom : n + m ≤ cap
    · have hfit : n * i.size + news.length ≤ cur.size := by
        rw [hl, ← Nat.add_mul]; exact Nat.le_trans (Nat.mul_le_mul_right _ hroom) hcs
      have hr := run_append_room (P := P) w t ty e i ht hi g n cap cur hg a m c news hl hnews h1 hroom hfit
      refine ⟨_, _, hr, ⟨hlen, _, cap, rfl, hroom, hc2, .inr ⟨g, _, rfl, setRow_heap w g cur _ e _ hg, ?_, ?_⟩⟩, ⟨rfl, rfl, rfl, by simp, fun k _ hk => setRow_other w g k _ (fun e => hk (by simp [Value.ownBlock, e]))⟩, .inl rfl⟩
      · simp only [List.size_toArray, List.length_append, List.length_take, List.length_drop, Array.length_toList]
        omega
      · rw [htake, ← hlen]
        exact List.take_left
    · have holds : ∀ j u, xs[j]? = some u → w.cell? ((⟨g, 0, none⟩ : Addr).add j) = some u :=
        RowAt.cells' (n := n) (l := n) (cap := cap) (e := e) (size := i.size) ⟨hlx, _, cap, rfl, hc1, hc2, .inr ⟨g, cur, rfl, hg, hcs, htake⟩⟩
      have hr := run_append_grow (P := P) w t ty e i z ht hi hz ⟨g, 0, none⟩ n cap xs hlx holds a m c news hl hnews (by omega) (by omega) (growslice_fits (by omega) hbytes)
      have hge := grownCap_ge w (n + m) cap e
      have hcm : grownCap w (n + m) cap e ≤ maxLen := grownCap_le_maxLen w (n + m) cap e h63
      simp only [maxLen] at hcm
      exact ⟨_, _, hr, grown_row hlen hge (by omega) (by rw [size_zeroCells, hzs]) w.drew rfl, ⟨rfl, rfl, rfl, by simp, fun k hk _ => Below.heap_alloc w.drew _ k hk⟩, .inr rfl⟩

theorem run_append_zeros (t tn ty e : TypeId) (i : TypeInfo) (z : Value) (kq kn : IntKind) (size bytes : Nat) (ht : P.underlying t = some (.slice e)) (htn : P.underlying tn = some (.int kn)) (hi : P.info? e = some i) (hz : i.zero = some z)
    (hsize : i.size = size) (hby : i.bytes = bytes) (hzs : z.cells.size = size) (hs0 : 0 < size) (h1 : ∀ u ∈ z.cells, u.oneCell' = true) (v : Value) (n : Nat) (xs : List Value) (hown : RowAt w e size v n xs)
    (m : Nat) (h63 : n + m ≤ maxLen) (hbytes : (n + m) * bytes ≤ 140737488355328) :
    ∃ v' w', (Builtin.append_ #[t, tn] ty #[v, .int kq m]).run P w = .ok v' w' ∧ RowAt w' e size v' (n + m) (xs ++ (Builtin.zeroCells z.cells m).toList) ∧ w.grownBy w' v.ownBlock ∧
      (v'.ownBlock = v.ownBlock ∨ v'.ownBlock = some w.heap.size) := by
  subst hsize
  subst hby
  have h63' := h63
  simp only [maxLen] at h63'
  obtain ⟨hlx, A, cap, rfl, hc1, hc2, hrow⟩ := hown
  have hzl : (Builtin.zeroCells z.cells m).toList.length = m * i.size := by rw [Array.length_toList, size_zeroCells, hzs]
  have hlen : (xs ++ (Builtin.zeroCells z.cells m).toList).length = (n + m) * i.size := by rw [List.length_append, hlx, hzl, Nat.add_mul]
  have hwr : IntKind.i64.wrap (m : Int) = m := by rw [IntKind.wrap_i64]; omega
  have hneg : ¬ ((m : Int) < 0) := by omega
  have hmb : m * i.bytes ≤ 140737488355328 := Nat.le_trans (Nat.mul_le_mul_right _ (by omega)) hbytes
  have h48i : ¬ (281474976710656 < (m : Int) * (i.bytes : Int)) := by rw [← Int.natCast_mul]; omega
  by_cases hm0 : m = 0
  · subst hm0
    have he : (Builtin.zeroCells z.cells 0).toList = [] := by simp [Builtin.zeroCells]
    rw [he, List.append_nil]
    refine ⟨.slice A n cap, w, ?_, ⟨hlx, A, cap, rfl, hc1, hc2, hrow⟩, ⟨rfl, rfl, rfl, Nat.le_refl _, fun _ _ _ => rfl⟩, .inl rfl⟩
    have hw0 : IntKind.i64.wrap 0 = 0 := by decide
    rcases hrow with ⟨rfl, rfl, rfl⟩ | ⟨g, cur, rfl, hg, hcs, htake⟩
    · simp [Builtin.append_, run_underlying ht, run_underlying htn, sizeOf, typeInfo, hi, asInt, asIntOf, hw0]
    · simp [Builtin.append_, run_underlying ht, run_underlying htn, sizeOf, typeInfo, hi, asInt, asIntOf, hc1, storeCells, hw0]
  have hm : 0 < m := by omega
  rcases hrow with ⟨rfl, rfl, rfl⟩ | ⟨g, cur, rfl, hg, hcs, htake⟩
  · have hx : xs = [] := List.eq_nil_of_length_eq_zero (by simpa using hlx)
    subst hx
    have hr := Lib.run_append_nil_zeros (P := P) w t tn ty e i z kq kn ht htn hi hz m hm hs0 (by omega) (by omega)
    have hge := grownCap_ge w m 0 e
    have hcm : grownCap w m 0 e ≤ maxLen := grownCap_le_maxLen w m 0 e (by simpa using h63)
    simp only [maxLen] at hcm
    refine ⟨_, _, hr, ?_, ⟨rfl, rfl, rfl, by simp, fun k hk _ => Below.heap_alloc w.drew _ k hk⟩, .inr rfl⟩
    have := grown_row (w := w) (e := e) (n := 0) (m := m) (size := i.size) (xs := []) (news := (Builtin.zeroCells z.cells m).toList) (rest := Builtin.zeroCells z.cells (grownCap w m 0 e - m)) (cap := grownCap w m 0 e) hlen (by omega) (by omega) (by rw [size_zeroCells, hzs, Nat.zero_add]) w.drew rfl
    simpa using this
  · by_cases hroom : n + m ≤ cap
    · have hfit : n * i.size + (Builtin.zeroCells z.cells m).toList.length ≤ cur.size := by
        rw [hzl, ← Nat.add_mul]; exact Nat.le_trans (Nat.mul_le_mul_right _ hroom) hcs
      have hall : ∀ u ∈ (Builtin.zeroCells z.cells m).toList, u.oneCell' = true := by
        intro u hu
        simp only [Builtin.zeroCells, Array.toList_map, List.mem_map] at hu
        obtain ⟨q, _, rfl⟩ := hu
        have hq : q % z.cells.size < z.cells.size := Nat.mod_lt _ (by rw [hzs]; exact hs0)
        rw [getElem!_pos z.cells _ hq]
        exact h1 _ (Array.getElem_mem hq)
      have hst := run_storeCells_at P g (n * i.size) e (Builtin.zeroCells z.cells m).toList 0 cur w hg (by simpa using hfit) hall
      simp only [Nat.add_zero] at hst
      have hns : ¬ (m * i.size = 0) := Nat.mul_ne_zero hm0 (by omega)
      refine ⟨.slice (some ⟨g, 0, none⟩) (n + m) cap, w.setRow g (cur.toList.take (n * i.size) ++ (Builtin.zeroCells z.cells m).toList ++ cur.toList.drop (n * i.size + (Builtin.zeroCells z.cells m).toList.length)).toArray, ?_, ⟨hlen, _, cap, rfl, hroom, hc2, .inr ⟨g, _, rfl, setRow_heap w g cur _ e _ hg, ?_, ?_⟩⟩, ⟨rfl, rfl, rfl, by simp, fun k _ hk => setRow_other w g k _ (fun e => hk (by simp [Value.ownBlock, e]))⟩, .inl rfl⟩
      · simp [Builtin.append_, run_underlying ht, run_underlying htn, sizeOf, typeInfo, zeroValue, hi, hz, asInt, asIntOf, hwr, hneg, h48i, hns, hroom, Addr.add_lit, hst]
      · simp only [List.size_toArray, List.length_append, List.length_take, List.length_drop, Array.length_toList]
        simp only [Array.length_toList] at hfit
        omega
      · rw [htake, ← hlen]
        exact List.take_left
    · have holds : ∀ j u, xs[j]? = some u → w.cell? ((⟨g, 0, none⟩ : Addr).add j) = some u :=
        RowAt.cells' (n := n) (l := n) (cap := cap) (e := e) (size := i.size) ⟨hlx, _, cap, rfl, hc1, hc2, .inr ⟨g, cur, rfl, hg, hcs, htake⟩⟩
      have hold := run_firstCells_some (P := P) w.drew i.size n ⟨g, 0, none⟩ n cap xs hlx holds
      have hr := Lib.run_append_grow_zeros (P := P) w t tn ty e i z kq kn ht htn hi hz (some ⟨g, 0, none⟩) n cap xs hold m hm hs0 (by omega) (by omega) (by omega) (growslice_fits (by omega) hbytes)
      have hge := grownCap_ge w (n + m) cap e
      have hcm : grownCap w (n + m) cap e ≤ maxLen := grownCap_le_maxLen w (n + m) cap e h63
      simp only [maxLen] at hcm
      refine ⟨_, _, hr, ?_, ⟨rfl, rfl, rfl, by simp, fun k hk _ => Below.heap_alloc w.drew _ k hk⟩, .inr rfl⟩
      have := grown_row (w := w) (news := (Builtin.zeroCells z.cells m).toList) (rest := Builtin.zeroCells z.cells (grownCap w (n + m) cap e - (n + m))) hlen hge (by omega) (by rw [size_zeroCells, hzs]) w.drew rfl (e := e)
      simpa using this

theorem wpList_append_row {ops : Array Oper} {rest : List Oper} {o : Oper} {a : Act} {Q : Exit → Act → World → Prop} (hgd : o.guard = none) (s x : Operand) (t : TypeId)
    (ho : o.op = .call { callee := .builtin .append, args := #[s, x], argTypes := #[t, t] }) (e : TypeId) (i : TypeInfo) (z : Value) (size bytes : Nat) (ht : P.underlying t = some (.slice e)) (hi : P.info? e = some i) (hz : i.zero = some z)
    (hsize : i.size = size) (hby : i.bytes = bytes) (hzs : z.cells.size = size) (v : Value) (n : Nat) (xs : List Value) (hs : a.eval s = v) (hown : RowAt w e size v n xs)
    (ad : Addr) (m c : Nat) (hm : 0 < m) (news : List Value) (hx : a.eval x = .slice (some ad) m c) (hl : news.length = m * size) (hnews : ∀ j u, news[j]? = some u → w.cell? (ad.add j) = some u) (h1 : ∀ u ∈ news, u.oneCell' = true)
    (h63 : n + m ≤ maxLen) (hbytes : (n + m) * bytes ≤ 140737488355328)
    (h : ∀ v' w', RowAt w' e size v' (n + m) (xs ++ news) → w.grownBy w' v.ownBlock → (v'.ownBlock = v.ownBlock ∨ v'.ownBlock = some w.heap.size) → wpList P ops Q rest (a.put o.dst v') w') :
    wpList P ops Q (o :: rest) a w := by
  refine wpList_plain hgd fun K hK => ?_
  obtain ⟨v', w', hr, h2, h3, h4⟩ := run_append_row (P := P) w t o.type e i z size bytes ht hi hz hsize hby hzs v n xs hown ad m c hm news hl hnews h1 h63 hbytes
  unfold Oper.wp execOp
  simp only [ho, resolve, invoke, builtin, Sem.run_bind, Sem.run_pure, Result.andThen_ok, List.map_toArray, List.map_cons, List.map_nil, hs, hx, hr]
  exact hK _ _ (h v' w' h2 h3 h4)
theorem wpList_append_zeros {ops : Array Oper} {rest : List Oper} {o : Oper} {a : Act} {Q : Exit → Act → World → Prop} (hgd : o.guard = none) (s x : Operand) (t tn : TypeId)
    (ho : o.op = .call { callee := .builtin .append, args := #[s, x], argTypes := #[t, tn] }) (e : TypeId) (i : TypeInfo) (z : Value) (kq kn : IntKind) (size bytes : Nat) (ht : P.underlying t = some (.slice e)) (htn : P.underlying tn = some (.int kn)) (hi : P.info? e = some i) (hz : i.zero = some z)
    (hsize : i.size = size) (hby : i.bytes = bytes) (hzs : z.cells.size = size) (hs0 : 0 < size) (h1 : ∀ u ∈ z.cells, u.oneCell' = true) (v : Value) (n : Nat) (xs : List Value) (hs : a.eval s = v) (hown : RowAt w e size v n xs)
    (m : Nat) (hx : a.eval x = .int kq m) (h63 : n + m ≤ maxLen) (hbytes : (n + m) * bytes ≤ 140737488355328)
    (h : ∀ v' w', RowAt w' e size v' (n + m) (xs ++ (Builtin.zeroCells z.cells m).toList) → w.grownBy w' v.ownBlock → (v'.ownBlock = v.ownBlock ∨ v'.ownBlock = some w.heap.size) → wpList P ops Q rest (a.put o.dst v') w') :
    wpList P ops Q (o :: rest) a w := by
  refine wpList_plain hgd fun K hK => ?_
  obtain ⟨v', w', hr, h2, h3, h4⟩ := run_append_zeros (P := P) w t tn o.type e i z kq kn size bytes ht htn hi hz hsize hby hzs hs0 h1 v n xs hown m h63 hbytes
  unfold Oper.wp execOp
  simp only [ho, resolve, invoke, builtin, Sem.run_bind, Sem.run_pure, Result.andThen_ok, List.map_toArray, List.map_cons, List.map_nil, hs, hx, hr]
  exact hK _ _ (h v' w' h2 h3 h4)
end
end Go.Proofs.Ytkiofaojokofbaa
namespace Go.Proofs.Ytkiofaojokofbaa
open Go.RowKit

/-- A store that was changed: its blocks alone, and new ones. -/
def StoreTo (G F : List Nat) (w w' : World) (sb : Nat) (st : PStore) : Prop :=
  ∃ G' F', StoreAt G' F' w' sb st ∧ Frm G w w' ∧ (∀ b, b ∈ F → b ∈ F') ∧ (∀ b, b ∈ F' → b ∈ F ∨ w.heap.size ≤ b) ∧ (∀ b, b ∈ G' → b ∈ G ∨ w.heap.size ≤ b)
theorem TermV.over {G F F' : List Nat} {w w' : World} {t : Term} {v : Value} (h : TermV F w t v) (hG : ∀ b, b ∈ G → b ∈ F) (f : Frm G w w') (h1 : ∀ b, b ∈ F → b ∈ F') (h2 : ∀ b, b ∈ F' → b ∈ F ∨ w.heap.size ≤ b) : TermV F' w' t v :=
  (h.away h2).frm f (fun b hb => h1 b (hG b hb))
theorem CellsV.over {G F F' : List Nat} {w w' : World} {cs : List (Option Term)} {xs : List Value} (h : CellsV F w cs xs) (hG : ∀ b, b ∈ G → b ∈ F) (f : Frm G w w') (h1 : ∀ b, b ∈ F → b ∈ F') (h2 : ∀ b, b ∈ F' → b ∈ F ∨ w.heap.size ≤ b) : CellsV F' w' cs xs :=
  h.same (fun _ _ ht => ht.over hG f h1 h2)
theorem StoreTo.refl {G F : List Nat} {w : World} {sb : Nat} {st : PStore} (h : StoreAt G F w sb st) : StoreTo G F w w sb st := ⟨G, F, h, Frm.refl _ _, fun _ h => h, fun _ h => .inl h, fun _ h => .inl h⟩
theorem StoreTo.quiet {G F : List Nat} {w w' : World} {sb : Nat} {st : PStore} (h : StoreAt G F w sb st) (f : Frm [] w w') : StoreTo G F w w' sb st := ⟨G, F, h.keep f, f.mono (by simp), fun _ h => h, fun _ h => .inl h, fun _ h => .inl h⟩

namespace PStore
def fresh (s : PStore) (n : Nat) : PStore := ⟨s.cells ++ List.replicate n none, s.trail⟩
theorem fresh_get (s : PStore) (n : Nat) (x : Int) : (s.fresh n).get x = s.get x := by
  unfold get fresh
  split
  · dsimp only
    by_cases h : x.toNat < s.cells.length
    · rw [List.getElem?_append_left h]
    · rw [List.getElem?_append_right (by omega), List.getElem?_eq_none (l := s.cells) (by omega)]
      rw [List.getElem?_replicate]
      split <;> rfl
  · rfl
theorem fresh_next (s : PStore) (n : Nat) (t : Term) : (s.fresh n).next t = s.next t := by unfold next; rw [fresh_get]
theorem fresh_walkN (s : PStore) (n : Nat) : ∀ k t, (s.fresh n).walkN k t = s.walkN k t
  | 0, t => rfl
  | k + 1, t => by
    cases h : s.next t with
    | none => rw [walkN_none h, walkN_none (by rw [fresh_next]; exact h)]
    | some u => rw [walkN_some h, walkN_some (s := s.fresh n) (by rw [fresh_next]; exact h), fresh_walkN s n k u]
theorem fresh_ok {s : PStore} (h : s.OK) {n : Nat} (hn : s.cells.length + n ≤ 4096) : (s.fresh n).OK := by
  refine ⟨fun t => ?_, by simp [fresh]; omega, h.nodup, fun v => ?_⟩
  · obtain ⟨k, hk⟩ := h.wf t
    exact ⟨k, by rw [fresh_walkN, fresh_next]; exact hk⟩
  · refine (h.bound v).trans ⟨fun ⟨t, ht⟩ => ⟨t, ?_⟩, fun ⟨t, ht⟩ => ⟨t, ?_⟩⟩
    · show (s.cells ++ _)[v]? = _
      rw [List.getElem?_append_left (List.getElem?_eq_some_iff.1 ht).1]; exact ht
    · have ht' : (s.cells ++ List.replicate n none)[v]? = some (some t) := ht
      by_cases hv : v < s.cells.length
      · rwa [List.getElem?_append_left hv] at ht'
      · rw [List.getElem?_append_right (by omega), List.getElem?_replicate] at ht'
        split at ht' <;> simp at ht'
end PStore

theorem store_mark (G F : List Nat) (sb : Nat) (st : PStore) (w : World) (hs : StoreAt G F w sb st) :
    Calls Try.prog 9 #[.pointer (some ⟨sb, 0, none⟩)] w fun e w' => e = .returned (.int .i64 st.trail.length) ∧ Frm [] w w' := by
  obtain ⟨cv, tv, xs, h1, h2, h3, h4, h5, h6, h7, h8⟩ := hs
  obtain ⟨hxl, A2, cap2, rfl, hcap1, hcap2, hrow⟩ := h3
  obtain ⟨s0, s1, _, hlt⟩ := blk2 h1
  go_enter Try.func9, Try.ntmps9
  go_wp2
  go_ret
  exact ⟨rfl, (by repeat (first | with_reducible (first | refine .alloc ?_ _ | refine .drewN ?_ _ | refine .drew ?_) | ((with_reducible refine .setCell ?_ ?_ _); rotate_left; focus (first | (left; simp; done) | (right; simp; (first | done | omega)))) | with_reducible (first | assumption | exact .refl _ _ | refine .trans0 ?_ ‹_›)))⟩

theorem Try.infoCell : (Try.prog.info? 71).map (fun i => (i.zero, i.size, i.bytes)) = some (some (.agg #[.bool false, .int .i64 0, .int .i64 0, .string ⟨#[]⟩, .slice none 0 0]), 5, 64) := by kernel_rfl

theorem zeros_cells (F : List Nat) (w : World) (xs : List Value) (cs : List (Option Term)) (hl : xs.length = cs.length * 5) (h : CellsV F w cs xs) (n : Nat) :
    CellsV F w (cs ++ List.replicate n none) (xs ++ (Builtin.zeroCells (Value.agg #[.bool false, .int .i64 0, .int .i64 0, .string ⟨#[]⟩, .slice none 0 0]).cells n).toList) := by
  intro j o hj
  by_cases hlt : j < cs.length
  · rw [List.getElem?_append_left hlt] at hj
    obtain ⟨c0, c1, c2, c3, c4, e0, e1, e2, e3, e4, hc⟩ := h j o hj
    refine ⟨c0, c1, c2, c3, c4, ?_, ?_, ?_, ?_, ?_, hc⟩ <;> (rw [List.getElem?_append_left (by omega)]; assumption)
  · rw [List.getElem?_append_right (by omega), List.getElem?_replicate] at hj
    split at hj
    · rename_i hn
      cases hj
      have hz : ∀ c, c < 5 → (xs ++ (Builtin.zeroCells (Value.agg #[.bool false, .int .i64 0, .int .i64 0, .string ⟨#[]⟩, .slice none 0 0]).cells n).toList)[j * 5 + c]? = #[Value.bool false, .int .i64 0, .int .i64 0, .string ⟨#[]⟩, .slice none 0 0][c]? := by
        intro c hc
        rw [List.getElem?_append_right (by omega), Array.getElem?_toList]
        have hlt2 : j * 5 + c - xs.length < n * 5 := by omega
        simp only [Builtin.zeroCells, Value.cells, Array.getElem?_map]
        rw [Array.getElem?_range]
        have hm : (j * 5 + c - xs.length) % 5 = c := by omega
        have hsz : (#[Value.bool false, .int .i64 0, .int .i64 0, .string ⟨#[]⟩, .slice none 0 0] : Array Value).size = 5 := rfl
        rw [hsz, if_pos hlt2]
        simp only [Option.map_some]
        rw [hm, getElem!_pos _ _ (by rw [hsz]; exact hc), Array.getElem?_eq_getElem (by rw [hsz]; exact hc)]
      exact ⟨_, _, _, _, _, hz 0 (by omega), hz 1 (by omega), hz 2 (by omega), hz 3 (by omega), hz 4 (by omega), rfl, rfl, rfl, rfl, rfl⟩
    · cases hj

/-- The store's new memory, from what it holds. -/
theorem StoreAt.write {G F : List Nat} {w w' : World} {sb : Nat} {st' : PStore} {cv' tv' : Value} {xs' : List Value} (hsb : sb ∈ G) (hGF : ∀ b, b ∈ G → b ∈ F) (hF : ∀ b, b ∈ F → b < w.heap.size)
    (f : Frm G w w') (hb : w'.heap[sb]? = some (.cells #[cv', tv'] 67 (0, 0))) (h1 : RowAt w' 71 5 cv' st'.cells.length xs') (h2 : RowAt w' 3 1 tv' st'.trail.length (st'.trail.map fun (x : Nat) => Value.int .i64 (x : Int)))
    (hc : ∀ F', (∀ b, b ∈ F → b ∈ F') → (∀ b, b ∈ F' → b ∈ F ∨ w.heap.size ≤ b) → CellsV F' w' st'.cells xs') (ok : st'.OK) (ho : ∀ b, cv'.ownBlock = some b ∨ tv'.ownBlock = some b → b ∈ G ∨ w.heap.size ≤ b) : StoreTo G F w w' sb st' := by
  have hG' : ∀ b, b ∈ sb :: (cv'.ownBlock.toList ++ tv'.ownBlock.toList) → b ∈ G ∨ w.heap.size ≤ b := by
    intro b hb
    simp only [List.mem_cons, List.mem_append, Option.mem_toList] at hb
    rcases hb with rfl | hb | hb
    · exact .inl hsb
    · exact ho b (.inl hb)
    · exact ho b (.inr hb)
  have hn : ∀ b, b ∈ (sb :: (cv'.ownBlock.toList ++ tv'.ownBlock.toList)) ++ F → b ∈ F ∨ w.heap.size ≤ b := by
    intro b hb
    rcases List.mem_append.1 hb with hb | hb
    · exact (hG' b hb).imp (hGF b) id
    · exact .inl hb
  have hf : ∀ b, b ∈ F → b ∈ (sb :: (cv'.ownBlock.toList ++ tv'.ownBlock.toList)) ++ F := fun b h => List.mem_append.2 (.inr h)
  refine ⟨sb :: (cv'.ownBlock.toList ++ tv'.ownBlock.toList), (sb :: (cv'.ownBlock.toList ++ tv'.ownBlock.toList)) ++ F, ⟨cv', tv', xs', hb, h1, h2, hc _ hf hn, ok, rfl, fun b h => List.mem_append.2 (.inl h), ?_⟩, f, hf, hn, hG'⟩
  intro b hm
  rcases List.mem_append.1 hm with hm | hm
  · simp only [List.mem_cons, List.mem_append, Option.mem_toList] at hm
    rcases hm with rfl | hm | hm
    · exact (Array.getElem?_eq_some_iff.1 hb).1
    · exact (h1.lt hm).1
    · exact (h2.lt hm).1
  · exact Nat.lt_of_lt_of_le (hF b hm) f.size

theorem fresh_to {G F : List Nat} {w w1 : World} {sb n : Nat} {st : PStore} {cv cv' tv : Value} {xs : List Value} (h1 : w.heap[sb]? = some (.cells #[cv, tv] 67 (0, 0)))
    (h2 : RowAt w 71 5 cv st.cells.length xs) (h3 : RowAt w 3 1 tv st.trail.length (st.trail.map fun (x : Nat) => Value.int .i64 (x : Int))) (h4 : CellsV F w st.cells xs) (h5 : st.OK)
    (h6 : G = sb :: (cv.ownBlock.toList ++ tv.ownBlock.toList)) (h7 : ∀ b, b ∈ G → b ∈ F) (h8 : ∀ b, b ∈ F → b < w.heap.size) (hn : st.cells.length + n ≤ 4096)
    (hr : RowAt w1 71 5 cv' (st.cells.length + n) (xs ++ (Builtin.zeroCells (Value.agg #[.bool false, .int .i64 0, .int .i64 0, .string ⟨#[]⟩, .slice none 0 0]).cells n).toList))
    (hg : w.grownBy w1 cv.ownBlock) (hat : cv'.ownBlock = cv.ownBlock ∨ cv'.ownBlock = some w.heap.size) (hb1 : w1.heap[sb]? = some (.cells #[cv, tv] 67 (0, 0))) :
    StoreTo G F w (w1.setCell ⟨sb, 0, none⟩ cv') sb (st.fresh n) := by
  have hsb : sb ∈ G := by rw [h6]; simp
  have hown : ∀ b, cv.ownBlock = some b → b ∈ G := fun b hb => by rw [h6]; simp [hb]
  have f1 : Frm G w w1 := (Frm.refl G w).grown hg (fun k hk => .inl (hown k hk))
  have f2 : Frm G w (w1.setCell ⟨sb, 0, none⟩ cv') := f1.setCell (.inl hsb) _
  have hb2 := heap_setCell_at hb1 0 cv'
  have keep : ∀ g, g ≠ sb → (w1.setCell ⟨sb, 0, none⟩ cv').heap[g]? = w1.heap[g]? := fun g hgs => heap_setCell_ne _ _ _ hgs
  refine StoreAt.write hsb h7 h8 f2 hb2 (xs' := xs ++ (Builtin.zeroCells (Value.agg #[.bool false, .int .i64 0, .int .i64 0, .string ⟨#[]⟩, .slice none 0 0]).cells n).toList) ?_ ?_ ?_ (PStore.fresh_ok h5 hn) ?_
  · have hr' := hr.keep (w' := w1.setCell ⟨sb, 0, none⟩ cv') (fun g hgo => keep g (fun e => by subst e; exact hr.ne hb1 (by decide) hgo.symm))
    simpa [PStore.fresh] using hr'
  · have h3' := h3.grown hg (h3.ne_row h2 (by decide))
    exact h3'.keep (fun g hgo => keep g (fun e => by subst e; exact h3'.ne hb1 (by decide) hgo.symm))
  · intro F' hf hn'
    exact zeros_cells F' _ xs st.cells (by have := h2.1; omega) (h4.over h7 f2 hf hn') n
  · rintro b (hb | hb)
    · rcases hat with e | e
      · exact .inl (hown b (e ▸ hb))
      · rw [e] at hb; cases hb; exact .inr (Nat.le_refl _)
    · exact .inl (by rw [h6]; simp [hb])

set_option maxRecDepth 100000 in
theorem store_fresh (G F : List Nat) (sb : Nat) (st : PStore) (n : Nat) (w : World) (hs : StoreAt G F w sb st) (hn : st.cells.length + n ≤ 4096) :
    Calls Try.prog 11 #[.pointer (some ⟨sb, 0, none⟩), .int .i64 n] w fun e w' => e = .returned (.tuple #[.int .i64 st.cells.length, .int .i64 0]) ∧ StoreTo G F w w' sb (st.fresh n) := by
  obtain ⟨cv, tv, xs, h1, h2, h3, h4, h5, h6, h7, h8⟩ := hs
  obtain ⟨i0, hi, hz0, hz1, hz2⟩ := info_parts Try.infoCell
  have h2' := h2
  obtain ⟨hxl, A2, cap2, rfl, hcap1, hcap2, hrow⟩ := h2
  obtain ⟨s0, s1, s2, hlt⟩ := blk2 h1
  have hn1 : ¬ ((n : Int) < 0) := by omega
  have hn2 : ¬ ((4096 : Int) - (st.cells.length : Int) < (n : Int)) := by omega
  go_enter Try.func11, Try.ntmps11
  go_wp2_with (at_builtin; go_must (refine wpList_append_zeros _ rfl _ _ 64 3 rfl 71 i0 _ .i64 .i64 5 64 Try.underlying64 Try.underlying3 hi hz0 hz1 hz2 rfl (by decide) (by decide) _ _ xs rfl h2' n rfl (by unfold maxLen; omega) (by omega) ?_); intro v' w1 hrow' hg hat; have hb1 := (hg.block sb hlt (h2'.ne h1 (by decide))).trans h1; obtain ⟨r0, r1, r2, r3⟩ := blk2 hb1; obtain ⟨A', cap', rfl⟩ := hrow'.form)
  go_ret2
  exact ⟨rfl, fresh_to h1 h2' h3 h4 h5 rfl (by rw [h6] at h7; exact h7) h8 hn hrow' hg hat hb1⟩
end Go.Proofs.Ytkiofaojokofbaa
namespace Go.Proofs.Ytkiofaojokofbaa
open Go.RowKit

theorem RowAt.set {g : Nat} {w : World} {e : TypeId} {size n : Nat} {v : Value} {xs : List Value} (h : RowAt w e size v n xs) (hg : v.ownBlock = some g) (i : Nat) (u : Value) : RowAt (w.setCell ⟨g, i, none⟩ u) e size v n (xs.set i u) := by
  obtain ⟨hl, A, cap, rfl, h1, h2, h3⟩ := h
  rcases h3 with ⟨rfl, _⟩ | ⟨g', cur, rfl, hh, hc, ht⟩
  · cases hg
  · obtain rfl : g' = g := by simpa [Value.ownBlock] using hg
    refine ⟨by rw [List.length_set]; exact hl, _, cap, rfl, h1, h2, .inr ⟨g', _, rfl, heap_setCell_at hh i u, by simpa using hc, ?_⟩⟩
    rw [Array.toList_setIfInBounds, List.take_set, ht]

namespace PStore
def unset (cs : List (Option Term)) (vs : List Nat) : List (Option Term) := vs.foldl (fun cs v => cs.set v none) cs
theorem unset_length (vs : List Nat) : ∀ cs, (unset cs vs).length = cs.length := by
  induction vs with
  | nil => intro cs; rfl
  | cons v vs ih => intro cs; show (unset (cs.set v none) vs).length = _; rw [ih, List.length_set]
theorem unset_get (vs : List Nat) : ∀ cs x, (unset cs vs)[x]? = if x ∈ vs then (cs[x]?).map (fun _ => none) else cs[x]? := by
  induction vs with
  | nil => intro cs x; simp [unset]
  | cons v vs ih =>
    intro cs x
    show (unset (cs.set v none) vs)[x]? = _
    rw [ih]
    by_cases hx : x = v
    · subst hx
      by_cases hl : x < cs.length
      · simp [hl]
      · rw [List.getElem?_eq_none (l := cs) (by omega), List.getElem?_eq_none (by rw [List.length_set]; omega)]; simp
    · rw [List.getElem?_set_ne (Ne.symm hx)]
      simp [hx]
theorem unset_snoc (cs : List (Option Term)) (vs : List Nat) (v : Nat) : unset cs (vs ++ [v]) = (unset cs vs).set v none := by simp [unset]
def undo (s : PStore) (m : Nat) : PStore := ⟨unset s.cells (s.trail.drop m), s.trail.take m⟩
theorem undo_next {s : PStore} {m : Nat} {t u : Term} (h : (s.undo m).next t = some u) : s.next t = some u := by
  obtain ⟨h1, h2, h3, h4⟩ := next_lt h
  have h5 : (unset s.cells (s.trail.drop m))[t.n.toNat]? = some (some u) := h4
  rw [unset_get] at h5
  split at h5
  · cases hc : s.cells[t.n.toNat]? <;> simp [hc] at h5
  · unfold next get
    rw [if_pos h1, if_pos h2, h5]; rfl
theorem undo_ok {s : PStore} (h : s.OK) (m : Nat) : (s.undo m).OK := by
  refine ⟨fun t => ?_, by show (unset _ _).length ≤ _; rw [unset_length]; exact h.many, List.Nodup.sublist (List.take_sublist _ _) h.nodup, fun v => ?_⟩
  · obtain ⟨k, hk⟩ := h.wf t
    clear h
    induction k generalizing t with
    | zero =>
      refine ⟨0, ?_⟩
      cases hn : (s.undo m).next t with
      | none => exact hn
      | some u => rw [walkN, undo_next hn] at hk; cases hk
    | succ k ih =>
      cases hn : (s.undo m).next t with
      | none => exact ⟨0, hn⟩
      | some u =>
        rw [walkN_some (undo_next hn)] at hk
        obtain ⟨j, hj⟩ := ih u hk
        exact ⟨j + 1, by rw [walkN_some hn]; exact hj⟩
  · show v ∈ s.trail.take m ↔ ∃ t, (unset s.cells (s.trail.drop m))[v]? = some (some t)
    have hd : ∀ x, x ∈ s.trail.take m → x ∈ s.trail.drop m → False := by
      have hn := h.nodup
      rw [← List.take_append_drop m s.trail, List.nodup_append] at hn
      exact fun x h1 h2 => hn.2.2 x h1 x h2 rfl
    have hm : ∀ x, x ∈ s.trail ↔ x ∈ s.trail.take m ∨ x ∈ s.trail.drop m := fun x => by
      conv => lhs; rw [← List.take_append_drop m s.trail]
      exact List.mem_append
    rw [unset_get]
    constructor
    · intro hv
      obtain ⟨t, ht⟩ := (h.bound v).1 ((hm v).2 (.inl hv))
      exact ⟨t, by rw [if_neg (fun h2 => hd v hv h2)]; exact ht⟩
    · rintro ⟨t, ht⟩
      split at ht
      · cases hc : s.cells[v]? <;> simp [hc] at ht
      · rename_i hnd
        exact ((hm v).1 ((h.bound v).2 ⟨t, ht⟩)).resolve_right hnd
end PStore

theorem unset_cells {F : List Nat} {w w' : World} {cs : List (Option Term)} {xs : List Value} (h : CellsV F w cs xs) (hl : xs.length = cs.length * 5) (ht : ∀ t v, TermV F w t v → TermV F w' t v) (v : Nat) :
    CellsV F w' (cs.set v none) (((((xs.set (v * 5) (.bool false)).set (v * 5 + 1) (.int .i64 0)).set (v * 5 + 2) (.int .i64 0)).set (v * 5 + 3) (.string ⟨#[]⟩)).set (v * 5 + 4) (.slice none 0 0)) := by
  intro j o hj
  by_cases hjv : j = v
  · subst hjv
    have hlt : j < cs.length := by have := (List.getElem?_eq_some_iff.1 hj).1; simpa using this
    rw [List.getElem?_set_self hlt] at hj
    cases hj
    refine ⟨_, _, _, _, _, ?_, ?_, ?_, ?_, ?_, rfl, rfl, rfl, rfl, rfl⟩ <;> simp [List.getElem?_set] <;> omega
  · rw [List.getElem?_set_ne (Ne.symm hjv)] at hj
    obtain ⟨c0, c1, c2, c3, c4, e0, e1, e2, e3, e4, hc⟩ := h j o hj
    have hne : ∀ a b, a < 5 → b < 5 → v * 5 + a ≠ j * 5 + b := fun a b _ _ h => by omega
    have hne0 : ∀ b, b < 5 → v * 5 ≠ j * 5 + b := fun b _ h => by omega
    refine ⟨c0, c1, c2, c3, c4, ?_, ?_, ?_, ?_, ?_, hc.same ht⟩ <;>
      (rw [List.getElem?_set_ne (by omega), List.getElem?_set_ne (by omega), List.getElem?_set_ne (by omega), List.getElem?_set_ne (by omega), List.getElem?_set_ne (by omega)]; assumption)

theorem RowAt.own {w : World} {e : TypeId} {size n : Nat} {v : Value} {xs : List Value} (h : RowAt w e size v n xs) (hn : 0 < n) : ∃ g cap cur, v = .slice (some ⟨g, 0, none⟩) n cap ∧ v.ownBlock = some g ∧ g < w.heap.size ∧ w.heap[g]? = some (.cells cur e (0, 0)) ∧ (∀ o, w.frozen? ⟨g, o, none⟩ = false) ∧ (∀ i u, xs[i]? = some u → w.cell? ⟨g, i, none⟩ = some u) ∧ n * size ≤ cur.size := by
  obtain ⟨hl, A, cap, rfl, h1, h2, h3⟩ := h
  rcases h3 with ⟨rfl, h0, _⟩ | ⟨g, cur, rfl, hh, hc, ht⟩
  · omega
  · refine ⟨g, cap, cur, rfl, rfl, (Array.getElem?_eq_some_iff.1 hh).1, hh, fun o => by simp [World.frozen?, hh], fun i u hi => ?_, Nat.le_trans (Nat.mul_le_mul_right _ h1) hc⟩
    have hlt := (List.getElem?_eq_some_iff.1 hi).1
    rw [← ht, List.getElem?_take_of_lt (by omega)] at hi
    rw [show w.cell? ⟨g, i, none⟩ = cur[i]? by simp [World.cell?, hh]]
    simpa using hi

theorem undo_to {G F : List Nat} {w wr : World} {sb m : Nat} {st : PStore} {cv tv tv' : Value} {xs' : List Value} (h1 : w.heap[sb]? = some (.cells #[cv, tv] 67 (0, 0)))
    (h3 : RowAt w 3 1 tv st.trail.length (st.trail.map fun (x : Nat) => Value.int .i64 (x : Int))) (h5 : st.OK)
    (h6 : G = sb :: (cv.ownBlock.toList ++ tv.ownBlock.toList)) (h7 : ∀ b, b ∈ G → b ∈ F) (h8 : ∀ b, b ∈ F → b < w.heap.size) (hm : m ≤ st.trail.length)
    (f : Frm G w wr) (hsz : wr.heap.size = w.heap.size) (hb : wr.heap[sb]? = some (.cells #[cv, tv] 67 (0, 0))) (hr : RowAt wr 71 5 cv st.cells.length xs')
    (hc : CellsV F wr (PStore.unset st.cells (st.trail.drop m)) xs') (ht : ∀ g, tv.ownBlock = some g → wr.heap[g]? = w.heap[g]?)
    (htv : (tv = .slice none 0 0 ∧ tv' = .slice none 0 0) ∨ ∃ g l c, tv = .slice (some ⟨g, 0, none⟩) l c ∧ tv' = .slice (some ⟨g, 0, none⟩) m m) :
    StoreTo G F w (wr.setCell ⟨sb, 1, none⟩ tv') sb (st.undo m) := by
  have hsb : sb ∈ G := by rw [h6]; simp
  have hb2 := heap_setCell_at hb 1 tv'
  have keep : ∀ g, g ≠ sb → (wr.setCell ⟨sb, 1, none⟩ tv').heap[g]? = wr.heap[g]? := fun g hgs => heap_setCell_ne _ _ _ hgs
  have h3r : RowAt wr 3 1 tv st.trail.length (st.trail.map fun (x : Nat) => Value.int .i64 (x : Int)) := h3.keep ht
  refine StoreAt.write hsb h7 h8 (f.setCell (.inl hsb) _) hb2 (xs' := xs') ?_ ?_ ?_ (PStore.undo_ok h5 m) ?_
  · have hr' := hr.keep (w' := wr.setCell ⟨sb, 1, none⟩ tv') (fun g hgo => keep g (fun e => by subst e; exact hr.ne hb (by decide) hgo.symm))
    show RowAt _ _ _ _ (PStore.unset st.cells (st.trail.drop m)).length _
    rw [PStore.unset_length]; exact hr'
  · have h3w := h3r.keep (w' := wr.setCell ⟨sb, 1, none⟩ tv') (fun g hgo => keep g (fun e => by subst e; exact h3r.ne hb (by decide) hgo.symm))
    have htl : (st.trail.take m).length = m := by rw [List.length_take]; omega
    show RowAt _ _ _ _ (st.trail.take m).length ((st.trail.take m).map _)
    rw [htl]
    obtain ⟨hl, A, cap, rfl, k1, k2, k3⟩ := h3w
    rcases htv with ⟨e1, rfl⟩ | ⟨g, l, c, e1, rfl⟩
    · simp only [Value.slice.injEq] at e1
      obtain ⟨rfl, e2, rfl⟩ := e1
      have : st.trail.length = 0 := by rcases k3 with ⟨_, h, _⟩ | ⟨_, _, h, _⟩; exact h; cases h
      have hm0 : m = 0 := by omega
      subst hm0
      exact ⟨by simp, none, 0, rfl, Nat.le_refl _, by omega, .inl ⟨rfl, rfl, rfl⟩⟩
    · simp only [Value.slice.injEq] at e1
      obtain ⟨rfl, rfl, rfl⟩ := e1
      rcases k3 with ⟨h, _⟩ | ⟨g', cur, h, hh, hcs, htk⟩
      · cases h
      · simp only [Option.some.injEq, Addr.mk.injEq, and_true] at h
        subst h
        refine ⟨by simp only [List.length_map, List.length_take]; omega, _, m, rfl, Nat.le_refl _, by omega, .inr ⟨g, cur, rfl, hh, by omega, ?_⟩⟩
        rw [List.map_take, ← htk, List.take_take]
        congr 1; omega
  · intro F' hf hn
    show CellsV F' _ (PStore.unset st.cells (st.trail.drop m)) xs'
    exact hc.same (fun t v h => (h.away (F' := F') (by rw [hsz]; exact hn)).frm (G := [sb]) ((Frm.refl [sb] wr).setCell (.inl (by simp)) _) (fun b hb => by rw [List.mem_singleton.1 hb]; exact hf sb (h7 sb hsb)))
  · rintro b (hb' | hb')
    · exact .inl (by rw [h6]; simp [hb'])
    · refine .inl ?_
      rw [h6]
      rcases htv with ⟨_, rfl⟩ | ⟨g, l, c, rfl, rfl⟩
      · cases hb'
      · cases hb'; simp [Value.ownBlock]

set_option maxRecDepth 100000 in
theorem store_undo (G F : List Nat) (sb : Nat) (st : PStore) (m : Nat) (w : World) (hs : StoreAt G F w sb st) (hm : m ≤ st.trail.length) :
    Calls Try.prog 50 #[.pointer (some ⟨sb, 0, none⟩), .int .i64 m] w fun e w' => (∃ v, e = .returned v) ∧ StoreTo G F w w' sb (st.undo m) := by
  obtain ⟨cv, tv, xs, h1, h2, h3, h4, h5, h6, h7, h8⟩ := hs
  have h2' := h2
  have h3' := h3
  obtain ⟨hxl, A2, cap2, rfl, hcap1, hcap2, hrow⟩ := h2
  obtain ⟨htl, A3, cap3, rfl, hcap3, hcap4, hrow3⟩ := h3
  obtain ⟨s0, s1, s2, hlt⟩ := blk2 h1
  have hmax : max (m : Int) 0 = m := by omega
  have hmin : min (m : Int) (st.trail.length : Int) = m := by omega
  have T0 := Lib.hid (@undo_to G F w w sb m st _ _ (.slice A3 m m) xs h1 h3' h5 h6 h7 h8 hm (Frm.refl _ _) rfl h1 h2')
  by_cases hml : m = st.trail.length
  · have hdrop : st.trail.drop m = [] := List.drop_eq_nil_of_le (by omega)
    rw [hdrop] at T0
    rcases hrow3 with ⟨rfl, ht0, rfl⟩ | ⟨tg, tcur, rfl, thg, thc, tht⟩
    · have hm0 : m = 0 := by omega
      subst hm0
      have T1 := Lib.hid (T0.out h4 (fun g hg => by cases hg) (.inl ⟨by rw [← hml], rfl⟩))
      clear T0 hml
      go_enter Try.func50, Try.ntmps50
      go_wp2
      go_loopw [23] (fun p wr => p = .int .i64 0 ∧ wr = w) (fun _ _ => 0)
      case atStart => exact ⟨rfl, rfl⟩
      case round =>
        obtain ⟨rfl, rfl⟩ := hrel
        go_wp2
        go_end0
        exact ⟨⟨_, rfl⟩, T1.out⟩
    · have T1 := Lib.hid (T0.out h4 (fun g hg => rfl) (.inr ⟨tg, _, _, rfl, rfl⟩))
      have hlm : st.trail.length - m = 0 := by omega
      clear T0 hml
      go_enter Try.func50, Try.ntmps50
      go_wp2
      all_goals
        go_loopw [23] (fun p wr => p = .int .i64 0 ∧ wr = w) (fun _ _ => 0)
        case atStart => exact ⟨rfl, rfl⟩
        case round =>
          obtain ⟨rfl, rfl⟩ := hrel
          go_wp2
          go_end0
          exact ⟨⟨_, rfl⟩, T1.out⟩
  · have hlt3 : m < st.trail.length := by omega
    rcases hrow3 with ⟨rfl, ht0, rfl⟩ | ⟨tg, tcur, rfl, thg, thc, tht⟩
    · omega
    clear T0
    have T2 := Lib.hid (fun wr xs' => @undo_to G F w wr sb m st _ _ (.slice (some ⟨tg, 0, none⟩) m m) xs' h1 h3' h5 h6 h7 h8 hm)
    have hcm : ¬ cap3 = m := by omega
    have hcm2 : ¬ (cap3 - m = 0) := by omega
    go_enter Try.func50, Try.ntmps50
    go_wp2
    have hrow0 : RowAt w 71 5 (.slice A2 st.cells.length cap2) st.cells.length xs := h2'
    go_loopw [23] (fun p wr => ∃ (j : Nat) (xsj : List Value), j ≤ st.trail.length - m ∧ p = .int .i64 j ∧ RowAt wr 71 5 (.slice A2 st.cells.length cap2) st.cells.length xsj ∧ CellsV F wr (PStore.unset st.cells ((st.trail.drop m).take j)) xsj ∧ Frm (Option.toList (Value.ownBlock (.slice A2 st.cells.length cap2))) w wr ∧ wr.heap.size = w.heap.size)
      (fun p _ => st.trail.length - m - (intOf p).toNat)
    case atStart => exact ⟨0, xs, Nat.zero_le _, rfl, h2', h4, Frm.refl _ _, rfl⟩
    case round =>
      obtain ⟨j, xsj, hj, rfl, hRj, hCj, hFj, hszj⟩ := hrel
      have hsbn : sb ∉ Option.toList (Value.ownBlock (.slice A2 st.cells.length cap2)) := by
        rw [Option.mem_toList]; exact fun h => h2'.ne h1 (by decide) h.symm
      have htgn : tg ∉ Option.toList (Value.ownBlock (.slice A2 st.cells.length cap2)) := by
        rw [Option.mem_toList]; exact fun h => h2'.ne thg (by decide) h.symm
      have hbj := hFj.at_ h1 hsbn
      have htj := hFj.at_ thg htgn
      obtain ⟨q0, q1, q2, q3⟩ := blk2 hbj
      by_cases hjl : j < st.trail.length - m
      · have hmj : m + j < st.trail.length := by omega
        obtain ⟨v, hv⟩ : ∃ v, st.trail[m + j]? = some v := ⟨_, List.getElem?_eq_getElem hmj⟩
        obtain ⟨t, ht⟩ := (h5.bound v).1 (List.mem_of_getElem? hv)
        have hvl := (List.getElem?_eq_some_iff.1 ht).1
        have hvi : (v : Int) < (st.cells.length : Int) := by omega
        obtain ⟨g, cap', cur, hcv, hgo, hgl, hgh, hgf, hgc, hgs⟩ := hRj.own (by omega)
        simp only [Value.slice.injEq, true_and] at hcv
        obtain ⟨rfl, rfl⟩ := hcv
        have htv : wr.cell? ⟨tg, m + j, none⟩ = some (.int .i64 v) := by
          rw [show wr.cell? ⟨tg, m + j, none⟩ = tcur[m + j]? by simp [World.cell?, htj]]
          have h9 : (st.trail.map fun (x : Nat) => Value.int .i64 (x : Int))[m + j]? = some (.int .i64 v) := by rw [List.getElem?_map, hv]; rfl
          rw [← tht, List.getElem?_take_of_lt (by omega)] at h9
          simpa using h9
        have hcells : ∀ c, c < 5 → ∃ u, wr.cell? ⟨g, v * 5 + c, none⟩ = some u := fun c hc => by
          have hlx := hRj.1
          exact ⟨_, hgc (v * 5 + c) _ (List.getElem?_eq_getElem (by omega))⟩
        obtain ⟨u0, k0⟩ := hcells 0 (by omega)
        obtain ⟨u1, k1⟩ := hcells 1 (by omega)
        obtain ⟨u2, k2⟩ := hcells 2 (by omega)
        obtain ⟨u3', k3⟩ := hcells 3 (by omega)
        obtain ⟨u4, k4⟩ := hcells 4 (by omega)
        rw [Nat.add_zero] at k0
        have hjl' : ((j : Int) < ((st.trail.length - m : Nat) : Int)) := by omega
        go_wp2
        have hgF : g ∈ F := h7 g (by rw [h6]; simp [Value.ownBlock])
        have hset : Frm [g] wr (((((wr.setCell ⟨g, v * 5, none⟩ (.bool false)).setCell ⟨g, v * 5 + 1, none⟩ (.int .i64 0)).setCell ⟨g, v * 5 + 2, none⟩ (.int .i64 0)).setCell ⟨g, v * 5 + 3, none⟩ (.string ⟨#[]⟩)).setCell ⟨g, v * 5 + 4, none⟩ (.slice none 0 0)) :=
          (((((Frm.refl [g] wr).setCell (.inl (by simp)) _).setCell (.inl (by simp)) _).setCell (.inl (by simp)) _).setCell (.inl (by simp)) _).setCell (.inl (by simp)) _
        refine ⟨⟨j + 1, _, by omega, by simp, ((((hRj.set rfl _ _).set rfl _ _).set rfl _ _).set rfl _ _).set rfl _ _, ?_, ?_, by simp [World.setCell, hszj]⟩, by simp [intOf]; omega⟩
        · have hdj : (st.trail.drop m)[j]? = some v := by rw [List.getElem?_drop]; exact hv
          rw [List.take_add_one, hdj]
          simp only [Option.toList_some]
          rw [PStore.unset_snoc]
          exact unset_cells hCj (by rw [PStore.unset_length]; exact hRj.1) (fun t' v' h => h.frm hset (by simpa using hgF)) v
        · exact hFj.trans hset (fun x hx => .inl (by simpa [Value.ownBlock] using hx))
      · have hje : j = st.trail.length - m := by omega
        have T3 := Lib.hid (T2.out wr xsj)
        go_wp2
        go_end0
        refine ⟨⟨_, rfl⟩, ?_⟩
        have hfj : Frm G w wr := hFj.mono (fun x hx => by rw [h6]; simp only [List.mem_cons, List.mem_append]; exact .inr (.inl hx))
        exact T3.out hfj hszj hbj hRj (by rw [hje, List.take_of_length_le (by rw [List.length_drop]; omega)] at hCj; exact hCj) (fun g hg => by cases hg; exact htj.trans thg.symm) (.inr ⟨tg, _, _, rfl, rfl⟩)
end Go.Proofs.Ytkiofaojokofbaa
namespace Go.Proofs.Ytkiofaojokofbaa
open Go.RowKit

namespace PStore
/-- Along bound variables: what is come to, or nothing where a variable was seen already; what has been seen. -/
def runF (s : PStore) : Nat → List Int → Term → Option Term × List Int
  | 0, seen, t => (some t, seen)
  | k + 1, seen, t => match s.next t with
    | none => (some t, seen)
    | some u => if t.n ∈ seen then (none, seen) else runF s k (seen ++ [t.n]) u
def run (s : PStore) (seen : List Int) (t : Term) : Option Term × List Int := s.runF s.cells.length seen t
theorem runF_stop {s : PStore} {t : Term} (h : s.next t = none) (k : Nat) (seen : List Int) : s.runF k seen t = (some t, seen) := by
  cases k <;> simp [runF, h]
theorem runF_more {s : PStore} : ∀ (k j : Nat) (seen : List Int) (t : Term), s.next (s.walkN k t) = none → k ≤ j → s.runF j seen t = s.runF k seen t
  | 0, j, seen, t, h, _ => by
    have h' : s.next t = none := h
    rw [runF_stop h', runF_stop h']
  | k + 1, 0, seen, t, h, hj => by omega
  | k + 1, j + 1, seen, t, h, hj => by
    cases hn : s.next t with
    | none => rw [runF_stop hn, runF_stop hn]
    | some u =>
      rw [walkN_some hn] at h
      simp only [runF, hn]
      split
      · rfl
      · exact runF_more k j _ u h (by omega)
theorem run_eq {s : PStore} (hs : s.WF) {k : Nat} {t : Term} (seen : List Int) (h : s.next (s.walkN k t) = none) : s.run seen t = s.runF k seen t := by
  have h1 : s.next (s.walkN s.cells.length t) = none := walk_ends (hs t)
  unfold run
  rcases Nat.le_total k s.cells.length with hle | hle
  · exact runF_more _ _ _ _ h hle
  · exact (runF_more _ _ _ _ h1 hle).symm

def anyS (f : List Int → Term → Option (Bool × List Int)) : List Int → List Term → Option (Bool × List Int)
  | seen, [] => some (false, seen)
  | seen, t :: ts => match f seen t with
    | none => none
    | some (true, s1) => some (true, s1)
    | some (false, s1) => anyS f s1 ts
def inF (s : PStore) (v : Int) : Nat → List Int → Term → Option (Bool × List Int)
  | 0, _, _ => none
  | d + 1, seen, t => match s.run seen t with
    | (none, s1) => some (false, s1)
    | (some u, s1) => if u.kind = 1 then some (decide (u.n = v), s1) else if u.kind = 4 then some (false, s1) else anyS (inF s v d) s1 u.kids

theorem anyS_mono {f g : List Int → Term → Option (Bool × List Int)} : ∀ (ts : List Term), (∀ t, t ∈ ts → ∀ seen r, f seen t = some r → g seen t = some r) → ∀ seen r, anyS f seen ts = some r → anyS g seen ts = some r
  | [], _, seen, r, h => h
  | t :: ts, hfg, seen, r, h => by
    unfold anyS at h ⊢
    cases hf : f seen t with
    | none => rw [hf] at h; cases h
    | some x =>
      rw [hf] at h
      rw [hfg t (by simp) seen x hf]
      obtain ⟨b, s1⟩ := x
      cases b with
      | true => exact h
      | false => exact anyS_mono ts (fun t ht => hfg t (by simp [ht])) s1 r h
theorem inF_succ {s : PStore} {v : Int} : ∀ (d : Nat) (seen : List Int) (t : Term) (r : Bool × List Int), s.inF v d seen t = some r → s.inF v (d + 1) seen t = some r
  | 0, seen, t, r, h => by cases h
  | d + 1, seen, t, r, h => by
    rw [inF] at h ⊢
    cases hr : s.run seen t with
    | mk o s1 =>
      rw [hr] at h
      cases o with
      | none => exact h
      | some u =>
        dsimp only at h ⊢
        split
        · rename_i h1; rw [if_pos h1] at h; exact h
        · rename_i h1
          rw [if_neg h1] at h
          split
          · rename_i h4; rw [if_pos h4] at h; exact h
          · rename_i h4
            rw [if_neg h4] at h
            exact anyS_mono u.kids (fun t _ seen r => inF_succ d seen t r) s1 r h
theorem inF_le {s : PStore} {v : Int} {d e : Nat} (h : d ≤ e) {seen : List Int} {t : Term} {r : Bool × List Int} (hr : s.inF v d seen t = some r) : s.inF v e seen t = some r := by
  induction h with
  | refl => exact hr
  | step _ ih => exact inF_succ _ _ _ _ ih

/-- How many variables have not been seen. -/
def unseen (s : PStore) (seen : List Int) : Nat := ((List.range s.cells.length).filter fun x : Nat => decide ((x : Int) ∉ seen)).length
theorem unseen_le {s : PStore} {a b : List Int} (h : ∀ x, x ∈ a → x ∈ b) : s.unseen b ≤ s.unseen a := by
  unfold unseen
  have hsub : ((List.range s.cells.length).filter fun x : Nat => decide ((x : Int) ∉ b)) = ((List.range s.cells.length).filter fun x : Nat => decide ((x : Int) ∉ a)).filter fun x : Nat => decide ((x : Int) ∉ b) := by
    rw [List.filter_filter]
    congr 1
    funext x
    by_cases hx : (x : Int) ∈ a
    · simp [hx, h _ hx]
    · simp [hx]
  rw [hsub]
  exact List.length_filter_le _ _
theorem unseen_lt {s : PStore} {a b : List Int} (h : ∀ x, x ∈ a → x ∈ b) {n : Nat} (hn : n < s.cells.length) (ha : (n : Int) ∉ a) (hb : (n : Int) ∈ b) : s.unseen b < s.unseen a := by
  unfold unseen
  have hsub : ((List.range s.cells.length).filter fun x : Nat => decide ((x : Int) ∉ b)) = ((List.range s.cells.length).filter fun x : Nat => decide ((x : Int) ∉ a)).filter fun x : Nat => decide ((x : Int) ∉ b) := by
    rw [List.filter_filter]
    congr 1
    funext x
    by_cases hx : (x : Int) ∈ a
    · simp [hx, h _ hx]
    · simp [hx]
  rw [hsub]
  refine List.length_filter_lt_length_iff_exists.2 ⟨n, ?_, by simpa using hb⟩
  simp [hn, ha]
theorem runF_seen {s : PStore} : ∀ (k : Nat) (seen : List Int) (t : Term), (∀ x, x ∈ seen → x ∈ (s.runF k seen t).2) ∧ ((s.runF k seen t = (some t, seen)) ∨ (s.runF k seen t = (none, seen)) ∨ s.unseen (s.runF k seen t).2 < s.unseen seen)
  | 0, seen, t => ⟨fun _ h => h, .inl rfl⟩
  | k + 1, seen, t => by
    cases hn : s.next t with
    | none => rw [runF_stop hn]; exact ⟨fun _ h => h, .inl rfl⟩
    | some u =>
      simp only [runF, hn]
      split
      · exact ⟨fun _ h => h, .inr (.inl rfl)⟩
      · rename_i hns
        obtain ⟨h1, h2⟩ := runF_seen k (seen ++ [t.n]) u
        obtain ⟨_, h0, hlt, _⟩ := next_lt hn
        have hnat : ((t.n.toNat : Nat) : Int) = t.n := Int.toNat_of_nonneg h0
        refine ⟨fun x hx => h1 x (by simp [hx]), .inr (.inr ?_)⟩
        exact unseen_lt (fun x hx => h1 x (by simp [hx])) hlt (by rw [hnat]; exact hns) (by rw [hnat]; exact h1 _ (by simp))
theorem inF_seen {s : PStore} {v : Int} : ∀ (d : Nat) (seen : List Int) (t : Term) (r : Bool × List Int), s.inF v d seen t = some r → ∀ x, x ∈ seen → x ∈ r.2
  | 0, seen, t, r, h => by cases h
  | d + 1, seen, t, r, h => by
    rw [inF] at h
    have hs := (runF_seen (s := s) s.cells.length seen t).1
    change ∀ x, x ∈ seen → x ∈ (s.run seen t).2 at hs
    cases hr : s.run seen t with
    | mk o s1 =>
      rw [hr] at h hs
      cases o with
      | none => cases h; exact hs
      | some u =>
        dsimp only at h
        split at h
        · cases h; exact hs
        split at h
        · cases h; exact hs
        have : ∀ (ts : List Term) (sn : List Int) (r : Bool × List Int), anyS (inF s v d) sn ts = some r → ∀ x, x ∈ sn → x ∈ r.2 := by
          intro ts
          induction ts with
          | nil => intro sn r h; cases h; exact fun _ h => h
          | cons t ts ih =>
            intro sn r h x hx
            unfold anyS at h
            cases hf : inF s v d sn t with
            | none => rw [hf] at h; cases h
            | some y =>
              rw [hf] at h
              obtain ⟨b, s2⟩ := y
              have hm := inF_seen d sn t _ hf x hx
              cases b with
              | true => cases h; exact hm
              | false => exact ih s2 r h x hm
        exact fun x hx => this u.kids s1 r h x (hs x hx)
theorem anyS_some {s : PStore} {v : Int} {U : Nat} : ∀ (ts : List Term) (seen : List Int), s.unseen seen ≤ U → (∀ t, t ∈ ts → ∀ seen, s.unseen seen ≤ U → ∃ d r, s.inF v d seen t = some r) → ∃ d r, anyS (inF s v d) seen ts = some r
  | [], seen, _, _ => ⟨0, _, rfl⟩
  | t :: ts, seen, hU, h => by
    obtain ⟨d1, ⟨b, s1⟩, h1⟩ := h t (by simp) seen hU
    cases b with
    | true => exact ⟨d1, (true, s1), by unfold anyS; rw [h1]⟩
    | false =>
      have hm := unseen_le (s := s) (inF_seen d1 seen t _ h1)
      obtain ⟨d2, r, h2⟩ := anyS_some ts s1 (Nat.le_trans hm hU) (fun t ht => h t (by simp [ht]))
      refine ⟨max d1 d2, r, ?_⟩
      unfold anyS
      rw [inF_le (Nat.le_max_left d1 d2) h1]
      exact anyS_mono ts (fun t _ seen r hr => inF_le (Nat.le_max_right d1 d2) hr) s1 r h2
theorem inF_some (s : PStore) (v : Int) : ∀ (U : Nat) (t : Term) (seen : List Int), s.unseen seen ≤ U → ∃ d r, s.inF v d seen t = some r := by
  intro U
  induction U using Nat.strongRecOn with
  | _ U ihU =>
    intro t
    induction t using Term.induct with
    | h k n b ts ih =>
      intro seen hU
      have hs := (runF_seen (s := s) s.cells.length seen (.mk k n b ts)).2
      change (s.run seen (.mk k n b ts) = _) ∨ (s.run seen (.mk k n b ts) = _) ∨ s.unseen (s.run seen (.mk k n b ts)).2 < _ at hs
      cases hr : s.run seen (.mk k n b ts) with
      | mk o s1 =>
        rw [hr] at hs
        cases o with
        | none => exact ⟨1, (false, s1), by rw [inF, hr]⟩
        | some u =>
          by_cases h1 : u.kind = 1
          · exact ⟨1, (decide (u.n = v), s1), by rw [inF, hr]; dsimp only; rw [if_pos h1]⟩
          by_cases h4 : u.kind = 4
          · exact ⟨1, (false, s1), by rw [inF, hr]; dsimp only; rw [if_neg h1, if_pos h4]⟩
          have : ∃ d r, anyS (inF s v d) s1 u.kids = some r := by
            rcases hs with hs | hs | hs
            · simp only [Prod.mk.injEq, Option.some.injEq] at hs
              obtain ⟨rfl, rfl⟩ := hs
              exact anyS_some ts s1 hU (fun t ht seen hs => ih t ht seen hs)
            · cases hs
            · exact anyS_some u.kids s1 (Nat.le_refl _) (fun t _ seen' hs' => ihU (s.unseen s1) (by dsimp only at hs; omega) t seen' hs')
          obtain ⟨d, r, hd⟩ := this
          exact ⟨d + 1, r, by rw [inF, hr]; dsimp only; rw [if_neg h1, if_neg h4]; exact hd⟩

/-- What isn't in a term is not what the term comes to. -/
theorem run_walk {s : PStore} : ∀ (k : Nat) (t : Term) (seen : List Int), s.next (s.walkN k t) = none → (s.passed k t).Nodup → (∀ x, x ∈ s.passed k t → (x : Int) ∉ seen) → (s.runF k seen t).1 = some (s.walkN k t)
  | 0, t, seen, h, _, _ => rfl
  | k + 1, t, seen, h, hn, hd => by
    cases hx : s.next t with
    | none => rw [runF_stop hx, walkN_none hx]
    | some u =>
      obtain ⟨_, h0, _, _⟩ := next_lt hx
      have hnat : ((t.n.toNat : Nat) : Int) = t.n := Int.toNat_of_nonneg h0
      rw [walkN_some hx] at h ⊢
      simp only [passed, hx, List.nodup_cons, List.mem_cons] at hn hd
      simp only [runF, hx]
      rw [if_neg (by rw [← hnat]; exact hd _ (.inl rfl))]
      refine run_walk k u _ h hn.2 (fun x hxp => ?_)
      simp only [List.mem_append, List.mem_singleton, not_or]
      refine ⟨hd x (.inr hxp), fun e => hn.1 ?_⟩
      rw [← hnat] at e
      have : x = t.n.toNat := by omega
      rw [← this]; exact hxp
theorem run_nil {s : PStore} (hs : s.WF) (t : Term) : (s.run [] t).1 = some (s.walk t) := by
  obtain ⟨k, hk, hl⟩ := least (hs t)
  obtain ⟨h1, _⟩ := passed_fix s k t hk hl
  rw [run_eq hs [] hk, walk_eq hk]
  exact run_walk k t [] hk h1 (fun x _ h => by cases h)
theorem inF_walk {s : PStore} (hs : s.WF) {v : Int} {d : Nat} {t : Term} {sn : List Int} (h : s.inF v d [] t = some (false, sn)) : ¬ ((s.walk t).kind = 1 ∧ (s.walk t).n = v) := by
  rintro ⟨h1, h2⟩
  cases d with
  | zero => cases h
  | succ d =>
    rw [inF] at h
    have hr := run_nil hs t
    cases hx : s.run [] t with
    | mk o s1 =>
      rw [hx] at h hr
      dsimp only at hr
      subst hr
      dsimp only at h
      rw [if_pos h1, h2] at h
      simp at h
end PStore
end Go.Proofs.Ytkiofaojokofbaa
namespace Go.Proofs.Ytkiofaojokofbaa
open Go.RowKit Go.Maps

def MapAt (P : Program) (k : TypeId) (w : World) (b : Nat) (l : List (Value × Value)) : Prop :=
  ∃ es c, w.heap[b]? = some (.map es c) ∧ es.toList.map (fun e : MapEntry => (e.key, e.val)) = l ∧ ∀ x ∈ l, ∃ lit, keyOf P k x.1 = some lit

section
variable {P : Program} {k : TypeId} {w : World} {b : Nat} {l : List (Value × Value)}
theorem MapAt.lt (h : MapAt P k w b l) : b < w.heap.size := by
  obtain ⟨es, c, h1, _⟩ := h; exact (Array.getElem?_eq_some_iff.1 h1).1
theorem MapAt.same {w' : World} (h : MapAt P k w b l) (hb : w'.heap[b]? = w.heap[b]?) : MapAt P k w' b l := by
  obtain ⟨es, c, h1, h2⟩ := h; exact ⟨es, c, hb.trans h1, h2⟩
theorem MapAt.keep {w' : World} (h : MapAt P k w b l) (f : Frm [] w w') : MapAt P k w' b l := h.same (f.block b h.lt (by simp))
theorem MapAt.frm {F : List Nat} {w' : World} (h : MapAt P k w b l) (f : Frm F w w') (hb : b ∉ F) : MapAt P k w' b l := h.same (f.block b h.lt hb)
theorem MapAt.made (P : Program) (k : TypeId) (w : World) : MapAt P k (w.alloc (.map #[] 0)) w.heap.size [] :=
  ⟨#[], 0, alloc_heap_new _ _, rfl, fun _ h => by cases h⟩

theorem MapAt.find (h : MapAt P k w b l) (K : Keyed P k) {key : Value} {lit : Lit} (hkey : keyOf P k key = some lit) :
    ∃ es c, w.heap[b]? = some (.map es c) ∧ es.toList.map (fun e : MapEntry => (e.key, e.val)) = l ∧
      (((Instr.findKey k key es.toList).run P w = .ok none w ∧ ∀ x ∈ l, x.1 ≠ key) ∨ ∃ j v, (Instr.findKey k key es.toList).run P w = .ok (some (j, v)) w ∧ (key, v) ∈ l) := by
  obtain ⟨es, c, h1, rfl, h3⟩ := h
  refine ⟨es, c, h1, rfl, ?_⟩
  rcases K.find w hkey es.toList (fun e he => h3 _ (List.mem_map.2 ⟨e, he, rfl⟩)) with ⟨g1, g2⟩ | ⟨j, e, g1, g2, g3⟩
  · refine .inl ⟨g1, fun x hx => ?_⟩
    obtain ⟨e, he, rfl⟩ := List.mem_map.1 hx
    exact g2 e he
  · exact .inr ⟨j, e.val, g1, List.mem_map.2 ⟨e, List.mem_of_getElem? g2, by rw [← g3]⟩⟩

theorem MapAt.look (h : MapAt P k w b l) (K : Keyed P k) {t e : TypeId} (ht : P.underlying t = some (.map k e)) {z : Value} (hz : ∀ w', (zeroValue e).run P w' = .ok z w') {key : Value} {lit : Lit} (hkey : keyOf P k key = some lit) :
    (∃ v, (key, v) ∈ l ∧ (Instr.lookup t (.map (some b)) key true).run P w = .ok (.tuple #[v, .bool true]) w ∧ (Instr.lookup t (.map (some b)) key false).run P w = .ok v w) ∨
      ((∀ x ∈ l, x.1 ≠ key) ∧ (Instr.lookup t (.map (some b)) key true).run P w = .ok (.tuple #[z, .bool false]) w ∧ (Instr.lookup t (.map (some b)) key false).run P w = .ok z w) := by
  obtain ⟨es, c, h1, h2, h3⟩ := h.find K hkey
  rcases h3 with ⟨g1, g2⟩ | ⟨j, v, g1, g2⟩
  · refine .inr ⟨g2, ?_, ?_⟩ <;> simp [Instr.lookup, run_underlying ht, MapKept.run_getObj_map h1, K.check w _ hkey, g1, hz, Result.andThen]
  · refine .inl ⟨v, g2, ?_, ?_⟩ <;> simp [Instr.lookup, run_underlying ht, MapKept.run_getObj_map h1, K.check w _ hkey, g1, Result.andThen]

theorem MapAt.put (h : MapAt P k w b l) (K : Keyed P k) {t e : TypeId} (ht : P.underlying t = some (.map k e)) {key val : Value} {lit : Lit} (hkey : keyOf P k key = some lit) (hnew : ∀ x ∈ l, x.1 ≠ key) :
    ∃ w', (Instr.mapUpdate t (.map (some b)) key val).run P w = .ok () w' ∧ MapAt P k w' b (l ++ [(key, val)]) ∧ Frm [b] w w' ∧ w'.heap.size = w.heap.size := by
  obtain ⟨es, c, h1, h2, h3⟩ := h.find K hkey
  have hk := h
  obtain ⟨_, _, _, _, hkeys⟩ := hk
  rcases h3 with ⟨g1, g2⟩ | ⟨j, v, g1, g2⟩
  · refine ⟨{ w with heap := w.heap.setIfInBounds b (.map (es.push ⟨key, val, c⟩) (c + 1)) }, ?_, ⟨es.push ⟨key, val, c⟩, c + 1, ?_, ?_, ?_⟩, ⟨rfl, rfl, rfl, by simp, fun i hi hn => ?_⟩, by simp⟩
    · simp [Instr.mapUpdate, run_underlying ht, MapKept.run_getObj_map h1, K.check w false hkey, g1, MapKept.run_setObj_map _ h1, Result.andThen]
    · have hb := (Array.getElem?_eq_some_iff.1 h1).1
      simp [hb]
    · simp [h2]
    · intro x hx
      rcases List.mem_append.1 hx with hx | hx
      · exact hkeys x hx
      · rw [List.mem_singleton.1 hx]; exact ⟨lit, hkey⟩
    · show (w.heap.setIfInBounds b _)[i]? = w.heap[i]?
      rw [Array.getElem?_setIfInBounds_ne (by simpa using (Ne.symm (by simpa using hn)))]
  · exact absurd rfl (hnew _ g2)
end
end Go.Proofs.Ytkiofaojokofbaa
