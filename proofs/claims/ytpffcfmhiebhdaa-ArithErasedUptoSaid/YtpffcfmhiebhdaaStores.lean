/- Stores as data: what a variable is bound to, and what a term is walked to. -/
import Derived.Test.YtpffcfmhiebhdaaTerms
namespace Go.Proofs.Ytpffcfmhiebhdaa
open Go.RowKit

structure PStore where
  cells : List (Option Term)
  trail : List Nat
deriving Inhabited

namespace PStore
def empty : PStore := ⟨[], []⟩
/-- What the variable of that number is bound to. -/
def get (s : PStore) (n : Int) : Option Term := if 0 ≤ n then (s.cells[n.toNat]?).join else none
/-- What a term stands for, one step on. -/
def next (s : PStore) (t : Term) : Option Term := if t.kind = 1 then s.get t.n else none
def walkN (s : PStore) : Nat → Term → Term
  | 0, t => t
  | k + 1, t => match s.next t with
    | some u => walkN s k u
    | none => t
def walk (s : PStore) (t : Term) : Term := s.walkN s.cells.length t
def Ends (s : PStore) (t : Term) : Prop := ∃ k, s.next (s.walkN k t) = none
def WF (s : PStore) : Prop := ∀ t, s.Ends t

theorem walkN_none {s : PStore} {t : Term} (h : s.next t = none) (k : Nat) : s.walkN k t = t := by
  cases k <;> simp [walkN, h]
theorem walkN_some {s : PStore} {t u : Term} (h : s.next t = some u) (k : Nat) : s.walkN (k + 1) t = s.walkN k u := by
  simp [walkN, h]
theorem walkN_add (s : PStore) : ∀ a b t, s.walkN (a + b) t = s.walkN b (s.walkN a t)
  | 0, b, t => by simp [walkN]
  | a + 1, b, t => by
    cases h : s.next t with
    | none => rw [walkN_none h, walkN_none h, walkN_none h]
    | some u => rw [show a + 1 + b = (a + b) + 1 by omega, walkN_some h, walkN_some h, walkN_add s a b u]

/-- Numbers that are all below n, each once, are at most n. -/
theorem nodup_le : ∀ (n : Nat) (l : List Nat), l.Nodup → (∀ x, x ∈ l → x < n) → l.length ≤ n
  | 0, l, _, h => by
    cases l with
    | nil => simp
    | cons x xs => exact absurd (h x (by simp)) (by omega)
  | n + 1, l, hn, h => by
    have h1 : (l.erase n).length ≤ n := nodup_le n (l.erase n) (hn.erase n) (fun x hx => by
      have h2 := h x (List.mem_of_mem_erase hx)
      have h3 : x ≠ n := fun e => by subst e; exact (List.Nodup.not_mem_erase hn) hx
      omega)
    have h2 := List.length_erase_add_one_le_or n l
    omega
where
  List.length_erase_add_one_le_or (n : Nat) (l : List Nat) : l.length ≤ (l.erase n).length + 1 := by
    rw [List.length_erase]; split <;> omega

/-- The variables that are passed on the way. -/
def passed (s : PStore) : Nat → Term → List Nat
  | 0, _ => []
  | k + 1, t => match s.next t with
    | some u => t.n.toNat :: passed s k u
    | none => []
theorem next_lt {s : PStore} {t u : Term} (h : s.next t = some u) : t.kind = 1 ∧ 0 ≤ t.n ∧ t.n.toNat < s.cells.length ∧ s.cells[t.n.toNat]? = some (some u) := by
  unfold next at h
  split at h
  · rename_i hk
    unfold get at h
    split at h
    · rename_i h0
      cases hc : s.cells[t.n.toNat]? with
      | none => simp [hc] at h
      | some o =>
        rw [hc] at h
        simp only [Option.join] at h
        cases o with
        | none => simp at h
        | some x =>
          simp at h; subst h
          exact ⟨hk, h0, (List.getElem?_eq_some_iff.1 hc).1, rfl⟩
    · cases h
  · cases h
theorem passed_lt (s : PStore) : ∀ k t x, x ∈ s.passed k t → x < s.cells.length
  | 0, t, x, h => by simp [passed] at h
  | k + 1, t, x, h => by
    unfold passed at h
    cases hn : s.next t with
    | none => simp [hn] at h
    | some u =>
      rw [hn] at h
      rcases List.mem_cons.1 h with rfl | h
      · exact (next_lt hn).2.2.1
      · exact passed_lt s k u x h
/-- Two terms that pass the same variable go on alike. -/
theorem next_same {s : PStore} {t t' u u' : Term} (h : s.next t = some u) (h' : s.next t' = some u') (e : t.n.toNat = t'.n.toNat) : u = u' := by
  have h1 := (next_lt h).2.2.2
  have h2 := (next_lt h').2.2.2
  rw [e, h2] at h1
  simpa using h1.symm
/-- How many steps a term is from its end: the least number. -/
theorem passed_fix (s : PStore) : ∀ k t, s.next (s.walkN k t) = none → (∀ j, j < k → s.next (s.walkN j t) ≠ none) → (s.passed k t).Nodup ∧ (s.passed k t).length = k
  | 0, t, _, _ => by simp [passed]
  | k + 1, t, h, hl => by
    cases hn : s.next t with
    | none => exact absurd hn (hl 0 (by omega))
    | some u =>
      rw [walkN_some hn] at h
      have hl' : ∀ j, j < k → s.next (s.walkN j u) ≠ none := fun j hj => by
        have := hl (j + 1) (by omega)
        rwa [walkN_some hn] at this
      obtain ⟨h1, h2⟩ := passed_fix s k u h hl'
      have hnot : t.n.toNat ∉ s.passed k u := by
        intro hm
        obtain ⟨j, hj, y, z, hy, hz, he⟩ := mem_passed s k u _ hm
        have huz := next_same hn hz he.symm
        -- the walk from u comes back to u behind j + 1 steps: it never ends
        have hback : s.walkN (j + 1) u = u := by
          rw [walkN_add, hy, walkN_some hz]; simp [walkN, huz]
        have hloop : ∀ m, s.walkN (m * (j + 1)) u = u := by
          intro m
          induction m with
          | zero => simp [walkN]
          | succ m ih => rw [Nat.succ_mul, walkN_add, ih, hback]
        have hbig : s.next (s.walkN ((k + 1) * (j + 1)) u) = none := by
          have : (k + 1) * (j + 1) = k + ((k + 1) * (j + 1) - k) := by
            have : k ≤ (k + 1) * (j + 1) := by
              calc k ≤ k + 1 := by omega
                _ = (k + 1) * 1 := by omega
                _ ≤ (k + 1) * (j + 1) := Nat.mul_le_mul_left _ (by omega)
            omega
          rw [this, walkN_add, walkN_none h]; exact h
        rw [hloop] at hbig
        cases k with
        | zero => exact absurd hj (by omega)
        | succ k => exact hl' 0 (by omega) hbig
      constructor
      · simp only [passed, hn, List.nodup_cons]; exact ⟨hnot, h1⟩
      · simp [passed, hn, h2]
where
  mem_passed (s : PStore) : ∀ k t x, x ∈ s.passed k t → ∃ j, j < k ∧ ∃ y z, s.walkN j t = y ∧ s.next y = some z ∧ y.n.toNat = x
    | 0, t, x, h => by simp [passed] at h
    | k + 1, t, x, h => by
      unfold passed at h
      cases hn : s.next t with
      | none => simp [hn] at h
      | some u =>
        rw [hn] at h
        rcases List.mem_cons.1 h with rfl | h
        · exact ⟨0, by omega, t, u, rfl, hn, rfl⟩
        · obtain ⟨j, hj, y, z, h1, h2, h3⟩ := mem_passed s k u x h
          exact ⟨j + 1, by omega, y, z, by rw [walkN_some hn]; exact h1, h2, h3⟩

theorem least {p : Nat → Prop} (h : ∃ k, p k) : ∃ k, p k ∧ ∀ j, j < k → ¬ p j := by
  obtain ⟨k, hk⟩ := h
  induction k using Nat.strongRecOn with
  | _ k ih =>
    by_cases hm : ∃ j, j < k ∧ p j
    · obtain ⟨j, hj, hp⟩ := hm; exact ih j hj hp
    · exact ⟨k, hk, fun j hj hp => hm ⟨j, hj, hp⟩⟩

/-- Where a walk ends at all, it ends within as many steps as there are variables. -/
theorem walk_ends {s : PStore} {t : Term} (h : s.Ends t) : s.next (s.walk t) = none := by
  obtain ⟨k, hk, hl⟩ := least h
  obtain ⟨h1, h2⟩ := passed_fix s k t hk hl
  have h3 := nodup_le s.cells.length _ h1 (fun x hx => passed_lt s k t x hx)
  unfold walk
  rw [show s.cells.length = k + (s.cells.length - k) by omega, walkN_add, walkN_none hk]
  exact hk
/-- The walk's end, by whatever number of steps that comes to an end. -/
theorem walk_eq {s : PStore} {t : Term} {k : Nat} (h : s.next (s.walkN k t) = none) : s.walk t = s.walkN k t := by
  have h1 := walk_ends ⟨k, h⟩
  unfold walk at h1 ⊢
  rcases Nat.le_total k s.cells.length with hle | hle
  · rw [show s.cells.length = k + (s.cells.length - k) by omega, walkN_add, walkN_none h]
  · rw [show k = s.cells.length + (k - s.cells.length) by omega, walkN_add, walkN_none h1]
theorem walk_free {s : PStore} {t : Term} (h : s.next t = none) : s.walk t = t := walkN_none h _
theorem walk_step {s : PStore} {t u : Term} (h : s.next t = some u) (he : s.Ends u) : s.walk t = s.walk u := by
  obtain ⟨k, hk⟩ := he
  have h1 : s.next (s.walkN (k + 1) t) = none := by rw [walkN_some h]; exact hk
  rw [walk_eq h1, walkN_some h, walk_eq hk]
theorem Ends.step {s : PStore} {t u : Term} (h : s.Ends t) (hn : s.next t = some u) : s.Ends u := by
  obtain ⟨k, hk⟩ := h
  cases k with
  | zero => simp [walkN, hn] at hk
  | succ k => rw [walkN_some hn] at hk; exact ⟨k, hk⟩
theorem next_ne {st : PStore} {k n : Int} {s : ByteArray} {ts : List Term} (h : k ≠ 1) : st.next (.mk k n s ts) = none := if_neg h
theorem next_var (st : PStore) (n : Int) (s : ByteArray) (ts : List Term) : st.next (.mk 1 n s ts) = st.get n := if_pos rfl
theorem get_nat (st : PStore) (m : Nat) : st.get (m : Int) = (st.cells[m]?).join := by
  unfold get; rw [if_pos (by omega)]; rfl
theorem get_neg {st : PStore} {n : Int} (h : ¬ 0 ≤ n) : st.get n = none := if_neg h
theorem get_out {st : PStore} {m : Nat} (h : ¬ m < st.cells.length) : st.get (m : Int) = none := by
  rw [get_nat, List.getElem?_eq_none (by omega)]; rfl
theorem get_in {st : PStore} {m : Nat} {o : Option Term} (h : st.cells[m]? = some o) : st.get (m : Int) = o := by
  rw [get_nat, h]; rfl
theorem empty_wf : empty.WF := fun t => ⟨0, by simp [walkN, next, get, empty]⟩
theorem empty_walk (t : Term) : empty.walk t = t := walk_free (by simp [next, get, empty])
end PStore
end Go.Proofs.Ytpffcfmhiebhdaa
