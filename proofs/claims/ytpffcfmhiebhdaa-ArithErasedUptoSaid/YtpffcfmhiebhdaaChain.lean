/- chain(n): the pairs of levels one below the next; the lattice that New makes of them. -/
import Derived.Test.YtpffcfmhiebhdaaSmall
import Derived.Test.YtpffcfmhiebhdaaLattD
import Derived.Test.YtpffcfmhiebhdaaLattP
import Derived.WalkSpells
import Derived.WalkLawsBesides
import Derived.Deep.QuietTactic
import Derived.BigQuiet
import Derived.Deep.DeepCutAuto
import Derived.Deep.RegionHeld3
import Derived.Lib.Hide
import Derived.Handy
namespace Go.Proofs.Ytpffcfmhiebhdaa
open Go.RowKit

theorem Try.infoPair : (Try.prog.info? 57).map (fun i => (i.zero, i.size, i.bytes)) = some (some (.agg #[.int .i64 0, .int .i64 0]), 2, 16) := by kernel_rfl

def chainL (k : Nat) : List (Int × Int) := (List.range k).map fun (i : Nat) => ((i : Int), (i : Int) + 1)
def chainC : Nat → List Value
  | 0 => []
  | k + 1 => chainC k ++ [.int .i64 (k : Int), .int .i64 ((k : Int) + 1)]
theorem chainC_len (k : Nat) : (chainC k).length = k * 2 := by
  induction k with
  | zero => rfl
  | succ k ih => simp [chainC, ih]; omega
theorem chainC_get (k : Nat) : ∀ i, i < k → (chainC k)[i * 2]? = some (.int .i64 (i : Int)) ∧ (chainC k)[i * 2 + 1]? = some (.int .i64 ((i : Int) + 1)) := by
  induction k with
  | zero => intro i hi; omega
  | succ k ih =>
    intro i hi
    have hl := chainC_len k
    unfold chainC
    by_cases h : i < k
    · rw [List.getElem?_append_left (by omega), List.getElem?_append_left (by omega)]
      exact ih i h
    · have : i = k := by omega
      subst this
      rw [List.getElem?_append_right (by omega), List.getElem?_append_right (by omega), hl]
      simp
theorem chain_pairs {w : World} {base k : Nat} {v : Value} (h : w.ownsRow base 57 2 v k (chainC k)) : ∃ A cap, v = .slice A k cap ∧ PairsAt w A (chainL k) := by
  obtain ⟨hl, h⟩ := h
  rcases h with ⟨rfl, rfl⟩ | ⟨g, cap, cur, rfl, hg, hh, hcap, hm, hsz, htake⟩
  · exact ⟨none, 0, rfl, fun i p hi => by simp [chainL] at hi⟩
  · refine ⟨_, cap, rfl, fun i p hi => ?_⟩
    have hik : i < k := by have := (List.getElem?_eq_some_iff.1 hi).1; simpa [chainL] using this
    have hp : p = ((i : Int), (i : Int) + 1) := by
      simp only [chainL, List.getElem?_map, List.getElem?_range hik, Option.map_some, Option.some.injEq] at hi
      exact hi.symm
    have rd : ∀ j c, j < k * 2 → (chainC k)[j]? = some c → w.cell? ⟨g, j, none⟩ = some c := by
      intro j c hj hc
      rw [← htake, List.getElem?_take_of_lt hj] at hc
      rw [show w.cell? ⟨g, j, none⟩ = cur[j]? by simp [World.cell?, hh]]
      simpa using hc
    obtain ⟨h1, h2⟩ := chainC_get k i hik
    subst hp
    refine ⟨g, 0, rfl, ?_, ?_⟩
    · rw [Nat.zero_add]; exact rd _ _ (by omega) h1
    · rw [Nat.zero_add]; exact rd _ _ (by omega) h2

theorem law_chain (n : Nat) (w : World) (h1 : 1 ≤ n) (h16 : n ≤ 16) :
    Calls Try.prog 17 #[.int .i64 n] w fun e w' => ∃ A cap, e = .returned (.slice A (chainL (n - 1)).length cap) ∧ PairsAt w' A (chainL (n - 1)) ∧ Frm [] w w' := by
  obtain ⟨i0, hi, hz0, hz1, hz2⟩ := info_parts Try.infoPair
  go_enter Try.func17, Try.ntmps17
  go_wp2
  go_loopw [3, 4] (fun a i wr => ∃ j : Nat, j + 1 ≤ n ∧ i = .int .i64 ((j : Int) + 1) ∧ Frm [] w wr ∧ wr.ownsRow w.heap.size 57 2 a j (chainC j)) (fun _ i _ => n - (intOf i).toNat)
  case atStart => exact ⟨0, h1, rfl, Frm.refl _ _, World.ownsRow_nil _ _ _ _⟩
  case round =>
    obtain ⟨j, hj, rfl, FR, hown⟩ := hrel
    have HOWN := Lib.hid hown
    clear hown
    have hsz := FR.size
    by_cases hlt : j + 1 < n
    · have hown2 : ∀ o : Obj, (wr.alloc o).ownsRow w.heap.size 57 2 u3 j (chainC j) := fun o => by
        refine HOWN.out.kept (row := none) ⟨rfl, rfl, rfl, by simp, fun k hk _ => by rw [heap_alloc_at, if_neg (by omega)]⟩ ?_
        cases u3.ownBlock <;> simp
      go_wp2_with (at_builtin; go_must (refine wpList_append_own_at _ rfl _ _ 43 rfl w.heap.size 57 i0 _ 2 16 Try.underlying43 hi hz0 hz1 hz2 rfl (by decide) u3 _ _ rfl (hown2 _) ⟨wr.heap.size, 0, none⟩ 1 1 [.int .i64 (j : Int), .int .i64 ((j : Int) + 1)] rfl rfl ?c1 ?c2 ?c3 ?c4 ?c5 ?_); (case c1 => exact cells_new _ _ _); (case c2 => simp [Value.oneCell']); (case c3 => (unfold maxLen; omega)); (case c4 => omega); (case c5 => (rw [heap_size_alloc]; omega)); intro v3 w3 ho hg _ hat)
      go_roundw
      case rel =>
        refine ⟨j + 1, by omega, by go_num, ?_, by simpa [chainC] using ho⟩
        refine Frm.grown (FR.alloc _) hg (fun b hb => .inr ?_)
        have h := HOWN.out
        obtain ⟨_, h⟩ := h
        rcases h with ⟨rfl, _⟩ | ⟨g, _, _, rfl, hg', _⟩
        · simp [Value.ownBlock] at hb
        · simp [Value.ownBlock] at hb; omega
      case measure => simp [intOf]; omega
    · have : j = n - 1 := by omega
      subst this
      obtain ⟨A, cap, rfl, hp⟩ := chain_pairs HOWN.out
      go_wp2
      go_ret
      exact ⟨A, cap, by simp [chainL], hp, FR⟩
end Go.Proofs.Ytpffcfmhiebhdaa
