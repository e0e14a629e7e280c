/- The lattice's methods, second part: the greatest lower bound, the closure, the making of a lattice. -/
import Derived.Test.YtpffcfmhiebhdaaLatt
namespace Go.Proofs.Ytpffcfmhiebhdaa
open Go.RowKit

theorem Lat.meetBest_succ (l : Lat) (a c : Int) (k : Nat) : l.meetBest a c (k + 1) = l.meetStep a c (l.meetBest a c k) k := by
  simp [Lat.meetBest, List.range_succ]

theorem lat_meet (l : Lat) (b : Nat) (a c : Int) (w : World) (hl : LatAt w b l) :
    Calls Try.prog 28 #[.pointer (some ⟨b,0,none⟩), .int .i64 a, .int .i64 c] w fun e w' => e = .returned (.int .i64 (l.meet a c)) ∧ w = w' := by
  have h16 := hl.wf.n16
  have hcn := hl.n_cell
  cases h1 : l.is a
  · go_enter Try.func28, Try.ntmps28
    go_wp2_with (go_at_call 25; refine (lat_is l b _ _ hl).mono ?_; rintro e w' ⟨rfl, rfl⟩)
    go_ret
    simp [Lat.meet, h1]
  · cases h2 : l.is c
    · go_enter Try.func28, Try.ntmps28
      go_wp2_with (go_at_call 25; refine (lat_is l b _ _ hl).mono ?_; rintro e w' ⟨rfl, rfl⟩)
      go_ret
      simp [Lat.meet, h1, h2]
    · go_enter Try.func28, Try.ntmps28
      go_wp2_with (go_at_call 25; refine (lat_is l b _ _ hl).mono ?_; rintro e w' ⟨rfl, rfl⟩)
      go_loop [7, 8, 24] (fun best _ i => ∃ k : Nat, k ≤ l.n ∧ i = .int .i64 k ∧ best = .int .i64 (l.meetBest a c k)) (fun _ _ i => l.n - (intOf i).toNat)
      case atStart => exact ⟨0, Nat.zero_le _, rfl, rfl⟩
      case round =>
        obtain ⟨k, hk, rfl, rfl⟩ := hrel
        by_cases hlt : k < l.n
        · have H := Lib.hid (Lat.meetBest_succ l a c k)
          generalize l.meetBest a c k = best at *
          have HB : Hid (l.meetStep a c best k = if l.leq k a && l.leq k c && (best == -1 || l.leq best k) then (k : Int) else best) := rfl
          cases q1 : l.leq k a <;> cases q2 : l.leq k c <;> cases q3 : (best == -1) <;> cases q4 : l.leq best k
          all_goals
            go_wp2_with (go_at_call 19; refine (lat_leq l b _ _ _ hl).mono ?_; rintro e w' ⟨rfl, rfl⟩)
            go_round
            case rel => exact ⟨k + 1, by omega, by go_num, by rw [H.out, HB.out, q1, q2, q3, q4]; rfl⟩
            case measure => simp [intOf]; omega
        · have : k = l.n := by omega
          subst this
          have HM : Hid (l.meet a c = if (List.range l.n).any (l.meetOff a c (l.meetBest a c l.n)) then -1 else l.meetBest a c l.n) := by
            show _ = _
            simp [Lat.meet, h1, h2]
          generalize l.meetBest a c l.n = best at *
          go_wp2
          go_loop [9, 53] (fun _ i => ∃ k : Nat, k ≤ l.n ∧ i = .int .i64 k ∧ ∀ j, j < k → l.meetOff a c best j = false) (fun _ i => l.n - (intOf i).toNat)
          case atStart => exact ⟨0, Nat.zero_le _, rfl, fun j hj => by omega⟩
          case round =>
            obtain ⟨k, hk, rfl, hall⟩ := hrel
            have HA := Lib.hid hall
            clear hall
            by_cases hlt : k < l.n
            · have HB : Hid (l.meetOff a c best k = (l.leq k a && l.leq k c && !l.leq k best)) := rfl
              cases q1 : l.leq k a <;> cases q2 : l.leq k c <;> cases q3 : l.leq k best
              all_goals
                go_wp2_with (go_at_call 19; refine (lat_leq l b _ _ _ hl).mono ?_; rintro e w' ⟨rfl, rfl⟩)
                first
                  | (go_round
                     case rel =>
                       refine ⟨k + 1, by omega, by go_num, fun j hj => ?_⟩
                       by_cases hjk : j = k
                       · rw [hjk, HB.out, q1, q2, q3]; rfl
                       · exact HA.out j (by omega)
                     case measure => simp [intOf]; omega)
                  | (go_ret
                     refine ⟨?_, rfl⟩
                     rw [HM.out, if_pos]
                     · rfl
                     · rw [List.any_eq_true]
                       exact ⟨k, List.mem_range.2 hlt, by rw [HB.out, q1, q2, q3]; rfl⟩)
            · have : k = l.n := by omega
              subst this
              go_wp2
              go_ret
              refine ⟨?_, rfl⟩
              rw [HM.out, if_neg]
              · rfl
              · rw [Bool.not_eq_true, List.any_eq_false]
                intro j hj
                rw [HA.out j (List.mem_range.1 hj)]
                simp

/-- How far the rows are from full: each filling lowers it. -/
def Lat.room (l : Lat) : Nat := (l.up.map fun x => 18446744073709551616 - x).sum

theorem or_lt64 {x y : Nat} (hx : x < 18446744073709551616) (hy : y < 18446744073709551616) : x ||| y < 18446744073709551616 :=
  Nat.or_lt_two_pow (n := 64) hx hy

theorem sum_set_lt : ∀ (xs : List Nat) (a v : Nat), a < xs.length → v < 18446744073709551616 → xs.getD a 0 < v →
    ((xs.set a v).map fun x => 18446744073709551616 - x).sum < (xs.map fun x => 18446744073709551616 - x).sum
  | [], _, _, h, _, _ => by simp at h
  | x :: xs, 0, v, _, hv, hlt => by simp at hlt ⊢; omega
  | x :: xs, a + 1, v, h, hv, hlt => by
    have := sum_set_lt xs a v (by simpa using h) hv (by simpa using hlt)
    simpa using this

theorem Lat.fill_wf {l : Lat} (h : l.WF) (a b : Nat) : (l.fill a b).WF := by
  refine ⟨h.n16, by simp [Lat.fill, h.len], fun x hx => ?_⟩
  rcases List.mem_or_eq_of_mem_set hx with hx | rfl
  · exact h.rng x hx
  · exact or_lt64 (Lat.getD_lt h a) (Lat.getD_lt h b)

theorem Lat.fill_room {l : Lat} (h : l.WF) (a b : Nat) (ha : a < 16) (hl : l.lacks a b = true) : (l.fill a b).room < l.room := by
  have h1 : (l.up.getD a 0 ||| l.up.getD b 0) ≠ l.up.getD a 0 := by
    simp only [Lat.lacks, Bool.and_eq_true, bne_iff_ne, ne_eq] at hl
    exact hl.2
  have h2 : l.up.getD a 0 ≤ (l.up.getD a 0 ||| l.up.getD b 0) := Nat.left_le_or
  exact sum_set_lt _ _ _ (by rw [h.len]; exact ha) (or_lt64 (Lat.getD_lt h a) (Lat.getD_lt h b)) (by omega)

theorem Lat.fill_cells (l : Lat) (a b : Nat) : (l.fill a b).cells = l.cells.setIfInBounds (1 + a) (.int .u64 ((l.up.getD a 0 ||| l.up.getD b 0 : Nat) : Int)) := by
  apply Array.ext'
  simp [Lat.cells, Lat.fill, show 1 + a = a + 1 by omega, List.map_set]

end Go.Proofs.Ytpffcfmhiebhdaa
