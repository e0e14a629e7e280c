/- The lattice's methods: what each call answers, as the plain functions of Pure say. -/
import Derived.Test.YtpffcfmhiebhdaaProg
import Derived.Test.YtpffcfmhiebhdaaPure
import Derived.WalkSpells
import Derived.WalkLawsBesides
import Derived.Deep.QuietTactic
import Derived.BigQuiet
import Derived.Deep.DeepCutAuto
import Derived.Lib.Hide
namespace Go.Proofs.Ytpffcfmhiebhdaa
open Go.RowKit

/-- Block b holds the lattice l. -/
structure LatAt (w : World) (b : Nat) (l : Lat) : Prop where
  wf : l.WF
  blk : w.heap[b]? = some (.cells l.cells 56 (0, 0))

theorem LatAt.n_cell {w : World} {b : Nat} {l : Lat} (h : LatAt w b l) : w.cell? ⟨b, 0, none⟩ = some (.int .i64 l.n) := by
  simp [World.cell?, h.blk, Lat.cells]
theorem LatAt.up_cell {w : World} {b : Nat} {l : Lat} (h : LatAt w b l) (i : Nat) (hi : i < 16) : w.cell? ⟨b, 1 + i, none⟩ = some (.int .u64 (l.up.getD i 0 : Nat)) := by
  have hl := h.wf.len
  simp [World.cell?, h.blk, Lat.cells, show 1 + i = i + 1 by omega, hl, hi]
theorem LatAt.free {w : World} {b : Nat} {l : Lat} (h : LatAt w b l) (i : Nat) : w.frozen? ⟨b, i, none⟩ = false := by
  simp [World.frozen?, h.blk]
theorem LatAt.keep {w w' : World} {b : Nat} {l : Lat} (h : LatAt w b l) (hb : w'.heap[b]? = w.heap[b]?) : LatAt w' b l := ⟨h.wf, hb.trans h.blk⟩
theorem LatAt.lt {w : World} {b : Nat} {l : Lat} (h : LatAt w b l) : b < w.heap.size := (Array.getElem?_eq_some_iff.1 h.blk).1
theorem LatAt.drew {w w' : World} {b : Nat} {l : Lat} (h : LatAt w b l) (hd : Drew w w') : LatAt w' b l := h.keep (by rw [hd.heap])
theorem LatAt.frm {w w' : World} {b : Nat} {l : Lat} (h : LatAt w b l) {F : List Nat} (hd : Frm F w w') (hb : b ∉ F) : LatAt w' b l := h.keep (hd.block _ h.lt hb)
theorem LatAt.frm0 {w w' : World} {b : Nat} {l : Lat} (h : LatAt w b l) (hd : Frm [] w w') : LatAt w' b l := h.frm hd (by simp)
theorem LatAt.below {w w' : World} {b : Nat} {l : Lat} (h : LatAt w b l) (hd : Below w.heap.size w w') : LatAt w' b l := h.keep (hd.block _ h.lt)

theorem lat_is (l : Lat) (b : Nat) (a : Int) (w : World) (hl : LatAt w b l) :
    Calls Try.prog 25 #[.pointer (some ⟨b,0,none⟩), .int .i64 a] w fun e w' => e = .returned (.bool (l.is a)) ∧ w = w' := by
  have c0 := hl.n_cell
  go_enter Try.func25, Try.ntmps25
  go_wp2
  · go_ret
    simp [Lat.is, *]
  · go_ret
    simp [Lat.is, *]
    omega

theorem lat_is_nil (a : Int) (w : World) :
    Calls Try.prog 25 #[.pointer none, .int .i64 a] w fun e w' => e = .returned (.bool false) ∧ w = w' := by
  go_enter Try.func25, Try.ntmps25
  go_wp2
  go_ret
  simp

theorem lat_leq (l : Lat) (b : Nat) (a c : Int) (w : World) (hl : LatAt w b l) :
    Calls Try.prog 19 #[.pointer (some ⟨b,0,none⟩), .int .i64 a, .int .i64 c] w fun e w' => e = .returned (.bool (l.leq a c)) ∧ w = w' := by
  have h16 := hl.wf.n16
  cases h1 : l.is a
  · go_enter Try.func19, Try.ntmps19
    go_wp2_with (go_at_call 25; refine (lat_is l b _ _ hl).mono ?_; rintro e w' ⟨rfl, rfl⟩)
    go_ret
    simp [Lat.leq, h1]
  · cases h2 : l.is c
    · go_enter Try.func19, Try.ntmps19
      go_wp2_with (go_at_call 25; refine (lat_is l b _ _ hl).mono ?_; rintro e w' ⟨rfl, rfl⟩)
      go_ret
      simp [Lat.leq, h1, h2]
    · have h1' : 0 ≤ a ∧ a < l.n := by simpa [Lat.is] using h1
      have h2' : 0 ≤ c ∧ c < l.n := by simpa [Lat.is] using h2
      obtain ⟨h3, h4⟩ := h1'
      obtain ⟨h5, h6⟩ := h2'
      have hx : a < 16 := by omega
      have hcell := hl.up_cell a.toNat (by omega)
      have hbit := bit_test (l.row a) c.toNat (Lat.row_lt hl.wf a)
      have hr : l.up.getD a.toNat 0 = l.row a := rfl
      rw [hr] at hcell
      clear hr
      have H : Hid (l.leq a c = (l.row a).testBit c.toNat) := by
        show _ = _
        simp [Lat.leq, h1, h2]
      generalize l.row a = r at *
      go_enter Try.func19, Try.ntmps19
      go_wp2_with (go_at_call 25; refine (lat_is l b _ _ hl).mono ?_; rintro e w' ⟨rfl, rfl⟩)
      go_ret
      rw [H.out]
      exact ⟨rfl, rfl⟩

theorem lat_join (l : Lat) (b : Nat) (a c : Int) (w : World) (hl : LatAt w b l) :
    Calls Try.prog 27 #[.pointer (some ⟨b,0,none⟩), .int .i64 a, .int .i64 c] w fun e w' => e = .returned (.int .i64 (l.join a c)) ∧ Drew w w' := by
  have h16 := hl.wf.n16
  cases h1 : l.is a
  · go_enter Try.func27, Try.ntmps27
    go_wp2_with (go_at_call 25; refine (lat_is l b _ _ hl).mono ?_; rintro e w' ⟨rfl, rfl⟩)
    go_ret
    simp [Lat.join, h1, Drew.refl]
  · cases h2 : l.is c
    · go_enter Try.func27, Try.ntmps27
      go_wp2_with (go_at_call 25; refine (lat_is l b _ _ hl).mono ?_; rintro e w' ⟨rfl, rfl⟩)
      go_ret
      simp [Lat.join, h1, h2, Drew.refl]
    · have h1' : 0 ≤ a ∧ a < l.n := by simpa [Lat.is] using h1
      have h2' : 0 ≤ c ∧ c < l.n := by simpa [Lat.is] using h2
      obtain ⟨h3, h4⟩ := h1'
      obtain ⟨h5, h6⟩ := h2'
      have hx : a < 16 := by omega
      have hy : c < 16 := by omega
      have hca : w.cell? ⟨b, 1 + a.toNat, none⟩ = some (.int .u64 (l.row a : Nat)) := hl.up_cell a.toNat (by omega)
      have hcc : w.cell? ⟨b, 1 + c.toNat, none⟩ = some (.int .u64 (l.row c : Nat)) := hl.up_cell c.toNat (by omega)
      have hcn := hl.n_cell
      have hand := u64_and_nat (l.row a) (l.row c) (Lat.row_lt hl.wf a) (Lat.row_lt hl.wf c)
      have hra := Lat.row_lt hl.wf a
      have H : Hid (l.join a c = l.joinFrom (l.row a &&& l.row c) l.n 0) := by
        show _ = _
        simp [Lat.join, h1, h2]
      have hboth : (l.row a &&& l.row c) < 18446744073709551616 := Nat.lt_of_le_of_lt Nat.and_le_left hra
      generalize l.row a = ra at *
      generalize l.row c = rc at *
      generalize ra &&& rc = both at *
      go_enter Try.func27, Try.ntmps27
      go_wp2_with (go_at_call 25; refine (lat_is l b _ _ hl).mono ?_; rintro e w' ⟨rfl, rfl⟩)
      go_quiet (fail)
      go_wp2
      clear hca hcc hand
      go_loop [8, 36] (fun _ i => ∃ k : Nat, k ≤ l.n ∧ i = .int .i64 k ∧ l.joinFrom both l.n 0 = l.joinFrom both (l.n - k) k) (fun _ i => l.n - (intOf i).toNat)
      case atStart => exact ⟨0, Nat.zero_le _, rfl, rfl⟩
      case round =>
        obtain ⟨k, hk, rfl, hj⟩ := hrel
        have HJ := hj
        replace hj : Hid (l.joinFrom both l.n 0 = l.joinFrom both (l.n - k) k) := hj
        clear HJ
        by_cases hlt : k < l.n
        · have hup := hl.up_cell k (by omega)
          have b1 := bit_test both k hboth
          have hrk := Lat.getD_lt hl.wf k
          have b2 := u64_and_nat (l.up.getD k 0) both hrk hboth
          have hstep : l.joinFrom both (l.n - k) k = if both.testBit k && (l.up.getD k 0 &&& both == both) then (k : Int) else l.joinFrom both (l.n - (k + 1)) (k + 1) := by
            rw [show l.n - k = (l.n - (k + 1)) + 1 by omega]
            rfl
          generalize l.up.getD k 0 = u at *
          have H2 := Lib.hid hstep
          clear hstep
          have hbe : ((u &&& both : Nat) : Int) = (both : Int) ↔ (u &&& both) = both := by omega
          go_wp2
          · rename_i t1 t2 _
            go_ret
            refine ⟨?_, ⟨nq, rfl⟩⟩
            rw [H.out, hj.out, H2.out, if_pos]
            · rfl
            · simp only [Bool.and_eq_true, beq_iff_eq] at t1 t2 ⊢
              exact ⟨t1, hbe.1 t2⟩
          · rename_i t1 t2
            go_round
            case rel =>
              refine ⟨k + 1, by omega, by go_num, ?_⟩
              rw [hj.out, H2.out, if_neg]
              simp only [Bool.and_eq_true, beq_iff_eq, beq_eq_false_iff_ne, ne_eq] at t1 t2 ⊢
              exact fun h => t2 (hbe.2 h.2)
            case measure => simp [intOf]; omega
          · rename_i t1
            go_round
            case rel =>
              refine ⟨k + 1, by omega, by go_num, ?_⟩
              rw [hj.out, H2.out, if_neg]
              simp only [Bool.and_eq_true]
              exact fun h => t1 h.1
            case measure => simp [intOf]; omega
        · have : k = l.n := by omega
          subst this
          go_wp2
          go_ret
          refine ⟨?_, ⟨nq, rfl⟩⟩
          rw [H.out, hj.out]
          simp [Lat.joinFrom]

theorem lat_len (l : Lat) (b : Nat) (w : World) (hl : LatAt w b l) :
    Calls Try.prog 38 #[.pointer (some ⟨b,0,none⟩)] w fun e w' => e = .returned (.int .i64 l.n) ∧ w = w' := by
  have c0 := hl.n_cell
  go_enter Try.func38, Try.ntmps38
  go_wp2
  go_ret
  exact ⟨rfl, rfl⟩

theorem Lat.bottomTo_succ (l : Lat) (k : Nat) : l.bottomTo (k + 1) = l.bottomStep (l.bottomTo k) k := by
  simp [Lat.bottomTo, List.range_succ]
theorem Lat.topTo_succ (l : Lat) (k : Nat) : l.topTo (k + 1) = l.topStep (l.topTo k) k := by
  simp [Lat.topTo, List.range_succ]

theorem lat_bottom (l : Lat) (b : Nat) (w : World) (hl : LatAt w b l) :
    Calls Try.prog 22 #[.pointer (some ⟨b,0,none⟩)] w fun e w' => e = .returned (.int .i64 l.bottom) ∧ w = w' := by
  have h16 := hl.wf.n16
  go_enter Try.func22, Try.ntmps22
  go_wp2_with (go_at_call 38; refine (lat_len l b _ hl).mono ?_; rintro e w' ⟨rfl, rfl⟩)
  go_loop [3, 4, 7] (fun best _ i => ∃ k : Nat, k ≤ l.n ∧ i = .int .i64 k ∧ best = .int .i64 (l.bottomTo k)) (fun _ _ i => l.n - (intOf i).toNat)
  case atStart => exact ⟨0, Nat.zero_le _, rfl, rfl⟩
  case round =>
    obtain ⟨k, hk, rfl, rfl⟩ := hrel
    by_cases hlt : k < l.n
    · have H := Lib.hid (Lat.bottomTo_succ l k)
      generalize l.bottomTo k = best at *
      cases hb : (best == -1)
      · cases hq : l.leq k best
        all_goals
          have HB : Hid (l.bottomStep best k = if (best == -1) || l.leq k best then (k : Int) else best) := rfl
          have HQ := Lib.hid hq
          clear hq
          go_wp2_with (go_at_call 19; refine (lat_leq l b _ _ _ hl).mono ?_; rintro e w' ⟨rfl, rfl⟩; rw [HQ.out])
          go_round
          case rel => exact ⟨k + 1, by omega, by go_num, by rw [H.out, HB.out, hb, HQ.out]; rfl⟩
          case measure => simp [intOf]; omega
      · have HB : Hid (l.bottomStep best k = if (best == -1) || l.leq k best then (k : Int) else best) := rfl
        go_wp2_with (go_at_call 19; refine (lat_leq l b _ _ _ hl).mono ?_; rintro e w' ⟨rfl, rfl⟩)
        go_round
        case rel => exact ⟨k + 1, by omega, by go_num, by rw [H.out, HB.out, hb]; rfl⟩
        case measure => simp [intOf]; omega
    · have : k = l.n := by omega
      subst this
      go_wp2
      go_ret
      exact ⟨rfl, rfl⟩

theorem lat_top (l : Lat) (b : Nat) (w : World) (hl : LatAt w b l) :
    Calls Try.prog 48 #[.pointer (some ⟨b,0,none⟩)] w fun e w' => e = .returned (.int .i64 l.top) ∧ w = w' := by
  have h16 := hl.wf.n16
  go_enter Try.func48, Try.ntmps48
  go_wp2_with (go_at_call 38; refine (lat_len l b _ hl).mono ?_; rintro e w' ⟨rfl, rfl⟩)
  go_loop [3, 4, 7] (fun best _ i => ∃ k : Nat, k ≤ l.n ∧ i = .int .i64 k ∧ best = .int .i64 (l.topTo k)) (fun _ _ i => l.n - (intOf i).toNat)
  case atStart => exact ⟨0, Nat.zero_le _, rfl, rfl⟩
  case round =>
    obtain ⟨k, hk, rfl, rfl⟩ := hrel
    by_cases hlt : k < l.n
    · have H := Lib.hid (Lat.topTo_succ l k)
      generalize l.topTo k = best at *
      cases hb : (best == -1)
      · cases hq : l.leq best k
        all_goals
          have HB : Hid (l.topStep best k = if (best == -1) || l.leq best k then (k : Int) else best) := rfl
          have HQ := Lib.hid hq
          clear hq
          go_wp2_with (go_at_call 19; refine (lat_leq l b _ _ _ hl).mono ?_; rintro e w' ⟨rfl, rfl⟩; rw [HQ.out])
          go_round
          case rel => exact ⟨k + 1, by omega, by go_num, by rw [H.out, HB.out, hb, HQ.out]; rfl⟩
          case measure => simp [intOf]; omega
      · have HB : Hid (l.topStep best k = if (best == -1) || l.leq best k then (k : Int) else best) := rfl
        go_wp2_with (go_at_call 19; refine (lat_leq l b _ _ _ hl).mono ?_; rintro e w' ⟨rfl, rfl⟩)
        go_round
        case rel => exact ⟨k + 1, by omega, by go_num, by rw [H.out, HB.out, hb]; rfl⟩
        case measure => simp [intOf]; omega
    · have : k = l.n := by omega
      subst this
      go_wp2
      go_ret
      exact ⟨rfl, rfl⟩

end Go.Proofs.Ytpffcfmhiebhdaa
