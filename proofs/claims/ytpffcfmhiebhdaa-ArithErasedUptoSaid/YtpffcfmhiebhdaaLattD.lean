/- The making of a lattice. -/
import Derived.Test.YtpffcfmhiebhdaaLattC
namespace Go.Proofs.Ytpffcfmhiebhdaa
open Go.RowKit

/-- The slice's elements read as these pairs. -/
def PairsAt (w : World) (A : Option Addr) (ps : List (Int × Int)) : Prop :=
  ∀ i p, ps[i]? = some p → ∃ b off, A = some ⟨b, off, none⟩ ∧ w.cell? ⟨b, off + i * 2, none⟩ = some (.int .i64 p.1) ∧ w.cell? ⟨b, off + i * 2 + 1, none⟩ = some (.int .i64 p.2)
theorem PairsAt.frm {w w' : World} {A : Option Addr} {ps : List (Int × Int)} (h : PairsAt w A ps) (f : Frm [] w w') : PairsAt w' A ps := by
  intro i p hi
  obtain ⟨b, off, rfl, h1, h2⟩ := h i p hi
  have hb := World.block_lt_of_cell? w _ h1
  exact ⟨b, off, rfl, (f.cell hb (by simp)).trans h1, (f.cell hb (by simp)).trans h2⟩

theorem lat_new_range (n : Int) (v : Value) (w : World) (h : n < 1 ∨ 16 < n) :
    Calls Try.prog 11 #[.int .i64 n, v] w fun e w' => e = .returned (.tuple #[.pointer none, .int .i64 1]) ∧ Frm [] w w' := by
  by_cases h1 : n < 1
  · go_enter Try.func11, Try.ntmps11
    go_wp2
    go_ret2
    exact ⟨rfl, Frm.refl _ _⟩
  · have h2 : 16 < n := by omega
    go_enter Try.func11, Try.ntmps11
    go_wp2
    go_ret2
    exact ⟨rfl, Frm.refl _ _⟩

theorem Lat.set_cells (l : Lat) (i x : Nat) : ({ l with up := l.up.set i x } : Lat).cells = l.cells.setIfInBounds (1 + i) (.int .u64 (x : Int)) := by
  apply Array.ext'
  simp [Lat.cells, show 1 + i = i + 1 by omega, List.map_set]
theorem LatAt.set_ {w : World} {b : Nat} {l : Lat} (h : LatAt w b l) (i x : Nat) (v : Int) (hv : v = x) (hx : x < 18446744073709551616) :
    LatAt (w.setCell ⟨b, 1 + i, none⟩ (.int .u64 v)) b { l with up := l.up.set i x } :=
  ⟨⟨h.wf.n16, by simp [h.wf.len], fun y hy => by
    rcases List.mem_or_eq_of_mem_set hy with hy | rfl
    · exact h.wf.rng y hy
    · exact hx⟩, by rw [heap_setCell_at h.blk, Lat.set_cells, hv]⟩
theorem Lat.startTo_succ (n k : Nat) : Lat.startTo n (k + 1) = { Lat.startTo n k with up := (Lat.startTo n k).up.set k (2 ^ k) } := by
  simp only [Lat.startTo, Lat.mk.injEq, true_and]
  apply List.ext_getElem
  · simp
  · intro i h1 h2
    simp only [List.length_map, List.length_range] at h1
    simp only [List.getElem_map, List.getElem_range, List.getElem_set]
    by_cases hik : k = i
    · subst hik; simp
    · simp only [hik, if_false]
      by_cases hlt : i < k
      · simp [hlt, show i < k + 1 by omega]
      · simp [hlt, show ¬ i < k + 1 by omega]
theorem pow_lt64 {k : Nat} (h : k < 16) : 2 ^ k < 18446744073709551616 := Nat.lt_of_lt_of_le (Nat.pow_lt_pow_right (by omega) h) (by decide)

theorem Lat.Closes.n_eq {l l' : Lat} (h : Lat.Closes l l') : l'.n = l.n := by
  induction h with
  | done _ => rfl
  | step _ _ ih => exact ih

theorem wrap_pow {k : Nat} (h : k < 16) : IntKind.u64.wrap ((2 : Int) ^ k) = ((2 ^ k : Nat) : Int) := by
  have := pow_lt64 h
  rw [show ((2 : Int) ^ k) = ((2 ^ k : Nat) : Int) by simp]
  generalize 2 ^ k = q at *
  simp only [IntKind.wrap, IntKind.bits, IntKind.signed]
  simp
  omega

set_option maxHeartbeats 1000000 in
theorem lat_new (n : Nat) (A : Option Addr) (cap : Nat) (ps : List (Int × Int)) (w : World) (h1 : 1 ≤ n) (h16 : n ≤ 16) (hp : PairsAt w A ps) (hlen : ps.length ≤ 9223372036854775807) :
    Calls Try.prog 11 #[.int .i64 n, .slice A ps.length cap] w fun e w' => ∃ r, Lat.Made n ps r ∧ Frm [] w w' ∧
      match r with
      | .error c => e = .returned (.tuple #[.pointer none, .int .i64 c])
      | .ok l => ∃ b, w.heap.size ≤ b ∧ LatAt w' b l ∧ e = .returned (.tuple #[.pointer (some ⟨b, 0, none⟩), .int .i64 0]) := by
  go_enter Try.func11, Try.ntmps11
  go_wp2
  go_loopw [22] (fun i wr => ∃ k : Nat, k ≤ n ∧ i = .int .i64 k ∧ Frm [] w wr ∧ LatAt wr w.heap.size (Lat.startTo n k)) (fun i _ => n - (intOf i).toNat)
  case atStart =>
    refine ⟨0, Nat.zero_le _, rfl, (Frm.refl _ _).alloc _, ⟨⟨h16, by simp [Lat.startTo], fun x hx => ?_⟩, ?_⟩⟩
    · simp [Lat.startTo] at hx; omega
    · rw [alloc_heap_new]; rfl
  case round =>
    obtain ⟨k, hk, rfl, hF, hL⟩ := hrel
    have hfz := hL.free (1 + k)
    by_cases hlt : k < n
    · have hup := hL.up_cell k (by omega)
      have hpw := wrap_pow (k := k) (by omega)
      have HS := Lib.hid (Lat.startTo_succ n k)
      have HP := Lib.hid hpw
      clear hpw
      go_wp2
      go_roundw
      case rel =>
        refine ⟨k + 1, by omega, by go_num, ?_, ?_⟩
        · exact hF.setCell (.inr (Nat.le_refl _)) _
        · rw [HS.out]
          exact hL.set_ k (2 ^ k) _ HP.out (pow_lt64 (by omega))
      case measure => simp [intOf]; omega
    · have : k = n := by omega
      subst this
      go_wp2
      have HO := Lib.hid hp
      clear hp
      go_loopw [36] (fun i wr => ∃ j : Nat, j ≤ ps.length ∧ i = .int .i64 j ∧ Frm [] w wr ∧ ∃ l, LatAt wr w.heap.size l ∧ l.n = k ∧ Lat.pairs ps (Lat.startTo k k) = Lat.pairs (ps.drop j) l) (fun i _ => ps.length - (intOf i).toNat)
      case atStart => exact ⟨0, Nat.zero_le _, rfl, hF, _, hL, rfl, rfl⟩
      case round =>
        obtain ⟨j, hj, rfl, hF2, l, hl, hln, hpp⟩ := hrel
        have HPP := Lib.hid hpp
        have HLN := Lib.hid hln
        clear hpp hln
        by_cases hltj : j < ps.length
        · obtain ⟨ab, hab⟩ : ∃ ab, ps[j]? = some ab := ⟨_, List.getElem?_eq_getElem hltj⟩
          obtain ⟨pb, po, hA, hc1, hc2⟩ := HO.out.frm hF2 j ab hab
          have HAB := Lib.hid hab
          clear hab
          subst hA
          obtain ⟨x, y⟩ := ab
          simp only at hc1 hc2
          have hl2 := hl.keep (w' := wr.alloc (.cells #[.int .i64 x, .int .i64 y] 57 (0, 0))) (Below.heap_alloc _ _ _ hl.lt)
          have HD : Hid (ps.drop j = (x, y) :: ps.drop (j + 1)) := by
            show _ = _
            rw [List.drop_eq_getElem_cons hltj]
            rw [List.getElem?_eq_getElem hltj] at HAB
            rw [Option.some.inj HAB.out]
          have HN : l.pair (x, y) = none → Lat.pairs ps (Lat.startTo k k) = none := by
            intro h
            rw [HPP.out, HD.out]
            simp [Lat.pairs, h]
          have HM : Hid (l.pair (x, y) = none → Lat.Made (k : Int) ps (.error 1)) := fun h => .level (by omega) (by simpa using HN h)
          clear HN
          cases hx : l.is x
          · go_wp2_with (go_at_call 25; refine (lat_is l _ _ _ hl2).mono ?_; rintro e w' ⟨rfl, rfl⟩)
            go_ret2
            exact ⟨.error 1, HM.out (by simp [Lat.pair, hx]), hF2.alloc _, rfl⟩
          · cases hy : l.is y
            · go_wp2_with (go_at_call 25; refine (lat_is l _ _ _ hl2).mono ?_; rintro e w' ⟨rfl, rfl⟩)
              go_ret2
              exact ⟨.error 1, HM.out (by simp [Lat.pair, hx, hy]), hF2.alloc _, rfl⟩
            · clear HM
              have hx' : 0 ≤ x ∧ x < l.n := by simpa [Lat.is] using hx
              have hy' : 0 ≤ y ∧ y < l.n := by simpa [Lat.is] using hy
              obtain ⟨hx1, hx2⟩ := hx'
              obtain ⟨hy1, hy2⟩ := hy'
              have hn16 := hl.wf.n16
              have hx3 : x < 16 := by omega
              have hy3 : y < 64 := by omega
              have hup := hl.up_cell x.toNat (by omega)
              have hfz2 := hl.free (1 + x.toNat)
              have hb1 := hl.lt
              go_wp2_with (go_at_call 25; refine (lat_is l _ _ _ hl2).mono ?_; rintro e w' ⟨rfl, rfl⟩)
              go_region
              go_wp2
              go_roundw
              case rel =>
                refine ⟨j + 1, by omega, by go_num, ((hF2.setCell (p := ⟨w.heap.size, 1 + x.toNat, none⟩) (.inr (Nat.le_refl _)) _).alloc _).drew, { l with up := l.up.set x.toNat (l.row x ||| 2 ^ y.toNat) }, ?_, HLN.out, ?_⟩
                · refine LatAt.keep (w := wr.setCell ⟨w.heap.size, 1 + x.toNat, none⟩ (.int .u64 (bits .or .u64 (↑(l.up[x.toNat]?.getD 0)) (IntKind.u64.wrap (2 ^ y.toNat))))) (hl.set_ x.toNat (l.row x ||| 2 ^ y.toNat) _ ?_ ?_) ?_
                  · have hq := wrap_pow (k := y.toNat) (by omega)
                    rw [hq, u64_or_nat]
                    · simp [Lat.row]
                    · have := Lat.getD_lt hl.wf x.toNat
                      simpa using this
                    · exact pow_lt64 (by omega)
                  · exact or_lt64 (Lat.row_lt hl.wf x) (pow_lt64 (by omega))
                  · exact Below.heap_alloc _ _ _ (by simpa [World.setCell] using hl.lt)
                · rw [HPP.out, HD.out]
                  simp [Lat.pairs, Lat.pair, hx, hy]
              case measure => simp [intOf]; omega
        · have : j = ps.length := by omega
          subst this
          clear HO
          have HPS : Hid (Lat.pairs ps (Lat.startTo k k) = some l) := by
            show _ = _
            rw [HPP.out]; simp [Lat.pairs]
          have hln : l.n = k := HLN.out
          clear HPP HLN
          subst hln
          go_wp2_with (go_at_call 26; refine (lat_close l _ _ hl).mono ?_; rintro e w3 ⟨rfl, l2, HC, hl3, F3⟩)
          have hn2 := Lat.Closes.n_eq HC
          have F4 : Frm [] w w3 := hF2.trans F3 (fun x hx => by simp at hx; omega)
          have h16' := hl3.wf.n16
          have HMade : ∀ r, (r = .error 4 → l2.good = false) → (r = .ok l2 → l2.good = true) → (r = .error 4 ∨ r = .ok l2) → Lat.Made (l.n : Int) ps r := by
            intro r g1 g2 hr
            have hps : Lat.pairs ps (Lat.startTo (l.n : Int).toNat (l.n : Int).toNat) = some l := by simpa using HPS.out
            rcases hr with rfl | rfl
            · exact .form (by omega) hps HC (g1 rfl)
            · exact .ok (by omega) hps HC (g2 rfl)
          have HMade' := Lib.hid HMade
          have HN2 := Lib.hid hn2
          clear HMade hl hF2 HPS F3 HC hn2
          go_loopw [71] (fun i wr => ∃ a : Nat, a ≤ l.n ∧ i = .int .i64 a ∧ Drew w3 wr ∧ ∀ x, x < a → ∀ y, y < l.n → l2.bad x y = false) (fun i _ => l.n - (intOf i).toNat)
          case atStart => exact ⟨0, Nat.zero_le _, rfl, Drew.refl _, fun x hx => by omega⟩
          case round =>
            obtain ⟨a, ha, rfl, ⟨d1, rfl⟩, hall⟩ := hrel
            have HALL := Lib.hid hall
            clear hall
            by_cases hlta : a < l.n
            · go_wp2
              go_loopw [75] (fun i wr => ∃ b : Nat, b ≤ l.n ∧ i = .int .i64 b ∧ Drew w3 wr ∧ ∀ y, y < b → l2.bad a y = false) (fun i _ => l.n - (intOf i).toNat)
              case atStart => exact ⟨0, Nat.zero_le _, rfl, ⟨_, rfl⟩, fun x hx => by omega⟩
              case round =>
                obtain ⟨b, hb, rfl, ⟨d2, rfl⟩, hallb⟩ := hrel
                have HALLB := Lib.hid hallb
                clear hallb
                by_cases hltb : b < l.n
                · have HB : Hid (l2.bad a b = ((((a : Int) != (b : Int)) && l2.leq a b && l2.leq b a) || l2.join a b == -1 || l2.meet a b == -1)) := by
                    have : ((a : Int) != (b : Int)) = (a != b) := by
                      rw [Bool.eq_iff_iff]; simp only [bne_iff_ne, ne_eq]; omega
                    rw [this]; rfl
                  have hlA : ∀ d, LatAt (w3.drewN d) w.heap.size l2 := fun d => hl3.drew ⟨d, rfl⟩
                  cases q0 : ((a : Int) != (b : Int)) <;> cases q1 : l2.leq a b <;> cases q2 : l2.leq b a <;> cases q3 : (l2.join a b == -1) <;> cases q4 : (l2.meet a b == -1)
                  all_goals
                    go_wp2_with (first | (go_at_call 19; refine (lat_leq l2 _ _ _ _ (hlA _)).mono ?_; rintro e w' ⟨rfl, rfl⟩) | (go_at_call 27; refine (lat_join l2 _ _ _ _ (hlA _)).mono ?_; rintro e w' ⟨rfl, ⟨d5, rfl⟩⟩) | (go_at_call 28; refine (lat_meet l2 _ _ _ _ (hlA _)).mono ?_; rintro e w' ⟨rfl, rfl⟩))
                    first
                      | (go_roundw
                         case rel =>
                           refine ⟨b + 1, by omega, by go_num, ⟨_, rfl⟩, fun y hy => ?_⟩
                           by_cases hyb : y = b
                           · rw [hyb, HB.out, q0, q1, q2, q3, q4]; rfl
                           · exact HALLB.out y (by omega)
                         case measure => simp [intOf]; omega)
                      | (go_ret2
                         refine ⟨.error 4, HMade'.out _ (fun _ => ?_) (fun h => by cases h) (.inl rfl), F4.drewN _, rfl⟩
                         simp only [Lat.good, List.all_eq_false]
                         refine ⟨a, List.mem_range.2 (by rw [HN2.out]; exact hlta), ?_⟩
                         simp only [Bool.not_eq_true, List.all_eq_false]
                         refine ⟨b, List.mem_range.2 (by rw [HN2.out]; exact hltb), ?_⟩
                         rw [HB.out, q0, q1, q2, q3, q4]; rfl)
                · have : b = l.n := by omega
                  subst this
                  go_wp2
                  go_roundw
                  case rel =>
                    refine ⟨a + 1, by omega, by go_num, ⟨_, rfl⟩, fun x hx => ?_⟩
                    by_cases hxa : x = a
                    · rw [hxa]; exact HALLB.out
                    · exact HALL.out x (by omega)
                  case measure => simp [intOf]; omega
            · have : a = l.n := by omega
              subst this
              go_wp2
              go_ret2
              refine ⟨.ok l2, HMade'.out _ (fun h => by cases h) (fun _ => ?_) (.inr rfl), F4.drewN _, _, Nat.le_refl _, hl3.drew ⟨_, rfl⟩, rfl⟩
              simp only [Lat.good, List.all_eq_true, List.mem_range, HN2.out, Bool.not_eq_eq_eq_not, Bool.not_true]
              exact HALL.out

end Go.Proofs.Ytpffcfmhiebhdaa
