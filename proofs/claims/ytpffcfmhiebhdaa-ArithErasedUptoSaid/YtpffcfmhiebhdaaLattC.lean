/- The closure of a lattice's rows, by a goto: what it leaves. -/
import Derived.Test.YtpffcfmhiebhdaaLattB
import Derived.ScopeJumps
import Derived.WalkMore
import Derived.Deep.LoopGhost
namespace Go.Proofs.Ytpffcfmhiebhdaa
open Go.RowKit

def CloseJ (W : World) (b : Nat) (l : Lat) (a' : Act) (w' : World) : Prop :=
  ∃ (l1 : Lat) (u1 u2 u3 u4 u5 u6 u7 u8 u9 u10 u11 u12 u13 u14 u15 u16 u17 u18 u19 u20 u21 u22 u23 u24 u25 u26 u27 u28 u29 u30 u31 u32 u33 u34 u35 u36 u37 u38 u39 u40 u41 u42 u43 u44 u45 u46 u47 u48 u49 u50 u51 u52 u53 u54 u55 u56 u57 u58 u59 u60 : Value), a' = { tmps := #[.pointer (some ⟨b, 0, none⟩), u1, u2, u3, u4, u5, u6, u7, u8, u9, u10, u11, u12, u13, u14, u15, u16, u17, u18, u19, u20, u21, u22, u23, u24, u25, u26, u27, u28, u29, u30, u31, u32, u33, u34, u35, u36, u37, u38, u39, u40, u41, u42, u43, u44, u45, u46, u47, u48, u49, u50, u51, u52, u53, u54, u55, u56, u57, u58, u59, u60], defers := [] } ∧ LatAt w' b l1 ∧ Frm [b] W w' ∧ ∀ l2, Lat.Closes l1 l2 → Lat.Closes l l2

def roomAt (b : Nat) (w : World) : Nat := (((List.range 16).map fun i => match w.cell? ⟨b, 1 + i, none⟩ with | some (.int _ n) => 18446744073709551616 - n.toNat | _ => 0)).sum

theorem roomAt_eq {b : Nat} {w : World} {l : Lat} (h : LatAt w b l) : roomAt b w = l.room := by
  have hl := h.wf.len
  have h1 : ((List.range 16).map fun i => match w.cell? ⟨b, 1 + i, none⟩ with | some (.int _ n) => 18446744073709551616 - n.toNat | _ => 0) = l.up.map fun x => 18446744073709551616 - x := by
    apply List.ext_getElem
    · simp [hl]
    · intro i h1 h2
      simp only [List.getElem_map, List.getElem_range]
      have hi : i < 16 := by simpa using h1
      rw [h.up_cell i hi]
      simp [List.getElem?_eq_getElem (show i < l.up.length by omega)]
  unfold roomAt Lat.room
  rw [h1]

theorem LatAt.fill {w : World} {b : Nat} {l : Lat} (h : LatAt w b l) (i j : Nat) (v : Int) (hv : v = ((l.up.getD i 0 ||| l.up.getD j 0 : Nat) : Int)) :
    LatAt (w.setCell ⟨b, 1 + i, none⟩ (.int .u64 v)) b (l.fill i j) :=
  ⟨Lat.fill_wf h.wf i j, by rw [heap_setCell_at h.blk, Lat.fill_cells, hv]⟩

theorem bits_or_row {l : Lat} (h : l.WF) (i j : Nat) : bits .or .u64 (l.up.getD i 0 : Nat) (l.up.getD j 0 : Nat) = ((l.up.getD i 0 ||| l.up.getD j 0 : Nat) : Int) :=
  u64_or_nat _ _ (Lat.getD_lt h i) (Lat.getD_lt h j)

theorem wp_scope_label {P : Program} {X : Code} {Q : Exit → Act → World → Prop} {a : Act} {w : World} (l : Nat) (J : Act → World → Prop) (μ : Act → World → Nat) (h0 : J a w)
    (pass : ∀ a w, J a w → X.wp P (Exit.jump l (fun a' w' => J a' w' ∧ μ a' w' < μ a w) Q) a w) : (Code.scope (.seq (.label l) X)).wp P Q a w := by
  refine wp_scope_jumps l J μ (rest := .seq .skip X) (by simp [findLabel]) (wp_seq (wp_label ?_)) (fun a w hJ => wp_seq (wp_skip (pass a w hJ)))
  refine wp_mono (pass a w h0) ?_
  intro e a' w' h
  cases e <;> first | exact h | exact ⟨h.1, h.2.1⟩

set_option maxHeartbeats 1000000 in
theorem lat_close (l : Lat) (b : Nat) (w : World) (hl : LatAt w b l) :
    Calls Try.prog 26 #[.pointer (some ⟨b,0,none⟩)] w fun e w' => e = .returned (.tuple #[]) ∧ ∃ l', Lat.Closes l l' ∧ LatAt w' b l' ∧ Frm [b] w w' := by
  go_enter Try.func26, Try.ntmps26
  go_wp2
  refine wp_scope_label 0 (CloseJ w b l) (fun _ w' => roomAt b w') ⟨l, _, _, _, _, _, _, _, _, _, _, _, _, _, _, _, _, _, _, _, _, _, _, _, _, _, _, _, _, _, _, _, _, _, _, _, _, _, _, _, _, _, _, _, _, _, _, _, _, _, _, _, _, _, _, _, _, _, _, _, _, rfl, hl, Frm.refl _ _, fun _ h => h⟩ ?_
  rintro a1 w1 ⟨l1, u1, u2, u3, u4, u5, u6, u7, u8, u9, u10, u11, u12, u13, u14, u15, u16, u17, u18, u19, u20, u21, u22, u23, u24, u25, u26, u27, u28, u29, u30, u31, u32, u33, u34, u35, u36, u37, u38, u39, u40, u41, u42, u43, u44, u45, u46, u47, u48, u49, u50, u51, u52, u53, u54, u55, u56, u57, u58, u59, u60, rfl, hl1, F1, H1'⟩
  have H1 := Lib.hid H1'
  clear H1'
  have hcn := hl1.n_cell
  have h16 := hl1.wf.n16
  go_wp2
  go_loopw [9] (fun i wr => ∃ k : Nat, k ≤ l1.n ∧ i = .int .i64 k ∧ Drew w1 wr ∧ l1.lackRow l1.n 0 = l1.lackRow (l1.n - k) k) (fun i _ => l1.n - (intOf i).toNat)
  case atStart => exact ⟨0, Nat.zero_le _, rfl, Drew.refl _, rfl⟩
  case round =>
    obtain ⟨k, hk, rfl, ⟨n1, rfl⟩, hall⟩ := hrel
    have HA := Lib.hid hall
    clear hall
    by_cases hlt : k < l1.n
    · have hup := hl1.up_cell k (by omega)
      have HR : Hid (l1.lackRow (l1.n - k) k = match l1.lackFrom k l1.n 0 with | some b => some (k, b) | none => l1.lackRow (l1.n - (k + 1)) (k + 1)) := by
        rw [show l1.n - k = (l1.n - (k + 1)) + 1 by omega]; rfl
      go_wp2
      go_loopw [16] (fun i wr => ∃ j : Nat, j ≤ l1.n ∧ i = .int .i64 j ∧ Drew w1 wr ∧ l1.lackFrom k l1.n 0 = l1.lackFrom k (l1.n - j) j) (fun i _ => l1.n - (intOf i).toNat)
      case atStart => exact ⟨0, Nat.zero_le _, rfl, ⟨n1, rfl⟩, rfl⟩
      case round =>
        obtain ⟨j, hj, rfl, ⟨n2, rfl⟩, hallj⟩ := hrel
        have HB := Lib.hid hallj
        clear hallj
        by_cases hltj : j < l1.n
        · have hupj := hl1.up_cell j (by omega)
          have hfz := hl1.free (1 + k)
          have HS : Hid (l1.lackFrom k (l1.n - j) j = if l1.lacks k j then some j else l1.lackFrom k (l1.n - (j + 1)) (j + 1)) := by
            rw [show l1.n - j = (l1.n - (j + 1)) + 1 by omega]; rfl
          have hor := bits_or_row hl1.wf k j
          have hbit := bit_test (l1.up.getD k 0) j (Lat.getD_lt hl1.wf k)
          have HL : Hid (l1.lacks k j = ((l1.up.getD k 0).testBit j && (l1.up.getD k 0 ||| l1.up.getD j 0) != l1.up.getD k 0)) := rfl
          have HF := Lib.hid (LatAt.fill hl1 k j)
          generalize l1.up.getD k 0 = rk at *
          generalize l1.up.getD j 0 = rj at *
          go_wp2
          go_quiet (fail)
          have hbe : (((rk ||| rj : Nat) : Int) != (rk : Int)) = ((rk ||| rj) != rk) := by
            rw [Bool.eq_iff_iff]; simp only [bne_iff_ne, ne_eq]; omega
          have HBE := Lib.hid hbe
          clear hbe
          go_wp2
          · rename_i t1 t2
            go_step3
            have hl2 := HB.out.trans (HS.out.trans (if_pos (HL.out.trans (by rw [t1, ← HBE.out, t2]; rfl))))
            have hl3 : l1.lackRow l1.n 0 = some (k, j) := by rw [HA.out, HR.out, hl2]
            refine ⟨rfl, ⟨l1.fill k j, _, _, _, _, _, _, _, _, _, _, _, _, _, _, _, _, _, _, _, _, _, _, _, _, _, _, _, _, _, _, _, _, _, _, _, _, _, _, _, _, _, _, _, _, _, _, _, _, _, _, _, _, _, _, _, _, _, _, _, _, rfl, (HF.out _ rfl).drew ⟨n2 + nq, rfl⟩, ?_, ?_⟩, ?_⟩
            · exact (F1.setCell (p := ⟨b, 1 + k, none⟩) (.inl (by simp)) _).drewN _
            · intro l2 hc
              exact H1.out _ (.step hl3 hc)
            · show roomAt b ((w1.setCell _ _).drewN _) < roomAt b w1
              rw [roomAt_eq hl1, roomAt_eq ((HF.out _ rfl).drew ⟨n2 + nq, rfl⟩)]
              exact Lat.fill_room hl1.wf k j (by omega) (HL.out.trans (by rw [t1, ← HBE.out, t2]; rfl))
          · rename_i t1 t2
            go_roundw
            case rel =>
              refine ⟨j + 1, by omega, by go_num, ⟨_, rfl⟩, ?_⟩
              rw [HB.out, HS.out, if_neg]
              rw [HL.out, t1, ← HBE.out, t2]; simp
            case measure => simp [intOf]; omega
          · rename_i t1
            go_roundw
            case rel =>
              refine ⟨j + 1, by omega, by go_num, ⟨_, rfl⟩, ?_⟩
              rw [HB.out, HS.out, if_neg]
              rw [HL.out]
              simp [t1]
            case measure => simp [intOf]; omega
        · have : j = l1.n := by omega
          subst this
          go_wp2
          go_roundw
          case rel =>
            refine ⟨k + 1, by omega, by go_num, ⟨_, rfl⟩, ?_⟩
            rw [HA.out, HR.out, HB.out]
            simp [Lat.lackFrom]
          case measure => simp [intOf]; omega
    · have : k = l1.n := by omega
      subst this
      go_wp2
      simp only [Exit.jump]
      go_end0
      exact ⟨rfl, l1, H1.out _ (.done (by rw [HA.out]; simp [Lat.lackRow])), hl1.drew ⟨_, rfl⟩, F1.drewN _⟩
end Go.Proofs.Ytpffcfmhiebhdaa
