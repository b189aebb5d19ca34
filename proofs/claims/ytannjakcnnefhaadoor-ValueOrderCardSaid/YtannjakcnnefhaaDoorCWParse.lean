import Derived.Test.YtannjakcnnefhaaDoorCShelf
import Derived.Test.YtannjakcnnefhaaDoorCW
import Derived.Test.YtannjakcnnefhaaDoorCRunes
import Derived.Test.YtannjakcnnefhaaDoorCPNum
import Derived.Test.YtannjakcnnefhaaDoorCErrAt
import Derived.Laws.RangeString
import Derived.LoopTactic
import Derived.WalkKit
import Derived.Below
import Derived.Tactics
import Derived.Tactics2
import Derived.Lib.AtoiErrMem
set_option linter.unusedVariables false
set_option linter.unusedSimpArgs false
set_option linter.unusedVariables false
namespace Go.Proofs.YtannjakcnnefhaaDoor
open Go Go.RowKit Go.Proofs.YtannjakcnnefhaaDoorW.PrintWords Go.Proofs.YtannjakcnnefhaaDoorW.PrintLast Go.Proofs.YtannjakcnnefhaaDoorW.PrintMore
theorem below_iter {w wa : World} {s : ByteArray} {pos : Nat} (h : Below w.heap.size w wa) : Below w.heap.size w (wa.iter s pos) := below_alloc h (.stringIter s pos)
theorem below_bytes (w : World) (t : Nat) (x : ByteArray) : Below w.heap.size w (Lib.bytesWorld w t x) := by
  exact Lib.bytesWorld_below w t x
theorem ret_pair {a b a' b' : Int} {k : IntKind} (h : (a, b) = (a', b')) : Ending.returned (.tuple #[.int .i64 a, .int k b]) = .returned (.tuple #[.int .i64 a', .int k b']) := by
  obtain ⟨rfl, rfl⟩ := Prod.mk.inj h
  rfl
set_option maxHeartbeats 16000000 in
set_option maxRecDepth 1000000 in
theorem text_ParseNumber_any (s : ByteArray) (w : World) (hs : s.size ≤ 281474976710656) (hE : AnErr w 8) :
    Calls Tryd.prog 40 #[.string s] w fun e w' => e = .returned (.tuple #[.int .i64 (pnum s.data.toList).1, .int .i64 (pnum s.data.toList).2]) ∧ Below w.heap.size w w' := by
  have hpn := pn_of s.data.toList
  have HE := Aside0.mk hE
  clear hE
  go_enter Tryd.func40, Tryd.ntmps40
  go_wp2_with fail
  refine (Tryd.strings_CutPrefix s ⟨#[45]⟩ w).mono ?_
  rintro e wa ⟨rfl, rfl⟩
  have e1 : (⟨#[45]⟩ : ByteArray).data.toList = [45] := rfl
  rw [e1]
  obtain ⟨T, hT⟩ : ∃ T : ByteArray, T = ⟨(Lib.trimPrefix s.data.toList [45]).toArray⟩ := ⟨_, rfl⟩
  obtain ⟨N, hN⟩ : ∃ N, N = Lib.hasPrefix s.data.toList [45] := ⟨_, rfl⟩
  rw [← hT, ← hN] at hpn ⊢
  have HP := Aside0.mk hpn
  have HS := Aside0.mk hs
  clear hT hN e1 hpn hs
  cases hl : T.toList.isEmpty with
  | true =>
    have h1 := Aside0.mk (HP.out.empty hl)
    go_wp2_with fail
    go_ret2
    exact ⟨ret_pair h1.out.symm, Below.refl _ _⟩
  | false =>
    have h0 : 0 < T.size := by
      rw [ba_list] at hl
      rcases T with ⟨⟨_ | ⟨a, r⟩⟩⟩
      · simp at hl
      · simp [ByteArray.size]
    by_cases hz : (T[0].toNat : Int) = 48 ∧ (1 < (T.size : Int) ∨ N = true)
    · have h1 := Aside0.mk (HP.out.zero h0 (by omega) (hz.2.elim (fun h => .inl (by omega)) .inr))
      obtain ⟨hz1, hz2⟩ := hz
      by_cases hc : 1 < (T.size : Int)
      · clear hz2
        go_wp2_with fail
        go_ret2
        exact ⟨ret_pair h1.out.symm, Below.refl _ _⟩
      · obtain rfl : N = true := hz2.resolve_left hc
        clear hz2
        go_wp2_with fail
        go_ret2
        exact ⟨ret_pair h1.out.symm, Below.refl _ _⟩
    · have hz' := Aside0.mk (show ¬ (T[0].toNat = 48 ∧ (1 < T.size ∨ N = true)) from fun h => hz ⟨by omega, h.2.elim (fun h => .inl (by omega)) .inr⟩)
      have hzz := hz'
      have hcase : ((T[0].toNat : Int) = 48 ∧ ¬ 1 < (T.size : Int) ∧ N = false) ∨ ¬ (T[0].toNat : Int) = 48 := by
        by_cases z1 : (T[0].toNat : Int) = 48
        · exact .inl ⟨z1, fun h => hz ⟨z1, .inl h⟩, by cases N with | true => exact absurd ⟨z1, .inr rfl⟩ hz | false => rfl⟩
        · exact .inr z1
      rcases hcase with ⟨z1, z2, rfl⟩ | z1
      all_goals
        clear hz
        go_wp2_with fail
        go_loopw [] (fun w' => ∃ pos : Nat, w' = wa.iter T pos ∧ Aside0 (∀ (j : Nat) (h : j < T.size), j < pos → 48 ≤ (T[j]'h).toNat ∧ (T[j]'h).toNat ≤ 57)) (fun w' => T.size - w'.iterPos wa.heap.size)
        case atStart => exact ⟨0, rfl, ⟨fun j _ h => absurd h (by omega)⟩⟩
        case round =>
          obtain ⟨pos, rfl, HD⟩ := hrel
          by_cases hp : pos < T.size
          · have hnx : ∀ ty, (Instr.next (.pointer (some ⟨wa.heap.size, 0, none⟩)) true ty).run Tryd.prog (wa.iter T pos) = _ := fun ty => run_next_any wa T pos ty hp
            by_cases hd : 48 ≤ (T[pos]'hp).toNat ∧ (T[pos]'hp).toNat ≤ 57
            · have ha := decode_ascii T pos hp (by omega)
              rw [ha] at hnx
              have c1 : ¬ ((T[pos]'hp).toNat : Int) < 48 := by omega
              have c2 : ¬ 57 < ((T[pos]'hp).toNat : Int) := by omega
              have HD2 : Aside0 (∀ (j : Nat) (h : j < T.size), j < pos + 1 → 48 ≤ (T[j]'h).toNat ∧ (T[j]'h).toNat ≤ 57) := ⟨fun j h hj => by
                by_cases e : j = pos
                · subst e; exact hd
                · exact HD.out j h (by omega)⟩
              clear ha hd HD
              go_wp2_with fail
              go_roundw
              case rel => exact ⟨pos + 1, rfl, HD2⟩
              case measure =>
                simp
                omega
            · have hb := Aside0.mk (HP.out.bad pos hp hd)
              obtain ⟨d, hdd⟩ : ∃ d, d = Utf8.decode T pos := ⟨_, rfl⟩
              have hr : d.1 < 48 ∨ 57 < d.1 := by
                rw [hdd]
                by_cases ha : (T[pos]'hp).toNat < 128
                · rw [decode_ascii T pos hp ha]
                  simp only
                  omega
                · have := (decode_high T pos hp (by omega)).1
                  omega
              rw [← hdd] at hnx
              clear hdd hd
              rcases hr with hr | hr
              · have c1 : ((d.1 : Nat) : Int) < 48 := by omega
                go_wp2_with fail
                go_ret2
                exact ⟨ret_pair hb.out.symm, below_iter (Below.refl _ _)⟩
              · have c1 : ¬ ((d.1 : Nat) : Int) < 48 := by omega
                have c2 : 57 < ((d.1 : Nat) : Int) := by omega
                go_wp2_with fail
                go_ret2
                exact ⟨ret_pair hb.out.symm, below_iter (Below.refl _ _)⟩
          · have hnx : ∀ ty, (Instr.next (.pointer (some ⟨wa.heap.size, 0, none⟩)) true ty).run Tryd.prog (wa.iter T pos) = _ := fun ty => run_next_end wa T pos ty hp
            have HG := Aside0.mk (HP.out.good h0 hz'.out (fun j h => HD.out j h (by omega)))
            have HB0 := Aside0.mk (show Below wa.heap.size wa (wa.iter T pos) from below_iter (Below.refl _ _))
            have HE2 := Aside0.mk (HE.out.below HB0.out)
            clear HP HD hz' hzz
            rcases HG.out with ⟨v, hv, h⟩ | ⟨hv, h⟩
            · go_wp2_with fail
              refine (Tryd.strconv_Atoi_ok s (by have := HS.out; omega) v hv _).mono ?_
              rintro e w1 ⟨rfl, hw⟩
              have HB := Aside0.mk (show Below wa.heap.size wa w1 by
                rcases hw with rfl | ⟨t, rfl⟩
                · exact HB0.out
                · exact below_step HB0.out (below_bytes _ _ _))
              clear hw hv HG
              rcases h with ⟨h1, h2, h3⟩ | ⟨h1, h3⟩
              · have H3 := Aside0.mk h3
                have c1 : ¬ v < -1099511627776 := by omega
                have c2 : ¬ 1099511627776 < v := by omega
                clear h3 h1 h2
                go_wp2_with fail
                go_ret2
                exact ⟨ret_pair H3.out.symm, HB.out⟩
              · have H3 := Aside0.mk h3
                clear h3
                by_cases c1 : v < -1099511627776
                · clear h1
                  go_wp2_with fail
                  go_ret2
                  exact ⟨ret_pair H3.out.symm, HB.out⟩
                · have c2 : 1099511627776 < v := by omega
                  clear h1
                  go_wp2_with fail
                  go_ret2
                  exact ⟨ret_pair H3.out.symm, HB.out⟩
            · have H3 := Aside0.mk h
              clear h HG
              obtain ⟨ev, he1, he2⟩ := HE2.out
              go_wp2_with fail
              refine (Tryd.strconv_Atoi_range s HS.out hv ev _ he1 he2).mono ?_
              rintro e w1 ⟨N1, rfl, -, -, hb⟩
              have HB := Aside0.mk (below_step HB0.out hb)
              clear hb hv he1 he2
              go_wp2_with fail
              go_ret2
              exact ⟨ret_pair H3.out.symm, HB.out⟩
end Go.Proofs.YtannjakcnnefhaaDoor
