import Derived.Test.YtannjakcnnefhaaGreatDoorCWParse
set_option linter.unusedVariables false
set_option linter.unusedSimpArgs false
set_option linter.unusedVariables false
namespace Go.Proofs.YtannjakcnnefhaaGreatDoor
open Go Go.RowKit Go.Proofs.YtannjakcnnefhaaGreatDoorW.PrintWords Go.Proofs.YtannjakcnnefhaaGreatDoorW.PrintLast Go.Proofs.YtannjakcnnefhaaGreatDoorW.PrintMore
/-- The digits of a text. -/
def digitsB (s : ByteArray) : ByteArray := ⟨(Lib.trimPrefix s.data.toList [45]).toArray⟩
theorem digits_minus (s : ByteArray) (h : 0 < s.size) (h1 : s[0].toNat = 45) : digitsB s = s.extract 1 s.size ∧ Lib.hasPrefix s.data.toList [45] = true := by
  have hc : s.data.toList = 45 :: s.data.toList.drop 1 := by
    have := List.drop_eq_getElem_cons (l := s.data.toList) (i := 0) (by rw [data_length]; exact h)
    rw [List.drop_zero] at this
    rw [this]
    have e : s.data.toList[0]'(by rw [data_length]; exact h) = 45 := UInt8.toNat_inj.1 h1
    rw [e]
    simp
  have hp : Lib.hasPrefix s.data.toList [45] = true := by rw [hc]; simp [Lib.hasPrefix]
  refine ⟨?_, hp⟩
  unfold digitsB Lib.trimPrefix
  rw [if_pos hp]
  apply ByteArray.ext
  apply Array.toList_inj.1
  simp
  rw [List.take_of_length_le (by rw [List.length_tail, data_length]; exact Nat.le_refl _)]
theorem digits_plain (s : ByteArray) (h : ∀ h : 0 < s.size, s[0].toNat ≠ 45) : digitsB s = s ∧ Lib.hasPrefix s.data.toList [45] = false := by
  have hp : Lib.hasPrefix s.data.toList [45] = false := by
    rcases hs : s.data.toList with _ | ⟨c, r⟩
    · rfl
    · have h0 : 0 < s.size := by rw [← data_length, hs]; simp
      have h1 := h h0
      have e : s[0] = c := by
        have : s.data.toList[0]'(by rw [hs]; simp) = c := by simp [hs]
        exact this
      rw [e] at h1
      have hb : ((45 : UInt8) == c) = false := by
        rw [beq_eq_false_iff_ne]
        intro e2
        exact h1 (by rw [← e2]; rfl)
      simp only [Lib.hasPrefix, List.isPrefixOf, hb, Bool.false_and]
  refine ⟨?_, hp⟩
  unfold digitsB Lib.trimPrefix
  rw [hp]
  apply ByteArray.ext
  simp
/-- What flagstoneref1.ParseNumber asks of the digits. -/
structure RN (s T : ByteArray) : Prop where
  bad : ∀ (j : Nat) (h : j < T.size), ¬ (48 ≤ (T[j]'h).toNat ∧ (T[j]'h).toNat ≤ 57) → pnum s.data.toList = (0, 1)
  empty : T.size = 0 → pnum s.data.toList = (0, 1)
  zero : ∀ h : 0 < T.size, (T[0]'h).toNat = 48 → (s.toList == [48]) = false → pnum s.data.toList = (0, 1)
  good : ∀ h : 0 < T.size, (∀ (j : Nat) (h : j < T.size), 48 ≤ (T[j]'h).toNat ∧ (T[j]'h).toNat ≤ 57) → ¬ ((T[0]'h).toNat = 48 ∧ (s.toList == [48]) = false) →
    (13 < T.size → pnum s.data.toList = (0, 3)) ∧ (1099511627776 < decV 0 T.data.toList → pnum s.data.toList = (0, 3)) ∧ (decV 0 T.data.toList ≤ 1099511627776 → pnum s.data.toList = (if Lib.hasPrefix s.data.toList [45] then -(decV 0 T.data.toList : Int) else decV 0 T.data.toList, 0))
theorem rn_of (s : ByteArray) : RN s (digitsB s) := by
  have hp := pn_of s.data.toList
  have hT : (digitsB s).data.toList = Lib.trimPrefix s.data.toList [45] := rfl
  have hz0 := @one_zero s.data.toList
  rw [← hT] at hz0
  have hdef : pnum s.data.toList = if (digitsB s).data.toList = [] ∨ ((digitsB s).data.toList.head? = some 48 ∧ s.data.toList ≠ [48]) ∨ (digitsB s).data.toList.all isDig = false then (0, 1)
      else if 1099511627776 < decV 0 (digitsB s).data.toList then (0, 3)
      else (if Lib.hasPrefix s.data.toList [45] then -(decV 0 (digitsB s).data.toList : Int) else decV 0 (digitsB s).data.toList, 0) := rfl
  change PN _ (digitsB s) _ at hp
  obtain ⟨T, hTT⟩ : ∃ T, T = digitsB s := ⟨_, rfl⟩
  rw [← hTT] at hp hdef hz0 ⊢
  clear hT hTT
  have hh : ∀ h : 0 < T.size, (T[0].toNat = 48 ↔ T.data.toList.head? = some 48) := fun h => by
    have e : T.data.toList = T[0] :: T.data.toList.drop 1 := by
      have := List.drop_eq_getElem_cons (l := T.data.toList) (i := 0) (by rw [data_length]; exact h)
      rwa [List.drop_zero] at this
    rw [e, List.head?_cons, Option.some.injEq]
    exact ⟨fun x => UInt8.toNat_inj.1 x, fun x => by rw [x]; rfl⟩
  have hs48 : (s.toList == [48]) = false ↔ s.data.toList ≠ [48] := by rw [ba_list, beq_eq_false_iff_ne]
  refine ⟨hp.bad, fun h => ?_, fun h h1 h2 => ?_, fun h h1 h2 => ?_⟩
  · have : T.data.toList = [] := List.eq_nil_of_length_eq_zero (by rw [data_length]; exact h)
    rw [hdef, if_pos (.inl this)]
  · rw [hdef, if_pos (.inr (.inl ⟨(hh h).1 h1, hs48.1 h2⟩))]
  · have hne : T.data.toList ≠ [] := fun e => by
      have := data_length T
      rw [e] at this
      simp at this
      omega
    have hall : T.data.toList.all isDig = true := by
      rw [List.all_eq_true]
      intro x hx
      obtain ⟨j, hj, rfl⟩ := List.mem_iff_getElem.1 hx
      rw [data_length] at hj
      exact decide_eq_true (h1 j hj)
    have hn : ¬ (T.data.toList = [] ∨ (T.data.toList.head? = some 48 ∧ s.data.toList ≠ [48]) ∨ T.data.toList.all isDig = false) := by
      rintro (e | ⟨e1, e2⟩ | e)
      · exact hne e
      · exact h2 ⟨(hh h).2 e1, hs48.2 e2⟩
      · rw [hall] at e; cases e
    rw [if_neg hn] at hdef
    refine ⟨fun h3 => ?_, fun h3 => by rw [hdef, if_pos h3], fun h3 => by rw [hdef, if_neg (by omega)]⟩
    have e : T.data.toList = T[0] :: T.data.toList.drop 1 := by
      have := List.drop_eq_getElem_cons (l := T.data.toList) (i := 0) (by rw [data_length]; exact h)
      rwa [List.drop_zero] at this
    have h48 : T[0].toNat ≠ 48 := fun h4 => by
      refine h2 ⟨h4, hs48.2 fun e5 => ?_⟩
      have h6 := hz0 ((hh h).1 h4)
      have h7 : 1 < T.data.toList.length := by rw [data_length]; omega
      exact (h6.2 (.inl h7)) e5
    have h49 := h1 0 h
    rw [hdef, if_pos]
    rw [e]
    exact decV_long _ _ (by omega) (by rw [List.length_drop, data_length]; omega)
theorem decV_bound (T : ByteArray) (k : Nat) (hk : k ≤ T.size) (h13 : T.size ≤ 13) (hd : ∀ (j : Nat) (h : j < T.size), 48 ≤ (T[j]'h).toNat ∧ (T[j]'h).toNat ≤ 57) : decV 0 (T.data.toList.take k) < 10 ^ k := by
  have hall : (T.data.toList.take k).all isDig = true := by
    rw [List.all_eq_true]
    intro x hx
    obtain ⟨j, hj, rfl⟩ := List.mem_iff_getElem.1 hx
    rw [List.length_take, data_length] at hj
    rw [List.getElem_take]
    exact decide_eq_true (hd j (by omega))
  have h := decV_small _ 0 hall
  rw [List.length_take, data_length, Nat.min_eq_left hk] at h
  omega
set_option maxHeartbeats 16000000 in
set_option maxRecDepth 1000000 in
/-- The part behind the sign. -/
theorem ref_ParseNumber_any (s : ByteArray) (w : World) (hs : s.size ≤ 9223372036854775806) :
    Calls Tryz.prog 43 #[.string s] w fun e w' => e = .returned (.tuple #[.int .i64 (pnum s.data.toList).1, .int .i64 (pnum s.data.toList).2]) ∧ Drawn0 w w' := by
  have HR := Aside0.mk (rn_of s)
  have HS := Aside0.mk hs
  obtain ⟨T, hT⟩ : ∃ T, T = digitsB s := ⟨_, rfl⟩
  obtain ⟨N, hN⟩ : ∃ N, N = Lib.hasPrefix s.data.toList [45] := ⟨_, rfl⟩
  have hcase : (∃ h : 0 < s.size, (s[0].toNat : Int) = 45 ∧ T = s.extract 1 s.size ∧ N = true) ∨ ((∀ h : 0 < s.size, ¬ (s[0].toNat : Int) = 45) ∧ s = T ∧ N = false) := by
    by_cases h : ∃ h : 0 < s.size, s[0].toNat = 45
    · obtain ⟨h0, h1⟩ := h
      have := digits_minus s h0 h1
      exact .inl ⟨h0, by omega, by rw [hT, this.1], by rw [hN, this.2]⟩
    · have := digits_plain s (fun h0 h1 => h ⟨h0, h1⟩)
      exact .inr ⟨fun h0 h1 => h ⟨h0, by omega⟩, by rw [hT, this.1], by rw [hN, this.2]⟩
  rw [← hT] at HR
  have HN := Aside0.mk hN
  clear hT hN hs
  rcases hcase with ⟨h0, h1, h2, rfl⟩ | ⟨h1, h2, rfl⟩
  · have hTb : T.size ≤ 9223372036854775806 := by rw [h2, ByteArray.size_extract]; have := HS.out; omega
    have HSZ := Aside0.mk (show (T.size : Int) < (s.size : Int) by rw [h2, ByteArray.size_extract]; omega)
    have H2 := Aside0.mk h2
    have hb0 : (1 : Int) ≤ (s.size : Int) := by omega
    clear h2
    go_enter Tryz.func43, Tryz.ntmps43
    go_wp2_with fail
    rw [← H2.out]
    go_loop [5] (fun v => ∃ k : Nat, v = .int .i64 (k : Int) ∧ k ≤ T.size ∧ Aside0 (∀ (j : Nat) (h : j < T.size), j < k → 48 ≤ (T[j]'h).toNat ∧ (T[j]'h).toNat ≤ 57)) (fun v => T.size - (intOf v).toNat)
    case atStart => exact ⟨0, rfl, by omega, ⟨fun j _ h => absurd h (by omega)⟩⟩
    case round =>
      obtain ⟨k, rfl, hk, HD⟩ := hrel
      by_cases hlt : k < T.size
      · by_cases hd : 48 ≤ (T[k]'hlt).toNat ∧ (T[k]'hlt).toNat ≤ 57
        · have c1 : ¬ ((T[k]'hlt).toNat : Int) < 48 := by omega
          have c2 : ¬ 57 < ((T[k]'hlt).toNat : Int) := by omega
          have HD2 : Aside0 (∀ (j : Nat) (h : j < T.size), j < k + 1 → 48 ≤ (T[j]'h).toNat ∧ (T[j]'h).toNat ≤ 57) := ⟨fun j h hj => by
            by_cases e : j = k
            · subst e; exact hd
            · exact HD.out j h (by omega)⟩
          clear hd HD
          go_wp2_with fail
          go_round
          case rel => exact ⟨k + 1, by go_num, by omega, HD2⟩
          case measure => simp [intOf]; omega
        · have HB := Aside0.mk (HR.out.bad k hlt hd)
          by_cases c1 : ((T[k]'hlt).toNat : Int) < 48
          · clear hd
            go_wp2_with fail
            go_ret2
            exact ⟨ret_pair HB.out.symm, Drawn0.refl _⟩
          · have c2 : 57 < ((T[k]'hlt).toNat : Int) := by omega
            clear hd
            go_wp2_with fail
            go_ret2
            exact ⟨ret_pair HB.out.symm, Drawn0.refl _⟩
      · have HD1 := Aside0.mk (show ∀ (j : Nat) (h : j < T.size), 48 ≤ (T[j]'h).toNat ∧ (T[j]'h).toNat ≤ 57 from fun j h => HD.out j h (by omega))
        clear HD
        by_cases hz : T.size = 0
        · have HB := Aside0.mk (HR.out.empty hz)
          have he : T.toList.isEmpty = true := by
            rw [ba_list]
            have : T.data.toList = [] := List.eq_nil_of_length_eq_zero (by rw [data_length]; exact hz)
            rw [this]; rfl
          clear hz
          go_wp2_with fail
          go_ret2
          exact ⟨ret_pair HB.out.symm, Drawn0.refl _⟩
        · have hpos : 0 < T.size := by omega
          have he : T.toList.isEmpty = false := by
            rw [ba_list]
            cases hh : T.data.toList with
            | nil => rw [← data_length, hh] at hpos; simp at hpos
            | cons x r => rfl
          cases hq : (s.toList == [48]) with
          | false =>
            by_cases h48 : ((T[0]'hpos).toNat : Int) = 48
            · have HB := Aside0.mk (HR.out.zero hpos (by omega) hq)
              have h48b : (((T[0]'hpos).toNat : Int) == 48) = true := by simpa using h48
              clear hz h48
              go_wp2_with fail
              go_ret2
              exact ⟨ret_pair HB.out.symm, Drawn0.refl _⟩
            · have HG := Aside0.mk (HR.out.good hpos HD1.out (fun h => h48 (by omega)))
              have h48b : (((T[0]'hpos).toNat : Int) == 48) = false := by simpa using h48
              clear hz h48
              by_cases h13 : 13 < (T.size : Int)
              · have HB := Aside0.mk (HG.out.1 (by omega))
                go_wp2_with fail
                go_ret2
                exact ⟨ret_pair HB.out.symm, Drawn0.refl _⟩
              · have H13 := Aside0.mk (show T.size ≤ 13 by omega)
                go_wp2_with fail
                go_loop [6, 7] (fun a b => ∃ k : Nat, b = .int .i64 (k : Int) ∧ k ≤ T.size ∧ a = .int .i64 ((decV 0 (T.data.toList.take k) : Nat) : Int)) (fun _ b => T.size - (intOf b).toNat)
                case atStart => exact ⟨0, rfl, by omega, rfl⟩
                case round =>
                  obtain ⟨k, rfl, hk, rfl⟩ := hrel
                  have hbd := decV_bound T k hk H13.out HD1.out
                  have hp13 : 10 ^ k ≤ 10 ^ 13 := Nat.pow_le_pow_right (by omega) (by have := H13.out; omega)
                  by_cases hlt : k < T.size
                  · have HSN := Aside0.mk (show decV 0 (T.data.toList.take (k + 1)) = decV 0 (T.data.toList.take k) * 10 + ((T[k]'hlt).toNat - 48) by rw [List.take_succ_eq_append_getElem (by rw [data_length]; exact hlt), decV_snoc]; rfl)
                    obtain ⟨d1, d2⟩ := HD1.out k hlt
                    have d1' : (48 : Int) ≤ ((T[k]'hlt).toNat : Int) := by omega
                    have d2' : ((T[k]'hlt).toNat : Int) ≤ 57 := by omega
                    obtain ⟨D, hD⟩ : ∃ D, D = decV 0 (T.data.toList.take k) := ⟨_, rfl⟩
                    rw [← hD] at hbd ⊢
                    have HDD := Aside0.mk hD
                    have hb2 : (D : Int) ≤ 10000000000000 := by omega
                    have hb3 : (0 : Int) ≤ (D : Int) := by omega
                    clear hD hbd hp13 d1 d2
                    go_wp2_with fail
                    go_round
                    case rel => exact ⟨k + 1, by go_num, by omega, by rw [HSN.out, ← HDD.out]; go_num⟩
                    case measure => simp [intOf]; omega
                  · have HT := Aside0.mk (show T.data.toList.take k = T.data.toList from List.take_of_length_le (by rw [data_length]; omega))
                    rw [HT.out] at hbd ⊢
                    obtain ⟨D, hD⟩ : ∃ D, D = decV 0 T.data.toList := ⟨_, rfl⟩
                    rw [← hD] at hbd ⊢
                    have HG2 := Aside0.mk (show _ ∧ _ from HG.out.2)
                    rw [← hD] at HG2
                    have hb2 : (D : Int) ≤ 10000000000000 := by omega
                    have hb3 : (0 : Int) ≤ (D : Int) := by omega
                    clear hD hbd hp13
                    by_cases hbig : 1099511627776 < (D : Int)
                    · have HB := Aside0.mk (HG2.out.1 (by omega))
                      clear HG HG2
                      go_wp2_with fail
                      go_ret2
                      exact ⟨ret_pair HB.out.symm, Drawn0.refl _⟩
                    · have HB := Aside0.mk (HG2.out.2 (by omega))
                      rw [← HN.out] at HB
                      clear HG HG2
                      have hsz : (T.size : Int) < (s.size : Int) := HSZ.out
                      go_wp2_with fail
                      go_ret2
                      exact ⟨ret_pair (by rw [HB.out]; rfl), Drawn0.refl _⟩
          | true =>
            have HG := Aside0.mk (HR.out.good hpos HD1.out (fun h => by rw [hq] at h; exact absurd h.2 (by decide)))
            clear hz
            by_cases h48 : ((T[0]'hpos).toNat : Int) = 48
            · have h48b : (((T[0]'hpos).toNat : Int) == 48) = true := by simpa using h48
              clear h48
              by_cases h13 : 13 < (T.size : Int)
              · have HB := Aside0.mk (HG.out.1 (by omega))
                go_wp2_with fail
                go_ret2
                exact ⟨ret_pair HB.out.symm, Drawn0.refl _⟩
              · have H13 := Aside0.mk (show T.size ≤ 13 by omega)
                go_wp2_with fail
                go_loop [6, 7] (fun a b => ∃ k : Nat, b = .int .i64 (k : Int) ∧ k ≤ T.size ∧ a = .int .i64 ((decV 0 (T.data.toList.take k) : Nat) : Int)) (fun _ b => T.size - (intOf b).toNat)
                case atStart => exact ⟨0, rfl, by omega, rfl⟩
                case round =>
                  obtain ⟨k, rfl, hk, rfl⟩ := hrel
                  have hbd := decV_bound T k hk H13.out HD1.out
                  have hp13 : 10 ^ k ≤ 10 ^ 13 := Nat.pow_le_pow_right (by omega) (by have := H13.out; omega)
                  by_cases hlt : k < T.size
                  · have HSN := Aside0.mk (show decV 0 (T.data.toList.take (k + 1)) = decV 0 (T.data.toList.take k) * 10 + ((T[k]'hlt).toNat - 48) by rw [List.take_succ_eq_append_getElem (by rw [data_length]; exact hlt), decV_snoc]; rfl)
                    obtain ⟨d1, d2⟩ := HD1.out k hlt
                    have d1' : (48 : Int) ≤ ((T[k]'hlt).toNat : Int) := by omega
                    have d2' : ((T[k]'hlt).toNat : Int) ≤ 57 := by omega
                    obtain ⟨D, hD⟩ : ∃ D, D = decV 0 (T.data.toList.take k) := ⟨_, rfl⟩
                    rw [← hD] at hbd ⊢
                    have HDD := Aside0.mk hD
                    have hb2 : (D : Int) ≤ 10000000000000 := by omega
                    have hb3 : (0 : Int) ≤ (D : Int) := by omega
                    clear hD hbd hp13 d1 d2
                    go_wp2_with fail
                    go_round
                    case rel => exact ⟨k + 1, by go_num, by omega, by rw [HSN.out, ← HDD.out]; go_num⟩
                    case measure => simp [intOf]; omega
                  · have HT := Aside0.mk (show T.data.toList.take k = T.data.toList from List.take_of_length_le (by rw [data_length]; omega))
                    rw [HT.out] at hbd ⊢
                    obtain ⟨D, hD⟩ : ∃ D, D = decV 0 T.data.toList := ⟨_, rfl⟩
                    rw [← hD] at hbd ⊢
                    have HG2 := Aside0.mk (show _ ∧ _ from HG.out.2)
                    rw [← hD] at HG2
                    have hb2 : (D : Int) ≤ 10000000000000 := by omega
                    have hb3 : (0 : Int) ≤ (D : Int) := by omega
                    clear hD hbd hp13
                    by_cases hbig : 1099511627776 < (D : Int)
                    · have HB := Aside0.mk (HG2.out.1 (by omega))
                      clear HG HG2
                      go_wp2_with fail
                      go_ret2
                      exact ⟨ret_pair HB.out.symm, Drawn0.refl _⟩
                    · have HB := Aside0.mk (HG2.out.2 (by omega))
                      rw [← HN.out] at HB
                      clear HG HG2
                      have hsz : (T.size : Int) < (s.size : Int) := HSZ.out
                      go_wp2_with fail
                      go_ret2
                      exact ⟨ret_pair (by rw [HB.out]; rfl), Drawn0.refl _⟩
            · have h48b : (((T[0]'hpos).toNat : Int) == 48) = false := by simpa using h48
              clear h48
              by_cases h13 : 13 < (T.size : Int)
              · have HB := Aside0.mk (HG.out.1 (by omega))
                go_wp2_with fail
                go_ret2
                exact ⟨ret_pair HB.out.symm, Drawn0.refl _⟩
              · have H13 := Aside0.mk (show T.size ≤ 13 by omega)
                go_wp2_with fail
                go_loop [6, 7] (fun a b => ∃ k : Nat, b = .int .i64 (k : Int) ∧ k ≤ T.size ∧ a = .int .i64 ((decV 0 (T.data.toList.take k) : Nat) : Int)) (fun _ b => T.size - (intOf b).toNat)
                case atStart => exact ⟨0, rfl, by omega, rfl⟩
                case round =>
                  obtain ⟨k, rfl, hk, rfl⟩ := hrel
                  have hbd := decV_bound T k hk H13.out HD1.out
                  have hp13 : 10 ^ k ≤ 10 ^ 13 := Nat.pow_le_pow_right (by omega) (by have := H13.out; omega)
                  by_cases hlt : k < T.size
                  · have HSN := Aside0.mk (show decV 0 (T.data.toList.take (k + 1)) = decV 0 (T.data.toList.take k) * 10 + ((T[k]'hlt).toNat - 48) by rw [List.take_succ_eq_append_getElem (by rw [data_length]; exact hlt), decV_snoc]; rfl)
                    obtain ⟨d1, d2⟩ := HD1.out k hlt
                    have d1' : (48 : Int) ≤ ((T[k]'hlt).toNat : Int) := by omega
                    have d2' : ((T[k]'hlt).toNat : Int) ≤ 57 := by omega
                    obtain ⟨D, hD⟩ : ∃ D, D = decV 0 (T.data.toList.take k) := ⟨_, rfl⟩
                    rw [← hD] at hbd ⊢
                    have HDD := Aside0.mk hD
                    have hb2 : (D : Int) ≤ 10000000000000 := by omega
                    have hb3 : (0 : Int) ≤ (D : Int) := by omega
                    clear hD hbd hp13 d1 d2
                    go_wp2_with fail
                    go_round
                    case rel => exact ⟨k + 1, by go_num, by omega, by rw [HSN.out, ← HDD.out]; go_num⟩
                    case measure => simp [intOf]; omega
                  · have HT := Aside0.mk (show T.data.toList.take k = T.data.toList from List.take_of_length_le (by rw [data_length]; omega))
                    rw [HT.out] at hbd ⊢
                    obtain ⟨D, hD⟩ : ∃ D, D = decV 0 T.data.toList := ⟨_, rfl⟩
                    rw [← hD] at hbd ⊢
                    have HG2 := Aside0.mk (show _ ∧ _ from HG.out.2)
                    rw [← hD] at HG2
                    have hb2 : (D : Int) ≤ 10000000000000 := by omega
                    have hb3 : (0 : Int) ≤ (D : Int) := by omega
                    clear hD hbd hp13
                    by_cases hbig : 1099511627776 < (D : Int)
                    · have HB := Aside0.mk (HG2.out.1 (by omega))
                      clear HG HG2
                      go_wp2_with fail
                      go_ret2
                      exact ⟨ret_pair HB.out.symm, Drawn0.refl _⟩
                    · have HB := Aside0.mk (HG2.out.2 (by omega))
                      rw [← HN.out] at HB
                      clear HG HG2
                      have hsz : (T.size : Int) < (s.size : Int) := HSZ.out
                      go_wp2_with fail
                      go_ret2
                      exact ⟨ret_pair (by rw [HB.out]; rfl), Drawn0.refl _⟩
  · subst h2
    have hsb := HS.out
    by_cases h0 : 0 < s.size
    · have h45 := h1 h0
      clear h1
      go_enter Tryz.func43, Tryz.ntmps43
      go_wp2_with fail
      go_loop [5] (fun v => ∃ k : Nat, v = .int .i64 (k : Int) ∧ k ≤ s.size ∧ Aside0 (∀ (j : Nat) (h : j < s.size), j < k → 48 ≤ (s[j]'h).toNat ∧ (s[j]'h).toNat ≤ 57)) (fun v => s.size - (intOf v).toNat)
      case atStart => exact ⟨0, rfl, by omega, ⟨fun j _ h => absurd h (by omega)⟩⟩
      case round =>
        obtain ⟨k, rfl, hk, HD⟩ := hrel
        by_cases hlt : k < s.size
        · by_cases hd : 48 ≤ (s[k]'hlt).toNat ∧ (s[k]'hlt).toNat ≤ 57
          · have c1 : ¬ ((s[k]'hlt).toNat : Int) < 48 := by omega
            have c2 : ¬ 57 < ((s[k]'hlt).toNat : Int) := by omega
            have HD2 : Aside0 (∀ (j : Nat) (h : j < s.size), j < k + 1 → 48 ≤ (s[j]'h).toNat ∧ (s[j]'h).toNat ≤ 57) := ⟨fun j h hj => by
              by_cases e : j = k
              · subst e; exact hd
              · exact HD.out j h (by omega)⟩
            clear hd HD
            go_wp2_with fail
            go_round
            case rel => exact ⟨k + 1, by go_num, by omega, HD2⟩
            case measure => simp [intOf]; omega
          · have HB := Aside0.mk (HR.out.bad k hlt hd)
            by_cases c1 : ((s[k]'hlt).toNat : Int) < 48
            · clear hd
              go_wp2_with fail
              go_ret2
              exact ⟨ret_pair HB.out.symm, Drawn0.refl _⟩
            · have c2 : 57 < ((s[k]'hlt).toNat : Int) := by omega
              clear hd
              go_wp2_with fail
              go_ret2
              exact ⟨ret_pair HB.out.symm, Drawn0.refl _⟩
        · have HD1 := Aside0.mk (show ∀ (j : Nat) (h : j < s.size), 48 ≤ (s[j]'h).toNat ∧ (s[j]'h).toNat ≤ 57 from fun j h => HD.out j h (by omega))
          clear HD
          by_cases hz : s.size = 0
          · have HB := Aside0.mk (HR.out.empty hz)
            have he : s.toList.isEmpty = true := by
              rw [ba_list]
              have : s.data.toList = [] := List.eq_nil_of_length_eq_zero (by rw [data_length]; exact hz)
              rw [this]; rfl
            clear hz
            go_wp2_with fail
            go_ret2
            exact ⟨ret_pair HB.out.symm, Drawn0.refl _⟩
          · have hpos : 0 < s.size := by omega
            have he : s.toList.isEmpty = false := by
              rw [ba_list]
              cases hh : s.data.toList with
              | nil => rw [← data_length, hh] at hpos; simp at hpos
              | cons x r => rfl
            cases hq : (s.toList == [48]) with
            | false =>
              by_cases h48 : ((s[0]'hpos).toNat : Int) = 48
              · have HB := Aside0.mk (HR.out.zero hpos (by omega) hq)
                have h48b : (((s[0]'hpos).toNat : Int) == 48) = true := by simpa using h48
                clear hz h48
                go_wp2_with fail
                go_ret2
                exact ⟨ret_pair HB.out.symm, Drawn0.refl _⟩
              · have HG := Aside0.mk (HR.out.good hpos HD1.out (fun h => h48 (by omega)))
                have h48b : (((s[0]'hpos).toNat : Int) == 48) = false := by simpa using h48
                clear hz h48
                by_cases h13 : 13 < (s.size : Int)
                · have HB := Aside0.mk (HG.out.1 (by omega))
                  go_wp2_with fail
                  go_ret2
                  exact ⟨ret_pair HB.out.symm, Drawn0.refl _⟩
                · have H13 := Aside0.mk (show s.size ≤ 13 by omega)
                  go_wp2_with fail
                  go_loop [6, 7] (fun a b => ∃ k : Nat, b = .int .i64 (k : Int) ∧ k ≤ s.size ∧ a = .int .i64 ((decV 0 (s.data.toList.take k) : Nat) : Int)) (fun _ b => s.size - (intOf b).toNat)
                  case atStart => exact ⟨0, rfl, by omega, rfl⟩
                  case round =>
                    obtain ⟨k, rfl, hk, rfl⟩ := hrel
                    have hbd := decV_bound s k hk H13.out HD1.out
                    have hp13 : 10 ^ k ≤ 10 ^ 13 := Nat.pow_le_pow_right (by omega) (by have := H13.out; omega)
                    by_cases hlt : k < s.size
                    · have HSN := Aside0.mk (show decV 0 (s.data.toList.take (k + 1)) = decV 0 (s.data.toList.take k) * 10 + ((s[k]'hlt).toNat - 48) by rw [List.take_succ_eq_append_getElem (by rw [data_length]; exact hlt), decV_snoc]; rfl)
                      obtain ⟨d1, d2⟩ := HD1.out k hlt
                      have d1' : (48 : Int) ≤ ((s[k]'hlt).toNat : Int) := by omega
                      have d2' : ((s[k]'hlt).toNat : Int) ≤ 57 := by omega
                      obtain ⟨D, hD⟩ : ∃ D, D = decV 0 (s.data.toList.take k) := ⟨_, rfl⟩
                      rw [← hD] at hbd ⊢
                      have HDD := Aside0.mk hD
                      have hb2 : (D : Int) ≤ 10000000000000 := by omega
                      have hb3 : (0 : Int) ≤ (D : Int) := by omega
                      clear hD hbd hp13 d1 d2
                      go_wp2_with fail
                      go_round
                      case rel => exact ⟨k + 1, by go_num, by omega, by rw [HSN.out, ← HDD.out]; go_num⟩
                      case measure => simp [intOf]; omega
                    · have HT := Aside0.mk (show s.data.toList.take k = s.data.toList from List.take_of_length_le (by rw [data_length]; omega))
                      rw [HT.out] at hbd ⊢
                      obtain ⟨D, hD⟩ : ∃ D, D = decV 0 s.data.toList := ⟨_, rfl⟩
                      rw [← hD] at hbd ⊢
                      have HG2 := Aside0.mk (show _ ∧ _ from HG.out.2)
                      rw [← hD] at HG2
                      have hb2 : (D : Int) ≤ 10000000000000 := by omega
                      have hb3 : (0 : Int) ≤ (D : Int) := by omega
                      clear hD hbd hp13
                      by_cases hbig : 1099511627776 < (D : Int)
                      · have HB := Aside0.mk (HG2.out.1 (by omega))
                        clear HG HG2
                        go_wp2_with fail
                        go_ret2
                        exact ⟨ret_pair HB.out.symm, Drawn0.refl _⟩
                      · have HB := Aside0.mk (HG2.out.2 (by omega))
                        rw [← HN.out] at HB
                        clear HG HG2
                        go_wp2_with fail
                        go_ret2
                        exact ⟨ret_pair (by rw [HB.out]; rfl), Drawn0.refl _⟩
            | true =>
              have HG := Aside0.mk (HR.out.good hpos HD1.out (fun h => by rw [hq] at h; exact absurd h.2 (by decide)))
              clear hz
              by_cases h48 : ((s[0]'hpos).toNat : Int) = 48
              · have h48b : (((s[0]'hpos).toNat : Int) == 48) = true := by simpa using h48
                clear h48
                by_cases h13 : 13 < (s.size : Int)
                · have HB := Aside0.mk (HG.out.1 (by omega))
                  go_wp2_with fail
                  go_ret2
                  exact ⟨ret_pair HB.out.symm, Drawn0.refl _⟩
                · have H13 := Aside0.mk (show s.size ≤ 13 by omega)
                  go_wp2_with fail
                  go_loop [6, 7] (fun a b => ∃ k : Nat, b = .int .i64 (k : Int) ∧ k ≤ s.size ∧ a = .int .i64 ((decV 0 (s.data.toList.take k) : Nat) : Int)) (fun _ b => s.size - (intOf b).toNat)
                  case atStart => exact ⟨0, rfl, by omega, rfl⟩
                  case round =>
                    obtain ⟨k, rfl, hk, rfl⟩ := hrel
                    have hbd := decV_bound s k hk H13.out HD1.out
                    have hp13 : 10 ^ k ≤ 10 ^ 13 := Nat.pow_le_pow_right (by omega) (by have := H13.out; omega)
                    by_cases hlt : k < s.size
                    · have HSN := Aside0.mk (show decV 0 (s.data.toList.take (k + 1)) = decV 0 (s.data.toList.take k) * 10 + ((s[k]'hlt).toNat - 48) by rw [List.take_succ_eq_append_getElem (by rw [data_length]; exact hlt), decV_snoc]; rfl)
                      obtain ⟨d1, d2⟩ := HD1.out k hlt
                      have d1' : (48 : Int) ≤ ((s[k]'hlt).toNat : Int) := by omega
                      have d2' : ((s[k]'hlt).toNat : Int) ≤ 57 := by omega
                      obtain ⟨D, hD⟩ : ∃ D, D = decV 0 (s.data.toList.take k) := ⟨_, rfl⟩
                      rw [← hD] at hbd ⊢
                      have HDD := Aside0.mk hD
                      have hb2 : (D : Int) ≤ 10000000000000 := by omega
                      have hb3 : (0 : Int) ≤ (D : Int) := by omega
                      clear hD hbd hp13 d1 d2
                      go_wp2_with fail
                      go_round
                      case rel => exact ⟨k + 1, by go_num, by omega, by rw [HSN.out, ← HDD.out]; go_num⟩
                      case measure => simp [intOf]; omega
                    · have HT := Aside0.mk (show s.data.toList.take k = s.data.toList from List.take_of_length_le (by rw [data_length]; omega))
                      rw [HT.out] at hbd ⊢
                      obtain ⟨D, hD⟩ : ∃ D, D = decV 0 s.data.toList := ⟨_, rfl⟩
                      rw [← hD] at hbd ⊢
                      have HG2 := Aside0.mk (show _ ∧ _ from HG.out.2)
                      rw [← hD] at HG2
                      have hb2 : (D : Int) ≤ 10000000000000 := by omega
                      have hb3 : (0 : Int) ≤ (D : Int) := by omega
                      clear hD hbd hp13
                      by_cases hbig : 1099511627776 < (D : Int)
                      · have HB := Aside0.mk (HG2.out.1 (by omega))
                        clear HG HG2
                        go_wp2_with fail
                        go_ret2
                        exact ⟨ret_pair HB.out.symm, Drawn0.refl _⟩
                      · have HB := Aside0.mk (HG2.out.2 (by omega))
                        rw [← HN.out] at HB
                        clear HG HG2
                        go_wp2_with fail
                        go_ret2
                        exact ⟨ret_pair (by rw [HB.out]; rfl), Drawn0.refl _⟩
              · have h48b : (((s[0]'hpos).toNat : Int) == 48) = false := by simpa using h48
                clear h48
                by_cases h13 : 13 < (s.size : Int)
                · have HB := Aside0.mk (HG.out.1 (by omega))
                  go_wp2_with fail
                  go_ret2
                  exact ⟨ret_pair HB.out.symm, Drawn0.refl _⟩
                · have H13 := Aside0.mk (show s.size ≤ 13 by omega)
                  go_wp2_with fail
                  go_loop [6, 7] (fun a b => ∃ k : Nat, b = .int .i64 (k : Int) ∧ k ≤ s.size ∧ a = .int .i64 ((decV 0 (s.data.toList.take k) : Nat) : Int)) (fun _ b => s.size - (intOf b).toNat)
                  case atStart => exact ⟨0, rfl, by omega, rfl⟩
                  case round =>
                    obtain ⟨k, rfl, hk, rfl⟩ := hrel
                    have hbd := decV_bound s k hk H13.out HD1.out
                    have hp13 : 10 ^ k ≤ 10 ^ 13 := Nat.pow_le_pow_right (by omega) (by have := H13.out; omega)
                    by_cases hlt : k < s.size
                    · have HSN := Aside0.mk (show decV 0 (s.data.toList.take (k + 1)) = decV 0 (s.data.toList.take k) * 10 + ((s[k]'hlt).toNat - 48) by rw [List.take_succ_eq_append_getElem (by rw [data_length]; exact hlt), decV_snoc]; rfl)
                      obtain ⟨d1, d2⟩ := HD1.out k hlt
                      have d1' : (48 : Int) ≤ ((s[k]'hlt).toNat : Int) := by omega
                      have d2' : ((s[k]'hlt).toNat : Int) ≤ 57 := by omega
                      obtain ⟨D, hD⟩ : ∃ D, D = decV 0 (s.data.toList.take k) := ⟨_, rfl⟩
                      rw [← hD] at hbd ⊢
                      have HDD := Aside0.mk hD
                      have hb2 : (D : Int) ≤ 10000000000000 := by omega
                      have hb3 : (0 : Int) ≤ (D : Int) := by omega
                      clear hD hbd hp13 d1 d2
                      go_wp2_with fail
                      go_round
                      case rel => exact ⟨k + 1, by go_num, by omega, by rw [HSN.out, ← HDD.out]; go_num⟩
                      case measure => simp [intOf]; omega
                    · have HT := Aside0.mk (show s.data.toList.take k = s.data.toList from List.take_of_length_le (by rw [data_length]; omega))
                      rw [HT.out] at hbd ⊢
                      obtain ⟨D, hD⟩ : ∃ D, D = decV 0 s.data.toList := ⟨_, rfl⟩
                      rw [← hD] at hbd ⊢
                      have HG2 := Aside0.mk (show _ ∧ _ from HG.out.2)
                      rw [← hD] at HG2
                      have hb2 : (D : Int) ≤ 10000000000000 := by omega
                      have hb3 : (0 : Int) ≤ (D : Int) := by omega
                      clear hD hbd hp13
                      by_cases hbig : 1099511627776 < (D : Int)
                      · have HB := Aside0.mk (HG2.out.1 (by omega))
                        clear HG HG2
                        go_wp2_with fail
                        go_ret2
                        exact ⟨ret_pair HB.out.symm, Drawn0.refl _⟩
                      · have HB := Aside0.mk (HG2.out.2 (by omega))
                        rw [← HN.out] at HB
                        clear HG HG2
                        go_wp2_with fail
                        go_ret2
                        exact ⟨ret_pair (by rw [HB.out]; rfl), Drawn0.refl _⟩
    · have HB := Aside0.mk (HR.out.empty (by omega))
      have he : s.toList.isEmpty = true := by
        rw [ba_list]
        have : s.data.toList = [] := List.eq_nil_of_length_eq_zero (by rw [data_length]; omega)
        rw [this]; rfl
      clear h1
      go_enter Tryz.func43, Tryz.ntmps43
      go_wp2_with fail
      go_loop [5] (fun v => v = .int .i64 0) (fun v => 0)
      case atStart => exact rfl
      case round =>
        obtain rfl := hrel
        go_wp2_with fail
        go_ret2
        exact ⟨ret_pair HB.out.symm, Drawn0.refl _⟩
end Go.Proofs.YtannjakcnnefhaaGreatDoor
