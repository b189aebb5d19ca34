import Derived.Test.YtannjakcnnefhaaDoorCWValid
import Derived.Test.YtannjakcnnefhaaDoorCBuild
import Derived.Test.YtannjakcnnefhaaDoorCPQuote
set_option linter.unusedVariables false
set_option linter.unusedSimpArgs false
set_option linter.unusedVariables false
namespace Go.Proofs.YtannjakcnnefhaaDoor
open Go Go.RowKit Go.Proofs.YtannjakcnnefhaaDoorW.PrintWords Go.Proofs.YtannjakcnnefhaaDoorW.PrintLast Go.Proofs.YtannjakcnnefhaaDoorW.PrintMore
def ba (l : List UInt8) : ByteArray := ⟨l.toArray⟩
/-- The text in quotation marks, or the error. -/
def quoteR (s : ByteArray) : ByteArray × Int := if validB s then (ba (quoteL s.data.toList), 0) else (ba [], 2)
theorem take_snoc (s : ByteArray) (k : Nat) (h : k < s.size) : s.data.toList.take (k + 1) = s.data.toList.take k ++ [s[k]] := by
  rw [List.take_succ_eq_append_getElem (by simpa using h)]; rfl
set_option maxHeartbeats 16000000 in
set_option maxRecDepth 1000000 in
theorem text_Quote_any (s : ByteArray) (w : World) (hs : s.size ≤ 9223372036854775807) (hT : Lib.Utf8Tabs 4 5 w) :
    Calls Tryd.prog 32 #[.string s] w fun e w' => e = .returned (.tuple #[.string (quoteR s).1, .int .i64 (quoteR s).2]) ∧ Below w.heap.size w w' := by
  have HT := Aside0.mk hT
  clear hT
  go_enter Tryd.func32, Tryd.ntmps32
  go_wp2_with fail
  refine (text_Valid_any s w hs HT.out).mono ?_
  rintro e w1 ⟨rfl, hB⟩
  have HB := Aside0.mk hB
  clear hB
  cases hv : validB s with
  | false =>
    have HV := Aside0.mk hv
    clear hv
    go_wp2_with fail
    go_ret2
    exact ⟨by unfold quoteR; rw [HV.out]; rfl, HB.out⟩
  | true =>
    have h200 := validB_size hv
    have HV := Aside0.mk hv
    clear hv hs
    have I0 := Lib.IsBuilderF.of (Lib.fresh_isBuilder 74 5 w1)
    go_wp2_with fail
    refine (Tryd.WriteByte_k w1.heap.size w1.heap.size [] 34 _ I0 (by simp) (by simp)).mono ?_
    rintro e w2 ⟨rfl, i2, b2, -⟩
    have HI2 := Aside0.mk i2
    have HB2 := Aside0.mk b2
    clear i2 b2 I0
    go_wp2_with fail
    go_loopw [5] (fun v wr => ∃ k : Nat, v = .int .i64 (k : Int) ∧ k ≤ s.size ∧ Aside0 (Lib.BuilderAtF 74 5 w1.heap.size w1.heap.size (.pointer (some ⟨w1.heap.size, 0, none⟩)) (Lib.byteCells (34 :: escL (s.data.toList.take k))) wr ∧ Below w1.heap.size w1 wr)) (fun v _ => s.size - (intOf v).toNat)
    case atStart => exact ⟨0, rfl, by omega, ⟨HI2.out, ((Below.refl w1.heap.size w1).alloc (Nat.le_refl _) _).trans HB2.out⟩⟩
    case round =>
      obtain ⟨k, rfl, hk, HJ⟩ := hrel
      have hlen : (34 :: escL (s.data.toList.take k)).length ≤ 401 := by
        have h1 := escL_len (s.data.toList.take k)
        have h2 := List.length_take_le k s.data.toList
        simp only [List.length_cons]
        omega
      have HLen := Aside0.mk hlen
      have hsz : w1.heap.size ≤ wr.heap.size := HJ.out.2.size
      clear hlen
      by_cases hlt : k < s.size
      · have HS := Aside0.mk (show escL (s.data.toList.take (k + 1)) = escL (s.data.toList.take k) ++ escC s[k] by rw [take_snoc s k hlt, escL_append, escL, escL, List.append_nil])
        by_cases hq : (s[k].toNat : Int) = 34 ∨ (s[k].toNat : Int) = 92
        · have HE := Aside0.mk (show escC s[k] = [92, s[k]] by
            unfold escC
            rw [if_pos]
            rcases hq with h | h
            · exact .inl (UInt8.toNat_inj.1 (show s[k].toNat = 34 by omega))
            · exact .inr (UInt8.toNat_inj.1 (show s[k].toNat = 92 by omega)))
          have hq' : ((s[k].toNat : Int) == 34) = true ∨ (((s[k].toNat : Int) == 34) = false ∧ ((s[k].toNat : Int) == 92) = true) := by
            rcases hq with h | h
            · exact .inl (by rw [h]; rfl)
            · exact .inr ⟨by rw [h]; rfl, by rw [h]; rfl⟩
          clear hq
          rcases hq' with hq' | ⟨hq', hq2⟩
          all_goals
            go_wp2_with fail
            refine (Tryd.WriteByte_k w1.heap.size w1.heap.size _ 92 _ (.inr HJ.out.1) (by rw [Lib.byteCells_length]; have := HLen.out; omega) hsz).mono ?_
            rintro e w3 ⟨rfl, i3, b3, -⟩
            have HI3 := Aside0.mk i3
            have HB3 := Aside0.mk b3
            have hsz3 : w1.heap.size ≤ w3.heap.size := Nat.le_trans hsz b3.size
            clear i3 b3
            go_wp2_with fail
            refine (Tryd.WriteByte_k w1.heap.size w1.heap.size _ s[k].toNat _ (.inr HI3.out) (by rw [List.length_append, Lib.byteCells_length]; have := HLen.out; simp only [List.length_cons, List.length_nil] at *; omega) hsz3).mono ?_
            rintro e w4 ⟨rfl, i4, b4, -⟩
            have HI4 := Aside0.mk i4
            have HB4 := Aside0.mk b4
            clear i4 b4
            go_wp2_with fail
            go_roundw
            case rel =>
              refine ⟨k + 1, by go_num, by omega, ⟨?_, (HJ.out.2.trans HB3.out).trans HB4.out⟩⟩
              rw [HS.out, HE.out]
              have := HI4.out
              rw [List.append_assoc] at this
              have e2 : Lib.byteCells (34 :: (escL (s.data.toList.take k) ++ [92, s[k]])) = Lib.byteCells (34 :: escL (s.data.toList.take k)) ++ ([Value.int .u8 92] ++ [Value.int .u8 s[k].toNat]) := by
                rw [← List.cons_append, Lib.byteCells_append]
                rfl
              rw [e2]
              exact this
            case measure => simp [intOf]; omega
        · have h1 : ¬ (s[k].toNat : Int) = 34 := fun h => hq (.inl h)
          have h2 : ¬ (s[k].toNat : Int) = 92 := fun h => hq (.inr h)
          have HE := Aside0.mk (show escC s[k] = [s[k]] by
            unfold escC
            rw [if_neg]
            rintro (h | h)
            · exact h1 (by rw [h]; rfl)
            · exact h2 (by rw [h]; rfl))
          have q1 : ((s[k].toNat : Int) == 34) = false := by simpa using h1
          have q2 : ((s[k].toNat : Int) == 92) = false := by simpa using h2
          clear hq h1 h2
          go_wp2_with fail
          refine (Tryd.WriteByte_k w1.heap.size w1.heap.size _ s[k].toNat _ (.inr HJ.out.1) (by rw [Lib.byteCells_length]; have := HLen.out; omega) hsz).mono ?_
          rintro e w4 ⟨rfl, i4, b4, -⟩
          have HI4 := Aside0.mk i4
          have HB4 := Aside0.mk b4
          clear i4 b4
          go_wp2_with fail
          go_roundw
          case rel =>
            refine ⟨k + 1, by go_num, by omega, ⟨?_, HJ.out.2.trans HB4.out⟩⟩
            rw [HS.out, HE.out]
            have := HI4.out
            have e2 : Lib.byteCells (34 :: (escL (s.data.toList.take k) ++ [s[k]])) = Lib.byteCells (34 :: escL (s.data.toList.take k)) ++ [Value.int .u8 s[k].toNat] := by
              rw [← List.cons_append, Lib.byteCells_append]
              rfl
            rw [e2]
            exact this
          case measure => simp [intOf]; omega
      · have HT2 := Aside0.mk (show s.data.toList.take k = s.data.toList from List.take_of_length_le (by rw [data_length]; omega))
        go_wp2_with fail
        refine (Tryd.WriteByte_k w1.heap.size w1.heap.size _ 34 _ (.inr HJ.out.1) (by rw [Lib.byteCells_length]; have := HLen.out; omega) hsz).mono ?_
        rintro e w3 ⟨rfl, i3, b3, -⟩
        have hsz3 : w1.heap.size ≤ w3.heap.size := Nat.le_trans hsz b3.size
        have HI3 := Aside0.mk (show Lib.BuilderAtF 74 5 w1.heap.size w1.heap.size (.pointer (some ⟨w1.heap.size, 0, none⟩)) (Lib.byteCells (quoteL s.data.toList)) w3 by
          rw [HT2.out] at i3
          have e2 : Lib.byteCells (quoteL s.data.toList) = Lib.byteCells (34 :: escL s.data.toList) ++ [Value.int .u8 34] := by
            unfold quoteL
            rw [← List.cons_append, Lib.byteCells_append]
            rfl
          rw [e2]
          exact i3)
        have HB3 := Aside0.mk b3
        clear i3 b3
        go_wp2_with fail
        refine (Tryd.Builder_String_any_k w1.heap.size w1.heap.size _ _ (.inr HI3.out) hsz3).mono ?_
        rintro e w4 ⟨rfl, -, b4, -⟩
        have HB4 := Aside0.mk b4
        clear b4
        go_wp2_with fail
        go_ret2
        exact ⟨by unfold quoteR; rw [HV.out]; rfl, below_step HB.out ((HJ.out.2.trans HB3.out).trans HB4.out)⟩
end Go.Proofs.YtannjakcnnefhaaDoor
