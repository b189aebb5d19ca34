import Derived.Test.YtefglphdiimhnaaDoorPSum
set_option linter.unusedVariables false
set_option linter.unusedSimpArgs false
namespace Go.Proofs.YtefglphdiimhnaaDoor.Plain
open Go Go.RowKit Go.Proofs.YtefglphdiimhnaaDoor.Q Go.Proofs.YtefglphdiimhnaaDoorW.PrintWords Go.Proofs.YtefglphdiimhnaaDoorW.PrintLast Go.Proofs.YtefglphdiimhnaaDoorW.PrintMore
/-- The bytes of a length, from byte d - 1 down to byte 0. -/
def lenBs (n : Int) : Nat → List Int
  | 0 => []
  | d + 1 => (shr .u64 n (8 * (d : Int))) % 256 :: lenBs n d
theorem lenBs_len (n : Int) : ∀ d, (lenBs n d).length = d
  | 0 => rfl
  | d + 1 => by rw [lenBs, List.length_cons, lenBs_len n d]
theorem lenBs_byte (n : Int) : ∀ d, ∀ x ∈ lenBs n d, 0 ≤ x ∧ x ≤ 255
  | 0 => by simp [lenBs]
  | d + 1 => by
    intro x hx
    rw [lenBs, List.mem_cons] at hx
    rcases hx with rfl | hx
    · exact ⟨by omega, by omega⟩
    · exact lenBs_byte n d x hx
def frL : List (List Int) → List Int
  | [] => []
  | f :: rs => lenBs (IntKind.u64.wrap (f.length : Int)) 8 ++ (f ++ frL rs)
theorem rdL_mid (pre rs : List (List Int)) (f : List Int) : rd_L6 (pre ++ f :: rs) (pre.length : Int) = f := by
  unfold rd_L6
  simp
theorem dig_l1 {f : List Int} {L : List (List Int)} {n i : Int} {r : Option (List Int)} {K : Nat} (hi : wrap64 (i + 1) = i + 1) : ∀ (d k : Nat) (out : List Int), d ≤ 8 → out.length + d + f.length < 140737488355328 → 
    (∀ k, K ≤ k → digest_Frame.l0 k (out ++ (lenBs (IntKind.u64.wrap (f.length : Int)) d ++ f)) L n (i + 1) = r) → K + d + 1 ≤ k → digest_Frame.l1 k out f ((d : Int) - 1) L n i = r := by
  intro d
  induction d with
  | zero =>
    intro k out hd hl hT hk
    obtain ⟨k, rfl⟩ : ∃ k', k = k' + 1 := ⟨k - 1, by omega⟩
    have c1 : ¬ (((0 : Nat) : Int) - 1 ≥ 0) := by omega
    have c2 : out.length + f.length < 140737488355328 := by omega
    rw [digest_Frame.l1]
    simp only [if_neg c1, if_pos c2, hi]
    have := hT k (by omega)
    simpa only [lenBs, List.nil_append] using this
  | succ d ih =>
    intro k out hd hl hT hk
    obtain ⟨k, rfl⟩ : ∃ k', k = k' + 1 := ⟨k - 1, by omega⟩
    have e : ((d + 1 : Nat) : Int) - 1 = (d : Int) := by omega
    have c1 : (d : Int) ≥ 0 := by omega
    have c2 : 0 ≤ 8 * (d : Int) := by omega
    have c3 : out.length < 140737488355328 := by omega
    have b2 : -9223372036854775808 ≤ 8 * (d : Int) ∧ 8 * (d : Int) ≤ 9223372036854775807 := by omega
    have b3 : -9223372036854775808 ≤ (d : Int) - 1 ∧ (d : Int) - 1 ≤ 9223372036854775807 := by omega
    have hlen : (out ++ [(shr .u64 (IntKind.u64.wrap (f.length : Int)) (8 * (d : Int))) % 256]).length + d + f.length < 140737488355328 := by rw [List.length_append, List.length_singleton]; omega
    have hrec := ih k (out ++ [(shr .u64 (IntKind.u64.wrap (f.length : Int)) (8 * (d : Int))) % 256]) (by omega) hlen (fun k' hk' => by
      have := hT k' hk'
      rw [lenBs, List.cons_append] at this
      rw [List.append_assoc, List.singleton_append]
      exact this) (by omega)
    have h8 : wrap64 (8 * (d : Int)) = 8 * (d : Int) := w64' b2.1 b2.2
    have h1 : wrap64 ((d : Int) - 1) = (d : Int) - 1 := w64' b3.1 b3.2
    rw [e, digest_Frame.l1]
    simp only [if_pos c1, h8, if_pos c2, if_pos c3, h1]
    exact hrec
theorem dig_l0 : ∀ (rs pre : List (List Int)) (k : Nat) (out : List Int), out.length + (frL rs).length < 140737488355328 → pre.length + rs.length ≤ 1000 → 10 * rs.length + 1 ≤ k →
    digest_Frame.l0 k out (pre ++ rs) ((pre ++ rs).length : Int) (pre.length : Int) = some (out ++ frL rs) := by
  intro rs
  induction rs with
  | nil =>
    intro pre k out hl hp hk
    obtain ⟨k, rfl⟩ : ∃ k', k = k' + 1 := ⟨k - 1, by omega⟩
    rw [digest_Frame.l0, if_neg (by simp)]
    simp [frL]
  | cons f rs ih =>
    intro pre k out hl hp hk
    simp only [List.length_cons] at hp hk
    obtain ⟨k, rfl⟩ : ∃ k', k = k' + 1 := ⟨k - 1, by omega⟩
    have hfl : (frL (f :: rs)).length = 8 + f.length + (frL rs).length := by
      rw [frL, List.length_append, lenBs_len, List.length_append]; omega
    have c1 : (pre.length : Int) < ((pre ++ f :: rs).length : Int) := by simp; omega
    have c2 : 0 ≤ (pre.length : Int) := by omega
    have b3 : -9223372036854775808 ≤ (pre.length : Int) + 1 ∧ (pre.length : Int) + 1 ≤ 9223372036854775807 := by omega
    have e1 : (pre.length : Int) + 1 = ((pre ++ [f]).length : Int) := by simp
    have e2 : pre ++ f :: rs = (pre ++ [f]) ++ rs := by simp
    have hrec := dig_l1 (f := f) (L := pre ++ f :: rs) (n := ((pre ++ f :: rs).length : Int)) (i := (pre.length : Int)) (r := some (out ++ frL (f :: rs))) (K := 10 * rs.length + 1) (w64' b3.1 b3.2) 8 k out (by omega) (by omega) (fun k' hk' => by
      have hi := ih (pre ++ [f]) k' (out ++ (lenBs (IntKind.u64.wrap (f.length : Int)) 8 ++ f)) (by rw [List.length_append, List.length_append, lenBs_len]; omega) (by simp; omega) hk'
      rw [← e2, ← e1] at hi
      rw [hi, frL]
      simp) (by omega)
    rw [digest_Frame.l0]
    simp only [if_pos c1, if_pos c2, rdL_mid]
    exact hrec
theorem ref_f1 {f : List Int} {L : List (List Int)} {i : Nat} {r : Option (List Int)} {K : Nat} (hi : i < L.length) (hL : L.length ≤ 1000) (hf : rd_L6 L (i : Int) = f) : ∀ (d k : Nat) (out : List Int), d ≤ 8 → out.length + d + f.length < 140737488355328 → 
    (∀ k, K ≤ k → flagstoneref2_Frame.l0 k L (out ++ (lenBs (IntKind.u64.wrap (f.length : Int)) d ++ f)) ((i : Int) + 1) = r) → K + d + 1 ≤ k → flagstoneref2_Frame.l1 k L out (i : Int) (IntKind.u64.wrap (f.length : Int)) (8 * ((d : Int) - 1)) = r := by
  intro d
  induction d with
  | zero =>
    intro k out hd hl hT hk
    obtain ⟨k, rfl⟩ : ∃ k', k = k' + 1 := ⟨k - 1, by omega⟩
    have c1 : ¬ (8 * (((0 : Nat) : Int) - 1) ≥ 0) := by omega
    have c2 : out.length + f.length < 140737488355328 := by omega
    have c3 : 0 ≤ (i : Int) := by omega
    have c4 : (i : Int) < (L.length : Int) := by omega
    have b3 : -9223372036854775808 ≤ (i : Int) + 1 ∧ (i : Int) + 1 ≤ 9223372036854775807 := by omega
    have h1 : wrap64 ((i : Int) + 1) = (i : Int) + 1 := w64' b3.1 b3.2
    rw [flagstoneref2_Frame.l1]
    simp only [if_neg c1, hf, if_pos c2, if_pos c3, if_pos c4, h1]
    have := hT k (by omega)
    simpa only [lenBs, List.nil_append] using this
  | succ d ih =>
    intro k out hd hl hT hk
    obtain ⟨k, rfl⟩ : ∃ k', k = k' + 1 := ⟨k - 1, by omega⟩
    have e : 8 * (((d + 1 : Nat) : Int) - 1) = 8 * (d : Int) := by omega
    have c1 : 8 * (d : Int) ≥ 0 := by omega
    have c2 : 0 ≤ 8 * (d : Int) := by omega
    have c3 : out.length < 140737488355328 := by omega
    have b2 : 8 * (d : Int) < 18446744073709551616 := by omega
    have b3 : -9223372036854775808 ≤ 8 * (d : Int) - 8 ∧ 8 * (d : Int) - 8 ≤ 9223372036854775807 ∧ 8 * (d : Int) - 8 = 8 * ((d : Int) - 1) := by omega
    have hlen : (out ++ [(shr .u64 (IntKind.u64.wrap (f.length : Int)) (8 * (d : Int))) % 256]).length + d + f.length < 140737488355328 := by rw [List.length_append, List.length_singleton]; omega
    have hrec := ih k (out ++ [(shr .u64 (IntKind.u64.wrap (f.length : Int)) (8 * (d : Int))) % 256]) (by omega) hlen (fun k' hk' => by
      have := hT k' hk'
      rw [lenBs, List.cons_append] at this
      rw [List.append_assoc, List.singleton_append]
      exact this) (by omega)
    have h8 : IntKind.u64.wrap (8 * (d : Int)) = 8 * (d : Int) := wrap_small c2 b2
    have h1 : wrap64 (8 * (d : Int) - 8) = 8 * ((d : Int) - 1) := (w64' b3.1 b3.2.1).trans b3.2.2
    rw [e, flagstoneref2_Frame.l1]
    simp only [if_pos c1, h8, if_pos c2, if_pos c3, h1]
    exact hrec
theorem ref_f0 : ∀ (rs pre : List (List Int)) (k : Nat) (out : List Int), out.length + (frL rs).length < 140737488355328 → pre.length + rs.length ≤ 1000 → 10 * rs.length + 1 ≤ k →
    flagstoneref2_Frame.l0 k (pre ++ rs) out (pre.length : Int) = some (out ++ frL rs) := by
  intro rs
  induction rs with
  | nil =>
    intro pre k out hl hp hk
    obtain ⟨k, rfl⟩ : ∃ k', k = k' + 1 := ⟨k - 1, by omega⟩
    rw [flagstoneref2_Frame.l0, if_neg (by simp)]
    simp [frL]
  | cons f rs ih =>
    intro pre k out hl hp hk
    simp only [List.length_cons] at hp hk
    obtain ⟨k, rfl⟩ : ∃ k', k = k' + 1 := ⟨k - 1, by omega⟩
    have hfl : (frL (f :: rs)).length = 8 + f.length + (frL rs).length := by
      rw [frL, List.length_append, lenBs_len, List.length_append]; omega
    have c0 : pre.length < (pre ++ f :: rs).length := by simp
    have c1 : (pre.length : Int) < ((pre ++ f :: rs).length : Int) := by omega
    have c2 : 0 ≤ (pre.length : Int) := by omega
    have hL : (pre ++ f :: rs).length ≤ 1000 := by simp; omega
    have e1 : (pre.length : Int) + 1 = ((pre ++ [f]).length : Int) := by simp
    have e2 : pre ++ f :: rs = (pre ++ [f]) ++ rs := by simp
    have hrec := ref_f1 (f := f) (L := pre ++ f :: rs) (i := pre.length) (r := some (out ++ frL (f :: rs))) (K := 10 * rs.length + 1) c0 hL (rdL_mid pre rs f) 8 k out (by omega) (by omega) (fun k' hk' => by
      have hi := ih (pre ++ [f]) k' (out ++ (lenBs (IntKind.u64.wrap (f.length : Int)) 8 ++ f)) (by rw [List.length_append, List.length_append, lenBs_len]; omega) (by simp; omega) hk'
      rw [← e2, ← e1] at hi
      rw [hi, frL]
      simp) (by omega)
    rw [flagstoneref2_Frame.l0]
    simp only [if_pos c1, if_pos c2, rdL_mid]
    exact hrec
theorem bytesOf_byte (s : ByteArray) : ∀ x ∈ bytesOf s, 0 ≤ x ∧ x ≤ 255 := by
  intro x hx
  unfold bytesOf at hx
  obtain ⟨b, _, rfl⟩ := List.mem_map.1 hx
  have := b.toNat_lt
  exact ⟨by omega, by omega⟩
theorem bytesOf_len (s : ByteArray) : (bytesOf s).length = s.size := by
  unfold bytesOf
  simp
end Go.Proofs.YtefglphdiimhnaaDoor.Plain
