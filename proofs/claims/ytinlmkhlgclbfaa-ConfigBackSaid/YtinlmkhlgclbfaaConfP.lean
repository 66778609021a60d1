/-
  ConfP: strings and bytes; what is encoded is decoded as it was, in the words of the contracts. No program in sight.
-/
import Derived.Test.YtinlmkhlgclbfaaDecI
namespace Go.Proofs.Ytinlmkhlgclbfaa
open Go.RowKit

theorem strOf_data (bs : List Int) : (strOf bs).data.toList = bs.map fun n => UInt8.ofNat n.toNat := by
  unfold strOf
  have key : ∀ (r : ByteArray), (bs.foldl (fun r n => r.push (UInt8.ofNat n.toNat)) r).data.toList = r.data.toList ++ bs.map fun n => UInt8.ofNat n.toNat := by
    induction bs with
    | nil => intro r; simp
    | cons x l ih => intro r; rw [List.foldl_cons, ih, ByteArray.data_push]; simp
  rw [key]
  rfl
theorem bytesOf_strOf {bs : List Int} (h : ∀ x ∈ bs, 0 ≤ x ∧ x ≤ 255) : bytesOf (strOf bs) = bs := by
  unfold bytesOf
  rw [strOf_data, List.map_map]
  conv => rhs; rw [← List.map_id bs]
  refine List.map_congr_left fun x hx => ?_
  have := h x hx
  show (((UInt8.ofNat x.toNat).toNat : Nat) : Int) = x
  rw [UInt8.toNat_ofNat']
  omega
theorem strOf_bytesOf (s : ByteArray) : strOf (bytesOf s) = s := by
  have h : (strOf (bytesOf s)).data.toList = s.data.toList := by
    rw [strOf_data]
    unfold bytesOf
    rw [List.map_map]
    conv => rhs; rw [← List.map_id s.data.toList]
    refine List.map_congr_left fun b _ => ?_
    show UInt8.ofNat ((b.toNat : Int).toNat) = b
    simp
  cases hs : s with
  | mk d =>
    rw [hs] at h
    cases hq : strOf (bytesOf ⟨d⟩) with
    | mk d' => rw [hq] at h; congr 1; exact Array.toList_inj.1 h
theorem strOf_sz (bs : List Int) : (strOf bs).size = bs.length := by
  show (strOf bs).data.size = _
  rw [← Array.length_toList, strOf_data, List.length_map]
theorem bytes_bytesOf (s : ByteArray) : Bytes (bytesOf s) := fun i hi => bytesOf_bd (by rw [bytesOf_length] at hi; exact hi)

/-- what is encoded is decoded as it was -/
theorem dec_of_enc {c : TCfg} (h : checkConfig c = 0) : decErr (encB c) = 0 ∧ decPlace (encB c) = 0 ∧ decRes (encB c) = c ∧ bytesOf (strOf (encB c)) = encB c ∧ (encB c).length ≤ 200 := by
  have ok := checkConfig_ok h
  obtain ⟨h1, h2, h3⟩ := dec_enc ok
  have hf := decFault_none.2 h1
  have e1 : decErr (encB c) = 0 := by unfold decErr; rw [if_neg (by omega), if_neg (by omega), h2]; exact h
  refine ⟨e1, ?_, ?_, bytesOf_strOf (enc_bytes ok), h3⟩
  · unfold decPlace; rw [if_neg (by omega), if_neg (by omega)]
  · unfold decRes; rw [if_pos e1, h2]
/-- and nothing else is -/
theorem enc_of_dec {s : ByteArray} (h : decErr (bytesOf s) = 0) : checkConfig (decRes (bytesOf s)) = 0 ∧ encRes (decRes (bytesOf s)) = bytesOf s := by
  have hd : decRes (bytesOf s) = decCfg (bytesOf s) := by unfold decRes; rw [if_pos h]
  rw [hd]
  have h' := h
  unfold decErr at h'
  split at h'
  · simp at h'
  split at h'
  · simp at h'
  · rename_i _ hf
    refine ⟨h', ?_⟩
    unfold encRes
    rw [if_pos h']
    exact enc_dec (bytes_bytesOf s) (decFault_none.1 (by omega))
theorem decRes_bad {bs : List Int} (h : decErr bs ≠ 0) : decRes bs = noCfg := by unfold decRes; rw [if_neg h]

def oneCfg : TCfg := ⟨1, 1, 1, 10, 4, [⟨0, 100⟩], [], [], [⟨0, 50, 40, 30⟩]⟩
theorem oneCfg_check : checkConfig oneCfg = 0 := by decide +kernel
end Go.Proofs.Ytinlmkhlgclbfaa
