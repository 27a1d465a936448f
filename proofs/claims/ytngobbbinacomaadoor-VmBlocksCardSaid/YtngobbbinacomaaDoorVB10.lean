/- Chapter 10: a number taken. -/
import Derived.Test.YtngobbbinacomaaDoorVA10
namespace Go.Proofs.YtngobbbinacomaaDoor.c10
open Go.Proofs.YtngobbbinacomaaDoor
open Go.RowKit
set_option linter.unusedVariables false

theorem wrap_u64 (v : Int) (h0 : 0 ≤ v) (h1 : v < 18446744073709551616) : IntKind.u64.wrap v = v := by
  simp [IntKind.wrap, IntKind.bits, IntKind.signed]
  omega

set_option maxHeartbeats 4000000 in
theorem number_any (b g off len cap p : Nat) (z : Nat → Int) (w : World) (hgb : g ≠ b) (hp1 : p + 8 ≤ len) (hl : (len : Int) ≤ 4611686018427387904) (hz : ∀ i, i < len → 0 ≤ z i ∧ z i < 256)
    (hs : Src b (.slice (some ⟨g, off, none⟩) len cap) p w) (kv : ∀ i, i < len → w.cell? ⟨g, off + i, none⟩ = some (.int .u8 (z i))) :
    Calls Tryd.prog 92 #[.pointer (some ⟨b, 0, none⟩)] w fun e w' => e = .returned (.int .i64 (wrap64 (numK z p 8))) ∧ Src b (.slice (some ⟨g, off, none⟩) len cap) (p + 8) w' ∧ Only b w w' := by
  have HS := Lib.hid hs
  have KV := Lib.hid kv
  have HZ := Lib.hid hz
  clear hs kv hz
  go_enter Tryd.func92, Tryd.ntmps92
  go_wp2_with fail
  go_loopw [3, 5] (fun u i wr => ∃ k : Nat, k ≤ 8 ∧ i = .int .i64 k ∧ u = .int .u64 (numK z p k) ∧ Src b (.slice (some ⟨g, off, none⟩) len cap) (p + k) wr ∧ Only b w wr) (fun _ i _ => 8 - (intOf i).toNat)
  case atStart => exact ⟨0, by omega, rfl, rfl, by simpa using HS.out, Only.refl _ _⟩
  case round =>
    obtain ⟨k, hk, rfl, rfl, hs, ho⟩ := hrel
    by_cases hlt : k < 8
    · have hv := HZ.out (p + k) (by omega)
      have hc : wr.cell? ⟨g, off + ((p : Int) + k).toNat, none⟩ = some (.int .u8 (z (p + k))) := by
        rw [ho.cell (by exact hgb), ← KV.out (p + k) (by omega)]
        have : ((p : Int) + k).toNat = p + k := by omega
        rw [this]
      have C := Lib.hid (byte_any b g off len cap (p + k) (z (p + k)) wr hgb (by omega) (by omega) hl hv.1 hv.2 hs hc)
      have hw1 := wrap_u64 (z (p + k)) hv.1 (by omega)
      have hk8 : wrap64 (8 * (k : Int)) = 8 * k := IntWalk.wrap64_in _ ⟨by omega, by omega⟩
      have hk9 : (8 * (k : Int)).toNat = 8 * k := by omega
      have HO := Lib.hid ho
      have hlt' : (k : Int) < 8 := by omega
      have hk0 : (0 : Int) ≤ 8 * k := by omega
      clear hs hc ho
      go_wp2_with fail
      refine C.out.mono ?_
      rintro e u ⟨rfl, hs, ho⟩
      have HS' := Lib.hid hs
      have HO' := Lib.hid (HO.out.trans ho)
      clear hs ho
      go_wp2
      go_roundw
      case rel => 
        refine ⟨k + 1, by omega, by go_num, ?_, by have := HS'.out; rw [show ((p : Int) + (k + 1 : Nat)) = p + k + 1 by omega]; exact this, HO'.out⟩
        simp [numK, *]
      case measure => simp [intOf]; omega
    · have : k = 8 := by omega
      subst this
      clear hlt
      have HS' := Lib.hid hs
      have HO' := Lib.hid ho
      clear hs ho
      go_wp2
      go_ret
      exact ⟨rfl, HS'.out, HO'.out⟩
end Go.Proofs.YtngobbbinacomaaDoor.c10
