/- The walk of LayoutPaths. -/
import Derived.Test.YtgeeicgdgncmpaaDoorE8

namespace Go.Proofs.YtgeeicgdgncmpaaDoor
open Go.RowKit
set_option linter.unusedVariables false
set_option linter.unusedSimpArgs false

def symAb (n : Nat) : SymD := ⟨{ data := #[97, 98] }, 7, 4, n, [], false, List.replicate n 0⟩
def symS : SymD := ⟨{ data := #[115] }, 8, 0, 0, [⟨{ data := #[120] }, 4⟩, ⟨{ data := #[121] }, 1⟩], false, [1, 0]⟩
theorem symAb_ok (n : Nat) (h : n ≤ 1000000) : (symAb n).Ok := ⟨(by decide : ByteArray.size { data := #[97, 98] } ≤ 1000000), Nat.zero_le _, fun f hf => by simp [symAb] at hf, by simpa [symAb] using h⟩
theorem symS_ok : symS.Ok := ⟨by decide, by decide, fun f hf => by simp [symS] at hf; rcases hf with rfl | rfl <;> decide, by decide⟩

def dg (i : Nat) : List UInt8 := (digits2 i).data.toList
def pathsAB (n : Nat) : List (List UInt8) := (List.range n).map (fun i => [97, 98, 91] ++ dg i ++ [93]) ++ [[115, 46, 120], [115, 46, 121]]

theorem symAb_count (n : Nat) (h : n ≤ 64) : (symAb n).count = n := by
  simp only [SymD.count, SymD.size, symAb, sizeOf8]
  simp
  omega
theorem symS_count : symS.count = 2 := by decide +kernel
theorem ab_cells (n : Nat) (h : n ≤ 64) : cellsOf [symAb n, symS] = (List.range n).map (symAb n).cell ++ [symS.cell 0, symS.cell 1] := by
  simp only [cellsOf, List.flatMap_cons, List.flatMap_nil, List.append_nil, SymD.cells]
  rw [symAb_count n h, symS_count]
  rfl
theorem ab_length (n : Nat) (h : n ≤ 64) : (cellsOf [symAb n, symS]).length = n + 2 := by rw [ab_cells n h]; simp
theorem ab_paths (n : Nat) (h : n ≤ 64) : pathsOf (cellsOf [symAb n, symS]) = pathsAB n := by
  rw [ab_cells n h]
  simp only [pathsOf, List.map_append, List.map_map, pathsAB]
  congr 1
theorem find_one : ∀ n : Fin 33, ∀ k : Fin 32, k.val < n.val → findL (pathsAB n.val) ([97, 98, 91] ++ dg k.val ++ [93]) 0 = ((k.val : Int), true) := by decide +kernel
theorem find_two : ∀ n : Fin 33, findL (pathsAB n.val) [115, 46, 121] 0 = ((n.val : Int) + 1, true) := by decide +kernel
theorem find_three : ∀ n : Fin 33, findL (pathsAB n.val) [97, 98] 0 = (0, false) := by decide +kernel
theorem find_four : ∀ n : Fin 33, ∀ k : Fin 32, findL (pathsAB n.val) ([97, 98, 91, 48] ++ dg k.val ++ [93]) 0 = (0, false) := by decide +kernel

set_option maxHeartbeats 4000000 in
set_option maxRecDepth 100000 in
theorem layoutPaths_walk (a0 a1 : Int) (w : World) (w0 : I64 a0) (w1 : I64 a1) :
    Calls Tryd.prog 4 #[.int .i64 a0, .int .i64 a1] w fun e w' => e = .returned (.bool true) ∧ Below w.heap.size w w' := by
  have hm0 : 0 ≤ a0 % 32 := by omega
  have hm1 : a0 % 32 < 32 := by omega
  have W1 := Lib.hid (fun u => within8_any a0 32 (by decide) (by decide) u)
  generalize a0 % 32 = m at *
  have hk0 : 0 ≤ a1 % (1 + m) := Int.emod_nonneg _ (by omega)
  have hk1 : a1 % (1 + m) < 1 + m := Int.emod_lt_of_pos _ (by omega)
  have W2 := Lib.hid (fun u => within8_any a1 (1 + m) (by omega) (by omega) u)
  generalize a1 % (1 + m) = kk at *
  obtain ⟨n, hn⟩ : ∃ n : Nat, 1 + m = (n : Int) := ⟨(1 + m).toNat, by omega⟩
  obtain ⟨k, rfl⟩ : ∃ k : Nat, kk = (k : Int) := ⟨kk.toNat, by omega⟩
  have hn32 : n ≤ 32 := by omega
  have hn1 : 1 ≤ n := by omega
  have hkn : k < n := by omega
  have HNm := Lib.hid hn
  go_enter Tryd.func4, Tryd.ntmps4
  go_wp2_with fail
  refine (known8_any _).mono ?_
  rintro e u1 ⟨rfl, hb1⟩
  have HB1 := Lib.hid hb1
  clear hb1
  go_wp2_with fail
  refine (W1.out _).mono ?_
  rintro e _ ⟨rfl, rfl⟩
  clear hn
  go_wp2_with fail
  refine (W2.out _).mono ?_
  rintro e _ ⟨rfl, rfl⟩
  have hmk := make_ints n (by omega)
  go_upto_region 5 with fail
  simp only [HNm.out]
  have hn1' : (1 : Int) ≤ n := by omega
  have hn32' : (n : Int) ≤ 32 := by omega
  have hk0' : (0 : Int) ≤ k := by omega
  have hkn' : (k : Int) < n := by omega
  clear hm0 hm1 hk0 hk1 W1 W2 HNm
  go_wp2_with fail
  refine (cells_any _ 2 2 [symAb n, symS] _ ⟨rfl, fun _ => ⟨_, 0, rfl, ?_, ?_⟩, ?_⟩ (by omega) (by omega) (by omega)).mono ?_
  · first | (simp; done) | (simp; omega)
  · intro i s hi
    have hi2 : i < 2 := by have := (List.getElem?_eq_some_iff.1 hi).1; simpa using this
    rcases (show i = 0 ∨ i = 1 by omega) with rfl | rfl
    · obtain rfl : symAb n = s := by simpa using hi
      refine ⟨none, 0, some ⟨u1.heap.size, 0, none⟩, n, ?_, ?_, ?_, ?_, ?_, ?_, ?_, Row.nil, Nat.le_refl _, by omega, ⟨by simp, fun _ => ⟨_, 0, rfl, by first | (simp; done) | (simp; omega), ?_⟩⟩, by simp [symAb], by omega⟩
      all_goals try (simp only [symAb, List.length_replicate, List.length_nil, Nat.zero_mul, Nat.add_zero, Nat.zero_add]; go_simp; done)
      intro j u hj
      have hj' : j < n := by have := (List.getElem?_eq_some_iff.1 hj).1; simpa [symAb] using this
      have hu : u = .int .i64 0 := by
        simp [symAb, hj'] at hj
        exact hj.symm
      subst hu
      refine Eq.trans ?_ (zeros_get n j hj')
      rw [Nat.zero_add]
      go_simp
    · obtain rfl : symS = s := by simpa using hi
      refine ⟨some ⟨u1.heap.size + 1, 0, none⟩, 2, some ⟨u1.heap.size + 1 + 1, 0, none⟩, 2, ?_, ?_, ?_, ?_, ?_, ?_, ?_, ⟨rfl, fun _ => ⟨_, 0, rfl, by first | (simp; done) | (simp; omega), ?_⟩⟩, by decide, by omega, ⟨rfl, fun _ => ⟨_, 0, rfl, by first | (simp; done) | (simp; omega), ?_⟩⟩, by decide, by omega⟩
      all_goals try (simp only [symS, Nat.one_mul, Nat.zero_mul, Nat.add_zero, Nat.zero_add]; go_simp; done)
      all_goals
        intro j u hj
        have hj' : j < 4 := by
          have := (List.getElem?_eq_some_iff.1 hj).1
          simp [symS, fieldRow, fieldCells] at this
          omega
        rcases (show j = 0 ∨ j = 1 ∨ j = 2 ∨ j = 3 by omega) with rfl | rfl | rfl | rfl <;> first | (simp [symS, fieldRow, fieldCells] at hj; done) | (simp [symS, fieldRow, fieldCells] at hj; subst hj; go_simp)
  · intro s hs
    simp only [List.mem_cons, List.not_mem_nil, or_false] at hs
    rcases hs with rfl | rfl
    · exact symAb_ok n (by omega)
    · exact symS_ok
  rintro e u ⟨⟨R, c, rfl, hc, hcm, hrow⟩, hb⟩
  have hlen := ab_length n (by omega)
  have hpaths := ab_paths n (by omega)
  have hget : (cellsOf [symAb n, symS])[n + 1]? = some (symS.cell 1) := by
    rw [ab_cells n (by omega), List.getElem?_append_right (by simp)]
    simp
  generalize cellsOf [symAb n, symS] = cl at *
  have HB := Lib.hid (show Below w.heap.size w u from HB1.out.trans ((((((Below.refl _ u1).alloc (Nat.le_refl _) _).alloc (by simp) _).alloc (by simp; omega) _).alloc (by simp; omega) _ |>.trans (hb.mono (by simp; omega))).mono HB1.out.size))
  have HR := Lib.hid hrow
  have HL := Lib.hid hlen
  have HP := Lib.hid hpaths
  have HG := Lib.hid hget
  have hcl := hlen
  clear hb hrow hpaths hget HB1 hmk
  rw [hlen]
  rw [hlen] at hc
  clear hlen
  have hcl' : (cl.length : Int) = n + 2 := by omega
  obtain ⟨b, off, rfl, _, hcell⟩ := HR.out.2 (by omega)
  have hx : u.cell? ⟨b, off + (n + 1) * 6 + 1, none⟩ = some (.int .i64 1) := by
    have h := hcell ((n + 1) * 6 + 1) _ ((flat_get cellCells 6 cellCells_length cl (n + 1) 1 _ HG.out (by omega)).trans rfl)
    rw [← Nat.add_assoc] at h
    exact h
  have HX := Lib.hid hx
  have HRn := Lib.hid (show Row u u.heap.size 6 (some ⟨b, off, none⟩) (n + 2) (cellRow cl) by rw [← HL.out]; exact HR.out)
  clear hcell hx
  have F : ∀ (p : ByteArray) (v : World), Row v v.heap.size 6 (some ⟨b, off, none⟩) (n + 2) (cellRow cl) → Calls Tryd.prog 11 #[.slice (some ⟨b, off, none⟩) (n + 2) c, .string p] v fun e w' => e = .returned (.tuple #[.int .i64 (findL (pathsAB n) p.data.toList 0).1, .bool (findL (pathsAB n) p.data.toList 0).2]) ∧ Below v.heap.size v w' := fun p v hv => by
    have := find_any (some ⟨b, off, none⟩) (n + 2) c cl p v hv HL.out.symm (by omega)
    rw [HP.out] at this
    exact this
  have F1 := fun (d : ByteArray) (hd : d.data.toList = dg k) (v : World) (hv : Row v v.heap.size 6 (some ⟨b, off, none⟩) (n + 2) (cellRow cl)) => F ({ data := #[97, 98, 91] } ++ d ++ { data := #[93] }) v hv
  have e1 : ∀ d : ByteArray, d.data.toList = dg k → findL (pathsAB n) (({ data := #[97, 98, 91] } ++ d ++ { data := #[93] } : ByteArray).data.toList) 0 = ((k : Int), true) := fun d hd => by
    have := find_one ⟨n, by omega⟩ ⟨k, by omega⟩ hkn
    rw [← this, ByteArray.data_append, ByteArray.data_append, Array.toList_append, Array.toList_append, hd]
  have e4 : ∀ d : ByteArray, d.data.toList = dg k → findL (pathsAB n) (({ data := #[97, 98, 91, 48] } ++ d ++ { data := #[93] } : ByteArray).data.toList) 0 = (0, false) := fun d hd => by
    have := find_four ⟨n, by omega⟩ ⟨k, by omega⟩
    rw [← this, ByteArray.data_append, ByteArray.data_append, Array.toList_append, Array.toList_append, hd]
  have e2 := find_two ⟨n, by omega⟩
  have e3 := find_three ⟨n, by omega⟩
  have FF := Lib.hid F
  have E1 := Lib.hid e1
  have E2 := Lib.hid e2
  have E3 := Lib.hid e3
  have E4 := Lib.hid e4
  clear F F1 e1 e2 e3 e4
  have hcap : (n : Int) + 2 ≤ c := by omega
  have cv := fun (W : World) (g : Nat) (q : Int) (h : W.cell? ⟨g, 0, none⟩ = some (.int .u8 q)) => run_convert_bytes_arg (P := Tryd.prog) W 40 5 Tryd.underlying40 Tryd.underlying5 g 0 1 1 [q] rfl (fun i hi => by
    obtain rfl : i = 0 := by omega
    exact h) 9 Tryd.underlying9
  have CV := Lib.hid cv
  clear cv
  go_upto_region 6 with fail
  go_cut [6] (fun v wx => v = .string (strOfNums [48 + (k : Int) % 10]) ∧ Below u.heap.size u wx)
  case first =>
    have c1 := CV.out (u.alloc (.cells #[.int .u8 (48 + (k : Int) % 10)] 5)) u.heap.size (48 + (k : Int) % 10) (by go_simp)
    generalize strOfNums [48 + (k : Int) % 10] = D at *
    go_wp2
    go_meet
    exact ⟨rfl, (Below.refl _ _).alloc (Nat.le_refl _) _⟩
  case rest =>
  obtain ⟨rfl, hbu⟩ := hcut
  have HBU := Lib.hid hbu
  have hzu := hbu.size
  clear hbu
  go_upto_if 43 with fail
  go_cut [6] (fun v wx => ∃ d : ByteArray, v = .string d ∧ d.data.toList = dg k ∧ Below u.heap.size wc wx)
  case first =>
    by_cases h10 : k < 10
    · have h10' : (k : Int) < 10 := by omega
      have HD := Lib.hid (show (strOfNums [48 + (k : Int) % 10]).data.toList = dg k by
        rw [strOfNums_data]
        simp only [dg, digits2, if_pos h10, List.map_cons, List.map_nil]
        rw [show (48 + (k : Int) % 10).toNat = 48 + k by omega])
      generalize strOfNums [48 + (k : Int) % 10] = D at *
      go_wp2
      go_meet
      exact ⟨D, rfl, HD.out, Below.refl _ _⟩
    · have h10' : (10 : Int) ≤ k := by omega
      have c1 := CV.out (wc.alloc (.cells #[.int .u8 (48 + (k : Int) / 10)] 5)) wc.heap.size (48 + (k : Int) / 10) (by go_simp)
      have HD := Lib.hid (show (strOfNums [48 + (k : Int) / 10] ++ strOfNums [48 + (k : Int) % 10]).data.toList = dg k by
        rw [ByteArray.data_append, Array.toList_append, strOfNums_data, strOfNums_data]
        simp only [dg, digits2, if_neg h10, List.map_cons, List.map_nil]
        rw [show (48 + (k : Int) / 10).toNat = 48 + k / 10 by omega, show (48 + (k : Int) % 10).toNat = 48 + k % 10 by omega]
        rfl)
      have z0 : ((strOfNums [48 + (k : Int) % 10]).size : Int) = 1 := by rw [strOfNums_size]; rfl
      have z1 : ((strOfNums [48 + (k : Int) / 10]).size : Int) = 1 := by rw [strOfNums_size]; rfl
      generalize strOfNums [48 + (k : Int) % 10] = D at *
      generalize strOfNums [48 + (k : Int) / 10] = D1 at *
      go_wp2
      go_meet
      exact ⟨_, rfl, HD.out, (Below.refl _ _).alloc hzu _⟩
  case rest =>
  obtain ⟨d, rfl, hd, hbd⟩ := hcut
  generalize hwd : wc = v at *
  clear hwd
  have HBV := Lib.hid (Below.trans HBU.out hbd)
  have hzv : u.heap.size ≤ v.heap.size := HBV.out.size
  have HRv := Lib.hid ((HRn.out.below HBV.out).more hzv)
  have hds : d.size ≤ 2 := by
    have : d.size = d.data.toList.length := by rw [Array.length_toList]; rfl
    rw [this, hd]
    have := digits2_size k
    exact this
  have hds' : (d.size : Int) ≤ 2 := by omega
  have F1 := FF.out ({ data := #[97, 98, 91] } ++ d ++ { data := #[93] })
  rw [E1.out d hd] at F1
  have F2 := FF.out { data := #[115, 46, 121] }
  rw [show ({ data := #[115, 46, 121] } : ByteArray).data.toList = [115, 46, 121] from rfl, E2.out] at F2
  have F3 := FF.out { data := #[97, 98] }
  rw [show ({ data := #[97, 98] } : ByteArray).data.toList = [97, 98] from rfl, E3.out] at F3
  have F4 := FF.out ({ data := #[97, 98, 91, 48] } ++ d ++ { data := #[93] })
  rw [E4.out d hd] at F4
  have HF1 := Lib.hid F1
  have HF2 := Lib.hid F2
  have HF3 := Lib.hid F3
  have HF4 := Lib.hid F4
  clear F1 F2 F3 F4 hbd E1 E2 E3 E4 FF CV HP HL HG hd
  go_wp2_with fail
  refine (HF1.out _ HRv.out).mono ?_
  rintro e v1 ⟨rfl, hb1⟩
  have HR1 := Lib.hid ((HRv.out.below hb1).more hb1.size)
  have HB1 := Lib.hid hb1
  have hz1 := hb1.size
  clear hb1
  go_wp2_with fail
  refine (HF2.out _ HR1.out).mono ?_
  rintro e v2 ⟨rfl, hb2⟩
  have HR2 := Lib.hid ((HR1.out.below hb2).more hb2.size)
  have HB2 := Lib.hid (HB1.out.trans (hb2.mono hz1))
  have hz2 := HB2.out.size
  clear hb2
  go_wp2_with fail
  refine (HF3.out _ HR2.out).mono ?_
  rintro e v3 ⟨rfl, hb3⟩
  have HR3 := Lib.hid ((HR2.out.below hb3).more hb3.size)
  have HB3 := Lib.hid (HB2.out.trans (hb3.mono hz2))
  have hz3 := HB3.out.size
  clear hb3
  go_wp2_with fail
  refine (HF4.out _ HR3.out).mono ?_
  rintro e v4 ⟨rfl, hb4⟩
  have HB4 := Lib.hid (HB3.out.trans (hb4.mono hz3))
  clear hb4
  have hbb : b < u.heap.size := by
    obtain ⟨b', off', h, h', _⟩ := HRn.out.2 (by omega)
    obtain ⟨rfl, rfl⟩ : b = b' ∧ off = off' := by simpa using h
    exact h'
  have hx := (dcell (HBV.out.trans (HB4.out.mono hzv)) hbb (off + (n + 1) * 6 + 1)).trans HX.out
  have HBB := Lib.hid (HB.out.trans ((HBV.out.trans (HB4.out.mono hzv)).mono HB.out.size))
  clear HBV HB4 HR3 HR2 HR1 HRv HF1 HF2 HF3 HF4 hds hds'
  go_wp2
  all_goals go_ret
  all_goals exact ⟨rfl, HBB.out⟩
end Go.Proofs.YtgeeicgdgncmpaaDoor
