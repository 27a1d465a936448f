/- Chapter 10: Bytes. -/
import Derived.Test.YtpojffgppejhcaaR10
import Derived.Test.YtpojffgppejhcaaP10
namespace Go.Proofs.Ytpojffgppejhcaa
open Go.RowKit
set_option linter.unusedVariables false
set_option linter.unusedSimpArgs false

theorem u8_mod (x : Int) : IntKind.u8.wrap x = x % 256 := by simp [IntKind.wrap, IntKind.bits, IntKind.signed]

/-- Bytes as cells. -/
def u8s (ys : List Int) : List Value := ys.map (Value.int .u8)
theorem u8s_one (ys : List Int) : ∀ u ∈ u8s ys, u.oneCell' = true := by
  intro u hu
  simp only [u8s, List.mem_map] at hu
  obtain ⟨y, _, rfl⟩ := hu
  rfl
theorem u8s_length (ys : List Int) : (u8s ys).length = ys.length := by simp [u8s]
theorem u8s_app (ys zs : List Int) : u8s (ys ++ zs) = u8s ys ++ u8s zs := by simp [u8s]

theorem one_cell {w : World} {b : Nat} {x : Int} (h : w.cell? ⟨b, 0, none⟩ = some (.int .u8 x)) : ∀ j u, (u8s [x])[j]? = some u → w.cell? ((⟨b, 0, none⟩ : Addr).add j) = some u := by
  intro j u hj
  have hj' : j < 1 := by have := (List.getElem?_eq_some_iff.1 hj).1; simpa [u8s] using this
  obtain rfl : j = 0 := by omega
  rw [Addr.add_lit]
  simp [u8s] at hj
  subst hj
  exact h
theorem add_block (x : Addr) (j : Nat) : (x.add j).block = x.block := by
  simp only [Addr.add]
  split <;> rfl

theorem grown_below {B : Nat} {a w w' : World} {base : Nat} {e : TypeId} {size n : Nat} {v : Value} {xs : List Value} (h : Below B a w) (ho : w.ownsRow base e size v n xs) (hg : w.grownBy w' v.ownBlock) (hB : B ≤ base) (hs : B ≤ w.heap.size) : Below B a w' :=
  h.grown hg hs (fun k hk => by have := (ho.lt k hk).1; omega)

theorem bclone_owned {w : World} {base : Nat} {v : Value} {n : Nat} {ys : List Int} (ho : w.ownsRow base 5 1 v n (u8s ys)) (hn : n ≤ 100000) :
    Calls Try.prog 24 #[v] w fun e w' => (∃ v, e = .returned v ∧ w'.ownsRow w.heap.size 5 1 v n (u8s ys)) ∧ Below w.heap.size w w' := by
  have hl : (u8s ys).length = n := by have := ho.1; omega
  have hc := fun g (h : v.ownBlock = some g) => ho.cells h
  obtain ⟨A, cap, rfl, h1, h2, h3⟩ := owns_cells ho
  refine bclone_any A n cap (u8s ys) w hl hn (u8s_one _) ?_ ?_
  · rintro a rfl j u hj
    have hp : 0 < n := by have := (List.getElem?_eq_some_iff.1 hj).1; omega
    obtain ⟨b, hb, _⟩ := h3 hp
    obtain rfl : a = ⟨b, 0, none⟩ := by simpa using hb
    exact hc b rfl j u hj
  · rintro rfl
    rcases Nat.eq_zero_or_pos n with h | h
    · exact h
    · obtain ⟨b, hb, _⟩ := h3 h
      cases hb

/-- The bytes of an instruction. -/
def enc (s a n : Int) : List Int :=
  s % 256 :: ((if 0 < bearsN s then [a % 256] else []) ++ (if s = 1 then (List.range 8).map (fun k => IntKind.u64.wrap n / 2 ^ (8 * k) % 256) else []))

set_option maxHeartbeats 8000000 in
theorem bytes_bare (A : Option Addr) (n cap : Nat) (ys : List Int) (a0 a1 s a N : Int) (w : World) (hl : ys.length = n) (hn : n ≤ 50000)
    (hA : ∀ x, A = some x → x.block < w.heap.size ∧ ∀ j u, (u8s ys)[j]? = some u → w.cell? (x.add j) = some u) (h0 : A = none → n = 0) (hb : bearsN s = 0) (hs : (s == 1) = false) :
    Calls Try.prog 19 #[.slice A n cap, .agg #[.int .i64 a0, .int .i64 a1, .int .i64 s, .int .i64 a, .int .i64 N]] w fun e w' =>
      (∃ v, e = .returned v ∧ w'.ownsRow w.heap.size 5 1 v (n + 1) (u8s (ys ++ [s % 256]))) ∧ Below w.heap.size w w' := by
  obtain ⟨i0, hi, hz0, hz1, hz2⟩ := info_parts byteInfo
  have t22 := byteRow
  have CC := Lib.hid (fun (W : World) (hW : Below w.heap.size w W) => bclone_any A n cap (u8s ys) W (by rw [u8s_length]; exact hl) (by omega) (u8s_one _) (fun x hx j u hj => by
    obtain ⟨h1, h2⟩ := hA x hx
    rw [hW.cell (by rw [add_block]; exact h1)]
    exact h2 j u hj) h0)
  have HL := Lib.hid hl
  clear hl hA h0
  have HNB := Lib.hid hb
  clear hb
  go_enter Try.func19, Try.ntmps19
  go_wp2_with fail
  generalize hBX : w.alloc (.cells #[.int .i64 a0, .int .i64 a1, .int .i64 s, .int .i64 a, .int .i64 N] 25) = wb at *
  have hsb : wb.heap.size = w.heap.size + 1 := by rw [← hBX]; simp
  have b2 : wb.cell? ⟨w.heap.size, 2, none⟩ = some (.int .i64 s) := by rw [← hBX]; clear hBX; go_simp
  have b3 : wb.cell? ⟨w.heap.size, 3, none⟩ = some (.int .i64 a) := by rw [← hBX]; clear hBX; go_simp
  have b4 : wb.cell? ⟨w.heap.size, 4, none⟩ = some (.int .i64 N) := by rw [← hBX]; clear hBX; go_simp
  have HWB := Lib.hid (show Below w.heap.size w wb by rw [← hBX]; exact (Below.refl _ _).alloc (Nat.le_refl _) _)
  clear hBX
  go_region_law (first
    | (refine step_append_own rfl _ _ 22 rfl (w.heap.size + 1) 5 i0 _ 1 1 t22 hi hz0 hz1 hz2 rfl (by decide) _ n (u8s ys) rfl (by first | exact HO.out | exact HO.out.alloc _) ⟨_, 0, none⟩ 1 1 (u8s [IntKind.u8.wrap s]) rfl rfl (one_cell (by go_simp)) (u8s_one _) (by unfold maxLen; omega) (by omega) (by have hq := HB.out.size; first | omega | (simp; done) | (simp; omega)) ?_; intro v' w1 hown hgrow hnil; have HB1 := Lib.hid (grown_below (B := w.heap.size + 1) (by have hq := HB.out.size; first | exact HB.out | exact HB.out.alloc (by omega) _) (by first | exact HO.out | exact HO.out.alloc _) hgrow (Nat.le_refl _) (by have hq := HB.out.size; first | omega | (simp; done) | (simp; omega))); rw [u8_mod] at hown; have HO1 := Lib.hid hown; clear hown hgrow hnil)
    | (go_simp; go_at_call 24; (with_reducible refine (CC.out _ (by repeat (first | (with_reducible exact HWB.out) | (with_reducible refine Below.drew ?_) | (with_reducible refine Below.alloc ?_ (by first | omega | (simp; done) | (simp; omega)) _)))).mono ?_); rintro e u ⟨⟨v, rfl, hown⟩, hb⟩; have HO := Lib.hid (owns_mono (base' := w.heap.size + 1) hown (by first | omega | (simp; done) | (simp; omega))); have HB := Lib.hid (show Below (w.heap.size + 1) wb u from Below.trans (by repeat (first | (with_reducible exact Below.refl _ _) | (with_reducible refine Below.drew ?_) | (with_reducible refine Below.alloc ?_ (by first | omega | (simp; done) | (simp; omega)) _))) (hb.mono (by first | omega | (simp; done) | (simp; omega)))); have k2 : u.cell? ⟨w.heap.size, 2, none⟩ = some (.int .i64 s) := (by rw [bcell HB.out (by omega)]; exact b2); (try have kq := bcell hb (b := w.heap.size + 1) (by simp; omega) 0); clear hown hb))
  all_goals (
    have k2 : w1.cell? ⟨w.heap.size, 2, none⟩ = some (.int .i64 s) := by rw [bcell HB1.out (by omega)]; exact b2
    have k3 : w1.cell? ⟨w.heap.size, 3, none⟩ = some (.int .i64 a) := by rw [bcell HB1.out (by omega)]; exact b3
    have k4 : w1.cell? ⟨w.heap.size, 4, none⟩ = some (.int .i64 N) := by rw [bcell HB1.out (by omega)]; exact b4
    go_wp2_with fail
    refine (bears_is HNB.out _).mono ?_
    rintro e _ ⟨rfl, rfl⟩
    go_wp2_with fail
    refine (bclone_owned (ys := ys ++ [s % 256]) (by rw [u8s_app]; exact HO1.out) (by omega)).mono ?_
    rintro e u2 ⟨⟨v2, rfl, hown⟩, hb2⟩
    have HO2 := Lib.hid (owns_mono (base' := w.heap.size) hown (by have := HB1.out.size; omega))
    have HB2 := Lib.hid (HWB.out.trans ((HB1.out.mono (by omega)).trans (hb2.mono (by have := HB1.out.size; omega))))
    clear hown hb2
    go_wp2
    go_ret
    exact ⟨⟨_, rfl, HO2.out⟩, HB2.out⟩)
end Go.Proofs.Ytpojffgppejhcaa
