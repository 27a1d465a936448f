/- Chapter 10: the document's Bytes. -/
import Derived.Test.YtngobbbinacomaaDoorQ07
import Derived.Test.YtngobbbinacomaaDoorQ04
import Derived.Deep.RegionLaw
namespace Go.Proofs.YtngobbbinacomaaDoor.c10
open Go.Proofs.YtngobbbinacomaaDoor
open Go.RowKit
set_option linter.unusedVariables false
set_option linter.unusedSimpArgs false
theorem byteInfo : (Tryd.prog.info? 5).map (fun i => (i.zero, i.size, i.bytes)) = some (some (.int .u8 0), 1, 1) := by kernel_rfl
theorem byteRow : Tryd.prog.underlying 44 = some (.slice 5) := by kernel_rfl
/-- Bytes as cells. -/
def u8s (ys : List Int) : List Value := ys.map (Value.int .u8)
theorem u8s_app (ys zs : List Int) : u8s (ys ++ zs) = u8s ys ++ u8s zs := by simp [u8s]
theorem u8s_one (ys : List Int) : ∀ u ∈ u8s ys, u.oneCell' = true := by
  intro u hu
  simp only [u8s, List.mem_map] at hu
  obtain ⟨y, _, rfl⟩ := hu
  rfl
theorem one_cellB {w : World} {b : Nat} {x : Int} (h : w.cell? ⟨b, 0, none⟩ = some (.int .u8 x)) : ∀ j u, (u8s [x])[j]? = some u → w.cell? ((⟨b, 0, none⟩ : Addr).add j) = some u := by
  intro j u hj
  have hj' : j < 1 := by have := (List.getElem?_eq_some_iff.1 hj).1; simpa [u8s] using this
  obtain rfl : j = 0 := by omega
  rw [Addr.add_lit]
  simp [u8s] at hj
  subst hj
  exact h
theorem grown_below {B : Nat} {a w w' : World} {base : Nat} {e : TypeId} {size n : Nat} {v : Value} {xs : List Value} (h : Below B a w) (ho : w.ownsRow base e size v n xs) (hg : w.grownBy w' v.ownBlock) (hB : B ≤ base) (hs : B ≤ w.heap.size) : Below B a w' :=
  h.grown hg hs (fun k hk => by have := (ho.lt k hk).1; omega)
/-- The first k bytes of a number. -/
def nb8 (N : Int) (k : Nat) : List Int := (List.range k).map (fun k => IntKind.u64.wrap N / 2 ^ (8 * k) % 256)
theorem nb8_succ (N : Int) (k : Nat) : nb8 N (k + 1) = nb8 N k ++ [IntKind.u64.wrap N / 2 ^ (8 * k) % 256] := by
  simp [nb8, List.range_succ]
theorem nb8_length (N : Int) (k : Nat) : (nb8 N k).length = k := by simp [nb8]
/-- The bytes of an instruction. -/
def encB (s a N : Int) : List Int := (s % 256) :: ((if 0 < bearsN s then [a % 256] else []) ++ (if s = 1 then nb8 N 8 else []))
theorem cell_of_heap {w : World} {g : Nat} {cs : Array Value} {T : TypeId} {fr : Nat × Nat} (h : w.heap[g]? = some (.cells cs T fr)) (j : Nat) : w.cell? ⟨g, j, none⟩ = cs[j]? := by
  simp [World.cell?, h]
/-- A row of its own is no block of another type. -/
theorem owns_other {w : World} {base : Nat} {e : TypeId} {size n : Nat} {v : Value} {xs : List Value} (ho : w.ownsRow base e size v n xs) {g : Nat} {cs : Array Value} {T : TypeId} {fr : Nat × Nat} (h : w.heap[g]? = some (.cells cs T fr)) (hT : T ≠ e) : v.ownBlock ≠ some g := by
  intro hg
  rcases ho.2 with ⟨rfl, _⟩ | ⟨g', cap, cur, rfl, _, hh, _⟩
  · simp [Value.ownBlock] at hg
  · simp [Value.ownBlock] at hg
    subst hg
    rw [hh] at h
    simp at h
    exact hT h.2.1.symm
theorem box_kept {w w' : World} {base : Nat} {e : TypeId} {size n : Nat} {v : Value} {xs : List Value} (ho : w.ownsRow base e size v n xs) (hg : w.grownBy w' v.ownBlock) {g : Nat} {cs : Array Value} {T : TypeId} {fr : Nat × Nat} (h : w.heap[g]? = some (.cells cs T fr)) (hT : T ≠ e) : w'.heap[g]? = some (.cells cs T fr) := by
  have hlt : g < w.heap.size := by
    rcases Nat.lt_or_ge g w.heap.size with h1 | h1
    · exact h1
    · rw [Array.getElem?_eq_none h1] at h; cases h
  rw [hg.block g hlt (fun e' => owns_other ho h hT e'.symm)]
  exact h
theorem heap_new (w : World) (o : Obj) : (w.alloc o).heap[w.heap.size]? = some o := by
  show (w.heap.push o)[w.heap.size]? = _
  simp
theorem heap_alloc {w : World} {g : Nat} {x : Obj} (h : w.heap[g]? = some x) (o : Obj) : (w.alloc o).heap[g]? = some x := by
  have hlt : g < w.heap.size := by
    rcases Nat.lt_or_ge g w.heap.size with h1 | h1
    · exact h1
    · rw [Array.getElem?_eq_none h1] at h; cases h
  rw [Below.heap_alloc _ _ _ hlt]
  exact h
end Go.Proofs.YtngobbbinacomaaDoor.c10

/- Chapter 10: what Bytes wrote is read. -/
namespace Go.Proofs.YtngobbbinacomaaDoor.c10
open Go.Proofs.YtngobbbinacomaaDoor
open Go.RowKit
set_option linter.unusedVariables false
set_option linter.unusedSimpArgs false
theorem encB_length (s a N : Int) : ((encB s a N).length : Int) = 1 + bearsN s := by
  rcases bearsN_ways s with ⟨h1, h2⟩ | ⟨h1, h2⟩ | ⟨h1, h2⟩
  · simp [encB, h1, h2]
  · simp [encB, h1, h2]
  · simp [encB, h2, nb8_length, show bearsN 1 = 9 from rfl]
/-- A number's bytes make it again. -/
theorem valN_of (U q : Nat) (y : Nat → Nat) : ∀ n, (∀ i, i < n → y (q + i) = U / 2 ^ (8 * i) % 256) → valN y q n = U % 2 ^ (8 * n) := by
  intro n
  induction n with
  | zero => intro _; simp [valN]; omega
  | succ n ih =>
    intro h
    simp only [valN]
    have hm := Nat.mod_mul (x := U) (a := 2 ^ (8 * n)) (b := 256)
    rw [ih fun i hi => h i (by omega), h n (by omega), show 8 * (n + 1) = 8 * n + 8 by omega, Nat.pow_add, show (2 : Nat) ^ 8 = 256 from rfl, hm, Nat.mul_comm (2 ^ (8 * n)) (U / _ % _)]
theorem number_back (z : Nat → Int) (q : Nat) (N : Int) (hN : I64 N) (h : ∀ i, i < 8 → z (q + i) = IntKind.u64.wrap N / 2 ^ (8 * i) % 256) : wrap64 (numK z q 8) = N := by
  obtain ⟨U, hU⟩ : ∃ U : Nat, IntKind.u64.wrap N = U := ⟨(IntKind.u64.wrap N).toNat, by
    have : 0 ≤ IntKind.u64.wrap N := by simp [IntKind.wrap, IntKind.bits, IntKind.signed]; omega
    omega⟩
  have hlt : U < 2 ^ 64 := by
    have : IntKind.u64.wrap N < 18446744073709551616 := by simp [IntKind.wrap, IntKind.bits, IntKind.signed]; omega
    omega
  have hz : ∀ i, i < 8 → z (q + i) = (((fun j => (z j).toNat) (q + i) : Nat) : Int) ∧ (fun j => (z j).toNat) (q + i) < 256 := fun i hi => by
    have := h i hi
    simp only
    omega
  rw [numK_val z (fun j => (z j).toNat) q 8 (by omega) hz, valN_of U q (fun j => (z j).toNat) 8 (fun i hi => by
    show (z (q + i)).toNat = _
    rw [h i hi, hU]
    have : ((U : Int) / 2 ^ (8 * i) % 256) = ((U / 2 ^ (8 * i) % 256 : Nat) : Int) := by simp
    rw [this]
    exact Int.toNat_natCast _), Nat.mod_eq_of_lt (by omega), ← hU]
  obtain ⟨h1, h2⟩ := hN
  simp [IntKind.wrap, IntKind.bits, IntKind.signed, wrap64]
  omega
theorem rd_enc (l : List Int) (p : Nat) (s a N : Int) (rest : List Int) (h : l.drop p = encB s a N ++ rest) (hs0 : 0 ≤ s) (hs : s < 30) (ha0 : 0 ≤ a) (ha : a < 256) (hN : I64 N) :
    rd (fun i => l.getD i 0) l.length p = (((p : Int), (p : Int) + 1 + bearsN s, s, if 0 < bearsN s then a else 0, if s = 1 then N else 0), 0) := by
  have hget : ∀ i, l.getD (p + i) 0 = (encB s a N ++ rest).getD i 0 := fun i => by
    rw [← h]
    simp [List.getD_eq_getElem?_getD, List.getElem?_drop]
  have hlen : l.length = p + (encB s a N).length + rest.length := by
    have h1 := congrArg List.length h
    rw [List.length_drop, List.length_append] at h1
    have h2 : 0 < (encB s a N).length := by simp [encB]
    omega
  have hel := encB_length s a N
  have hw := bearsN_ways s
  have hz0 : l.getD p 0 = s := by
    have := hget 0
    simp [encB] at this
    simp only [List.getD_eq_getElem?_getD] at this ⊢
    rw [this]
    omega
  have ht : ((p : Int)).toNat = p := by omega
  have hn : ¬ ((p : Int) < 0 ∨ (l.length : Int) ≤ p) := by omega
  have h2 : ¬ 29 < s := by omega
  have h3 : ¬ (l.length : Int) - (p + 1) < bearsN s := by omega
  simp only [rd, ht, if_neg hn, hz0, if_neg h2, if_neg h3]
  congr 5
  · by_cases hb : 0 < bearsN s
    · rw [if_pos hb, if_pos hb, hget 1]
      simp [encB, hb]
      omega
    · rw [if_neg hb, if_neg hb]
  · by_cases hb : s = 1
    · rw [if_pos hb, if_pos hb]
      refine number_back _ _ N hN fun i hi => ?_
      have hb9 : bearsN 1 = 9 := rfl
      subst hb
      show l.getD (p + 2 + i) 0 = _
      rw [show p + 2 + i = p + (i + 2) by omega, hget (i + 2)]
      have hl8 : i < (nb8 N 8).length := by rw [nb8_length]; exact hi
      have h5 : encB 1 a N = (1 % 256) :: (a % 256) :: nb8 N 8 := by simp [encB, hb9]
      rw [h5]
      simp only [List.cons_append, List.getD_eq_getElem?_getD]
      rw [show i + 2 = (i + 1) + 1 by omega, List.getElem?_cons_succ, List.getElem?_cons_succ, List.getElem?_append_left hl8]
      simp [nb8, hi]
    · rw [if_neg hb, if_neg hb]
end Go.Proofs.YtngobbbinacomaaDoor.c10
