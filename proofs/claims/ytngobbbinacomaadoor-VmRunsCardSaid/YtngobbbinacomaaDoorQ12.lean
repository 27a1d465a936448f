/- The document's chapter 12: the stack behind an instruction, where it may stand: all signs. -/
import Derived.Test.YtngobbbinacomaaDoorQ11
namespace Go.Proofs.YtngobbbinacomaaDoor
open Go.RowKit Go.Proofs.YtngobbbinacomaaDoor.c11 Go.Proofs.YtngobbbinacomaaDoor.c10
set_option linter.unusedVariables false
set_option linter.unusedSimpArgs false
theorem bearsB_lt {nc nf : Nat} {cells : List CellD} {s n : Int} {a : Nat} (h : bearsB nc nf cells s a n = true) (hs : s = 3 ∨ s = 4 ∨ s = 5 ∨ s = 6) : a < cells.length := by
  unfold bearsB at h
  rcases hs with rfl | rfl | rfl | rfl <;> (simp at h; omega)
theorem rdoes_ok (A : Option Addr) (c : Nat) (cells : List CellD) (n a0 a1 : Int) (a : Nat) (w : World) (hr : Row w w.heap.size 6 A cells.length (cellRow cells)) (S : Option Addr) (cs : Nat) (st out : List Int) (s : Int) (nc nf : Nat) (hb : bearsB nc nf cells s a n = true) (h0 : 0 ≤ s) (h29 : s ≤ 29)
    (hs : Row w w.heap.size 1 S st.length (st.map (Value.int .i64))) (hsc : st.length ≤ cs) (hs8 : st.length ≤ 8) (hd : doesP cells s a st = some out) :
    Calls Tryd.prog 64 #[.slice A cells.length c, .agg #[.int .i64 a0, .int .i64 a1, .int .i64 s, .int .i64 a, .int .i64 n], .slice S st.length cs] w (DoesBack w out) := by
  unfold doesP at hd
  obtain ⟨o, ho, hl⟩ := Option.bind_eq_some_iff.1 hd
  have hl8 : o.length ≤ 8 ∧ o = out := by
    by_cases h : o.length ≤ 8
    · rw [if_pos h] at hl; exact ⟨h, Option.some.inj hl⟩
    · rw [if_neg h] at hl; cases hl
  obtain ⟨hl8, rfl⟩ := hl8
  by_cases t0 : takesN s = 0
  · rw [if_pos t0] at ho
    have hs' : Row w w.heap.size 1 S (st.length + 0) ((st ++ []).map (Value.int .i64)) := by simpa using hs
    by_cases hp : s = 1 ∨ s = 26 ∨ s = 2 ∨ s = 24 ∨ s = 3
    · rw [does0, if_pos hp] at ho
      obtain rfl := Option.some.inj ho
      have h8 : st.length + 1 ≤ 8 := by simpa using hl8
      rcases hp with rfl | rfl | rfl | rfl | rfl
      · exact does_push A c cells n a0 a1 a w hr S cs st.length st hs' rfl hsc h8
      · exact does_now A c cells n a0 a1 a w hr S cs st.length st hs' rfl hsc h8
      · exact does_const A c cells n a0 a1 a w hr S cs st.length st hs' rfl hsc h8
      · exact does_in A c cells n a0 a1 a w hr S cs st.length st hs' rfl hsc h8
      · exact does_load A c cells n a0 a1 a w hr S cs st.length st hs' rfl hsc h8 (bearsB_lt hb (by omega))
    · rw [does0, if_neg hp] at ho
      obtain rfl := Option.some.inj ho
      have hx : s = 0 ∨ s = 18 ∨ s = 20 ∨ s = 27 := by
        unfold takesN at t0
        split at t0
        · cases t0
        split at t0
        · cases t0
        · omega
      rcases hx with rfl | rfl | rfl | rfl
      · exact does_end A c cells n a0 a1 a w hr S cs st.length st hs' rfl hsc hs8
      · exact does_jmp A c cells n a0 a1 a w hr S cs st.length st hs' rfl hsc hs8
      · exact does_call A c cells n a0 a1 a w hr S cs st.length st hs' rfl hsc hs8
      · exact does_block A c cells n a0 a1 a w hr S cs st.length st hs' rfl hsc hs8
  rw [if_neg t0] at ho
  by_cases t1 : takesN s = 1
  · rw [if_pos t1] at ho
    cases hst : st.reverse with
    | nil => rw [hst] at ho; cases ho
    | cons b r =>
      rw [hst] at ho
      have hst' : st = r.reverse ++ [b] := by have := congrArg List.reverse hst; simpa using this
      have ho' : does1 cells s a r.reverse b = some o := ho
      clear ho hst
      generalize r.reverse = base at *
      subst hst'
      have hs' : Row w w.heap.size 1 S (base.length + 1) ((base ++ [b]).map (Value.int .i64)) := by simpa using hs
      have hsc' : base.length + 1 ≤ cs := by simpa using hsc
      have h8 : base.length + 1 ≤ 8 := by simpa using hs8
      have h7 : base.length + 0 ≤ 8 := by omega
      rw [show (base ++ [b]).length = base.length + 1 by simp]
      have hx : s = 4 ∨ s = 5 ∨ s = 15 ∨ s = 19 ∨ s = 21 ∨ s = 22 ∨ s = 23 ∨ s = 25 := by
        unfold takesN at t1
        split at t1
        · cases t1
        split at t1
        · assumption
        · cases t1
      rcases hx with rfl | rfl | rfl | rfl | rfl | rfl | rfl | rfl
      · have e : (if b = (cellD cells a).kind then some base else none) = some o := ho'
        by_cases hk : b = (cellD cells a).kind
        · rw [if_pos hk] at e; obtain rfl := Option.some.inj e
          exact does_store A c cells n a0 a1 a w hr S cs base.length base b hs' rfl hsc' h7 (bearsB_lt hb (by omega)) hk
        · rw [if_neg hk] at e; cases e
      · have e : (if b = 5 then some (base ++ [(cellD cells a).kind]) else none) = some o := ho'
        by_cases hk : b = 5
        · rw [if_pos hk] at e; obtain rfl := Option.some.inj e
          exact does_loadx A c cells n a0 a1 a w hr S cs base.length base b hs' rfl hsc' h8 (bearsB_lt hb (by omega)) hk
        · rw [if_neg hk] at e; cases e
      · have e : (if b = 1 ∨ b = 2 ∨ b = 3 then some (base ++ [b]) else none) = some o := ho'
        by_cases hk : b = 1 ∨ b = 2 ∨ b = 3
        · rw [if_pos hk] at e; obtain rfl := Option.some.inj e
          rcases hk with hk | hk | hk
          · exact does_not1 A c cells n a0 a1 a w hr S cs base.length base b hs' rfl hsc' h8 hk
          · exact does_not2 A c cells n a0 a1 a w hr S cs base.length base b hs' rfl hsc' h8 hk
          · exact does_not3 A c cells n a0 a1 a w hr S cs base.length base b hs' rfl hsc' h8 hk
        · rw [if_neg hk] at e; cases e
      · have e : (if b = 1 then some base else none) = some o := ho'
        by_cases hk : b = 1
        · rw [if_pos hk] at e; obtain rfl := Option.some.inj e
          exact does_jz A c cells n a0 a1 a w hr S cs base.length base b hs' rfl hsc' h7 hk
        · rw [if_neg hk] at e; cases e
      · have e : some (base ++ [b, b]) = some o := ho'
        obtain rfl := Option.some.inj e
        exact does_dup A c cells n a0 a1 a w hr S cs base.length base b hs' rfl hsc' (by simpa using hl8)
      · have e : some base = some o := ho'
        obtain rfl := Option.some.inj e
        exact does_drop A c cells n a0 a1 a w hr S cs base.length base b hs' rfl hsc' h7
      · have e : some (base ++ [(a : Int)]) = some o := ho'
        obtain rfl := Option.some.inj e
        exact does_conv A c cells n a0 a1 a w hr S cs base.length base b hs' rfl hsc' h8
      · have e : (if b = 5 then some base else none) = some o := ho'
        by_cases hk : b = 5
        · rw [if_pos hk] at e; obtain rfl := Option.some.inj e
          exact does_out A c cells n a0 a1 a w hr S cs base.length base b hs' rfl hsc' h7 hk
        · rw [if_neg hk] at e; cases e
  · rw [if_neg t1] at ho
    cases hst : st.reverse with
    | nil => rw [hst] at ho; cases ho
    | cons b r =>
      cases r with
      | nil => rw [hst] at ho; cases ho
      | cons aa r =>
        rw [hst] at ho
        have hst' : st = r.reverse ++ [aa, b] := by have := congrArg List.reverse hst; simpa using this
        have ho' : does2 cells s a r.reverse aa b = some o := ho
        clear ho hst
        generalize r.reverse = base at *
        subst hst'
        have hs' : Row w w.heap.size 1 S (base.length + 2) ((base ++ [aa, b]).map (Value.int .i64)) := by simpa using hs
        have hsc' : base.length + 2 ≤ cs := by simpa using hsc
        have h8 : base.length + 2 ≤ 8 := by simpa using hs8
        have h7 : base.length + 0 ≤ 8 := by omega
        have h6 : base.length + 1 ≤ 8 := by omega
        rw [show (base ++ [aa, b]).length = base.length + 2 by simp]
        have hx : s = 6 ∨ s = 7 ∨ s = 8 ∨ s = 9 ∨ s = 10 ∨ s = 11 ∨ s = 12 ∨ s = 13 ∨ s = 14 ∨ s = 16 ∨ s = 17 ∨ s = 28 ∨ s = 29 := by
          unfold takesN at t0 t1
          split at t0
          · assumption
          · rename_i hn
            rw [if_neg hn] at t1
            split at t1
            · exact absurd rfl t1
            · rename_i hn1
              rw [if_neg hn1] at t0
              exact absurd rfl t0
        rcases hx with rfl | hx
        · have e : (if b = (cellD cells a).kind ∧ aa = 5 then some base else none) = some o := ho'
          by_cases hk : b = (cellD cells a).kind ∧ aa = 5
          · rw [if_pos hk] at e; obtain rfl := Option.some.inj e
            exact does_storex A c cells n a0 a1 a w hr S cs base.length base aa b hs' rfl hsc' h7 (bearsB_lt hb (by omega)) hk.1 hk.2
          · rw [if_neg hk] at e; cases e
        have e : (if kindE s aa b = 0 then some (base ++ [kindM s aa b]) else none) = some o := by
          rw [does2, if_neg (by omega)] at ho'
          exact ho'
        by_cases hk : kindE s aa b = 0
        · rw [if_pos hk] at e; obtain rfl := Option.some.inj e
          rcases hx with rfl | rfl | rfl | rfl | rfl | rfl | rfl | rfl | rfl | rfl | rfl | rfl
          · exact does_bin7 A c cells n a0 a1 a w hr S cs base.length base aa b hs' rfl hsc' h6 hk
          · exact does_bin8 A c cells n a0 a1 a w hr S cs base.length base aa b hs' rfl hsc' h6 hk
          · exact does_bin9 A c cells n a0 a1 a w hr S cs base.length base aa b hs' rfl hsc' h6 hk
          · exact does_bin10 A c cells n a0 a1 a w hr S cs base.length base aa b hs' rfl hsc' h6 hk
          · exact does_bin11 A c cells n a0 a1 a w hr S cs base.length base aa b hs' rfl hsc' h6 hk
          · exact does_bin12 A c cells n a0 a1 a w hr S cs base.length base aa b hs' rfl hsc' h6 hk
          · exact does_bin13 A c cells n a0 a1 a w hr S cs base.length base aa b hs' rfl hsc' h6 hk
          · exact does_bin14 A c cells n a0 a1 a w hr S cs base.length base aa b hs' rfl hsc' h6 hk
          · exact does_bin16 A c cells n a0 a1 a w hr S cs base.length base aa b hs' rfl hsc' h6 hk
          · exact does_bin17 A c cells n a0 a1 a w hr S cs base.length base aa b hs' rfl hsc' h6 hk
          · exact does_bin28 A c cells n a0 a1 a w hr S cs base.length base aa b hs' rfl hsc' h6 hk
          · exact does_bin29 A c cells n a0 a1 a w hr S cs base.length base aa b hs' rfl hsc' h6 hk
        · rw [if_neg hk] at e; cases e
end Go.Proofs.YtngobbbinacomaaDoor
