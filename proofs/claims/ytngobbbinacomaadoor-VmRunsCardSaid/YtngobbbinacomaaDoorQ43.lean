/- Chapter 14: the document's step, whole: any instruction of made code upon a stack of the kinds that are there. -/
import Derived.Test.YtngobbbinacomaaDoorQ42
namespace Go.Proofs.YtngobbbinacomaaDoor
open Go.RowKit Go.Proofs.YtngobbbinacomaaDoor.c11 Go.Proofs.YtngobbbinacomaaDoor.c10 Go.Proofs.YtngobbbinacomaaDoor.c13
set_option linter.unusedVariables false
set_option linter.unusedSimpArgs false
theorem stk_two {cells : List CellD} {q : List Int} {c b : Int} {stk : List (Int × Int)} (h : StackK (q ++ [c, b]) stk) : ∃ u x y, stk = u ++ [(c, x), (b, y)] ∧ StackK q u ∧ IsK c x ∧ IsK b y := by
  have h' : StackK ((q ++ [c]) ++ [b]) stk := by rw [List.append_assoc]; exact h
  obtain ⟨t, y, ht, hs1, hy⟩ := h'.top
  obtain ⟨u, x, hu, hs2, hx⟩ := hs1.top
  exact ⟨u, x, y, by rw [ht, hu, List.append_assoc]; rfl, hs2, hx, hy⟩
theorem operateP_two {S : St} {s a' : Int} {u : List (Int × Int)} {c x b y : Int} (hs : S.stk = u ++ [(c, x), (b, y)]) (hop : s ≠ 15 ∧ s ≠ 21 ∧ s ≠ 22 ∧ s ≠ 23) :
    operateP S s a' = if twoE s c b y = 0 then (pushS ({ S with stk := u } : St) (kindM s c b) [twoM s c b x y], 0) else (({ S with stk := u } : St), twoE s c b y) := by
  have h1 : S.stk = (u ++ [(c, x)]) ++ [(b, y)] := by rw [hs, List.append_assoc]; rfl
  have e1 := popS_top h1
  have e2 := popS_top (S := { S with stk := u ++ [(c, x)] }) (s := u) (k := c) (x := x) rfl
  obtain ⟨n15, n21, n22, n23⟩ := hop
  unfold operateP
  rw [if_neg n15, if_neg n21, if_neg n22, if_neg n23, e1]
  simp only [e2]
set_option maxHeartbeats 1000000 in
theorem rstep_any {M : RWho} {cells : List CellD} (hlay : M.E.lay = cells) (hconst : M.E.consts = [7, -1]) (hL : LayOk cells) {o out : List Int} {funcs at_ : Int} {sp : List (Nat × List Int)} {s a N : Int} (hp : PickOk cells o funcs at_ sp s a N) (hd : doesU cells s a.toNat o = some out) (h19 : s ≠ 19) (h20 : s ≠ 20) {S : St} (ht : TypedS cells o S)
    (w : World) (h : RMach M w S) (K : Nat) (hKw : K ≤ w.heap.size) (hg : M.g < K) (hc : M.cg < K) (v : Value) (hv : StackAt w K v S.stk) (hh : S.stk.length ≤ 1000000) (a0 a1 : Int) :
    Calls Tryd.prog 56 #[.pointer (some ⟨M.g, 0, none⟩), .agg #[.int .i64 a0, .int .i64 a1, .int .i64 s, .int .i64 (if 0 < bearsN s then a else 0), .int .i64 (if s = 1 then N else 0)], v] w (StepPost M K w (doP M.E S s (if 0 < bearsN s then a else 0) (if s = 1 then N else 0))) := by
  have hs0 := hp.s0
  have hs29 := hp.s29
  have h18 := hp.s18
  have hb := hp.bears
  obtain ⟨an, rfl⟩ : ∃ an : Nat, a = an := ⟨a.toNat, by have := hp.a0; omega⟩
  rw [Int.toNat_natCast] at hd
  have hlen := ht.cells.len
  have two : ∀ (h2 : takesN s = 2) (h6 : s ≠ 6) (hdo : ∀ a' n', doP M.E S s a' n' = operateP S s a') (hop : s ≠ 15 ∧ s ≠ 21 ∧ s ≠ 22 ∧ s ≠ 23) (hne : s ≠ 1 ∧ s ≠ 2 ∧ s ≠ 3 ∧ s ≠ 4 ∧ s ≠ 5 ∧ s ≠ 24 ∧ s ≠ 25 ∧ s ≠ 26 ∧ s ≠ 27) (hb0 : ¬ 0 < bearsN s),
      Calls Tryd.prog 56 #[.pointer (some ⟨M.g, 0, none⟩), .agg #[.int .i64 a0, .int .i64 a1, .int .i64 s, .int .i64 (if 0 < bearsN s then (an : Int) else 0), .int .i64 (if s = 1 then N else 0)], v] w (StepPost M K w (doP M.E S s (if 0 < bearsN s then (an : Int) else 0) (if s = 1 then N else 0))) := fun h2 h6 hdo hop hne hb0 => by
    rcases nil_or_app o with rfl | ⟨r, b, rfl⟩
    · simp [doesU, h2] at hd
    rcases nil_or_app r with rfl | ⟨q, c, rfl⟩
    · simp [doesU, h2] at hd
    have hst : StackK (q ++ [c, b]) S.stk := by have := ht.stk; rwa [List.append_assoc] at this
    obtain ⟨u, x, y, hu, _, _, _⟩ := stk_two (cells := cells) hst
    rw [hdo, operateP_two hu hop, if_neg hb0, if_neg hne.1]
    obtain ⟨k1, k2, k3, k4, k5, k24, k25, k26, k27⟩ := hne
    obtain ⟨k15, k21, k22, k23⟩ := hop
    split
    · rename_i he
      exact rstep_two M w S h K hKw hg hc v hv hh a0 a1 0 s h2 0 u c x b y hu k1 k2 k3 k4 k5 h6 k15 k21 k22 k23 k24 k25 k26 k27 he
    · rename_i he
      exact rstep_two_bad M w S h K hKw hg hc v hv hh a0 a1 0 s h2 0 u c x b y hu k1 k2 k3 k4 k5 h6 k15 k21 k22 k23 k24 k25 k26 k27 he
  rcases (show s = 1 ∨ s = 2 ∨ s = 3 ∨ s = 4 ∨ s = 5 ∨ s = 6 ∨ s = 7 ∨ s = 8 ∨ s = 9 ∨ s = 10 ∨ s = 11 ∨ s = 12 ∨ s = 13 ∨ s = 14 ∨ s = 15 ∨ s = 16 ∨ s = 17 ∨ s = 21 ∨ s = 22 ∨ s = 23 ∨ s = 24 ∨ s = 25 ∨ s = 26 ∨ s = 27 by omega) with rfl | rfl | rfl | rfl | rfl | rfl | rfl | rfl | rfl | rfl | rfl | rfl | rfl | rfl | rfl | rfl | rfl | rfl | rfl | rfl | rfl | rfl | rfl | rfl
  · exact rstep_push M w S h K hKw hg hc v hv hh a0 a1 an N
  · simp [bearsB] at hb
    have ha : an < M.E.consts.length := by rw [hconst]; simp; omega
    have e : doP M.E S 2 (an : Int) 0 = (pushS S 5 [M.E.consts.getD an 0], 0) := by
      have : (an : Int) < M.E.consts.length := by omega
      simp [doP, this]
    rw [show (if 0 < bearsN 2 then (an : Int) else 0) = an from rfl, show (if (2 : Int) = 1 then N else 0) = 0 from rfl, e]
    exact rstep_const M w S h K hKw hg hc v hv hh a0 a1 0 an ha
  · simp [bearsB] at hb
    have hat : isAt S.cells.length (an : Int) = true := by rw [hlen]; simp [isAt]; omega
    have e : doP M.E S 3 (an : Int) 0 = (pushS S (cellD M.E.lay an).kind [S.cells.getD an 0], 0) := by simp [doP, memoryP, hat]
    rw [show (if 0 < bearsN 3 then (an : Int) else 0) = an from rfl, show (if (3 : Int) = 1 then N else 0) = 0 from rfl, e]
    exact rstep_load M w S h K hKw hg hc v hv hh a0 a1 0 an (by rw [hlay]; omega) (by omega)
  · rcases nil_or_app o with rfl | ⟨r, b, rfl⟩
    · cases hd
    obtain ⟨t, y, hst, hs1, hy⟩ := ht.stk.top
    have e1 := popS_top hst
    simp [bearsB] at hb
    have hat : isAt S.cells.length (an : Int) = true := by rw [hlen]; simp [isAt]; omega
    have e : doP M.E S 4 (an : Int) 0 = (({ S with stk := t, cells := S.cells.set an y } : St), 0) := by simp [doP, memoryP, hat, e1]
    rw [show (if 0 < bearsN 4 then (an : Int) else 0) = an from rfl, show (if (4 : Int) = 1 then N else 0) = 0 from rfl, e]
    exact rstep_store M w S h K hKw hg hc v hv hh a0 a1 0 an t b y hst (by omega)
  · rcases nil_or_app o with rfl | ⟨r, b, rfl⟩
    · cases hd
    obtain ⟨t, y, hst, hs1, hy⟩ := ht.stk.top
    have e1 := popS_top hst
    simp [bearsB] at hb
    have han : an < cells.length := by omega
    have hal : an < M.E.lay.length := by rw [hlay]; exact han
    rw [show (if 0 < bearsN 5 then (an : Int) else 0) = an from rfl, show (if (5 : Int) = 1 then N else 0) = 0 from rfl]
    by_cases hy0 : y < 0
    · have e : doP M.E S 5 (an : Int) 0 = (({ S with stk := t } : St), 22) := by simp [doP, memoryP, e1, indexP, hy0]
      rw [e]
      exact rstep_loadx_neg M w S h K hKw hg hc v hv hh a0 a1 0 an t b y hst hal hy0
    by_cases hyl : (cellD M.E.lay an).len ≤ y
    · have e : doP M.E S 5 (an : Int) 0 = (({ S with stk := t } : St), 22) := by simp [doP, memoryP, e1, indexP, hyl]
      rw [e]
      exact rstep_loadx_big M w S h K hKw hg hc v hv hh a0 a1 0 an t b y hst hal (by omega) hyl
    obtain ⟨q1, q2⟩ := hL.arr an y han (by omega) (by rw [← hlay]; omega)
    have hat : isAt S.cells.length ((an : Int) + y) = true := by rw [hlen]; simp [isAt]; omega
    obtain ⟨k, rfl⟩ : ∃ k : Nat, y = k := ⟨y.toNat, by omega⟩
    have e : doP M.E S 5 (an : Int) 0 = (pushS ({ S with stk := t } : St) (cellD M.E.lay an).kind [S.cells.getD (an + k) 0], 0) := by
      have h3 : ((an : Int) + (k : Int)).toNat = an + k := by omega
      have hix : indexP M.E S.cells.length (an : Int) (k : Int) = ((an : Int) + k, 0) := by
        unfold indexP
        rw [if_neg]
        rintro (h | h | h)
        · omega
        · exact hyl h
        · rw [hat] at h; cases h
      simp [doP, memoryP, e1, hix, h3]
    rw [e]
    exact rstep_loadx M w S h K hKw hg hc v hv hh a0 a1 0 an t b k hst hal k rfl (by omega) (by simp at q1; omega)
  · rcases nil_or_app o with rfl | ⟨r, b, rfl⟩
    · cases hd
    rcases nil_or_app r with rfl | ⟨q, c, rfl⟩
    · simp [doesU, takesN] at hd
    have hst0 : StackK (q ++ [c, b]) S.stk := by have := ht.stk; rwa [List.append_assoc] at this
    obtain ⟨u, x, y, hu, _, _, _⟩ := stk_two (cells := cells) hst0
    have h1 : S.stk = (u ++ [(c, x)]) ++ [(b, y)] := by rw [hu, List.append_assoc]; rfl
    have e1 := popS_top h1
    have e2 := popS_top (S := { S with stk := u ++ [(c, x)] }) (s := u) (k := c) (x := x) rfl
    simp [bearsB] at hb
    have han : an < cells.length := by omega
    have hal : an < M.E.lay.length := by rw [hlay]; exact han
    rw [show (if 0 < bearsN 6 then (an : Int) else 0) = an from rfl, show (if (6 : Int) = 1 then N else 0) = 0 from rfl]
    by_cases hy0 : x < 0
    · have e : doP M.E S 6 (an : Int) 0 = (({ S with stk := u } : St), 22) := by simp [doP, memoryP, e1, e2, indexP, hy0]
      rw [e]
      exact rstep_storex_neg M w S h K hKw hg hc v hv hh a0 a1 0 an u c x b y hu hal hy0
    by_cases hyl : (cellD M.E.lay an).len ≤ x
    · have e : doP M.E S 6 (an : Int) 0 = (({ S with stk := u } : St), 22) := by simp [doP, memoryP, e1, e2, indexP, hyl]
      rw [e]
      exact rstep_storex_big M w S h K hKw hg hc v hv hh a0 a1 0 an u c x b y hu hal (by omega) hyl
    obtain ⟨q1, q2⟩ := hL.arr an x han (by omega) (by rw [← hlay]; omega)
    have hat : isAt S.cells.length ((an : Int) + x) = true := by rw [hlen]; simp [isAt]; omega
    obtain ⟨k, rfl⟩ : ∃ k : Nat, x = k := ⟨x.toNat, by omega⟩
    have e : doP M.E S 6 (an : Int) 0 = (({ S with stk := u, cells := S.cells.set (an + k) y } : St), 0) := by
      have h3 : ((an : Int) + (k : Int)).toNat = an + k := by omega
      have hix : indexP M.E S.cells.length (an : Int) (k : Int) = ((an : Int) + k, 0) := by
        unfold indexP
        rw [if_neg]
        rintro (h | h | h)
        · omega
        · exact hyl h
        · rw [hat] at h; cases h
      simp [doP, memoryP, e1, e2, hix, h3]
    rw [e]
    exact rstep_storex M w S h K hKw hg hc v hv hh a0 a1 0 an u c k b y hu hal k rfl (by omega) (by simp at q1; omega)
  · exact two rfl (by decide) (fun _ _ => by simp [doP, memoryP]) (by decide) (by decide) (by decide)
  · exact two rfl (by decide) (fun _ _ => by simp [doP, memoryP]) (by decide) (by decide) (by decide)
  · exact two rfl (by decide) (fun _ _ => by simp [doP, memoryP]) (by decide) (by decide) (by decide)
  · exact two rfl (by decide) (fun _ _ => by simp [doP, memoryP]) (by decide) (by decide) (by decide)
  · exact two rfl (by decide) (fun _ _ => by simp [doP, memoryP]) (by decide) (by decide) (by decide)
  · exact two rfl (by decide) (fun _ _ => by simp [doP, memoryP]) (by decide) (by decide) (by decide)
  · exact two rfl (by decide) (fun _ _ => by simp [doP, memoryP]) (by decide) (by decide) (by decide)
  · exact two rfl (by decide) (fun _ _ => by simp [doP, memoryP]) (by decide) (by decide) (by decide)
  · rcases nil_or_app o with rfl | ⟨r, b, rfl⟩
    · cases hd
    obtain ⟨t, y, hst, hs1, hy⟩ := ht.stk.top
    have e1 := popS_top hst
    have e : doP M.E S 15 0 0 = (pushS ({ S with stk := t } : St) b [notK b y], 0) := by simp [doP, memoryP, operateP, e1]
    rw [show (if 0 < bearsN 15 then (an : Int) else 0) = 0 from rfl, show (if (15 : Int) = 1 then N else 0) = 0 from rfl, e]
    exact rstep_not M w S h K hKw hg hc v hv hh a0 a1 0 0 t b y hst
  · exact two rfl (by decide) (fun _ _ => by simp [doP, memoryP]) (by decide) (by decide) (by decide)
  · exact two rfl (by decide) (fun _ _ => by simp [doP, memoryP]) (by decide) (by decide) (by decide)
  · rcases nil_or_app o with rfl | ⟨r, b, rfl⟩
    · cases hd
    obtain ⟨t, y, hst, hs1, hy⟩ := ht.stk.top
    have e1 := popS_top hst
    have e : doP M.E S 21 0 0 = (pushS ({ S with stk := t } : St) b [y, y], 0) := by simp [doP, memoryP, operateP, e1]
    rw [show (if 0 < bearsN 21 then (an : Int) else 0) = 0 from rfl, show (if (21 : Int) = 1 then N else 0) = 0 from rfl, e]
    exact rstep_dup M w S h K hKw hg hc v hv hh a0 a1 0 0 t b y hst
  · rcases nil_or_app o with rfl | ⟨r, b, rfl⟩
    · cases hd
    obtain ⟨t, y, hst, hs1, hy⟩ := ht.stk.top
    have e1 := popS_top hst
    have e : doP M.E S 22 0 0 = (({ S with stk := t } : St), 0) := by simp [doP, memoryP, operateP, e1]
    rw [show (if 0 < bearsN 22 then (an : Int) else 0) = 0 from rfl, show (if (22 : Int) = 1 then N else 0) = 0 from rfl, e]
    exact rstep_drop M w S h K hKw hg hc v hv hh a0 a1 0 0 t b y hst
  · rcases nil_or_app o with rfl | ⟨r, b, rfl⟩
    · cases hd
    obtain ⟨t, y, hst, hs1, hy⟩ := ht.stk.top
    have e1 := popS_top hst
    have e : doP M.E S 23 (an : Int) 0 = (pushS ({ S with stk := t } : St) an [wrapK an y], 0) := by simp [doP, memoryP, operateP, e1]
    rw [show (if 0 < bearsN 23 then (an : Int) else 0) = an from rfl, show (if (23 : Int) = 1 then N else 0) = 0 from rfl, e]
    exact rstep_conv M w S h K hKw hg hc v hv hh a0 a1 0 an t b y hst
  · simp [bearsB] at hb
    have hpt : isPort (an : Int) = true := by simp [isPort]; omega
    have e : doP M.E S 24 (an : Int) 0 = (pushS S 5 [wrapK 5 (inD M.E an)], 0) := by simp [doP, hpt]
    rw [show (if 0 < bearsN 24 then (an : Int) else 0) = an from rfl, show (if (24 : Int) = 1 then N else 0) = 0 from rfl, e]
    exact rstep_in M w S h K hKw hg hc v hv hh a0 a1 0 an (by omega)
  · rcases nil_or_app o with rfl | ⟨r, b, rfl⟩
    · cases hd
    obtain ⟨t, y, hst, hs1, hy⟩ := ht.stk.top
    have e1 := popS_top hst
    simp [bearsB] at hb
    have hpt : isPort (an : Int) = true := by simp [isPort]; omega
    have e : doP M.E S 25 (an : Int) 0 = (setOut ({ S with stk := t } : St) an y, 0) := by simp [doP, hpt, e1]
    rw [show (if 0 < bearsN 25 then (an : Int) else 0) = an from rfl, show (if (25 : Int) = 1 then N else 0) = 0 from rfl, e]
    exact rstep_out M w S h K hKw hg hc v hv hh a0 a1 0 an t b y hst (by omega)
  · exact rstep_now M w S h K hKw hg hc v hv hh a0 a1 0 0
  · simp [bearsB] at hb
    have han : an < cells.length := by omega
    obtain ⟨q1, q2⟩ := hL.blk an han (by omega)
    have e : doP M.E S 27 (an : Int) 0 = (blockP M.E S an, 0) := by simp [doP, memoryP]
    rw [show (if 0 < bearsN 27 then (an : Int) else 0) = an from rfl, show (if (27 : Int) = 1 then N else 0) = 0 from rfl, e]
    refine rstep_block M w S h K hKw hg hc v hv hh a0 a1 0 an (by omega) (by rw [hlay]; exact han) ?_ ?_
    · rw [hlay]
      rcases q2 with ⟨h9, _⟩ | ⟨h10, _⟩
      · exact .inl h9
      · exact .inr h10
    · rw [hlay]
      intro h10
      rcases q2 with ⟨h9, _⟩ | ⟨_, hk⟩
      · rw [h9] at h10; exact absurd h10 (by decide)
      · have k4 := ht.cells.get (an + 4) (by omega)
        rw [hk 4 5 rfl] at k4
        have := isK5_iff k4
        omega
end Go.Proofs.YtngobbbinacomaaDoor
