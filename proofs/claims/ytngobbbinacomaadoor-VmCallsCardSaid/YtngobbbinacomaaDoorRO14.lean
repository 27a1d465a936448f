/- Chapter 14: certificates asked, certificates of code that goes straight, instructions of code that is put together. -/
import Derived.Test.YtngobbbinacomaaDoorRI14
import Derived.Test.YtngobbbinacomaaDoorS14
import Derived.KernelRfl
namespace Go.Proofs.YtngobbbinacomaaDoor
open Go.RowKit Go.Proofs.YtngobbbinacomaaDoor.c11 Go.Proofs.YtngobbbinacomaaDoor.c10
set_option linter.unusedVariables false
set_option linter.unusedSimpArgs false

abbrev Ins := Int × Int × Int × Int × Int

/-- A certificate, asked. -/
def certAt (nc nf : Nat) (cells : List CellD) (L : List Ins) (T : List (Option (List Int))) (o : Ins) (s : List Int) : Bool :=
  decide (s.length ≤ 8) && bearsB nc nf cells o.2.2.1 o.2.2.2.1.toNat o.2.2.2.2 &&
    match doesP cells o.2.2.1 o.2.2.2.1.toNat s with
    | some s' => (nextP o.2.2.1 o.2.2.2.1 o.2.1).all fun t => decide (0 ≤ placeF t L 0) && decide (placeF t L 0 < L.length) && decide (T[(placeF t L 0).toNat]? = some (some s'))
    | none => false
def certOne (nc nf : Nat) (cells : List CellD) (L : List Ins) (T : List (Option (List Int))) (i : Nat) : Bool :=
  match L[i]?, T[i]? with
  | some o, some (some s) => certAt nc nf cells L T o s
  | _, _ => true
def certOp (L : List Ins) (o : Ins) : Bool := (if o.2.2.1 = 18 ∨ o.2.2.1 = 19 then decide (0 ≤ placeF o.2.2.2.1 L 0) else true) && decide (0 ≤ o.2.2.2.1) && decide (o.2.2.2.1 < 256) && decide (0 ≤ o.2.2.1) && decide (o.2.2.1 ≤ 29)
def certB (nc nf : Nat) (cells : List CellD) (L : List Ins) (T : List (Option (List Int))) : Bool :=
  decide (T.length = L.length) && decide (0 < L.length) && decide (L.length ≤ 120) && decide (T[0]? = some (some [])) && L.all (certOp L) && (List.range L.length).all (certOne nc nf cells L T)

theorem certB_ok {nc nf : Nat} {cells : List CellD} {L : List Ins} {T : List (Option (List Int))} (h : certB nc nf cells L T = true) : Cert nc nf cells L T := by
  simp only [certB, Bool.and_eq_true, decide_eq_true_eq] at h
  obtain ⟨⟨⟨⟨⟨h1, h2⟩, h3⟩, h4⟩, h5⟩, h6⟩ := h
  have hop := List.all_eq_true.1 h5
  refine ⟨h1, h2, h3, h4, fun o ho hj => ?_, fun o ho => ?_, fun i o s hi hT => ?_⟩
  · have := hop o ho
    simp only [certOp, Bool.and_eq_true, decide_eq_true_eq, if_pos hj] at this
    exact this.1.1.1.1
  · have := hop o ho
    simp only [certOp, Bool.and_eq_true, decide_eq_true_eq] at this
    exact ⟨⟨this.1.1.1.2, this.1.1.2⟩, this.1.2, this.2⟩
  · have hil := (List.getElem?_eq_some_iff.1 hi).1
    have h := List.all_eq_true.1 h6 i (List.mem_range.2 hil)
    simp only [certOne, hi, hT, certAt, Bool.and_eq_true, decide_eq_true_eq] at h
    obtain ⟨⟨ha, hb⟩, hc⟩ := h
    refine ⟨ha, hb, ?_⟩
    cases hd : doesP cells o.2.2.1 o.2.2.2.1.toNat s with
    | none => rw [hd] at hc; exact absurd hc (by simp)
    | some s' =>
      rw [hd] at hc
      refine ⟨s', rfl, fun t ht => ?_⟩
      have := List.all_eq_true.1 hc t ht
      simp only [Bool.and_eq_true, decide_eq_true_eq] at this
      refine ⟨(placeF t L 0).toNat, by omega, by omega, this.2⟩

/-- Code that goes straight: its instructions, the stack ahead of each. -/
inductive Straight (nc nf : Nat) (cells : List CellD) : Int → List Int → List Ins → List (Option (List Int)) → Prop
  | last (p : Int) (s : List Int) (nx : Int) : p < nx → s.length ≤ 8 → Straight nc nf cells p s [(p, nx, 0, 0, 0)] [some s]
  | step (o : Ins) (s s' : List Int) (L : List Ins) (T : List (Option (List Int))) : o.1 < o.2.1 → (o.2.2.1 ≠ 0 ∧ o.2.2.1 ≠ 18 ∧ o.2.2.1 ≠ 19) → ((0 ≤ o.2.2.2.1 ∧ o.2.2.2.1 < 256) ∧ 0 ≤ o.2.2.1 ∧ o.2.2.1 ≤ 29) →
      s.length ≤ 8 → bearsB nc nf cells o.2.2.1 o.2.2.2.1.toNat o.2.2.2.2 = true → doesP cells o.2.2.1 o.2.2.2.1.toNat s = some s' → Straight nc nf cells o.2.1 s' L T → Straight nc nf cells o.1 s (o :: L) (some s :: T)

theorem Straight.head {nc nf : Nat} {cells : List CellD} {p : Int} {s : List Int} {L : List Ins} {T : List (Option (List Int))} (h : Straight nc nf cells p s L T) : ∃ o L', L = o :: L' ∧ o.1 = p ∧ T[0]? = some (some s) := by
  cases h with
  | last _ _ nx h1 h2 => exact ⟨_, _, rfl, rfl, rfl⟩
  | step o _ s' L T h1 h2 h3 h4 h5 h6 h7 => exact ⟨_, _, rfl, rfl, rfl⟩
theorem Straight.len {nc nf : Nat} {cells : List CellD} {p : Int} {s : List Int} {L : List Ins} {T : List (Option (List Int))} (h : Straight nc nf cells p s L T) : T.length = L.length := by
  induction h with
  | last => rfl
  | step o s s' L T h1 h2 h3 h4 h5 h6 h7 ih => simp [ih]
theorem Straight.from_ {nc nf : Nat} {cells : List CellD} {p : Int} {s : List Int} {L : List Ins} {T : List (Option (List Int))} (h : Straight nc nf cells p s L T) : ∀ o ∈ L, p < o.2.1 := by
  induction h with
  | last p s nx h1 h2 => intro o ho; simp at ho; subst ho; exact h1
  | step o s s' L T h1 h2 h3 h4 h5 h6 h7 ih =>
    intro o' ho'
    rcases List.mem_cons.1 ho' with rfl | ho'
    · exact h1
    · have := ih o' ho'; omega
theorem Straight.ops {nc nf : Nat} {cells : List CellD} {p : Int} {s : List Int} {L : List Ins} {T : List (Option (List Int))} (h : Straight nc nf cells p s L T) :
    ∀ o ∈ L, (o.2.2.1 ≠ 18 ∧ o.2.2.1 ≠ 19) ∧ ((0 ≤ o.2.2.2.1 ∧ o.2.2.2.1 < 256) ∧ 0 ≤ o.2.2.1 ∧ o.2.2.1 ≤ 29) := by
  induction h with
  | last p s nx h1 h2 => intro o ho; simp at ho; subst ho; simp
  | step o s s' L T h1 h2 h3 h4 h5 h6 h7 ih =>
    intro o' ho'
    rcases List.mem_cons.1 ho' with rfl | ho'
    · exact ⟨h2.2, h3⟩
    · exact ih o' ho'
theorem Straight.go {nc nf : Nat} {cells : List CellD} {p : Int} {s : List Int} {L : List Ins} {T : List (Option (List Int))} (h : Straight nc nf cells p s L T) :
    ∀ (i : Nat) (o : Ins) (s : List Int), L[i]? = some o → T[i]? = some (some s) → s.length ≤ 8 ∧ bearsB nc nf cells o.2.2.1 o.2.2.2.1.toNat o.2.2.2.2 = true ∧ ∃ s', doesP cells o.2.2.1 o.2.2.2.1.toNat s = some s' ∧
      ∀ t ∈ nextP o.2.2.1 o.2.2.2.1 o.2.1, ∃ q : Nat, (∀ k, placeF t L k = ((k + q : Nat) : Int)) ∧ q < L.length ∧ T[q]? = some (some s') := by
  induction h with
  | last p s nx h1 h2 =>
    intro i o s0 hi hT
    cases i with
    | succ i => simp at hi
    | zero =>
      simp at hi hT
      subst hi; subst hT
      exact ⟨h2, rfl, s, (by simp [doesP, does0, takesN, h2]), fun t ht => by simp [nextP] at ht⟩
  | step o s s' L T h1 h2 h3 h4 h5 h6 h7 ih =>
    intro i o0 s0 hi hT
    cases i with
    | zero =>
      simp at hi hT
      subst hi; subst hT
      refine ⟨h4, h5, s', h6, fun t ht => ?_⟩
      rw [nextP, if_neg h2.1, if_neg h2.2.1, if_neg h2.2.2] at ht
      simp at ht
      subst ht
      obtain ⟨o1, L1, rfl, e1, e2⟩ := h7.head
      refine ⟨1, fun k => ?_, by simp, by simpa using e2⟩
      rw [placeF, if_neg (by omega), placeF, if_pos e1]
    | succ i =>
      rw [List.getElem?_cons_succ] at hi hT
      obtain ⟨g1, g2, s1, g3, g4⟩ := ih i o0 s0 hi hT
      refine ⟨g1, g2, s1, g3, fun t ht => ?_⟩
      obtain ⟨q, q1, q2, q3⟩ := g4 t ht
      have hmem := List.mem_of_getElem? hi
      have ht' : t = o0.2.1 := by
        have hn := (h7.ops o0 hmem).1
        rw [nextP] at ht
        split at ht
        · cases ht
        · rw [if_neg hn.1, if_neg hn.2] at ht; simpa using ht
      have hlt := h7.from_ o0 hmem
      refine ⟨q + 1, fun k => ?_, by simp; omega, by simpa using q3⟩
      rw [placeF, if_neg (by omega), q1 (k + 1)]
      congr 1; omega
theorem Straight.cert {nc nf : Nat} {cells : List CellD} {L : List Ins} {T : List (Option (List Int))} (h : Straight nc nf cells 0 [] L T) (hl : L.length ≤ 120) : Cert nc nf cells L T := by
  obtain ⟨o1, L1, e0, e1, e2⟩ := h.head
  refine ⟨h.len, by rw [e0]; simp, hl, e2, fun o ho hj => ?_, fun o ho => (h.ops o ho).2, fun i o s hi hT => ?_⟩
  · have := (h.ops o ho).1
    rcases hj with hj | hj
    · exact absurd hj this.1
    · exact absurd hj this.2
  · obtain ⟨g1, g2, s', g3, g4⟩ := h.go i o s hi hT
    refine ⟨g1, g2, s', g3, fun t ht => ?_⟩
    obtain ⟨q, q1, q2, q3⟩ := g4 t ht
    exact ⟨q, by simpa using q1 0, q2, q3⟩

/-- Bytes that are read as instructions. -/
inductive Reads (b : List Int) : Int → List Ins → Prop
  | done (p : Int) : (b.length : Int) ≤ p → Reads b p []
  | more (p : Int) (o : Ins) (L : List Ins) : p < b.length → rdL b p = (o, 0) → Reads b o.2.1 L → Reads b p (o :: L)
theorem Reads.run {b : List Int} {p : Int} {L : List Ins} (h : Reads b p L) : ∀ (f : Nat) (A : List Ins), L.length ≤ f → runL (fun j => b.getD j 0) b.length f p A = (A ++ L, 0) := by
  induction h with
  | done p h =>
    intro f A hf
    cases f with
    | zero => simp [runL]
    | succ f => rw [runL, if_neg (by omega)]; simp
  | more p o L h1 h2 h3 ih =>
    intro f A hf
    cases f with
    | zero => simp at hf
    | succ f =>
      have e : rd (fun j => b.getD j 0) b.length p = (o, 0) := h2
      rw [runL, if_pos h1, e, if_pos rfl, ih f _ (by simp at hf; omega)]
      simp
theorem Reads.ops {b : List Int} {L : List Ins} (h : Reads b 0 L) (hl : L.length ≤ b.length + 1) : opsL b = (L, 0) := by
  have := h.run (b.length + 1) [] hl
  simpa [opsL] using this

/-- One read behind what stands before. -/
theorem rd_two (pre rest : List Int) (s a : Int) (h1 : bearsN s = 1) (h2 : s ≤ 29) (h3 : s ≠ 1) : rdL (pre ++ s :: a :: rest) pre.length = (((pre.length : Int), (pre.length : Int) + 2, s, a, 0), 0) := by
  have g0 : (pre ++ s :: a :: rest).getD pre.length 0 = s := by simp [List.getD]
  have g1 : (pre ++ s :: a :: rest).getD (pre.length + 1) 0 = a := by simp [List.getD]
  have e : ((pre.length : Nat) : Int).toNat = pre.length := by omega
  have hl : ((pre ++ s :: a :: rest).length : Int) = pre.length + 2 + rest.length := by simp; omega
  simp only [rdL, rd, e, g0, g1, h1, hl]
  rw [if_neg (by omega), if_neg (by omega), if_neg (by omega), if_pos (by decide), if_neg h3]
  refine Prod.ext (Prod.ext rfl (Prod.ext ?_ rfl)) rfl
  simp only []
  omega
theorem rd_one (pre rest : List Int) (s : Int) (h1 : bearsN s = 0) (h2 : s ≤ 29) (h3 : s ≠ 1) : rdL (pre ++ s :: rest) pre.length = (((pre.length : Int), (pre.length : Int) + 1, s, 0, 0), 0) := by
  have g0 : (pre ++ s :: rest).getD pre.length 0 = s := by simp [List.getD]
  have e : ((pre.length : Nat) : Int).toNat = pre.length := by omega
  have hl : ((pre ++ s :: rest).length : Int) = pre.length + 1 + rest.length := by simp; omega
  simp only [rdL, rd, e, g0, h1, hl]
  rw [if_neg (by omega), if_neg (by omega), if_neg (by omega), if_neg (by decide), if_neg h3]
  refine Prod.ext (Prod.ext rfl (Prod.ext ?_ rfl)) rfl
  simp only []
  omega

/-- Code that law14.run runs: it is read to its end, it is sound, it calls nothing. -/
structure Fine (cells : List CellD) (b : List Int) : Prop where
  small : ∀ x ∈ b, 0 ≤ x ∧ x < 256
  len : b.length ≤ 120
  read : (opsL b).2 = 0
  cert : ∃ T, Cert 2 1 cells (opsL b).1 T
  calls : ∀ o ∈ (opsL b).1, o.2.2.1 ≠ 20
def fineB (cells : List CellD) (b : List Int) (T : List (Option (List Int))) : Bool :=
  b.all (fun x => decide (0 ≤ x) && decide (x < 256)) && decide (b.length ≤ 120) && decide ((opsL b).2 = 0) && certB 2 1 cells (opsL b).1 T && (opsL b).1.all fun o => decide (o.2.2.1 ≠ 20)
theorem fineB_ok {cells : List CellD} {b : List Int} (T : List (Option (List Int))) (h : fineB cells b T = true) : Fine cells b := by
  simp only [fineB, Bool.and_eq_true, decide_eq_true_eq] at h
  obtain ⟨⟨⟨⟨h1, h2⟩, h3⟩, h4⟩, h5⟩ := h
  refine ⟨fun x hx => ?_, h2, h3, ⟨T, certB_ok h4⟩, fun o ho => of_decide_eq_true (List.all_eq_true.1 h5 o ho)⟩
  have := List.all_eq_true.1 h1 x hx
  simpa using this
theorem fine_straight {cells : List CellD} {b : List Int} {L : List Ins} {T : List (Option (List Int))} (hb : ∀ x ∈ b, 0 ≤ x ∧ x < 256) (hl : b.length ≤ 119) (hr : Reads b 0 L) (hs : Straight 2 1 cells 0 [] L T) (hL : L.length ≤ b.length) (h20 : ∀ o ∈ L, o.2.2.1 ≠ 20) : Fine cells b := by
  have e := hr.ops (by omega)
  refine ⟨hb, by omega, by rw [e], ⟨T, by rw [e]; exact hs.cert (by omega)⟩, by rw [e]; exact h20⟩

/-- A jump where nought is on top. -/
theorem ex_jz {E : Env} {f : Nat} {b : List Int} {p : Int} {S : St} {a0 nx a n : Int} (hr : rdL b p = ((a0, nx, 19, a, n), 0)) (h : S.left ≠ 0) {l : List (Int × Int)} {k v : Int} (hs : S.stk = l ++ [(k, v)]) :
    execP E (f + 1) b p S = execP E f b (if v = 0 then a else nx) { S with left := S.left - 1, used := S.used + 1, stk := l } := by
  rw [execP, if_neg h, hr]
  have e : popS { S with left := S.left - 1, used := S.used + 1 } = ((k, v), { S with left := S.left - 1, used := S.used + 1, stk := l }) := popS_some hs
  simp only [e]
  simp
end Go.Proofs.YtngobbbinacomaaDoor
