/- An index and the document's row side by side, both of a law's own. -/
import Derived.Test.YtbbiocmlicoipaaIXT
namespace Go.Proofs.Ytbbiocmlicoipaa.PC
open Go.RowKit Go.Proofs.YtbbiocmlicoipaaW.PrintWords Go.Proofs.YtbbiocmlicoipaaW.PrintLast Go.Proofs.YtbbiocmlicoipaaW.PrintMore Go.Proofs.Ytbbiocmlicoipaa.K Go.Proofs.Ytbbiocmlicoipaa.IX
set_option linter.unusedVariables false
set_option linter.unusedSimpArgs false
def Ow3 (w0 w : World) (p : Nat) (ms : List Bool) (q : Nat) (ns : List Bool) : Prop :=
  ∃ F G, Ix w F p ms ∧ Rx w G q ns ∧ (∀ k ∈ F, k ∉ G) ∧ (∀ k ∈ F, w0.heap.size ≤ k) ∧ (∀ k ∈ G, w0.heap.size ≤ k) ∧ Below w0.heap.size w0 w
/-- The same, beside a block that neither takes. -/
def Ow4 (w0 w : World) (p : Nat) (ms : List Bool) (q : Nat) (ns : List Bool) (b : Nat) (o : Obj) : Prop :=
  ∃ F G, Ix w F p ms ∧ Rx w G q ns ∧ (∀ k ∈ F, k ∉ G) ∧ (∀ k ∈ F, w0.heap.size ≤ k) ∧ (∀ k ∈ G, w0.heap.size ≤ k) ∧ Below w0.heap.size w0 w ∧ w.heap[b]? = some o ∧ b ∉ F ∧ b ∉ G
theorem Ow3.a {w0 w : World} {p q : Nat} {ms ns : List Bool} (h : Ow3 w0 w p ms q ns) : Ow w0 w p ms := by
  obtain ⟨F, G, h1, h2, h3, h4, h5, h6⟩ := h
  exact ⟨F, h1, h4, h6⟩
theorem Ow3.row {w0 w : World} {p q : Nat} {ms ns : List Bool} (h : Ow3 w0 w p ms q ns) : ∃ G, Rx w G q ns := by
  obtain ⟨F, G, h1, h2, h3, h4, h5, h6⟩ := h
  exact ⟨G, h2⟩
theorem Ow3.drewN {w0 w : World} {p q : Nat} {ms ns : List Bool} (h : Ow3 w0 w p ms q ns) (n : Nat) : Ow3 w0 (w.drewN n) p ms q ns := by
  obtain ⟨F, G, h1, h2, h3, h4, h5, h6⟩ := h
  exact ⟨F, G, h1.drewN n, h2.drewN n, h3, h4, h5, pw_below_drewN h6 n⟩
theorem Ow3.with_ {w0 w w' : World} {p q b : Nat} {ms ns : List Bool} {o : Obj} (h : Ow3 w0 w p ms q ns) (hb : Below w.heap.size w w') (hle : w.heap.size ≤ b) (ho : w'.heap[b]? = some o) : Ow4 w0 w' p ms q ns b o := by
  obtain ⟨F, G, h1, h2, h3, h4, h5, h6⟩ := h
  exact ⟨F, G, h1.below hb, h2.below hb, h3, h4, h5, below_step h6 hb, ho, fun hm => by have := h1.lt b hm; omega, fun hm => by have := h2.lt b hm; omega⟩
theorem Ow4.fst {w0 w : World} {p q b : Nat} {ms ns : List Bool} {o : Obj} (h : Ow4 w0 w p ms q ns b o) : Ow3 w0 w p ms q ns := by
  obtain ⟨F, G, h1, h2, h3, h4, h5, h6, _⟩ := h
  exact ⟨F, G, h1, h2, h3, h4, h5, h6⟩
theorem Ow4.blk {w0 w : World} {p q b : Nat} {ms ns : List Bool} {o : Obj} (h : Ow4 w0 w p ms q ns b o) : w.heap[b]? = some o := by
  obtain ⟨F, G, h1, h2, h3, h4, h5, h6, h7, _⟩ := h
  exact h7
theorem Ow4.drewN {w0 w : World} {p q b : Nat} {ms ns : List Bool} {o : Obj} (h : Ow4 w0 w p ms q ns b o) (n : Nat) : Ow4 w0 (w.drewN n) p ms q ns b o := by
  obtain ⟨F, G, h1, h2, h3, h4, h5, h6, h7, h8⟩ := h
  exact ⟨F, G, h1.drewN n, h2.drewN n, h3, h4, h5, pw_below_drewN h6 n, h7, h8⟩
/-- The document's row, made anew. -/
theorem row_new {w0 w : World} {p : Nat} {ms : List Bool} (h : Ow w0 w p ms) : Ow3 w0 (w.alloc (.cells #[.slice none 0 0] 45)) p ms w.heap.size [] := by
  obtain ⟨F, h1, h2, h3⟩ := h
  have hb : Below w.heap.size w (w.alloc (.cells #[.slice none 0 0] 45)) := (Below.refl _ w).alloc (Nat.le_refl _) _
  refine ⟨F, [w.heap.size], h1.below hb, ⟨.slice none 0 0, heap_new w _, ⟨rfl, .inl ⟨rfl, rfl⟩⟩, rfl⟩, fun k hk hm => ?_, h2, fun k hk => ?_, below_step h3 hb⟩
  · have := h1.lt k hk
    rw [List.mem_singleton] at hm
    omega
  · rw [List.mem_singleton] at hk
    rw [hk]; exact h3.size
theorem ins_4 {w0 w : World} {p q b : Nat} {ms ns : List Bool} {o : Obj} (a : Int) (u : Bool) (r : Bool) (ms' : List Bool) (e : insS ms a u = (r, ms')) (h : Ow4 w0 w p ms q ns b o) (hs : ms.length ≤ 1000000) : Calls Try.prog 16 #[.pointer (some ⟨p, 0, none⟩), .int .i64 a, .bool u] w fun e w' => e = .returned (.bool r) ∧ Ow4 w0 w' p ms' q ns b o := by
  obtain ⟨F, G, h1, h2, h3, h4, h5, h6, h7, h8, h9⟩ := h
  refine (ins_calls w F p ms a u h1 hs).mono ?_
  rw [e]
  rintro e w' ⟨rfl, F', i1, i2, i3⟩
  have hbl := lt_of h7
  exact ⟨rfl, F', G, i1, h2.fr i2 (fun k hk hm => h3 k hm hk), fun k hk hm => (i3 k hk).elim (fun h => h3 k h hm) (fun h => by have := h2.lt k hm; omega), fun k hk => (i3 k hk).elim (h4 k) (fun h => Nat.le_trans h6.size h), h5, i2.below h6 h4, (i2.block b hbl h8).trans h7, fun hm => (i3 b hm).elim h8 (fun h => by omega), h9⟩
theorem set_4 {w0 w : World} {p q b : Nat} {ms ns : List Bool} {o : Obj} (a : Int) (u : Bool) (r : Bool) (ms' : List Bool) (e : setS ms a u = (r, ms')) (h : Ow4 w0 w p ms q ns b o) (hs : ms.length ≤ 1000000) : Calls Try.prog 22 #[.pointer (some ⟨p, 0, none⟩), .int .i64 a, .bool u] w fun e w' => e = .returned (.bool r) ∧ Ow4 w0 w' p ms' q ns b o := by
  obtain ⟨F, G, h1, h2, h3, h4, h5, h6, h7, h8, h9⟩ := h
  refine (set_calls w F p ms a u h1 hs).mono ?_
  rw [e]
  rintro e w' ⟨rfl, i1, i2⟩
  have hbl := lt_of h7
  exact ⟨rfl, F, G, i1, h2.fr i2 (fun k hk hm => h3 k hm hk), h3, h4, h5, i2.below h6 h4, (i2.block b hbl h8).trans h7, h8, h9⟩
theorem rins_4 {w0 w : World} {p q b : Nat} {ms ns : List Bool} {o : Obj} (a : Int) (u : Bool) (r : Bool) (ns' : List Bool) (e : insS ns a u = (r, ns')) (h : Ow4 w0 w p ms q ns b o) (hs : ns.length ≤ 1000000) : Calls Try.prog 24 #[.pointer (some ⟨q, 0, none⟩), .int .i64 a, .bool u] w fun e w' => e = .returned (.bool r) ∧ Ow4 w0 w' p ms q ns' b o := by
  obtain ⟨F, G, h1, h2, h3, h4, h5, h6, h7, h8, h9⟩ := h
  refine (rins_calls w G q ns a u h2 hs).mono ?_
  rw [e]
  rintro e w' ⟨rfl, G', i1, i2, i3⟩
  have hbl := lt_of h7
  exact ⟨rfl, F, G', h1.fr i2 h3, i1, fun k hk hm => (i3 k hm).elim (fun h => h3 k hk h) (fun h => by have := h1.lt k hk; omega), h4, fun k hk => (i3 k hk).elim (h5 k) (fun h => Nat.le_trans h6.size h), i2.below h6 h5, (i2.block b hbl h9).trans h7, h8, fun hm => (i3 b hm).elim h9 (fun h => by omega)⟩
theorem rset_4 {w0 w : World} {p q b : Nat} {ms ns : List Bool} {o : Obj} (a : Int) (u : Bool) (r : Bool) (ns' : List Bool) (e : setS ns a u = (r, ns')) (h : Ow4 w0 w p ms q ns b o) (hs : ns.length ≤ 1000000) : Calls Try.prog 23 #[.pointer (some ⟨q, 0, none⟩), .int .i64 a, .bool u] w fun e w' => e = .returned (.bool r) ∧ Ow4 w0 w' p ms q ns' b o := by
  obtain ⟨F, G, h1, h2, h3, h4, h5, h6, h7, h8, h9⟩ := h
  refine (rset_calls w G q ns a u h2 hs).mono ?_
  rw [e]
  rintro e w' ⟨rfl, i1, i2⟩
  have hbl := lt_of h7
  exact ⟨rfl, F, G, h1.fr i2 h3, i1, h3, h4, h5, i2.below h6 h5, (i2.block b hbl h9).trans h7, h8, h9⟩
theorem rrank_is {w0 w : World} {p q : Nat} {ms ns : List Bool} (a r : Int) (e : rankS ns a = r) (h : Ow3 w0 w p ms q ns) (hs : ns.length ≤ 1000000) : Calls Try.prog 26 #[.pointer (some ⟨q, 0, none⟩), .int .i64 a] w fun e w' => e = .returned (.int .i64 r) ∧ w = w' := by
  obtain ⟨G, h1⟩ := h.row
  have := rrank_calls w G q ns a h1 hs
  rw [e] at this
  exact this
theorem rsel_is {w0 w : World} {p q : Nat} {ms ns : List Bool} (a r : Int) (b : Bool) (e : selS ns a = (r, b)) (h : Ow3 w0 w p ms q ns) (hs : ns.length ≤ 1000000) (ha : -9223372036854775808 ≤ a ∧ a ≤ 9223372036854775807) : Calls Try.prog 25 #[.pointer (some ⟨q, 0, none⟩), .int .i64 a] w fun e w' => e = .returned (.tuple #[.int .i64 r, .bool b]) ∧ w = w' := by
  obtain ⟨G, h1⟩ := h.row
  have := rsel_calls w G q ns a h1 hs ha
  rw [e] at this
  exact this
theorem rrank_q {w0 w : World} {p q : Nat} {ms ns : List Bool} (a r : Int) (e : rankS ns a = r) (h : Ow3 w0 w p ms q ns) (hs : ns.length ≤ 1000000) (n : Nat) : Calls Try.prog 26 #[.pointer (some ⟨q, 0, none⟩), .int .i64 a] (w.drewN n) fun e w' => e = .returned (.int .i64 r) ∧ ∃ m, w' = w.drewN m :=
  Calls.quiet_of_same ((rrank_is a r e (h.drewN n) hs).mono fun _ _ h => ⟨h.1, h.2.symm⟩)
/-- What the walk reads of the row's head, and of a mark. -/
theorem Ow3.head {w0 w : World} {p q : Nat} {ms ns : List Bool} (h : Ow3 w0 w p ms q ns) : ∃ A cap, ns.length ≤ cap ∧ cap ≤ maxLen ∧ w.cell? ⟨q, 0, none⟩ = some (.slice A ns.length cap) := by
  obtain ⟨G, h1⟩ := h.row
  obtain ⟨A, cap, h2, h3, h4, _⟩ := h1.cells
  exact ⟨A, cap, h2, h3, h4⟩
theorem Ow3.mark {w0 w : World} {p q : Nat} {ms ns : List Bool} (h : Ow3 w0 w p ms q ns) {i : Nat} {u : Bool} (hu : ns[i]? = some u) : ∃ g cap, ns.length ≤ cap ∧ cap ≤ maxLen ∧ w.cell? ⟨q, 0, none⟩ = some (.slice (some ⟨g, 0, none⟩) ns.length cap) ∧ w.cell? ⟨g, i, none⟩ = some (.bool u) := by
  obtain ⟨G, h1⟩ := h.row
  obtain ⟨A, cap, h2, h3, h4, _, hm⟩ := h1.cells
  obtain ⟨g, rfl, hc⟩ := hm i u hu
  exact ⟨g, cap, h2, h3, h4, hc⟩
theorem insS_len (ms : List Bool) (a : Int) (u : Bool) : (insS ms a u).2.length ≤ ms.length + 1 := by
  unfold insS
  split
  · rename_i h
    simp only [List.length_append, List.length_take, List.length_drop, List.length_singleton]
    omega
  · simp
theorem setS_len (ms : List Bool) (a : Int) (u : Bool) : (setS ms a u).2.length = ms.length := by
  unfold setS
  split <;> simp
end Go.Proofs.Ytbbiocmlicoipaa.PC
