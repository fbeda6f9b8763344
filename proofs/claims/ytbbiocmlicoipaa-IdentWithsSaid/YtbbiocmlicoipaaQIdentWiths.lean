/- IdentWiths comes to true. -/
import Derived.Test.YtbbiocmlicoipaaLIdentWiths
import Derived.Test.YtbbiocmlicoipaaQ2
namespace Go.Proofs.Ytbbiocmlicoipaa.PC
open Go.RowKit Go.Proofs.YtbbiocmlicoipaaW.PrintWords Go.Proofs.YtbbiocmlicoipaaW.PrintLast Go.Proofs.YtbbiocmlicoipaaW.PrintMore Go.Proofs.Ytbbiocmlicoipaa.I
set_option linter.unusedVariables false
set_option linter.unusedSimpArgs false
/-- The entries that IdentWiths takes, and how many. -/
def wN (l : List S54) : Nat := min l.length 30
def wP (l : List S54) : List (Int × Int) := ents (l.take (wN l))
theorem w_l2 (l : List S54) (i : Nat) (hi : i < wN l) : ∀ (d q k : Nat), wN l - q = d → q ≤ wN l → d < k →
    foolscaplaw12_IdentWiths.l2 (k + 100) l true (putS [] (wP l)) (putS [] (wP l)) (wN l : Int) (i : Int) (mo 0 (ents (l.take q)) (Go.bits .and .i64 (rd_T54 l (i : Int)).f0 4194303)) (q : Int) =
      foolscaplaw12_IdentWiths.l1 (k - d - 1 + 100) l true (putS [] (wP l)) (putS [] (wP l)) (wN l : Int) ((i + 1 : Nat) : Int) := by
  intro d
  have hn : wN l ≤ 30 ∧ wN l ≤ l.length := by unfold wN; omega
  induction d with
  | zero =>
    intro q k hd hq hk
    obtain ⟨k, rfl⟩ : ∃ m, k = m + 1 := ⟨k - 1, by omega⟩
    obtain rfl : q = wN l := by omega
    have hp := putS_all _ (ents_ok (l.take (wN l)))
    have hlen : (putS [] (ents (l.take (wN l)))).length ≤ 1000000 := by
      have := hp.2.2.1
      rw [ents_len, List.length_take] at this
      omega
    rw [show k + 1 + 100 = (k + 100) + 1 by omega, foolscaplaw12_IdentWiths.l2, if_neg (by omega), if_pos (by omega), if_pos (by omega)]
    unfold wP
    rw [seq_f hp.1 hlen, Option.bind_some, hp.2.2.2, if_pos rfl, wrap_nat _ (by omega)]
    rfl
  | succ d ih =>
    intro q k hd hq hk
    obtain ⟨k, rfl⟩ : ∃ m, k = m + 1 := ⟨k - 1, by omega⟩
    have h1 : q < l.length := by omega
    have hmx : ∀ a b : Int, mx a b = max a b := fun a b => by unfold mx; omega
    have ih := ih (q + 1) k (by omega) (by omega) (by omega)
    rw [ents_take l q h1, mo_snoc] at ih
    rw [show k + 1 - (d + 1) - 1 = k - d - 1 by omega, show k + 1 + 100 = (k + 100) + 1 by omega, foolscaplaw12_IdentWiths.l2, if_pos (by omega), if_pos (by omega), if_pos (by omega), if_pos (by omega), if_pos (by omega), wrap_nat _ (by omega), hmx]
    by_cases c : Go.bits .and .i64 (rd_T54 l (q : Int)).f0 4194303 = Go.bits .and .i64 (rd_T54 l (i : Int)).f0 4194303
    · rw [if_pos c]
      rw [if_pos (show (ent (rd_T54 l (q : Int))).1 = _ from c)] at ih
      exact ih
    · rw [if_neg c]
      rw [if_neg (show ¬ (ent (rd_T54 l (q : Int))).1 = _ from c)] at ih
      exact ih
open Classical in
theorem w_l1 (l : List S54) : ∀ (d i k : Nat), wN l - i = d → i ≤ wN l → 100 * d + 100 ≤ k → foolscaplaw12_IdentWiths.l1 (k + 101) l true (putS [] (wP l)) (putS [] (wP l)) (wN l : Int) (i : Int) = some true := by
  intro d
  have hn : wN l ≤ 30 ∧ wN l ≤ l.length := by unfold wN; omega
  have hp := putS_all _ (ents_ok (l.take (wN l)))
  have hlen : (putS [] (wP l)).length ≤ wN l := by
    have := hp.2.2.1
    rw [ents_len, List.length_take] at this
    unfold wP
    omega
  induction d with
  | zero =>
    intro i k hd hi hk
    rw [show k + 101 = (k + 100) + 1 by omega, foolscaplaw12_IdentWiths.l1, if_neg (by omega), if_pos rfl, Vector_f (xs := putS [] (wP l)) hp.2.1 (by omega) (k + 100) (by omega), Option.bind_some, if_pos rfl, same_f _ _ (by omega) (k + 100) (by omega), Option.bind_some, if_pos (by simp)]
    congr 1
    exact decide_eq_true (by omega)
  | succ d ih =>
    intro i k hd hi hk
    have e := w_l2 l i (by omega) (wN l) 0 k (by omega) (by omega) (by omega)
    rw [show k + 101 = (k + 100) + 1 by omega, foolscaplaw12_IdentWiths.l1, if_pos (by omega)]
    rw [show ((0 : Nat) : Int) = 0 from rfl] at e
    refine e.trans ?_
    rw [show k - wN l - 1 + 100 = (k - wN l - 2) + 101 - 0 by omega]
    exact ih (i + 1) (k - wN l - 2) (by omega) (by omega) (by omega)
theorem w_rev (l : List S54) (i : Nat) (h : i < wN l) : ents ((l.take (wN l)).reverse.take (i + 1)) = ents ((l.take (wN l)).reverse.take i) ++ [ent (rd_T54 l ((wN l - 1 - i : Nat) : Int))] := by
  have hn : wN l ≤ 30 ∧ wN l ≤ l.length := by unfold wN; omega
  have hl : (l.take (wN l)).reverse.length = wN l := by rw [List.length_reverse, List.length_take]; omega
  rw [ents_take _ i (by omega), rd_ok _ _ (by omega), rd_ok _ _ (by omega), List.getElem_reverse, List.getElem_take]
  congr 4
  rw [List.length_take]; omega
theorem w_l0 (l : List S54) : ∀ (d i k : Nat), wN l - i = d → i ≤ wN l → d + 5000 ≤ k →
    foolscaplaw12_IdentWiths.l0 k l true (putS [] (ents (l.take i))) (putS [] (ents ((l.take (wN l)).reverse.take i))) (wN l : Int) (i : Int) = some true := by
  intro d
  have hn : wN l ≤ 30 ∧ wN l ≤ l.length := by unfold wN; omega
  induction d with
  | zero =>
    intro i k hd hi hk
    obtain ⟨k, rfl⟩ : ∃ m, k = m + 1 := ⟨k - 1, by omega⟩
    obtain rfl : i = wN l := by omega
    have hl : (l.take (wN l)).reverse.length = wN l := by rw [List.length_reverse, List.length_take]; omega
    rw [foolscaplaw12_IdentWiths.l0, if_neg (by omega), List.take_of_length_le (by omega : (l.take (wN l)).reverse.length ≤ wN l)]
    have e : putS [] (ents (l.take (wN l)).reverse) = putS [] (wP l) := by
      unfold ents wP
      rw [List.map_reverse]
      exact putS_rev (ents_ok _)
    rw [e, show k = (k - 101) + 101 by omega]
    exact w_l1 l (wN l) 0 (k - 101) (by omega) (by omega) (by omega)
  | succ d ih =>
    intro i k hd hi hk
    obtain ⟨k, rfl⟩ : ∃ m, k = m + 1 := ⟨k - 1, by omega⟩
    have h1 : i < wN l := by omega
    have hpa := putS_all _ (ents_ok (l.take i))
    have hpb := putS_all _ (ents_ok ((l.take (wN l)).reverse.take i))
    have hla : (putS [] (ents (l.take i))).length ≤ 1000000 := by
      have := hpa.2.2.1
      rw [ents_len, List.length_take] at this
      omega
    have hlb : (putS [] (ents ((l.take (wN l)).reverse.take i))).length ≤ 1000000 := by
      have := hpb.2.2.1
      rw [ents_len, List.length_take, List.length_reverse, List.length_take] at this
      omega
    have hw : wrap64 (wrap64 ((wN l : Int) - 1) - (i : Int)) = ((wN l - 1 - i : Nat) : Int) := by unfold wrap64; omega
    rw [foolscaplaw12_IdentWiths.l0, if_pos (by omega), if_pos (by omega), if_pos (by omega), with_f hpa.1 hla, Option.bind_some, hw, if_pos (by omega), if_pos (by omega), with_f hpb.1 hlb, Option.bind_some, ← put_take l i (by omega), wrap_nat _ (by omega)]
    have e := w_rev l i h1
    have ih := ih (i + 1) k (by omega) (by omega) (by omega)
    rw [e, putS_snoc] at ih
    exact ih
theorem withs_f (l : List S54) : foolscaplaw12_IdentWiths.f 6000 l = some true := by
  unfold foolscaplaw12_IdentWiths.f
  have hs : foolscaplaw12_shown.f = some true := rfl
  rw [hs, Option.bind_some]
  have e : mn (l.length : Int) 30 = (wN l : Int) := by unfold mn wN; omega
  rw [e]
  exact w_l0 l (wN l) 0 6000 (by omega) (by omega) (by unfold wN; omega)
theorem withs_row (a : Option Addr) (cap : Nat) (z : List S54) (w : World) (hr : Kd.C k54 w a z.length z) (hc : z.length ≤ cap) (hy : z.length * 16 ≤ 140737488351232) (hg : ∀ y ∈ z, (Lit.int .i64 y.f0).wf = true ∧ (Lit.int .i64 y.f1).wf = true) :
    Calls Try.prog 9 #[.slice a z.length cap] w fun e w' => e = .returned (.bool true) ∧ Below w.heap.size w w' :=
  foolscaplaw12_IdentWiths.calls 6000 a cap z true w hr hc (withs_f z)
end Go.Proofs.Ytbbiocmlicoipaa.PC
