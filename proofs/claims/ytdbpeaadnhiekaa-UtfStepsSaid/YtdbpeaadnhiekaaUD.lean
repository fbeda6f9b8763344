/- Calls of the functions of utf come to what the plain functions on characters and bytes tell; lists not longer than some thousands. -/
import Derived.Test.YtdbpeaadnhiekaaUC
namespace Go.Proofs.Ytdbpeaadnhiekaa.PU
open Go.RowKit Go.Proofs.YtdbpeaadnhiekaaW.PrintWords Go.Proofs.YtdbpeaadnhiekaaW.PrintLast Go.Proofs.YtdbpeaadnhiekaaW.PrintMore Go.Proofs.Ytdbpeaadnhiekaa.U
set_option linter.unusedVariables false
set_option linter.unusedSimpArgs false
theorem shown_calls (w : World) : Calls Try.prog 11 #[] w fun e w' => e = .returned (.bool true) ∧ Below w.heap.size w w' :=
  foolscaplaw01_shown.calls 20 true w shown_20
theorem enc_calls (a : List Int) (hl : a.length ≤ 10000) (A : Option Addr) (c : Nat) (w : World) (hr : Kd.C (Kd.int .i32) w A a.length a) (hc : a.length ≤ c) :
    Calls Try.prog 12 #[.slice A a.length c] w fun e w' => ∃ v, e = .returned (.tuple #[v, .int .i64 (encR a).2]) ∧ Kd.R (Kd.int .u8) 5 w' w.heap.size (fun _ => True) v (encR a).1 ∧ Below w.heap.size w w' :=
  utf_Encode.calls (a.length + 2) A c a _ _ w hr hc (Encode_f a hl _ (Nat.le_refl _))
theorem first_calls (l : List Int) (hb : byl l) (hl : l.length ≤ 100000) (A : Option Addr) (c : Nat) (w : World) (hr : Kd.C (Kd.int .u8) w A l.length l) (hc : l.length ≤ c) :
    Calls Try.prog 14 #[.slice A l.length c] w fun e w' => e = .returned (.tuple #[.int .i32 (fst l).1, .int .i64 (fst l).2.1, .int .i64 (fst l).2.2]) ∧ Drawn0 w w' :=
  utf_First.calls 5 A c l _ _ _ w hr hc (First_f l hb hl _ (Nat.le_refl _))
theorem dec_calls (l : List Int) (hb : byl l) (hl : l.length ≤ 100000) (A : Option Addr) (c : Nat) (w : World) (hr : Kd.C (Kd.int .u8) w A l.length l) (hc : l.length ≤ c) :
    Calls Try.prog 16 #[.slice A l.length c] w fun e w' => ∃ v, e = .returned (.tuple #[v, .int .i64 (dec l).2]) ∧ Kd.R (Kd.int .i32) 21 w' w.heap.size (fun _ => True) v (dec l).1 ∧ Below w.heap.size w w' :=
  (utf_Decode.calls (l.length + 6) (fun k => k < w.heap.size) A c l _ _ w (Kd.V_mk hc (Kd.C_F (Kd.heap_int .u8) hr)) (Decode_f l hb hl _ (Nat.le_refl _))).mono fun e w' ⟨v, h1, h2, h3⟩ => ⟨v, h1, Kd.R_mono h2 (fun _ _ => trivial), h3⟩
theorem tail_calls (l : List Int) (hb : byl l) (hl : l.length ≤ 100000) (A : Option Addr) (c : Nat) (w : World) (hr : Kd.C (Kd.int .u8) w A l.length l) (hc : l.length ≤ c) :
    Calls Try.prog 21 #[.slice A l.length c] w fun e w' => e = .returned (.int .i64 (tl l)) ∧ Below w.heap.size w w' :=
  utf_Tail.calls 9 A c l _ w hr hc (Tail_f l hb hl _ (Nat.le_refl _))
theorem size_calls (c : Int) (w : World) : Calls Try.prog 19 #[.int .i32 c] w fun e w' => e = .returned (.int .i64 (sz c)) ∧ Drawn0 w w' :=
  utf_Size.calls 1 c _ w (Size_f 0 c)
theorem same_calls (a b : List Int) (hl : a.length ≤ 100000) (A B : Option Addr) (c d : Nat) (w : World) (hr : Kd.C (Kd.int .i32) w A a.length a) (hc : a.length ≤ c) (hs : Kd.C (Kd.int .i32) w B b.length b) (hd : b.length ≤ d) :
    Calls Try.prog 18 #[.slice A a.length c, .slice B b.length d] w fun e w' => e = .returned (.bool (decide (a = b))) ∧ Drawn0 w w' :=
  foolscapref01_Same.calls (a.length + 1) A c a B d b _ w hr hc hs hd (Same_f a b hl _ (Nat.le_refl _))
end Go.Proofs.Ytdbpeaadnhiekaa.PU
