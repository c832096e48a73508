/- Package pack: its contracts in the form in which the statements' walks meet them: a slice's length under a name of its own. -/
import Derived.Test.YtfhngdknhpjhaaaPkR
namespace Go.Proofs.Ytfhngdknhpjhaaa.PkC
open Go.RowKit Go.Proofs.YtfhngdknhpjhaaaW.PrintWords Go.Proofs.YtfhngdknhpjhaaaW.PrintLast Go.Proofs.YtfhngdknhpjhaaaW.PrintMore Go.Proofs.Ytfhngdknhpjhaaa.PkM Go.Proofs.Ytfhngdknhpjhaaa.PkP Go.Proofs.Ytfhngdknhpjhaaa.PkH Go.Proofs.Ytfhngdknhpjhaaa.PkR
set_option linter.unusedVariables false
set_option linter.unusedSimpArgs false

/-- A slice of bytes that reads l in w. -/
structure Sl (w : World) (A : Option Addr) (n c : Nat) (l : List Int) : Prop where
  len : n = l.length
  cap : n ≤ c
  reads : Kd.C (Kd.int .u8) w A n l
/-- One of the call's own, made from block base on. -/
structure Ow (w : World) (base : Nat) (A : Option Addr) (n c : Nat) (l : List Int) : Prop where
  own : Kd.R (Kd.int .u8) 5 w base (fun _ => True) (.slice A n c) l
  sl : Sl w A n c l
theorem Sl.below {w w1 : World} {A : Option Addr} {n c : Nat} {l : List Int} (h : Sl w A n c l) (hb : Below w.heap.size w w1) : Sl w1 A n c l := ⟨h.len, h.cap, Kd.C_below h.reads hb⟩
theorem Sl.nil (w : World) : Sl w none 0 0 [] := ⟨rfl, Nat.le_refl _, ⟨rfl, Nat.zero_le _, fun h => absurd h (by decide)⟩⟩
theorem Ow.of {w : World} {base : Nat} {v : Value} {l : List Int} (h : Kd.R (Kd.int .u8) 5 w base (fun _ => True) v l) : ∃ A n c, v = .slice A n c ∧ Ow w base A n c l := by
  obtain ⟨A, c, rfl, h1, h2⟩ := Kd.R_reads h
  exact ⟨A, _, c, rfl, h, rfl, h1, h2⟩
/-- A row's slice, its length under a name of its own. -/
theorem row_slice {α : Type} {d : Kd α} {e base : Nat} {w : World} {ok : Nat → Prop} {v : Value} {xs : List α} (h : d.R e w base ok v xs) : ∃ A n c, v = .slice A n c ∧ Aside0 (n = xs.length) ∧ Aside0 (n ≤ c ∧ d.C w A n xs) := by
  obtain ⟨A, c, rfl, h1, h2⟩ := Kd.R_reads h
  exact ⟨A, _, c, rfl, ⟨rfl⟩, ⟨h1, h2⟩⟩
theorem Ow.below {w w1 : World} {base : Nat} {A : Option Addr} {n c : Nat} {l : List Int} (h : Ow w base A n c l) (hb : Below w.heap.size w w1) : Ow w1 base A n c l := ⟨Kd.R_below h.own hb, h.sl.below hb⟩

theorem number {A : Option Addr} {n c : Nat} {l : List Int} {x : Int} {w : World} (h : Sl w A n c l) (hl : l.length + (enc x).length ≤ 140737488355328) :
    Calls Try.prog 13 #[.slice A n c, .int .i64 x] w fun e w' => ∃ A' n' c', e = .returned (.slice A' n' c') ∧ Ow w' w.heap.size A' n' c' (l ++ enc x) ∧ Below w.heap.size w w' := by
  obtain ⟨rfl, h2, h3⟩ := h
  refine (Number_calls A c l x w h3 h2 hl).mono ?_
  rintro e w' ⟨v, rfl, hR, hB⟩
  obtain ⟨A', n', c', rfl, ho⟩ := Ow.of hR
  exact ⟨A', n', c', rfl, ho, hB⟩
theorem text {A : Option Addr} {n c : Nat} {l : List Int} {s : ByteArray} {w : World} (h : Sl w A n c l) (hl : l.length + s.size ≤ 140737488000000) :
    Calls Try.prog 14 #[.slice A n c, .string s] w fun e w' => ∃ A' n' c', e = .returned (.slice A' n' c') ∧ Ow w' w.heap.size A' n' c' (l ++ enc s.size ++ bytesOf s) ∧ Below w.heap.size w w' := by
  obtain ⟨rfl, h2, h3⟩ := h
  refine (Text_calls A c l s w h3 h2 (by have := enc_len s.size; omega)).mono ?_
  rintro e w' ⟨v, rfl, hR, hB⟩
  obtain ⟨A', n', c', rfl, ho⟩ := Ow.of hR
  exact ⟨A', n', c', rfl, ho, hB⟩
theorem fixed {A : Option Addr} {n c : Nat} {l : List Int} {x : Int} {w : World} (h : Sl w A n c l) (hl : l.length + 4 < 140737488355328) :
    Calls Try.prog 22 #[.slice A n c, .int .i64 x] w fun e w' => ∃ A' n' c', e = .returned (.slice A' n' c') ∧ Ow w' w.heap.size A' n' c' (l ++ fix4 x) ∧ Below w.heap.size w w' := by
  obtain ⟨rfl, h2, h3⟩ := h
  refine (pack_Fixed.calls A c l x _ w h3 h2 (Fixed_f l x hl)).mono ?_
  rintro e w' ⟨v, rfl, hR, hB⟩
  obtain ⟨A', n', c', rfl, ho⟩ := Ow.of hR
  exact ⟨A', n', c', rfl, ho, hB⟩

/-- A reader that stands at block g: what is left, the error; the bytes lie in some world that was. -/
def Rd (w : World) (g : Nat) (bs : List Int) (e : Int) : Prop := Bytes bs ∧ bs.length ≤ 140737488355328 ∧ ∃ w0, Below w0.heap.size w0 w ∧ IsRd w0 w g bs e
/-- What a call on the reader at g turns: that block alone. -/
def Turned (w w' : World) (g : Nat) : Prop := KeepBut w w' g none ∧ w'.os = w.os ∧ w'.tape = w.tape ∧ w'.output = w.output
theorem Rd.lt {w : World} {g : Nat} {bs : List Int} {e : Int} (h : Rd w g bs e) : g < w.heap.size := by
  obtain ⟨_, _, w0, _, h⟩ := h
  exact h.lt
theorem Rd.below {w w1 : World} {g : Nat} {bs : List Int} {e : Int} (h : Rd w g bs e) (hb : Below w.heap.size w w1) : Rd w1 g bs e := by
  obtain ⟨h1, h2, w0, h3, h4⟩ := h
  exact ⟨h1, h2, w0, h3.trans (hb.mono h3.size), h4.below hb⟩
theorem Sl.turned {w w1 : World} {B g : Nat} {A : Option Addr} {n c : Nat} {l : List Int} (h : Sl w A n c l) (hb : Below B w w1) (hB : w.heap.size ≤ B) : Sl w1 A n c l := h.below (hb.mono hB)

theorem newReader {A : Option Addr} {n c : Nat} {l : List Int} {w : World} (h : Sl w A n c l) (hb : Bytes l) (hl : l.length < 140737488355328) :
    Calls Try.prog 15 #[.slice A n c] w fun e w' => ∃ g, e = .returned (.pointer (some ⟨g, 0, none⟩)) ∧ Rd w' g l 0 ∧ Below w.heap.size w w' ∧ w.heap.size ≤ g := by
  obtain ⟨rfl, h2, h3⟩ := h
  refine (NewReader_calls A c l w h3 h2 hl).mono ?_
  rintro e w' ⟨g, w1, rfl, hI, hB1, hB2⟩
  exact ⟨g, rfl, ⟨hb, by omega, w1, hB2, hI⟩, hB1.trans (hB2.mono hB1.size), Nat.le_trans hB1.size hI.ge⟩
theorem after {B : Nat} {w w' w0 : World} {g : Nat} {bs : List Int} {e : Int} (hB0 : Below w0.heap.size w0 w) (hg : B ≤ g) (hlt : g < w.heap.size) (h : After w0 w g bs e w') (hb : Bytes bs) (hl : bs.length ≤ 140737488355328) : Rd w' g bs e ∧ Below B w w' := by
  obtain ⟨h1, h2, h3⟩ := h
  exact ⟨⟨hb, hl, w0, h2, h1⟩, h2.os.trans hB0.os.symm, h2.tape.trans hB0.tape.symm, h2.output.trans hB0.output.symm, h3.1, fun k hk => h3.2 k (by omega) (by omega) (by simp)⟩
theorem Bytes.drop {l : List Int} (h : Bytes l) (k : Nat) : Bytes (l.drop k) := fun b hb => h b (List.mem_of_mem_drop hb)
theorem rNum_rest (bs : List Int) (e : Int) (hb : Bytes bs) : Bytes (rNum bs e).2.1 ∧ (rNum bs e).2.1.length ≤ bs.length := by
  unfold rNum
  (repeat' split) <;> first | exact ⟨hb, Nat.le_refl _⟩ | exact ⟨Bytes.drop hb _, by simp⟩
theorem rText_rest (most : Int) (bs : List Int) (e : Int) (hb : Bytes bs) : Bytes (rText most bs e).2.1 ∧ (rText most bs e).2.1.length ≤ bs.length := by
  unfold rText
  simp only
  (repeat' split) <;> first | exact ⟨hb, Nat.le_refl _⟩ | exact ⟨Bytes.drop hb _, by simp⟩
theorem rBytes_rest (size : Nat) (bs : List Int) (e : Int) (hb : Bytes bs) : Bytes (rBytes size bs e).2.1 ∧ (rBytes size bs e).2.1.length ≤ bs.length := by
  unfold rBytes
  (repeat' split) <;> first | exact ⟨hb, Nat.le_refl _⟩ | exact ⟨Bytes.drop hb _, by simp⟩

theorem rnum {w : World} {B g : Nat} {bs : List Int} {e : Int} (h : Rd w g bs e) (hg : B ≤ g) :
    Calls Try.prog 16 #[.pointer (some ⟨g, 0, none⟩)] w fun ee w' => ee = .returned (.int .i64 (rNum bs e).1) ∧ Rd w' g (rNum bs e).2.1 (rNum bs e).2.2 ∧ Below B w w' := by
  obtain ⟨hb, hl, w0, hB, hI⟩ := h
  refine (RNumber_calls g bs e w0 w hb hI hB).mono ?_
  rintro ee w' ⟨rfl, hA⟩
  have hr := rNum_rest bs e hb
  exact ⟨rfl, after hB hg hI.lt hA hr.1 (by omega)⟩
theorem rtext {w : World} {B g : Nat} {most : Int} {bs : List Int} {e : Int} (h : Rd w g bs e) (hg : B ≤ g) :
    Calls Try.prog 17 #[.pointer (some ⟨g, 0, none⟩), .int .i64 most] w fun ee w' => ee = .returned (.string (strOfNums (rText most bs e).1)) ∧ Rd w' g (rText most bs e).2.1 (rText most bs e).2.2 ∧ Below B w w' := by
  obtain ⟨hb, hl, w0, hB, hI⟩ := h
  refine (RText_calls g most bs e w0 w hb (by omega) hI hB).mono ?_
  rintro ee w' ⟨rfl, hA⟩
  have hr := rText_rest most bs e hb
  exact ⟨rfl, after hB hg hI.lt hA hr.1 (by omega)⟩
theorem rbytes {w : World} {B g size : Nat} {bs : List Int} {e : Int} (h : Rd w g bs e) (hg : B ≤ g) (h1 : 1 ≤ size) (h4 : size ≤ 4) :
    Calls Try.prog 38 #[.pointer (some ⟨g, 0, none⟩), .int .i64 size] w fun ee w' => ee = .returned (.int .i64 (rBytes size bs e).1) ∧ Rd w' g (rBytes size bs e).2.1 (rBytes size bs e).2.2 ∧ Below B w w' := by
  obtain ⟨hb, hl, w0, hB, hI⟩ := h
  refine (bytes_calls g size bs e w0 w h1 h4 hb hI hB).mono ?_
  rintro ee w' ⟨rfl, hA⟩
  have hr := rBytes_rest size bs e hb
  exact ⟨rfl, after hB hg hI.lt hA hr.1 (by omega)⟩
theorem rfixed {w : World} {B g : Nat} {bs : List Int} {e : Int} (h : Rd w g bs e) (hg : B ≤ g) :
    Calls Try.prog 24 #[.pointer (some ⟨g, 0, none⟩)] w fun ee w' => ee = .returned (.int .i64 (rBytes 4 bs e).1) ∧ Rd w' g (rBytes 4 bs e).2.1 (rBytes 4 bs e).2.2 ∧ Below B w w' := by
  have H := Aside0.mk (rbytes (size := 4) h hg (by decide) (by decide))
  clear h
  go_enter Try.func24, Try.ntmps24
  go_wp2_with (go_at_call 38; refine H.out.mono ?_; rintro e w' ⟨rfl, h⟩; have h' := Aside0.mk h; clear h)
  go_ret
  exact ⟨rfl, h'.out⟩
theorem rleft {w : World} {g : Nat} {bs : List Int} {e : Int} (h : Rd w g bs e) :
    Calls Try.prog 18 #[.pointer (some ⟨g, 0, none⟩)] w fun ee w' => ee = .returned (.int .i64 bs.length) ∧ w = w' := by
  obtain ⟨hb, hl, w0, hB, hI⟩ := h
  exact Left_calls g bs e w0 w hI
theorem rerr {w : World} {g : Nat} {bs : List Int} {e : Int} (h : Rd w g bs e) :
    Calls Try.prog 19 #[.pointer (some ⟨g, 0, none⟩)] w fun ee w' => ee = .returned (.int .i64 e) ∧ w = w' := by
  obtain ⟨hb, hl, w0, hB, hI⟩ := h
  exact Err_calls g bs e w0 w hI
theorem string_of {w : World} {A : Option Addr} {n c : Nat} {l : List Int} (h : Sl w A n c l) : (convert 25 9 (.slice A n c)).run Try.prog w = .ok (.string (strOfNums l)) w :=
  string_of_reads Try.underlying25 Try.underlying5 Try.underlying9 (Kd.reads_of_C (d := (0 : Int)) h.reads)
section
variable {ops : Array Oper} {rest : List Oper} {o : Oper} {a : Act} {Q : Exit → Act → World → Prop} {W : World}
/-- append(b, more...), b of the call's own; behind 'at_builtin'. -/
theorem append_sl (hgd : o.guard = none) (s x : Operand) (ho : o.op = .call { callee := .builtin .append, args := #[s, x], argTypes := #[25, 25] })
    {base : Nat} {A1 A2 : Option Addr} {n1 c1 n2 c2 : Nat} {l1 l2 : List Int} (h1 : Ow W base A1 n1 c1 l1) (h2 : Sl W A2 n2 c2 l2) (hs : a.eval s = .slice A1 n1 c1) (hx : a.eval x = .slice A2 n2 c2) (hbase : base ≤ W.heap.size) (hl : l1.length + l2.length ≤ 140737488355328)
    (h : ∀ A' n' c' w1, Ow w1 base A' n' c' (l1 ++ l2) → Below base W w1 → wpList Try.prog ops Q rest (a.put o.dst (.slice A' n' c')) w1) :
    wpList Try.prog ops Q (o :: rest) a W := by
  refine Kd.R_append_rows (Kd.int .u8) (w0 := W) base hgd s x 25 5 (.int .u8 0) 1 ho Try.underlying25 info5 rfl (by decide) (by omega) (.slice A1 n1 c1) l1 l2 A2 n2 c2 (fun _ => True) (fun _ => False) hs hx h1.own h2.reads (fun _ _ h => h) (fun _ h => h.elim) (fun _ _ => trivial) (Below.refl _ _) hbase (by have := h2.len; omega) ?_
  intro v1 w1 hR hB _ _
  obtain ⟨A', n', c', rfl, ho'⟩ := Ow.of hR
  exact h A' n' c' w1 ho' hB
end
end Go.Proofs.Ytfhngdknhpjhaaa.PkC
