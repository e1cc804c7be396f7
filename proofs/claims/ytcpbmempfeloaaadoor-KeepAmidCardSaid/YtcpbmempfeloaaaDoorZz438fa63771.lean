/- Texts of the proofs, part 27: what the functions that they reach do, walked; no conditions beyond those that each states. -/
import Derived.Laws.IdiomStrings
import Derived.Test.YtcpbmempfeloaaaDoorZzdcbd2dd15a
set_option linter.unusedVariables false
set_option linter.unusedSimpArgs false
/- Law 6: texts. -/
namespace Go.Proofs.YtcpbmempfeloaaaDoor
open Go.RowKit
set_option linter.unusedVariables false
set_option linter.unusedSimpArgs false

theorem bytes_string {K : Nat → Obj → Prop} {w : World} {v : Value} {bs : List UInt8} (h : BytesAt K w v bs) (h0 : 0 < bs.length) : (convert 33 9 v).run Tryd.prog w = .ok (.string ⟨bs.toArray⟩) w := by
  obtain ⟨a, cap, rfl⟩ := h.form
  obtain ⟨b, off, rfl⟩ := h.addr h0
  refine run_convert_bytes_back w 33 9 5 ⟨b, off, none⟩ cap bs Tryd.underlying33 Tryd.underlying5 Tryd.underlying9 fun j hj => ?_
  rw [add_at]
  exact h.cell hj
theorem str_add (x y : List UInt8) : (⟨x.toArray⟩ : ByteArray) ++ ⟨y.toArray⟩ = ⟨(x ++ y).toArray⟩ := by
  apply ByteArray.ext
  simp

set_option maxRecDepth 100000 in
set_option maxHeartbeats 2000000 in
theorem texts_calls {P : Nat → Prop} (w : World) (bj bd : Nat) (J : Jn) (D : Dk) (h : JD P w bj bd J D) (h1 : ∀ x ∈ J.all, 0 < x.length) (h2 : J.all.flatten.length ≤ 1000) (h3 : J.all.length ≤ 1000) :
    Calls Tryd.prog 47 #[.pointer (some ⟨bj, 0, none⟩)] w fun e w' => e = .returned (.string ⟨J.all.flatten.toArray⟩) ∧ Fr (fun _ _ => True) w w' := by
  have AC := Lib.hid (jd_all w bj bd J D h)
  have H1 := Lib.hid h1
  have H2 := Lib.hid h2
  clear h h1 h2
  generalize J.all = L at *
  go_enter Tryd.func47, Tryd.ntmps47
  go_wp2_with fail
  (with_reducible refine AC.out.mono ?_)
  rintro e w1 ⟨⟨a, c, V, rfl, o1, hV⟩, f1⟩
  have hls := o1.ls
  rw [hV] at hls
  have LS := Lib.hid hls
  have F1 := Lib.hid f1
  clear o1 hV f1 hls AC
  go_wp2
  go_loopw [3, 5] (fun s i wr => ∃ j : Nat, i = .int .i64 (j : Nat) ∧ s = .string ⟨(L.take j).flatten.toArray⟩ ∧ j ≤ L.length ∧ Hid (wr = w1)) (fun _ i _ => L.length - (intOf i).toNat)
  case atStart => exact ⟨0, rfl, rfl, Nat.zero_le _, rfl⟩
  case round =>
    obtain ⟨j, rfl, rfl, hj, HW⟩ := hrel
    have hw := HW.out
    subst hw
    clear HW
    by_cases hlt : j < L.length
    · have hltI : (j : Int) < L.length := by omega
      obtain ⟨b, o, vb, rfl, k1, x1⟩ := LS.out.at j hlt
      have hcv := bytes_string x1 (H1.out _ (List.getElem_mem hlt))
      obtain ⟨y, z, rfl⟩ := x1.form
      have hsa := str_add (L.take j).flatten L[j]
      have HT : Hid ((L.take j).flatten ++ L[j] = (L.take (j + 1)).flatten) := by
        show _ = _
        rw [List.take_succ_eq_append_getElem hlt, List.flatten_append]
        simp only [List.flatten_cons, List.flatten_nil, List.append_nil]
      rw [HT.out] at hsa
      have hxl : (L.take j).flatten.length + L[j].length ≤ 1000 := by
        rw [← List.length_append, HT.out]
        have h3 := congrArg List.length (congrArg List.flatten (List.take_append_drop (j + 1) L))
        rw [List.flatten_append, List.length_append] at h3
        have := H2.out
        omega
      obtain ⟨x, hx⟩ : ∃ x, (L.take j).flatten = x := ⟨_, rfl⟩
      obtain ⟨u, hu⟩ : ∃ u, L[j] = u := ⟨_, rfl⟩
      obtain ⟨q, hq⟩ : ∃ q, (L.take (j + 1)).flatten = q := ⟨_, rfl⟩
      rw [hx, hu, hq] at hsa
      rw [hx, hu] at hxl
      have hxm : x.length + u.length ≤ 9223372036854775807 := by omega
      have hxi : (x.length : Int) + u.length ≤ 9223372036854775807 := by omega
      rw [hu] at hcv k1
      rw [hx]
      have HQ := Lib.hid hq
      clear x1 HT hx hu hq
      go_wp2
      go_roundw
      case rel => exact ⟨j + 1, by go_num, by rw [HQ.out], by omega, trivial⟩
      case measure => simp [intOf]; omega
    · have hge : (L.length : Int) ≤ j := by omega
      have HF : Hid ((L.take j).flatten = L.flatten) := by
        show _ = _
        rw [List.take_of_length_le (by omega)]
      rw [HF.out]
      go_wp2
      go_ret
      exact ⟨rfl, F1.out⟩
end Go.Proofs.YtcpbmempfeloaaaDoor
/- Law 6: four journals at once. -/
namespace Go.Proofs.YtcpbmempfeloaaaDoor
open Go.RowKit
set_option linter.unusedVariables false
set_option linter.unusedSimpArgs false

abbrev Jd := Nat × Nat × (Jn × Dk)
/-- Four journals, whose blocks o tells apart; of the first one A says what it is. -/
def Q4 (n : Nat) (w : World) (A : (Nat → Prop) → Prop) (b c d : Jd) : Prop := ∃ o : Nat → Nat, A (fun c => o c = 0 ∧ n ≤ c) ∧ Sep n w o 1 b.1 b.2.1 b.2.2 ∧ Sep n w o 2 c.1 c.2.1 c.2.2 ∧ Sep n w o 3 d.1 d.2.1 d.2.2
def Q4J (n : Nat) (w : World) (a b c d : Jd) : Prop := Q4 n w (fun P => JD P w a.1 a.2.1 a.2.2.1 a.2.2.2) b c d
section
variable {n : Nat} {w w' : World} {a b c d : Jd}
theorem Q4J.tt (h : Q4J n w a b c d) (hf : Fr (fun _ _ => True) w w') : Q4J n w' a b c d := by
  obtain ⟨o, h0, h1, h2, h3⟩ := h
  exact ⟨o, JD.tt h0 hf, h1.tt hf, h2.tt hf, h3.tt hf⟩
theorem Q4J.rot (h : Q4J n w a b c d) : Q4J n w b c d a := by
  obtain ⟨o, h0, h1, h2, h3⟩ := h
  refine ⟨fun c => if o c = 0 then 3 else if o c = 1 then 0 else if o c = 2 then 1 else if o c = 3 then 2 else o c, ?_, ?_, ?_, ?_⟩
  · exact JD.mono h1 fun c _ hc => ⟨by simp [hc.1], hc.2⟩
  · exact JD.mono h2 fun c _ hc => ⟨by simp [hc.1], hc.2⟩
  · exact JD.mono h3 fun c _ hc => ⟨by simp [hc.1], hc.2⟩
  · exact JD.mono h0 fun c _ hc => ⟨by simp [hc.1], hc.2⟩
theorem Q4J.jd (h : Q4J n w a b c d) : ∃ P, JD P w a.1 a.2.1 a.2.2.1 a.2.2.2 := by
  obtain ⟨o, h0, _⟩ := h
  exact ⟨_, h0⟩
theorem q4_step {A : (Nat → Prop) → Prop} {Ψ : Ending → World → (Nat → Prop) → Prop} {f : FuncId} {args : Array Value} (h : Q4 n w A b c d) (hn : 0 < n) (hnw : n ≤ w.heap.size)
    (hs : ∀ P : Nat → Prop, A P → ¬ P 0 → Calls Tryd.prog f args w fun e w' => Ψ e w' (fun c => P c ∨ w.heap.size ≤ c) ∧ Fr (fun c _ => ¬ P c) w w')
    (hΨ : ∀ e w' (P Q : Nat → Prop), (∀ c, c < w'.heap.size → P c → Q c) → Ψ e w' P → Ψ e w' Q) :
    Calls Tryd.prog f args w fun e w' => Q4 n w' (Ψ e w') b c d ∧ Fr (fun c _ => c < n) w w' := by
  obtain ⟨o, h0, h1, h2, h3⟩ := h
  refine (hs _ h0 (fun h => by omega)).mono fun e w' ⟨hp, hf⟩ => ⟨⟨upd o w 0, ?_, h1.other (by decide) hf, h2.other (by decide) hf, h3.other (by decide) hf⟩, hf.mono fun c _ h hc => by omega⟩
  refine hΨ e w' _ _ (fun c _ hc => ?_) hp
  unfold upd
  rcases hc with hc | hc
  · refine ⟨?_, hc.2⟩
    split
    · exact hc.1
    · rfl
  · exact ⟨if_neg (by omega), by omega⟩
theorem Q4.out {p : Prop} {A : (Nat → Prop) → Prop} (h : Q4 n w (fun P => p ∧ A P) b c d) : p ∧ Q4 n w A b c d := by
  obtain ⟨o, h0, h1⟩ := h
  exact ⟨h0.1, o, h0.2, h1⟩
theorem Q4.ex {α : Type} {A : α → (Nat → Prop) → Prop} (h : Q4 n w (fun P => ∃ x, A x P) b c d) : ∃ x, Q4 n w (A x) b c d := by
  obtain ⟨o, ⟨x, h0⟩, h1⟩ := h
  exact ⟨x, o, h0, h1⟩
theorem q4_append {K : Nat → Obj → Prop} (bj bd : Nat) (s : Jn × Dk) (v : Value) (x : List UInt8) (h : Q4J n w (bj, bd, s) b c d) (hn : 0 < n) (hnw : n ≤ w.heap.size) (hb : BytesAt K w v x) (ht : TabOK w) (hq : s.2.pend.length < 1000000) :
    Calls Tryd.prog 15 #[.pointer (some ⟨bj, 0, none⟩), v] w fun e w' => (e = .returned (.int .i64 (jappend s.1 s.2 x).1) ∧ Q4J n w' (bj, bd, app s x) b c d) ∧ Fr (fun c _ => c < n) w w' :=
  (q4_step (Ψ := fun e w' P => e = .returned (.int .i64 (jappend s.1 s.2 x).1) ∧ JD P w' bj bd (app s x).1 (app s x).2) h hn hnw (fun P hp h0 => (jd_append w bj bd s.1 s.2 v x hp h0 hb ht hq).mono fun e w' ⟨he, hj, hf⟩ => ⟨⟨he, hj⟩, hf⟩)
    (fun e w' P Q hPQ h => ⟨h.1, h.2.mono hPQ⟩)).mono fun e w' ⟨h, hf⟩ => ⟨h.out, hf⟩
theorem q4_trim (bj bd : Nat) (s : Jn × Dk) (k : Int) (h : Q4J n w (bj, bd, s) b c d) (hn : 0 < n) (hnw : n ≤ w.heap.size) (ht : TabOK w) (hq : s.2.pend.length < 1000000) :
    Calls Tryd.prog 19 #[.pointer (some ⟨bj, 0, none⟩), .int .i64 k] w fun e w' => (e = .returned (.int .i64 (jtrim s.1 s.2 k).1) ∧ Q4J n w' (bj, bd, (jtrim s.1 s.2 k).2) b c d) ∧ Fr (fun c _ => c < n) w w' :=
  (q4_step (Ψ := fun e w' P => e = .returned (.int .i64 (jtrim s.1 s.2 k).1) ∧ JD P w' bj bd (jtrim s.1 s.2 k).2.1 (jtrim s.1 s.2 k).2.2) h hn hnw (fun P hp h0 => (jd_trim w bj bd s.1 s.2 k hp h0 ht hq).mono fun e w' ⟨he, hj, hf⟩ => ⟨⟨he, hj⟩, hf⟩)
    (fun e w' P Q hPQ h => ⟨h.1, h.2.mono hPQ⟩)).mono fun e w' ⟨h, hf⟩ => ⟨h.out, hf⟩
theorem q4_cut (bj bd : Nat) (s : Jn × Dk) (k : Int) (h : Q4J n w (bj, bd, s) b c d) (hn : 0 < n) (hnw : n ≤ w.heap.size) (ht : TabOK w) (hq : s.2.pend.length < 900000) :
    Calls Tryd.prog 21 #[.pointer (some ⟨bj, 0, none⟩), .int .i64 k] w fun e w' => (e = .returned (.int .i64 (jcut s.1 s.2 k).1) ∧ Q4J n w' (bj, bd, (jcut s.1 s.2 k).2) b c d) ∧ Fr (fun c _ => c < n) w w' :=
  (q4_step (Ψ := fun e w' P => e = .returned (.int .i64 (jcut s.1 s.2 k).1) ∧ JD P w' bj bd (jcut s.1 s.2 k).2.1 (jcut s.1 s.2 k).2.2) h hn hnw (fun P hp h0 => (jd_cut w bj bd s.1 s.2 k hp h0 ht hq).mono fun e w' ⟨he, hj, hf⟩ => ⟨⟨he, hj⟩, hf⟩)
    (fun e w' P Q hPQ h => ⟨h.1, h.2.mono hPQ⟩)).mono fun e w' ⟨h, hf⟩ => ⟨h.out, hf⟩
theorem q4_sync (bj bd : Nat) (s : Jn × Dk) (h : Q4J n w (bj, bd, s) b c d) (hn : 0 < n) (hnw : n ≤ w.heap.size) :
    Calls Tryd.prog 13 #[.pointer (some ⟨bj, 0, none⟩)] w fun e w' => (e = .returned (.tuple #[]) ∧ Q4J n w' (bj, bd, (s.1, s.2.sync)) b c d) ∧ Fr (fun c _ => c < n) w w' :=
  (q4_step (Ψ := fun e w' P => e = .returned (.tuple #[]) ∧ JD P w' bj bd s.1 s.2.sync) h hn hnw (fun P hp h0 => (jd_sync w bj bd s.1 s.2 hp).mono fun e w' ⟨he, hj, hf⟩ => ⟨⟨he, hj⟩, hf⟩)
    (fun e w' P Q hPQ h => ⟨h.1, h.2.mono hPQ⟩)).mono fun e w' ⟨h, hf⟩ => ⟨h.out, hf⟩
/-- A disk alone in the first place. -/
def Q4D (n : Nat) (w : World) (bd : Nat) (D : Dk) (b c d : Jd) : Prop := Q4 n w (fun P => DD P w bd D) b c d
theorem q4_crash {K : Nat → Obj → Prop} {w0 : World} (bj bd : Nat) (s : Jn × Dk) (pa : Option Addr) (pn pc : Nat) (zs : List Int) (h : Q4J n w0 (bj, bd, s) b c d) (hf : Fr (fun _ _ => True) w0 w) (hn : 0 < n) (hnw : n ≤ w.heap.size) (hp : IntsAt K w (.slice pa pn pc) zs) (hK : ∀ c o, K c o → w0.heap.size ≤ c) :
    Calls Tryd.prog 16 #[.pointer (some ⟨bd, 0, none⟩), .slice pa pn pc] w fun e w' => (e = .returned (.tuple #[]) ∧ Q4D n w' bd (s.2.crash zs) b c d) ∧ Fr (fun c _ => c < n) w w' := by
  have h2 : Q4 n w (fun P => JD (fun c => P c ∧ c < w0.heap.size) w bj bd s.1 s.2) b c d := by
    obtain ⟨o, h0, h1, h2, h3⟩ := h
    have h4 : JD (fun c => (o c = 0 ∧ n ≤ c) ∧ c < w0.heap.size) w0 bj bd s.1 s.2 := JD.mono h0 fun c hl hc => ⟨hc, hl⟩
    exact ⟨o, h4.tt hf, h1.tt hf, h2.tt hf, h3.tt hf⟩
  exact (q4_step (Ψ := fun e w' P => e = .returned (.tuple #[]) ∧ DD P w' bd (s.2.crash zs)) h2 hn hnw (fun P hj h0 => (dd_crash w bd s.2 pa pn pc zs hj.dd hp (fun c o hk hc => by have := hK c o hk; omega)).mono fun e w' ⟨he, hd, hf⟩ => ⟨⟨he, hd.mono fun c _ hc => by
      rcases hc with hc | hc
      · exact .inl hc.1
      · exact .inr hc⟩, hf.mono fun c _ h h2 => h h2.1⟩)
    (fun e w' P Q hPQ h => ⟨h.1, h.2.mono hPQ⟩)).mono fun e w' ⟨h, hf⟩ => ⟨h.out, hf⟩
theorem q4_open (bd : Nat) (D : Dk) (z m : Int) (h : Q4D n w bd D b c d) (hn : 0 < n) (hnw : n ≤ w.heap.size) (ht : TabOK w) (hq : D.pend.length < 1000000) (J : Jn) (D' : Dk) (cc : Int) (hr : jopen D z m = (cc, some J, D')) :
    Calls Tryd.prog 17 #[.pointer (some ⟨bd, 0, none⟩), .int .i64 z, .int .i64 m] w fun e w' => (∃ x : Nat × Option Addr × Nat, e = .returned (.tuple #[.pointer (some ⟨x.1, 0, none⟩), .slice x.2.1 J.all.length x.2.2, .int .i64 cc]) ∧ Q4J n w' (x.1, bd, (J, D')) b c d) ∧ Fr (fun c _ => c < n) w w' :=
  (q4_step (Ψ := fun e w' P => ∃ x : Nat × Option Addr × Nat, e = .returned (.tuple #[.pointer (some ⟨x.1, 0, none⟩), .slice x.2.1 J.all.length x.2.2, .int .i64 cc]) ∧ JD P w' x.1 bd J D') h hn hnw (fun P hd h0 => (dd_open w bd D z m hd ht hq).mono fun e w' ho => by
    obtain ⟨f, bj, a, cp, V, Q, R, he, hj, _, _, hq, _⟩ := jopen_some ho hr
    exact ⟨⟨(bj, a, cp), he, hj.mono fun c _ hc => hq c hc⟩, f⟩)
    (fun e w' P Q hPQ ⟨x, h1, h2⟩ => ⟨x, h1, h2.mono hPQ⟩)).mono fun e w' ⟨h, hf⟩ => by
      obtain ⟨x, h⟩ := h.ex
      exact ⟨⟨x, h.out⟩, hf⟩
end
end Go.Proofs.YtcpbmempfeloaaaDoor
/- Law 6: awake (printed by gen/awake06.py). -/
namespace Go.Proofs.YtcpbmempfeloaaaDoor
open Go.RowKit
set_option linter.unusedVariables false
set_option linter.unusedSimpArgs false

theorem wrap97 (j : Nat) : IntKind.u8.wrap (97 + (j : Int)) = ((UInt8.ofNat (97 + j)).toNat : Int) := by
  have := wrap_byte (97 + j)
  push_cast at this
  exact this
theorem ints3 (w : World) : IntsAt (fun c _ => w.heap.size ≤ c) (w.alloc (.cells #[.int .i64 0, .int .i64 64, .int .i64 64] 3 (0, 0))) (.slice (some ⟨w.heap.size, 0, none⟩) 3 3) [0, 64, 64] := by
  have hb := heap_alloc_new w (.cells #[.int .i64 0, .int .i64 64, .int .i64 64] 3 (0, 0))
  refine ⟨some ⟨w.heap.size, 0, none⟩, 3, rfl, .inr ⟨w.heap.size, 0, _, rfl, hb, Nat.le_refl _, fun i hi => ?_⟩⟩
  rcases i with _ | _ | _ | i
  · exact cell_mk hb rfl
  · exact cell_mk hb rfl
  · exact cell_mk hb rfl
  · simp at hi; omega
set_option maxRecDepth 100000 in
set_option maxHeartbeats 4000000 in
theorem awake06 (W : World) (ht : TabOK W) : Calls Tryd.prog 11 #[] W fun e w' => e = .returned (.bool true) ∧ Fr (fun _ _ => True) W w' := by
  have h0 : 0 < W.heap.size := by have := cell_lt (ht 0 (by decide)); simpa using this
  have TT : Hid (∀ W', Fr (fun c _ => c < W.heap.size) W W' → TabOK W') := fun W' h i hi => h.cell (fun _ _ => h0) (ht i hi)
  have OC : Hid (∀ w, TabOK w → Calls Tryd.prog 46 #[.int .i64 4] w fun e w' => (∃ bd bj, e = .returned (.tuple #[.pointer (some ⟨bd, 0, none⟩), .pointer (some ⟨bj, 0, none⟩)]) ∧ JD (fun c => w.heap.size ≤ c) w' bj bd aj0.1 aj0.2) ∧ Fr (fun _ _ => True) w w') := fun w h => opened_calls w 4 aj0.1 aj0.2 aw_open h
  have F0 : Hid (Fr (fun c _ => c < W.heap.size) W W) := Fr.refl _ _
  clear ht
  go_enter Tryd.func11, Tryd.ntmps11
  go_wp2_with fail
  (with_reducible refine (OC.out W (TT.out _ F0.out)).mono ?_)
  rintro e w1 ⟨⟨dx, bx, rfl, j1⟩, f1⟩
  have J1 := Lib.hid j1
  have G1 := Lib.hid f1
  have F1 : Hid (Fr (fun c _ => c < W.heap.size) W w1) := F0.out.trans (f1.mono fun _ _ _ => trivial)
  clear j1 f1
  go_wp2_with fail
  (with_reducible refine (OC.out w1 (TT.out _ F1.out)).mono ?_)
  rintro e w2 ⟨⟨dy, by', rfl, j2⟩, f2⟩
  have J2 := Lib.hid j2
  have G2 := Lib.hid f2
  have F2 : Hid (Fr (fun c _ => c < W.heap.size) W w2) := F1.out.trans (f2.mono fun _ _ _ => trivial)
  clear j2 f2
  go_wp2_with fail
  (with_reducible refine (OC.out w2 (TT.out _ F2.out)).mono ?_)
  rintro e w3 ⟨⟨dz, bz, rfl, j3⟩, f3⟩
  have J3 := Lib.hid j3
  have G3 := Lib.hid f3
  have F3 : Hid (Fr (fun c _ => c < W.heap.size) W w3) := F2.out.trans (f3.mono fun _ _ _ => trivial)
  clear j3 f3
  go_wp2_with fail
  (with_reducible refine (OC.out w3 (TT.out _ F3.out)).mono ?_)
  rintro e w4 ⟨⟨dv, bv, rfl, j4⟩, f4⟩
  have J4 := Lib.hid j4
  have G4 := Lib.hid f4
  have F4 : Hid (Fr (fun c _ => c < W.heap.size) W w4) := F3.out.trans (f4.mono fun _ _ _ => trivial)
  clear j4 f4
  have Q4 : Hid (Q4J W.heap.size w4 (bx, dx, aj0) (by', dy, aj0) (bz, dz, aj0) (bv, dv, aj0)) := by
    have s1 := G1.out.size
    have s2 := G2.out.size
    have s3 := G3.out.size
    have s4 := G4.out.size
    refine ⟨fun c => if c < w1.heap.size then 0 else if c < w2.heap.size then 1 else if c < w3.heap.size then 2 else 3, ?_, ?_, ?_, ?_⟩
    · have : JD (fun c => W.heap.size ≤ c ∧ c < w1.heap.size) w1 bx dx aj0.1 aj0.2 := J1.out.mono fun c hl hc => ⟨hc, hl⟩
      exact (this.tt ((G2.out.trans G3.out).trans G4.out)).mono fun c _ hc => ⟨if_pos hc.2, hc.1⟩
    · have : JD (fun c => w1.heap.size ≤ c ∧ c < w2.heap.size) w2 by' dy aj0.1 aj0.2 := J2.out.mono fun c hl hc => ⟨hc, hl⟩
      exact JD.mono (this.tt (G3.out.trans G4.out)) fun c _ hc => ⟨by simp only; rw [if_neg (by omega), if_pos hc.2], by omega⟩
    · have : JD (fun c => w2.heap.size ≤ c ∧ c < w3.heap.size) w3 bz dz aj0.1 aj0.2 := J3.out.mono fun c hl hc => ⟨hc, hl⟩
      exact JD.mono (this.tt G4.out) fun c _ hc => ⟨by simp only; rw [if_neg (by omega), if_neg (by omega), if_pos hc.2], by omega⟩
    · exact JD.mono J4.out fun c _ hc => ⟨by simp only; rw [if_neg (by omega), if_neg (by omega), if_neg (by omega)], by omega⟩
  clear J1 J2 J3 J4 G1 G2 G3 G4 OC F0 F1 F2 F3
  obtain ⟨wa4, hwa⟩ : ∃ wa, w4.alloc (.cells #[.int .u8 97] 5 (0, 0)) = wa := ⟨_, rfl⟩
  have FA : Hid (Fr (fun _ _ => True) w4 wa4) := hwa ▸ (Fr.refl _ _).alloc _
  have BA : Hid (BytesAt (fun _ _ => True) wa4 (.slice (some ⟨w4.heap.size, 0, none⟩) 1 1) [97]) := hwa ▸ bytes1 w4 97 97 rfl
  have FB : Hid (Fr (fun c _ => c < W.heap.size) W wa4) := F4.out.trans (FA.out.mono fun _ _ _ => trivial)
  have SC := Lib.hid (q4_append bx dx aj0 _ [97] (Q4.out.tt FA.out) h0 FB.out.size BA.out (TT.out _ FB.out) (by have := aw_0.2.2; omega))
  go_wp2_with fail
  clear hwa
  (with_reducible refine SC.out.mono ?_)
  rintro e w5 ⟨⟨rfl, q⟩, f⟩
  have Q5 : Hid (Q4J W.heap.size w5 _ _ _ _) := q
  have F5 : Hid (Fr (fun c _ => c < W.heap.size) W w5) := FB.out.trans f
  clear q f SC FA BA FB Q4 F4
  obtain ⟨wa5, hwa⟩ : ∃ wa, w5.alloc (.cells #[.int .u8 98] 5 (0, 0)) = wa := ⟨_, rfl⟩
  have FA : Hid (Fr (fun _ _ => True) w5 wa5) := hwa ▸ (Fr.refl _ _).alloc _
  have BA : Hid (BytesAt (fun _ _ => True) wa5 (.slice (some ⟨w5.heap.size, 0, none⟩) 1 1) [98]) := hwa ▸ bytes1 w5 98 98 rfl
  have FB : Hid (Fr (fun c _ => c < W.heap.size) W wa5) := F5.out.trans (FA.out.mono fun _ _ _ => trivial)
  have SC := Lib.hid (q4_append bx dx ax1 _ [98] (Q5.out.tt FA.out) h0 FB.out.size BA.out (TT.out _ FB.out) (by have := aw_x.2.2.2.1; omega))
  go_wp2_with fail
  clear hwa
  (with_reducible refine SC.out.mono ?_)
  rintro e w6 ⟨⟨rfl, q⟩, f⟩
  have Q6 : Hid (Q4J W.heap.size w6 _ _ _ _) := q
  have F6 : Hid (Fr (fun c _ => c < W.heap.size) W w6) := FB.out.trans f
  clear q f SC FA BA FB Q5 F5
  have SC := Lib.hid (q4_sync bx dx ax2 Q6.out h0 F6.out.size)
  go_wp2_with fail
  (with_reducible refine SC.out.mono ?_)
  rintro e w7 ⟨⟨rfl, q⟩, f⟩
  have Q7 := Lib.hid q
  have F7 : Hid (Fr (fun c _ => c < W.heap.size) W w7) := F6.out.trans f
  clear q f SC Q6 F6
  obtain ⟨wa7, hwa⟩ : ∃ wa, w7.alloc (.cells #[.int .u8 99] 5 (0, 0)) = wa := ⟨_, rfl⟩
  have FA : Hid (Fr (fun _ _ => True) w7 wa7) := hwa ▸ (Fr.refl _ _).alloc _
  have BA : Hid (BytesAt (fun _ _ => True) wa7 (.slice (some ⟨w7.heap.size, 0, none⟩) 1 1) [99]) := hwa ▸ bytes1 w7 99 99 rfl
  have FB : Hid (Fr (fun c _ => c < W.heap.size) W wa7) := F7.out.trans (FA.out.mono fun _ _ _ => trivial)
  have SC := Lib.hid (q4_append bx dx ax3 _ [99] (Q7.out.tt FA.out) h0 FB.out.size BA.out (TT.out _ FB.out) (by have := aw_x.2.2.2.2.2; omega))
  go_wp2_with fail
  clear hwa
  (with_reducible refine SC.out.mono ?_)
  rintro e w8 ⟨⟨rfl, q⟩, f⟩
  have Q8 : Hid (Q4J W.heap.size w8 _ _ _ _) := q
  have F8 : Hid (Fr (fun c _ => c < W.heap.size) W w8) := FB.out.trans f
  clear q f SC FA BA FB Q7 F7
  have SC := Lib.hid (q4_crash (K := fun _ _ => False) bx dx ax4 none 0 0 [] Q8.out (Fr.refl _ _) h0 F8.out.size ⟨none, 0, rfl, .inl rfl⟩ (fun c o h => h.elim))
  go_wp2_with fail
  (with_reducible refine SC.out.mono ?_)
  rintro e w9 ⟨⟨rfl, q⟩, f⟩
  have Q9 := Lib.hid q
  have F9 : Hid (Fr (fun c _ => c < W.heap.size) W w9) := F8.out.trans f
  clear q f SC Q8 F8
  have SC := Lib.hid (q4_open dx (ax4.2.crash []) 1 4 Q9.out h0 F9.out.size (TT.out _ F9.out) (by show (0 : Nat) < 1000000; decide) ax5.1 ax5.2 0 aw_openx)
  go_wp2_with fail
  (with_reducible refine SC.out.mono ?_)
  rintro e w10 ⟨⟨⟨bax5, aax5_, cax5_⟩, rfl, q⟩, f⟩
  have Q10 := Lib.hid q
  have F10 : Hid (Fr (fun c _ => c < W.heap.size) W w10) := F9.out.trans f
  clear q f SC Q9 F9
  replace Q10 := Lib.hid Q10.out.rot
  go_wp2
  go_loopw [11] (fun i wr => ∃ j : Nat, i = .int .i64 (j : Nat) ∧ j ≤ 3 ∧ Hid (Q4J W.heap.size wr (by', dy, apps aj0 j) (bz, dz, aj0) (bv, dv, aj0) (bax5, dx, ax5)) ∧ Hid (Fr (fun c _ => c < W.heap.size) W wr)) (fun i _ => 3 - (intOf i).toNat)
  case atStart => exact ⟨0, rfl, Nat.zero_le _, Q10, F10⟩
  case' round =>
    clear Q10 F10
    obtain ⟨j, rfl, hj, QJ, FJ⟩ := hrel
    by_cases hlt : j < 3
    · have hltI : (j : Int) < 3 := by omega
      have hw8 := wrap97 j
      have BB := fun w => bytes1 w (UInt8.ofNat (97 + j)) _ rfl
      obtain ⟨z8, hz8⟩ : ∃ z8 : Int, ((UInt8.ofNat (97 + j)).toNat : Int) = z8 := ⟨_, rfl⟩
      rw [hz8] at hw8
      have HZ8 := Lib.hid hz8
      clear hz8
      obtain ⟨wa, hwa⟩ : ∃ wa, wr.alloc (.cells #[.int .u8 z8] 5 (0, 0)) = wa := ⟨_, rfl⟩
      have FA : Hid (Fr (fun _ _ => True) wr wa) := hwa ▸ (Fr.refl _ _).alloc _
      have BA : Hid (BytesAt (fun _ _ => True) wa (.slice (some ⟨wr.heap.size, 0, none⟩) 1 1) [UInt8.ofNat (97 + j)]) := by
        have := BB wr
        rw [HZ8.out, hwa] at this
        exact this
      have FB : Hid (Fr (fun c _ => c < W.heap.size) W wa) := FJ.out.trans (FA.out.mono fun _ _ _ => trivial)
      have SC := Lib.hid (q4_append by' dy (apps aj0 j) _ [UInt8.ofNat (97 + j)] (QJ.out.tt FA.out) h0 FB.out.size BA.out (TT.out _ FB.out) (by
        have := apps_pend aj0 j
        have := aw_0.2.2
        omega))
      clear BB
      go_wp2_with fail
      clear hwa
      (with_reducible refine SC.out.mono ?_)
      rintro e w2 ⟨⟨rfl, q⟩, f⟩
      have Q2 : Hid (Q4J W.heap.size w2 (by', dy, apps aj0 (j + 1)) (bz, dz, aj0) (bv, dv, aj0) (bax5, dx, ax5)) := q
      have F2 : Hid (Fr (fun c _ => c < W.heap.size) W w2) := FB.out.trans f
      clear q f SC FA BA FB QJ FJ
      go_wp2
      go_roundw
      case rel => exact ⟨j + 1, by go_num, by omega, Q2, F2⟩
      case measure => simp [intOf]; omega
  have hj3 : j = 3 := by omega
  subst hj3
  obtain ⟨w11, hwk⟩ : ∃ w11, w11 = wr := ⟨_, rfl⟩
  subst hwk
  have Q11 : Hid (Q4J W.heap.size w11 (by', dy, apps aj0 3) (bz, dz, aj0) (bv, dv, aj0) (bax5, dx, ax5)) := QJ
  have F11 := FJ
  clear QJ FJ hlt hj
  obtain ⟨wa11, hwa⟩ : ∃ wa, w11.alloc (.cells #[.int .i64 0, .int .i64 64, .int .i64 64] 3 (0, 0)) = wa := ⟨_, rfl⟩
  have FA : Hid (Fr (fun _ _ => True) w11 wa11) := hwa ▸ (Fr.refl _ _).alloc _
  have IA := hwa ▸ ints3 w11
  have FB : Hid (Fr (fun c _ => c < W.heap.size) W wa11) := F11.out.trans (FA.out.mono fun _ _ _ => trivial)
  have SC := Lib.hid (q4_crash by' dy ay1 _ 3 3 [0, 64, 64] Q11.out FA.out h0 FB.out.size IA (fun c o h => h))
  clear IA
  go_wp2_with fail
  clear hwa
  (with_reducible refine SC.out.mono ?_)
  rintro e w12 ⟨⟨rfl, q⟩, f⟩
  have Q12 := Lib.hid q
  have F12 : Hid (Fr (fun c _ => c < W.heap.size) W w12) := FB.out.trans f
  clear q f SC FA FB Q11 F11
  have SC := Lib.hid (q4_open dy (ay1.2.crash [0, 64, 64]) 1 4 Q12.out h0 F12.out.size (TT.out _ F12.out) (by show (0 : Nat) < 1000000; decide) ay2.1 ay2.2 0 aw_openy)
  go_wp2_with fail
  (with_reducible refine SC.out.mono ?_)
  rintro e w13 ⟨⟨⟨bay2, aay2_, cay2_⟩, rfl, q⟩, f⟩
  have Q13 := Lib.hid q
  have F13 : Hid (Fr (fun c _ => c < W.heap.size) W w13) := F12.out.trans f
  clear q f SC Q12 F12
  replace Q13 := Lib.hid Q13.out.rot
  go_wp2
  go_loopw [14] (fun i wr => ∃ j : Nat, i = .int .i64 (j : Nat) ∧ j ≤ 4 ∧ Hid (Q4J W.heap.size wr (bz, dz, apps aj0 j) (bv, dv, aj0) (bax5, dx, ax5) (bay2, dy, ay2)) ∧ Hid (Fr (fun c _ => c < W.heap.size) W wr)) (fun i _ => 4 - (intOf i).toNat)
  case atStart => exact ⟨0, rfl, Nat.zero_le _, Q13, F13⟩
  case' round =>
    clear Q13 F13
    obtain ⟨j, rfl, hj, QJ, FJ⟩ := hrel
    by_cases hlt : j < 4
    · have hltI : (j : Int) < 4 := by omega
      have hw8 := wrap97 j
      have BB := fun w => bytes1 w (UInt8.ofNat (97 + j)) _ rfl
      obtain ⟨z8, hz8⟩ : ∃ z8 : Int, ((UInt8.ofNat (97 + j)).toNat : Int) = z8 := ⟨_, rfl⟩
      rw [hz8] at hw8
      have HZ8 := Lib.hid hz8
      clear hz8
      obtain ⟨wa, hwa⟩ : ∃ wa, wr.alloc (.cells #[.int .u8 z8] 5 (0, 0)) = wa := ⟨_, rfl⟩
      have FA : Hid (Fr (fun _ _ => True) wr wa) := hwa ▸ (Fr.refl _ _).alloc _
      have BA : Hid (BytesAt (fun _ _ => True) wa (.slice (some ⟨wr.heap.size, 0, none⟩) 1 1) [UInt8.ofNat (97 + j)]) := by
        have := BB wr
        rw [HZ8.out, hwa] at this
        exact this
      have FB : Hid (Fr (fun c _ => c < W.heap.size) W wa) := FJ.out.trans (FA.out.mono fun _ _ _ => trivial)
      have SC := Lib.hid (q4_append bz dz (apps aj0 j) _ [UInt8.ofNat (97 + j)] (QJ.out.tt FA.out) h0 FB.out.size BA.out (TT.out _ FB.out) (by
        have := apps_pend aj0 j
        have := aw_0.2.2
        omega))
      clear BB
      go_wp2_with fail
      clear hwa
      (with_reducible refine SC.out.mono ?_)
      rintro e w2 ⟨⟨rfl, q⟩, f⟩
      have Q2 : Hid (Q4J W.heap.size w2 (bz, dz, apps aj0 (j + 1)) (bv, dv, aj0) (bax5, dx, ax5) (bay2, dy, ay2)) := q
      have F2 : Hid (Fr (fun c _ => c < W.heap.size) W w2) := FB.out.trans f
      clear q f SC FA BA FB QJ FJ
      go_wp2
      go_roundw
      case rel => exact ⟨j + 1, by go_num, by omega, Q2, F2⟩
      case measure => simp [intOf]; omega
  have hj3 : j = 4 := by omega
  subst hj3
  obtain ⟨w14, hwk⟩ : ∃ w14, w14 = wr := ⟨_, rfl⟩
  subst hwk
  have Q14 : Hid (Q4J W.heap.size w14 (bz, dz, apps aj0 4) (bv, dv, aj0) (bax5, dx, ax5) (bay2, dy, ay2)) := QJ
  have F14 := FJ
  clear QJ FJ hlt hj
  obtain ⟨wa14, hwa⟩ : ∃ wa, w14.alloc (.cells #[.int .u8 101] 5 (0, 0)) = wa := ⟨_, rfl⟩
  have FA : Hid (Fr (fun _ _ => True) w14 wa14) := hwa ▸ (Fr.refl _ _).alloc _
  have BA : Hid (BytesAt (fun _ _ => True) wa14 (.slice (some ⟨w14.heap.size, 0, none⟩) 1 1) [101]) := hwa ▸ bytes1 w14 101 101 rfl
  have FB : Hid (Fr (fun c _ => c < W.heap.size) W wa14) := F14.out.trans (FA.out.mono fun _ _ _ => trivial)
  have SC := Lib.hid (q4_append bz dz az1 _ [101] (Q14.out.tt FA.out) h0 FB.out.size BA.out (TT.out _ FB.out) (by have := aw_z.2.2.2.2.1; omega))
  go_wp2_with fail
  clear hwa
  (with_reducible refine SC.out.mono ?_)
  rintro e w15 ⟨⟨rfl, q⟩, f⟩
  rw [aw_z.1]
  have Q15 : Hid (Q4J W.heap.size w15 _ _ _ _) := q
  have F15 : Hid (Fr (fun c _ => c < W.heap.size) W w15) := FB.out.trans f
  clear q f SC FA BA FB Q14 F14
  have SC := Lib.hid (q4_trim bz dz az2 1 Q15.out h0 F15.out.size (TT.out _ F15.out) (by have := aw_z.2.2.2.2.2.1; omega))
  go_wp2_with fail
  (with_reducible refine SC.out.mono ?_)
  rintro e w16 ⟨⟨rfl, q⟩, f⟩
  rw [aw_z.2.1]
  have Q16 := Lib.hid q
  have F16 : Hid (Fr (fun c _ => c < W.heap.size) W w16) := F15.out.trans f
  clear q f SC Q15 F15
  obtain ⟨wa16, hwa⟩ : ∃ wa, w16.alloc (.cells #[.int .u8 101] 5 (0, 0)) = wa := ⟨_, rfl⟩
  have FA : Hid (Fr (fun _ _ => True) w16 wa16) := hwa ▸ (Fr.refl _ _).alloc _
  have BA : Hid (BytesAt (fun _ _ => True) wa16 (.slice (some ⟨w16.heap.size, 0, none⟩) 1 1) [101]) := hwa ▸ bytes1 w16 101 101 rfl
  have FB : Hid (Fr (fun c _ => c < W.heap.size) W wa16) := F16.out.trans (FA.out.mono fun _ _ _ => trivial)
  have SC := Lib.hid (q4_append bz dz az3 _ [101] (Q16.out.tt FA.out) h0 FB.out.size BA.out (TT.out _ FB.out) (by have := aw_z.2.2.2.2.2.2; omega))
  go_wp2_with fail
  clear hwa
  (with_reducible refine SC.out.mono ?_)
  rintro e w17 ⟨⟨rfl, q⟩, f⟩
  rw [aw_z.2.2.1]
  have Q17 : Hid (Q4J W.heap.size w17 _ _ _ _) := q
  have F17 : Hid (Fr (fun c _ => c < W.heap.size) W w17) := FB.out.trans f
  clear q f SC FA BA FB Q16 F16
  replace Q17 := Lib.hid Q17.out.rot
  go_wp2
  go_loopw [18] (fun i wr => ∃ j : Nat, i = .int .i64 (j : Nat) ∧ j ≤ 3 ∧ Hid (Q4J W.heap.size wr (bv, dv, apps aj0 j) (bax5, dx, ax5) (bay2, dy, ay2) (bz, dz, az4)) ∧ Hid (Fr (fun c _ => c < W.heap.size) W wr)) (fun i _ => 3 - (intOf i).toNat)
  case atStart => exact ⟨0, rfl, Nat.zero_le _, Q17, F17⟩
  case' round =>
    clear Q17 F17
    obtain ⟨j, rfl, hj, QJ, FJ⟩ := hrel
    by_cases hlt : j < 3
    · have hltI : (j : Int) < 3 := by omega
      have hw8 := wrap97 j
      have BB := fun w => bytes1 w (UInt8.ofNat (97 + j)) _ rfl
      obtain ⟨z8, hz8⟩ : ∃ z8 : Int, ((UInt8.ofNat (97 + j)).toNat : Int) = z8 := ⟨_, rfl⟩
      rw [hz8] at hw8
      have HZ8 := Lib.hid hz8
      clear hz8
      obtain ⟨wa, hwa⟩ : ∃ wa, wr.alloc (.cells #[.int .u8 z8] 5 (0, 0)) = wa := ⟨_, rfl⟩
      have FA : Hid (Fr (fun _ _ => True) wr wa) := hwa ▸ (Fr.refl _ _).alloc _
      have BA : Hid (BytesAt (fun _ _ => True) wa (.slice (some ⟨wr.heap.size, 0, none⟩) 1 1) [UInt8.ofNat (97 + j)]) := by
        have := BB wr
        rw [HZ8.out, hwa] at this
        exact this
      have FB : Hid (Fr (fun c _ => c < W.heap.size) W wa) := FJ.out.trans (FA.out.mono fun _ _ _ => trivial)
      have SC := Lib.hid (q4_append bv dv (apps aj0 j) _ [UInt8.ofNat (97 + j)] (QJ.out.tt FA.out) h0 FB.out.size BA.out (TT.out _ FB.out) (by
        have := apps_pend aj0 j
        have := aw_0.2.2
        omega))
      clear BB
      go_wp2_with fail
      clear hwa
      (with_reducible refine SC.out.mono ?_)
      rintro e w2 ⟨⟨rfl, q⟩, f⟩
      have Q2 : Hid (Q4J W.heap.size w2 (bv, dv, apps aj0 (j + 1)) (bax5, dx, ax5) (bay2, dy, ay2) (bz, dz, az4)) := q
      have F2 : Hid (Fr (fun c _ => c < W.heap.size) W w2) := FB.out.trans f
      clear q f SC FA BA FB QJ FJ
      go_wp2
      go_roundw
      case rel => exact ⟨j + 1, by go_num, by omega, Q2, F2⟩
      case measure => simp [intOf]; omega
  have hj3 : j = 3 := by omega
  subst hj3
  obtain ⟨w18, hwk⟩ : ∃ w18, w18 = wr := ⟨_, rfl⟩
  subst hwk
  have Q18 : Hid (Q4J W.heap.size w18 (bv, dv, apps aj0 3) (bax5, dx, ax5) (bay2, dy, ay2) (bz, dz, az4)) := QJ
  have F18 := FJ
  clear QJ FJ hlt hj
  have SC := Lib.hid (q4_cut bv dv av1 2 Q18.out h0 F18.out.size (TT.out _ F18.out) (by have := aw_v.2.2.1; omega))
  go_wp2_with fail
  (with_reducible refine SC.out.mono ?_)
  rintro e w19 ⟨⟨rfl, q⟩, f⟩
  rw [aw_v.1]
  have Q19 := Lib.hid q
  have F19 : Hid (Fr (fun c _ => c < W.heap.size) W w19) := F18.out.trans f
  clear q f SC Q18 F18
  obtain ⟨wa19, hwa⟩ : ∃ wa, w19.alloc (.cells #[.int .u8 100] 5 (0, 0)) = wa := ⟨_, rfl⟩
  have FA : Hid (Fr (fun _ _ => True) w19 wa19) := hwa ▸ (Fr.refl _ _).alloc _
  have BA : Hid (BytesAt (fun _ _ => True) wa19 (.slice (some ⟨w19.heap.size, 0, none⟩) 1 1) [100]) := hwa ▸ bytes1 w19 100 100 rfl
  have FB : Hid (Fr (fun c _ => c < W.heap.size) W wa19) := F19.out.trans (FA.out.mono fun _ _ _ => trivial)
  have SC := Lib.hid (q4_append bv dv av2 _ [100] (Q19.out.tt FA.out) h0 FB.out.size BA.out (TT.out _ FB.out) (by have := aw_v.2.2.2; omega))
  go_wp2_with fail
  clear hwa
  (with_reducible refine SC.out.mono ?_)
  rintro e w20 ⟨⟨rfl, q⟩, f⟩
  have Q20 : Hid (Q4J W.heap.size w20 _ _ _ _) := q
  have F20 : Hid (Fr (fun c _ => c < W.heap.size) W w20) := FB.out.trans f
  clear q f SC FA BA FB Q19 F19
  replace Q20 := Lib.hid Q20.out.rot
  have lx : Hid (ax5.1.all.length = 2) := by show _ = _; rw [aw_x.2.2.1]; rfl
  have ly : Hid (ay2.1.all.length = 0) := by show _ = _; rw [aw_y.2.2]; rfl
  rw [lx.out, ly.out]
  obtain ⟨P20, jd20⟩ := Q20.out.jd
  have TX := texts_calls w20 bax5 dx ax5.1 ax5.2 jd20 (by rw [aw_x.2.2.1]; decide) (by rw [aw_x.2.2.1]; decide) (by rw [aw_x.2.2.1]; decide)
  rw [aw_x.2.2.1] at TX
  have TX := Lib.hid TX
  clear jd20
  go_wp2_with fail
  (with_reducible refine TX.out.mono ?_)
  rintro e w21 ⟨rfl, f⟩
  have Q21 := Lib.hid (Q20.out.tt f)
  have F21 : Hid (Fr (fun c _ => c < W.heap.size) W w21) := F20.out.trans (f.mono fun _ _ _ => trivial)
  clear f TX Q20 F20
  replace Q21 := Lib.hid Q21.out.rot
  replace Q21 := Lib.hid Q21.out.rot
  obtain ⟨P21, jd21⟩ := Q21.out.jd
  have TX := texts_calls w21 bz dz az4.1 az4.2 jd21 (by rw [aw_z.2.2.2.1]; decide) (by rw [aw_z.2.2.2.1]; decide) (by rw [aw_z.2.2.2.1]; decide)
  rw [aw_z.2.2.2.1] at TX
  have TX := Lib.hid TX
  clear jd21
  go_wp2_with fail
  (with_reducible refine TX.out.mono ?_)
  rintro e w22 ⟨rfl, f⟩
  have Q22 := Lib.hid (Q21.out.tt f)
  have F22 : Hid (Fr (fun c _ => c < W.heap.size) W w22) := F21.out.trans (f.mono fun _ _ _ => trivial)
  clear f TX Q21 F21
  replace Q22 := Lib.hid Q22.out.rot
  obtain ⟨P22, jd22⟩ := Q22.out.jd
  have TX := texts_calls w22 bv dv av3.1 av3.2 jd22 (by rw [aw_v.2.1]; decide) (by rw [aw_v.2.1]; decide) (by rw [aw_v.2.1]; decide)
  rw [aw_v.2.1] at TX
  have TX := Lib.hid TX
  clear jd22
  go_wp2_with fail
  (with_reducible refine TX.out.mono ?_)
  rintro e w23 ⟨rfl, f⟩
  have Q23 := Lib.hid (Q22.out.tt f)
  have F23 : Hid (Fr (fun c _ => c < W.heap.size) W w23) := F22.out.trans (f.mono fun _ _ _ => trivial)
  clear f TX Q22 F22
  go_wp2
  go_ret
  exact ⟨rfl, Fr.within (F23.out.mono fun _ _ h => h.2)⟩
end Go.Proofs.YtcpbmempfeloaaaDoor
/- Law 6: a journal, its disk, and rows beside them. -/
namespace Go.Proofs.YtcpbmempfeloaaaDoor
open Go.RowKit
set_option linter.unusedVariables false
set_option linter.unusedSimpArgs false

structure St (n : Nat) (P : Nat → Prop) (w : World) (bj bd : Nat) (J : Jn) (D : Dk) : Prop where
  jd : JD P w bj bd J D
  lo : ∀ c, P c → n ≤ c
  hi : ∀ c, P c → c < w.heap.size
structure SD (n : Nat) (P : Nat → Prop) (w : World) (bd : Nat) (D : Dk) : Prop where
  dd : DD P w bd D
  lo : ∀ c, P c → n ≤ c
  hi : ∀ c, P c → c < w.heap.size
theorem OwnL.kp {P P' : Nat → Prop} {w w' : World} {v : Value} {V : List (Value × List UInt8)} (h : OwnL w (fun c => ¬ P c) v V) (k : Kp P P' w w') : OwnL w' (fun c => ¬ P' c) v V :=
  ((h.mono (R' := fun c => ¬ P c ∧ c < w.heap.size) fun c hl hc => ⟨hc, hl⟩).fr k.fr fun c _ _ hc => hc.1).mono fun c _ hc => k.out c hc.2 hc.1
theorem St.tt {n : Nat} {P : Nat → Prop} {w w' : World} {bj bd : Nat} {J : Jn} {D : Dk} (h : St n P w bj bd J D) (hf : Fr (fun _ _ => True) w w') : St n P w' bj bd J D := ⟨h.jd.tt hf, h.lo, fun c hc => Nat.lt_of_lt_of_le (h.hi c hc) hf.size⟩
theorem St.of {n : Nat} {w : World} {bj bd : Nat} {J : Jn} {D : Dk} (h : JD (fun c => n ≤ c) w bj bd J D) : St n (fun c => n ≤ c ∧ c < w.heap.size) w bj bd J D := ⟨h.mono fun c hl hc => ⟨hc, hl⟩, fun c h => h.1, fun c h => h.2⟩
theorem St.sd {n : Nat} {P : Nat → Prop} {w : World} {bj bd : Nat} {J : Jn} {D : Dk} (h : St n P w bj bd J D) : SD n P w bd D := ⟨h.jd.dd, h.lo, h.hi⟩
theorem st_step {n : Nat} {P : Nat → Prop} {w w' : World} {bj bd : Nat} {J J' : Jn} {D D' : Dk} (h : St n P w bj bd J D) (hn : n ≤ w.heap.size) (h1 : JD (fun c => P c ∨ w.heap.size ≤ c) w' bj bd J' D') (hf : Fr (fun c _ => ¬ P c) w w') : ∃ P', St n P' w' bj bd J' D' ∧ Kp P P' w w' :=
  ⟨fun c => (P c ∨ w.heap.size ≤ c) ∧ c < w'.heap.size, ⟨h1.mono fun c hl hc => ⟨hc, hl⟩, fun c hc => by
    rcases hc.1 with h2 | h2
    · exact h.lo c h2
    · omega, fun c hc => hc.2⟩, hf, fun c hl hp hc => by
    rcases hc.1 with h2 | h2
    · exact hp h2
    · omega⟩
section
variable {n : Nat} {P : Nat → Prop} {w : World} {bj bd : Nat} {J : Jn} {D : Dk} (h : St n P w bj bd J D) (h0 : 0 < n) (hn : n ≤ w.heap.size)
include h h0 hn
theorem st_append {K : Nat → Obj → Prop} (v : Value) (b : List UInt8) (hb : BytesAt K w v b) (ht : TabOK w) (hq : D.pend.length < 1000000) :
    Calls Tryd.prog 15 #[.pointer (some ⟨bj, 0, none⟩), v] w fun e w' => e = .returned (.int .i64 (jappend J D b).1) ∧ ∃ P', St n P' w' bj bd (jappend J D b).2.1 (jappend J D b).2.2 ∧ Kp P P' w w' :=
  (jd_append w bj bd J D v b h.jd (fun hp => by have := h.lo 0 hp; omega) hb ht hq).mono fun e w' ⟨he, hj, hf⟩ => ⟨he, st_step h hn hj hf⟩
theorem st_trim (k : Int) (ht : TabOK w) (hq : D.pend.length < 1000000) :
    Calls Tryd.prog 19 #[.pointer (some ⟨bj, 0, none⟩), .int .i64 k] w fun e w' => e = .returned (.int .i64 (jtrim J D k).1) ∧ ∃ P', St n P' w' bj bd (jtrim J D k).2.1 (jtrim J D k).2.2 ∧ Kp P P' w w' :=
  (jd_trim w bj bd J D k h.jd (fun hp => by have := h.lo 0 hp; omega) ht hq).mono fun e w' ⟨he, hj, hf⟩ => ⟨he, st_step h hn hj hf⟩
theorem st_cut (k : Int) (ht : TabOK w) (hq : D.pend.length < 900000) :
    Calls Tryd.prog 21 #[.pointer (some ⟨bj, 0, none⟩), .int .i64 k] w fun e w' => e = .returned (.int .i64 (jcut J D k).1) ∧ ∃ P', St n P' w' bj bd (jcut J D k).2.1 (jcut J D k).2.2 ∧ Kp P P' w w' :=
  (jd_cut w bj bd J D k h.jd (fun hp => by have := h.lo 0 hp; omega) ht hq).mono fun e w' ⟨he, hj, hf⟩ => ⟨he, st_step h hn hj hf⟩
omit h0 in
theorem st_sync :
    Calls Tryd.prog 13 #[.pointer (some ⟨bj, 0, none⟩)] w fun e w' => e = .returned (.tuple #[]) ∧ ∃ P', St n P' w' bj bd J D.sync ∧ Kp P P' w w' :=
  (jd_sync w bj bd J D h.jd).mono fun e w' ⟨he, hj, hf⟩ => ⟨he, st_step h hn hj hf⟩
omit h0 hn in
theorem st_all :
    Calls Tryd.prog 14 #[.pointer (some ⟨bj, 0, none⟩)] w fun e w' => (∃ a c V, e = .returned (.slice a J.all.length c) ∧ OwnL w' (fun c => ¬ P c) (.slice a J.all.length c) V ∧ V.map (·.2) = J.all) ∧ Fr (fun _ _ => True) w w' :=
  (jd_all w bj bd J D h.jd).mono fun e w' ⟨⟨a, c, V, he, ho, hv⟩, hf⟩ => ⟨⟨a, c, V, he, ho.mono fun c _ hc hp => by have := h.hi c hp; omega, hv⟩, hf⟩
end
theorem sd_crash {K : Nat → Obj → Prop} {n : Nat} {P : Nat → Prop} {w : World} {bd : Nat} {D : Dk} (h : SD n P w bd D) (hn : n ≤ w.heap.size) (pa : Option Addr) (pn pc : Nat) (zs : List Int) (hp : IntsAt K w (.slice pa pn pc) zs) (hK : ∀ c o, K c o → ¬ P c) :
    Calls Tryd.prog 16 #[.pointer (some ⟨bd, 0, none⟩), .slice pa pn pc] w fun e w' => e = .returned (.tuple #[]) ∧ ∃ P', SD n P' w' bd (D.crash zs) ∧ Kp P P' w w' :=
  (dd_crash w bd D pa pn pc zs h.dd hp hK).mono fun e w' ⟨he, hd, hf⟩ => ⟨he, fun c => (P c ∨ w.heap.size ≤ c) ∧ c < w'.heap.size, ⟨hd.mono fun c hl hc => ⟨hc, hl⟩, fun c hc => by
    rcases hc.1 with h2 | h2
    · exact h.lo c h2
    · omega, fun c hc => hc.2⟩, hf, fun c hl hp hc => by
    rcases hc.1 with h2 | h2
    · exact hp h2
    · omega⟩
theorem sd_open {n : Nat} {P : Nat → Prop} {w : World} {bd : Nat} {D : Dk} (h : SD n P w bd D) (hn : n ≤ w.heap.size) (z m : Int) (ht : TabOK w) (hq : D.pend.length < 1000000) (J : Jn) (D' : Dk) (cc : Int) (hr : jopen D z m = (cc, some J, D')) :
    Calls Tryd.prog 17 #[.pointer (some ⟨bd, 0, none⟩), .int .i64 z, .int .i64 m] w fun e w' => ∃ bj a c V P', e = .returned (.tuple #[.pointer (some ⟨bj, 0, none⟩), .slice a J.all.length c, .int .i64 cc]) ∧ St n P' w' bj bd J D' ∧ OwnL w' (fun c => ¬ P' c) (.slice a J.all.length c) V ∧ V.map (·.2) = J.all ∧ Kp P P' w w' :=
  (dd_open w bd D z m h.dd ht hq).mono fun e w' ho => by
    obtain ⟨f, bj, a, cp, V, Q, R, he, hj, ho, hV, hq, hR⟩ := jopen_some ho hr
    exact ⟨bj, a, cp, V, fun c => Q c ∧ c < w'.heap.size, he, ⟨hj.mono fun c hl hc => ⟨hc, hl⟩, fun c hc => by
      rcases hq c hc.1 with h2 | h2
      · exact h.lo c h2
      · omega, fun c hc => hc.2⟩, ho.mono fun c _ hc h2 => (hR c hc).2 h2.1, hV, f, fun c hl hp hc => by
      rcases hq c hc.1 with h2 | h2
      · exact hp h2
      · omega⟩
/-- An append of a slice of bytes; where the row lies behind it. -/
theorem wpList_append_l2 {ops : Array Oper} {rest : List Oper} {o : Oper} {a : Act} {Q : Exit → Act → World → Prop} (W : World) (hgd : o.guard = none) (s x : Operand)
    (ho : o.op = .call { callee := .builtin .append, args := #[s, x], argTypes := #[23, 23] }) (R : Nat → Prop) (v : Value) (V : List (Value × List UInt8)) (hs : a.eval s = v) (hown : Hid (OwnL W R v V))
    (b : Nat) (hx : a.eval x = .slice (some ⟨b, 0, none⟩) 1 1) (vb : Value) (bs : List UInt8) (hvx : Hid (∃ fz, W.heap[b]? = some (.cells #[vb] 33 fz))) (hb : Hid (BytesAt (fun c _ => R c ∧ v.ownBlock ≠ some c) W vb bs)) (hn : V.length ≤ 1000000) (hR : ∀ c, W.heap.size ≤ c → R c)
    (h : ∀ a' c' w', Hid (OwnL w' R (.slice a' (V.length + 1) c') (V ++ [(vb, bs)])) → Hid (W.grownBy w' v.ownBlock) → Hid (OwnNext W v (.slice a' (V.length + 1) c')) → wpList Tryd.prog ops Q rest (a.put o.dst (.slice a' (V.length + 1) c')) w') :
    wpList Tryd.prog ops Q (o :: rest) a W := by
  obtain ⟨i0, hi, hz0, hz1, hz2⟩ := info_parts info_bs
  obtain ⟨fz, hbk⟩ := hvx.out
  refine wpList_append_src2 W hgd s x 23 ho 0 33 i0 _ 1 24 Tryd.underlying23 hi hz0 hz1 hz2 rfl (by decide) v V.length (V.map (·.1)) hs hown.out.row _ 1 [vb] hx (.inr ⟨_, 1, rfl, rfl, fun j u hu => ?_, fun u hu => ?_⟩) (by unfold maxLen; omega) (by omega) (Nat.zero_le _) ?_
  · rcases j with _ | j
    · cases hu; exact cell_mk hbk rfl
    · cases hu
  · rw [List.mem_singleton.1 hu]
    obtain ⟨a, c, rfl⟩ := hb.out.form
    rfl
  · intro v' w' h1 h2 h3
    obtain ⟨a', c', rfl⟩ := own_form h1
    have hne : ∀ c (o : Obj), W.heap[c]? = some o → v.ownBlock ≠ some c → (Value.slice a' (V.length + 1) c').ownBlock ≠ some c := fun c o ho hc => h3.ne hc (lt_of_some ho)
    have hF : Fr (fun c _ => v.ownBlock ≠ some c) W w' := (Fr.refl _ W).grown h2 fun k o e ho hk => hk e
    refine h a' c' w' ⟨?_, fun c e => ?_, fun y hy => ?_⟩ h2 h3
    · rw [List.length_append, List.map_append]; exact h1
    · rcases h3 with h3 | ⟨k, hk, hl⟩
      · exact hown.out.rb c (h3 ▸ e)
      · rw [hk] at e; cases e; exact hR _ hl
    · have hy' : BytesAt (fun c _ => R c ∧ v.ownBlock ≠ some c) W y.1 y.2 := by
        rcases List.mem_append.1 hy with hy | hy
        · exact hown.out.bs y hy
        · rw [List.mem_singleton.1 hy]; exact hb.out
      have h4 : BytesAt (fun c _ => (R c ∧ (Value.slice a' (V.length + 1) c').ownBlock ≠ some c) ∧ v.ownBlock ≠ some c) W y.1 y.2 := hy'.mono fun c o ho hc => ⟨⟨hc.1, hne c o ho hc.2⟩, hc.2⟩
      exact (h4.fr (hF.mono fun _ _ h => h.2)).mono fun _ _ _ h => h.1
/-- A row beside P, which lies above n. -/
structure Row (n : Nat) (P : Nat → Prop) (w : World) (a : Option Addr) (c : Nat) (V : List (Value × List UInt8)) : Prop where
  own : OwnL w (fun c => ¬ P c) (.slice a V.length c) V
  ab : ∀ k, (Value.slice a V.length c).ownBlock = some k → n ≤ k
theorem Row.kp {n : Nat} {P P' : Nat → Prop} {w w' : World} {a : Option Addr} {c : Nat} {V : List (Value × List UInt8)} (h : Row n P w a c V) (k : Kp P P' w w') : Row n P' w' a c V := ⟨h.own.kp k, h.ab⟩
theorem Row.tt {n : Nat} {P : Nat → Prop} {w w' : World} {a : Option Addr} {c : Nat} {V : List (Value × List UInt8)} (h : Row n P w a c V) (k : Fr (fun _ _ => True) w w') : Row n P w' a c V := ⟨h.own.tt k, h.ab⟩
theorem OwnNext.above {n : Nat} {W : World} {v v' : Value} (h : OwnNext W v v') (hv : ∀ k, v.ownBlock = some k → n ≤ k) (hw : n ≤ W.heap.size) : ∀ k, v'.ownBlock = some k → n ≤ k := fun k e => by
  rcases h with h | ⟨k', h, hk⟩
  · exact hv k (h ▸ e)
  · rw [h] at e; cases e; omega
theorem st_all2 {n : Nat} {P : Nat → Prop} {w : World} {bj bd : Nat} {J : Jn} {D : Dk} (h : St n P w bj bd J D) (hn : n ≤ w.heap.size) :
    Calls Tryd.prog 14 #[.pointer (some ⟨bj, 0, none⟩)] w fun e w' => (∃ a c V, e = .returned (.slice a J.all.length c) ∧ V.length = J.all.length ∧ Row n P w' a c V ∧ V.map (·.2) = J.all) ∧ Fr (fun _ _ => True) w w' :=
  (jd_all w bj bd J D h.jd).mono fun e w' ⟨⟨a, c, V, he, ho, hv⟩, hf⟩ => by
    have hl : V.length = J.all.length := by rw [← hv, List.length_map]
    refine ⟨⟨a, c, V, he, hl, ⟨?_, fun k e => ?_⟩, hv⟩, hf⟩
    · rw [hl]
      exact ho.mono fun c _ hc hp => by have := h.hi c hp; omega
    · have := ho.rb k (by rw [← hl]; exact e)
      omega
end Go.Proofs.YtcpbmempfeloaaaDoor
