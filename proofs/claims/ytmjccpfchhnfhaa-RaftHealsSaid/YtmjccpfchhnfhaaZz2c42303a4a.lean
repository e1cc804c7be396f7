/- Texts of the proofs, part 35: what the functions that they reach do, walked; no conditions beyond those that each states. -/
import Derived.Test.YtmjccpfchhnfhaaZz3b1e1037c6
import Derived.Test.YtmjccpfchhnfhaaZzcaa93703e3
import Derived.Test.YtmjccpfchhnfhaaZzfc80a5e8d2
set_option linter.unusedVariables false
set_option linter.unusedSimpArgs false
/- raft: right, Beat, led (printed by yd.py). -/
namespace Go.Proofs.Ytmjccpfchhnfhaa
open Go.RowKit
set_option linter.unusedVariables false
set_option linter.unusedSimpArgs false
theorem wpList_max4 {ops : Array Oper} {rest : List Oper} {o : Oper} {a : Act} {Q : Exit → Act → World → Prop} (W : World) (hgd : o.guard = none) (s1 s2 s3 s4 : Operand) {ts : Array TypeId}
  (ho : o.op = .call { callee := .builtin .max, args := #[s1, s2, s3, s4], argTypes := ts }) (x y z u m : Nat) (h1 : a.eval s1 = .int .u64 (x : Nat)) (h2 : a.eval s2 = .int .u64 (y : Nat)) (h3 : a.eval s3 = .int .u64 (z : Nat)) (h4 : a.eval s4 = .int .u64 (u : Nat)) (hm : max (max (max x y) z) u = m)
  (h : wpList Try.prog ops Q rest (a.put o.dst (.int .u64 (m : Nat))) W) : wpList Try.prog ops Q (o :: rest) a W := by
 refine wpList_plain hgd fun _ hK => ?_
 have e : ∀ t, (Builtin.max_ ts t #[.int .u64 (x : Nat), .int .u64 (y : Nat), .int .u64 (z : Nat), .int .u64 (u : Nat)]).run Try.prog W = .ok (.int .u64 (m : Nat)) W := fun t => by
  subst hm
  simp [Builtin.max_, Builtin.max2]
  (repeat' split) <;> omega
 unfold Oper.wp execOp
 simp only [ho, resolve, invoke, builtin, Sem.run_bind, Sem.run_pure, Result.andThen_ok, List.map_toArray, List.map_cons, List.map_nil, h1, h2, h3, h4, e]
 exact hK _ _ h
def RB (W : World) (rb b ap : Nat) : Prop := W.heap[rb]? = some (.cells #[.pointer (some ⟨b, 0, none⟩), .int .u64 (ap : Nat)] 55 (0, 0))
theorem RB.fr {K : Nat → Obj → Prop} {W W' : World} {rb b ap : Nat} (h : RB W rb b ap) (f : Fr K W W') (hk : ∀ o, K rb o) : RB W' rb b ap := f.keep _ _ h (hk _)
section
variable {X P X' P' : Nat → Prop} {w w' : World} {b rb ap : Nat} {n n' : Nd} {q q' : NV}
theorem PNs.frO [Old] (h : PNs X P w b n q) {K : Nat → Obj → Prop} (hf : Fr K w w') (hk : ∀ c o, w.heap[c]? = some o → P c ∨ RO X c o → K c o) : PNs X P w' b n q := by
 have a16 : ∀ {c l}, A16 w c l → P c → A16 w' c l := fun {c l} ha hp => ha.fr hf fun o ho => hk _ _ ho (.inl hp)
 have cf2 : IntsAt (RO X) w' q.vc n.conf := (((h.cf.mono3 (K' := fun c o => RO X c o ∧ K c o) fun c o ho hr => ⟨hr, hk c o ho (.inr hr)⟩).fr hf fun c o q => q.2).mono fun c o q => q.1)
 have ev2 : EsAt X w' q.ve q.es := ⟨h.ev.row.fr hf fun c o ho hr => hk c o ho (.inr hr), h.ev.nz, fun x hx => ⟨(h.ev.dat x hx).1.fr3 hf fun c o ho hr => hk c o ho (.inr hr), (h.ev.dat x hx).2⟩⟩
 exact ⟨hf.keep _ _ h.top (hk _ _ h.top (.inl h.pb)), cf2, ownsRow_fr h.ye hf fun c o e ho => hk c o ho (.inl (h.yp c e)), h.yp, ev2, h.ee, a16 h.nx h.pn, a16 h.mt h.pm, h.nm, h.pb, h.pn, h.pm, h.px, fun c hc => Nat.lt_of_lt_of_le (h.hx c hc) hf.size, h.od⟩
theorem NOut.app [Old] {W2 W3 : World} {X2 P2 : Nat → Prop} {q2 : NV} {v1 v2 v3 : Value} {mvs mv2 : List MV} {ms1 ms2 : List Ms} {n2 : Nd} {B2 : Nat} (h2 : PNs X2 P2 W2 b n2 q2) (af : Aft X P X2 P2 w W2) (o1 : OwnMs X2 w.heap.size W2 v1 mvs) (o2 : OwnMs X2 B2 W2 v2 mv2) (e1 : mvs.map MV.ms = ms1) (e2 : mv2.map MV.ms = ms2)
  (hod : ∀ c, Old.o c → c < w.heap.size) (hr : W3.ownsRow 0 74 10 v3 (mvs ++ mv2).length ((mvs ++ mv2).flatMap encM)) (hf : Fr (fun c _ => v1.ownBlock ≠ some c) W2 W3) (hn : OwnNext W2 v1 v3) : NOut X P w b (n2, ms1 ++ ms2) (.returned v3) W3 := by
 have hb : ∀ c, v1.ownBlock = some c → w.heap.size ≤ c := fun c hc => by
  rcases o1.row.2 with ⟨q, _⟩ | ⟨g, cap, cur, e, hg, _⟩
  ·rw [q] at hc; cases hc
  ·rw [e] at hc; cases hc; exact hg
 have hs : w.heap.size ≤ W2.heap.size := af.fr.size
 have no : ∀ {c o}, v1.ownBlock = some c → W2.heap[c]? = some o → RO X2 c o → False := fun {c o} e ho hr => by
  obtain ⟨cur, h0⟩ := own_tag o1.row e
  rw [ho] at h0
  cases h0
  exact hr.ne (fun k => by have := hod c k; have := hb c e; omega) rfl (by decide)
 have kp : ∀ {m : MV}, MsAt X2 W2 m → MsAt X2 W3 m := fun hm => hm.keep hf fun c o ho hr e => no e ho hr
 have pw : ∀ {c o}, w.heap[c]? = some o → ¬ P c → v1.ownBlock ≠ some c := fun ho _ e => by
  have := hb _ e
  have := lt_of_some ho
  omega
 refine ⟨X2, P2, q2, v3, mvs ++ mv2, rfl, h2.frO hf fun c o ho hc e => ?_, ⟨⟨hf.os.trans af.fr.os, hf.tape.trans af.fr.tape, hf.output.trans af.fr.output, Nat.le_trans af.fr.size hf.size, fun c o ho hp => hf.keep c o (af.fr.keep c o ho hp) (pw ho hp)⟩, af.xx, af.pp, af.nw, af.hp⟩, ⟨own_re hr fun c e => ?_, fun c e hx => ?_, fun m hm => ?_⟩, by rw [List.map_append, e1, e2]⟩
 ·rcases hc with hc | hc
  ·exact o1.off c e (h2.px c hc)
  ·exact no e ho hc
 ·rcases hn with q | ⟨k, q, hk⟩
  ·rw [q] at e; exact hb c e
  ·rw [q] at e; cases e; omega
 ·rcases hn with q | ⟨k, q, hk⟩
  ·rw [q] at e; exact o1.off c e hx
  ·rw [q] at e; cases e; have := h2.hx c hx; omega
 ·rcases List.mem_append.1 hm with h | h
  ·exact kp (o1.at' m h)
  ·exact kp (o2.at' m h)
set_option maxRecDepth 100000 in
set_option maxHeartbeats 8000000 in
theorem rfright_calls [Old] (h : PNs X P w b n q) (hr : RB w rb b ap) (m : MV) (hm : MsAt X w m) (hel : m.es.length ≤ 9223372036854775807) (hdl : m.d.length ≤ 9223372036854775807) :
  Calls Try.prog 52 #[.pointer (some ⟨rb, 0, none⟩), .agg (cM m)] w fun e w' => e = .returned (.int .i64 (n.right m.ms)) ∧ Fr (fun _ _ => True) w w' := by
 obtain ⟨W1, hW1, F1, X1⟩ := mbox w m
 have CK := Lib.hid (wcheck_calls W1 m (hm.tt F1.out) hel hdl)
 obtain ⟨c, hc⟩ : ∃ c, chkM m.ms = c := ⟨_, rfl⟩
 rw [hc] at CK
 obtain ⟨kd, hkd⟩ : ∃ x, m.kind = x := ⟨_, rfl⟩
 obtain ⟨s, hs⟩ : ∃ x, m.src = x := ⟨_, rfl⟩
 obtain ⟨d, hd⟩ : ∃ x, m.dst = x := ⟨_, rfl⟩
 obtain ⟨t3, ht3⟩ : ∃ x, m.tm = x := ⟨_, rfl⟩
 obtain ⟨t4, ht4⟩ : ∃ x, m.index = x := ⟨_, rfl⟩
 obtain ⟨t5, ht5⟩ : ∃ x, m.prev = x := ⟨_, rfl⟩
 obtain ⟨t6, ht6⟩ : ∃ x, m.commit = x := ⟨_, rfl⟩
 obtain ⟨me, hme⟩ : ∃ x, n.me = x := ⟨_, rfl⟩
 obtain ⟨r, hrr⟩ : ∃ r, n.right m.ms = r := ⟨_, rfl⟩
 have EQ : Hid (r = if c ≠ 0 then c else if d ≠ me ∨ s = me then 31 else if 6 < kd then 30 else if 1152921504606846976 ≤ max (max (max t3 t4) t5) t6 then 1 else 0) := by
  show r = _
  rw [← hrr]
  unfold Nd.right
  rw [hc, show m.ms.dst = d from hd, show m.ms.src = s from hs, show m.ms.kind = kd from hkd, show m.ms.tm = t3 from ht3, show m.ms.index = t4 from ht4, show m.ms.prev = t5 from ht5, show m.ms.commit = t6 from ht6, hme]
 rw [hrr]
 have CC : Hid (∀ W, Fr (fun _ _ => True) W1 W → W.cell? ⟨rb, 0, none⟩ = some (.pointer (some ⟨b, 0, none⟩)) ∧ W.cell? ⟨b, 0, none⟩ = some (.int .i64 me) ∧ W.cell? ⟨w.heap.size, 0, none⟩ = some (.int .i64 kd) ∧ W.cell? ⟨w.heap.size, 1, none⟩ = some (.int .i64 s) ∧ W.cell? ⟨w.heap.size, 2, none⟩ = some (.int .i64 d) ∧ W.cell? ⟨w.heap.size, 3, none⟩ = some (.int .u64 (t3 : Nat)) ∧ W.cell? ⟨w.heap.size, 4, none⟩ = some (.int .u64 (t4 : Nat)) ∧ W.cell? ⟨w.heap.size, 5, none⟩ = some (.int .u64 (t5 : Nat)) ∧ W.cell? ⟨w.heap.size, 6, none⟩ = some (.int .u64 (t6 : Nat))) := fun W f => by
  obtain ⟨v0, v1, v2, v3, v4, v5, v6, v7, v8, v9⟩ := mcells (f.keep _ _ X1.out trivial)
  exact ⟨cell_mk ((F1.out.trans f).keep _ _ hr trivial) rfl, by rw [(h.cells (F1.out.trans f)).1, hme], by rw [v0, hkd], by rw [v1, hs], by rw [v2, hd], by rw [v3, ht3], by rw [v4, ht4], by rw [v5, ht5], by rw [v6, ht6]⟩
 obtain ⟨v0, v1, v2, v3, v4, v5, v6, v7, v8, v9⟩ := mcells X1.out
 dsimp only [cM] at CK
 unfold cM at hW1 ⊢
 clear h hr hm hel hdl hc hkd hs hd ht3 ht4 ht5 ht6 hme hrr
 go_enter Try.func52, Try.ntmps52
 go_wp2_with fail
 try rw [hW1]
 clear hW1
 (with_reducible refine CK.out.mono ?_)
 rintro e w2 ⟨rfl, f2⟩
 have F2 := Lib.hid f2
 clear f2 CK v0 v1 v2 v3 v4 v5 v6 v7 v8 v9
 by_cases hc0 : c = 0
 case neg =>
  have c1 : (c == 0) = false := by simpa using hc0
  have OUT : Hid (r = c) := EQ.out.trans (if_pos hc0)
  clear EQ CC
  go_wp2
  go_ret
  rw [OUT.out]
  exact ⟨rfl, F1.out.trans F2.out⟩
 case pos =>
  subst hc0
  replace EQ : Hid (r = if d ≠ me ∨ s = me then 31 else if 6 < kd then 30 else if 1152921504606846976 ≤ max (max (max t3 t4) t5) t6 then 1 else 0) := EQ.out.trans (if_neg (fun e => e rfl))
  obtain ⟨y0, y1, v0, v1, v2, v3, v4, v5, v6⟩ := CC.out w2 F2.out
  have C : Hid ((d != me) = true ∨ (d != me) = false ∧ (s == me) = true ∨ (d != me) = false ∧ (s == me) = false) := by
   show _ ∨ _
   by_cases e1 : d = me <;> by_cases e2 : s = me <;> simp [e1, e2]
  have BAD : Hid (((d != me) = true ∨ (s == me) = true) → r = 31) := fun e => EQ.out.trans (if_pos (by simpa using e))
  have GOOD : Hid ((d != me) = false → (s == me) = false → r = if 6 < kd then 30 else if 1152921504606846976 ≤ max (max (max t3 t4) t5) t6 then 1 else 0) := fun e1 e2 => EQ.out.trans (if_neg (by
   have e1' : d = me := by simpa using e1
   have e2' : s ≠ me := by simpa using e2
   exact fun e => e.elim (fun e => e e1') e2'))
  clear EQ
  rcases C.out with c1 | ⟨c1, c2⟩ | ⟨c1, c2⟩
  ·have OUT := Lib.hid (BAD.out (.inl c1))
   clear C BAD GOOD CC v3 v4 v5 v6
   go_wp2_with fail
   go_quiet (fail)
   have U : Hid (Fr (fun _ _ => True) w2 (w2.drewN nq)) := (Fr.refl _ w2).drewN nq
   go_wp2
   go_ret
   rw [OUT.out]
   exact ⟨rfl, F1.out.trans (F2.out.trans U.out)⟩
  ·have OUT := Lib.hid (BAD.out (.inr c2))
   clear C BAD GOOD CC v3 v4 v5 v6
   go_wp2_with fail
   go_quiet (fail)
   have U : Hid (Fr (fun _ _ => True) w2 (w2.drewN nq)) := (Fr.refl _ w2).drewN nq
   go_wp2
   go_ret
   rw [OUT.out]
   exact ⟨rfl, F1.out.trans (F2.out.trans U.out)⟩
  ·have EQ := Lib.hid (GOOD.out c1 c2)
   clear C BAD GOOD v3 v4 v5 v6
   go_wp2_with fail
   go_quiet (fail)
   have U : Hid (Fr (fun _ _ => True) w2 (w2.drewN nq)) := (Fr.refl _ w2).drewN nq
   generalize w2.drewN nq = w3 at U ⊢
   clear y0 y1 v0 v1 v2
   obtain ⟨-, -, v0, -, -, v3, v4, v5, v6⟩ := CC.out w3 (F2.out.trans U.out)
   clear CC
   by_cases hk : 6 < kd
   ·have OUT : Hid (r = 30) := EQ.out.trans (if_pos hk)
    clear EQ
    go_wp2
    go_ret
    rw [OUT.out]
    exact ⟨rfl, F1.out.trans (F2.out.trans U.out)⟩
   ·obtain ⟨mx, hmx⟩ : ∃ x, max (max (max t3 t4) t5) t6 = x := ⟨_, rfl⟩
    replace EQ : Hid (r = if 1152921504606846976 ≤ mx then 1 else 0) := hmx ▸ EQ.out.trans (if_neg hk)
    have MX := Lib.hid hmx
    clear hmx
    by_cases hm : 1152921504606846976 ≤ mx
    ·have OUT : Hid (r = 1) := EQ.out.trans (if_pos hm)
     have hmI : (1152921504606846976 : Int) ≤ (mx : Int) := by omega
     clear EQ
     go_wp2_with (refine wpList_max4 _ rfl _ _ _ _ rfl t3 t4 t5 t6 mx rfl rfl rfl rfl MX.out ?_)
     go_wp2
     go_ret
     rw [OUT.out]
     exact ⟨rfl, F1.out.trans (F2.out.trans U.out)⟩
    ·have OUT : Hid (r = 0) := EQ.out.trans (if_neg hm)
     have hmI : ¬ (1152921504606846976 : Int) ≤ (mx : Int) := by omega
     clear EQ
     go_wp2_with (refine wpList_max4 _ rfl _ _ _ _ rfl t3 t4 t5 t6 mx rfl rfl rfl rfl MX.out ?_)
     go_wp2
     go_ret
     rw [OUT.out]
     exact ⟨rfl, F1.out.trans (F2.out.trans U.out)⟩
set_option maxRecDepth 100000 in
set_option maxHeartbeats 8000000 in
theorem rbeat_calls [Old] (h : PNs X P w b n q) (hr : RB w rb b ap) (hc : 0 < n.conf.length ∧ n.conf.length ≤ 1000) (hnx : ∀ y ∈ n.next, y < 18446744073709551616) (hl : n.log.last + 1 < 18446744073709551616) (hle : n.log.es.length ≤ 900000) :
  Calls Try.prog 13 #[.pointer (some ⟨rb, 0, none⟩)] w fun e w' => MOut X w n.beat e w' := by
 have BC := Lib.hid (beat_calls h hc hnx hl hle)
 have y0 : w.cell? ⟨rb, 0, none⟩ = some (.pointer (some ⟨b, 0, none⟩)) := cell_mk hr rfl
 clear h hr hc hnx hl hle
 go_enter Try.func13, Try.ntmps13
 go_wp2_with fail
 (with_reducible refine BC.out.mono ?_)
 rintro e w2 ⟨⟨v, mvs, rfl, o2, e2⟩, f2⟩
 have HH := Lib.hid (And.intro o2 (And.intro e2 f2))
 clear o2 e2 f2 BC
 go_wp2
 go_ret
 exact ⟨⟨_, mvs, rfl, HH.1, HH.2.1⟩, HH.2.2⟩
set_option maxRecDepth 100000 in
set_option maxHeartbeats 8000000 in
theorem led_calls [Old] (h : PNs X P w b n q) (hr : RB w rb b ap) (hrx : ¬ P rb) (fn : Nat) (lb : Array Value) (eg : ∀ args w, (callFunc fn args).run Try.prog w = .ok (.enter fn args) w) (r : Nd × List Ms)
  (hdo : ∀ W, Fr (fun _ _ => True) w W → Calls Try.prog fn lb W fun e w' => NOut X P W b r e w') (hod : ∀ c, Old.o c → c < w.heap.size) (hlen : r.2.length ≤ 900000)
  (hc : 0 < r.1.conf.length ∧ r.1.conf.length ≤ 1000) (hnx : ∀ y ∈ r.1.next, y < 18446744073709551616) (hl : r.1.log.last + 1 < 18446744073709551616) (hle : r.1.log.es.length ≤ 900000) :
  Calls Try.prog 32 #[.pointer (some ⟨rb, 0, none⟩), .func (.func fn) #[] lb] w fun e w' => NOut X P w b (n.led r) e w' := by
 obtain ⟨ro, hro⟩ : ∃ x, n.role = x := ⟨_, rfl⟩
 obtain ⟨tm, htm⟩ : ∃ x, n.tm = x := ⟨_, rfl⟩
 obtain ⟨ro2, hro2⟩ : ∃ x, r.1.role = x := ⟨_, rfl⟩
 obtain ⟨tm2, htm2⟩ : ∃ x, r.1.tm = x := ⟨_, rfl⟩
 obtain ⟨res, hres⟩ : ∃ x, n.led r = x := ⟨_, rfl⟩
 have EQ : Hid (res = if ro2 = 3 ∧ (ro ≠ 3 ∨ tm2 ≠ tm) then (r.1, r.2 ++ r.1.beat) else r) := by
  show res = _
  rw [← hres, ← hro, ← htm, ← hro2, ← htm2]; rfl
 rw [hres]
 have y0 : w.cell? ⟨rb, 0, none⟩ = some (.pointer (some ⟨b, 0, none⟩)) := cell_mk hr rfl
 obtain ⟨-, -, x2, -, -, -, x6, -, -, -, -, -, -, -⟩ := h.cells (Fr.refl _ w)
 rw [hro] at x2
 rw [htm] at x6
 have H := Lib.hid h
 have HR := Lib.hid hr
 have HX := Lib.hid hrx
 have HDO := Lib.hid hdo
 have OD := Lib.hid hod
 have RB2 := Lib.hid (And.intro hro2 htm2)
 have BD := Lib.hid (And.intro hlen (And.intro hc (And.intro hnx (And.intro hl hle))))
 have C3 : Hid ((ro2 == 3) = false ∧ res = r ∨ ro2 = 3 ∧ (ro != 3) = true ∧ res = (r.1, r.2 ++ r.1.beat) ∨ ro2 = 3 ∧ (ro != 3) = false ∧ ((tm2 : Int) != (tm : Int)) = true ∧ res = (r.1, r.2 ++ r.1.beat) ∨ ro2 = 3 ∧ (ro != 3) = false ∧ ((tm2 : Int) != (tm : Int)) = false ∧ res = r) := by
  show _ ∨ _
  rw [EQ.out]
  by_cases e1 : ro2 = 3
  ·by_cases e2 : ro = 3
   ·by_cases e3 : tm2 = tm
    ·right; right; right
     exact ⟨e1, by simp [e2], by simp [e3], if_neg (by rintro ⟨_, e | e⟩; exact e e2; exact e e3)⟩
    ·right; right; left
     exact ⟨e1, by simp [e2], by simp; omega, if_pos ⟨e1, .inr e3⟩⟩
   ·right; left
    exact ⟨e1, by simpa using e2, if_pos ⟨e1, .inl e2⟩⟩
  ·left
   exact ⟨by simpa using e1, if_neg (fun e => e1 e.1)⟩
 clear h hr hrx hdo hod hro htm hro2 htm2 hres hlen hc hnx hl hle EQ
 go_enter Try.func32, Try.ntmps32
 go_wp2_with fail
 go_quiet (fail)
 have U : Hid (Fr (fun _ _ => True) w (w.drewN nq)) := (Fr.refl _ w).drewN nq
 generalize w.drewN nq = w1 at U ⊢
 clear y0 x2 x6
 have DC := Lib.hid (HDO.out w1 U.out)
 go_wp2_with fail
 (with_reducible refine DC.out.mono ?_)
 rintro e w2 ⟨X2, P2, q2, v, mvs, rfl, h2, a2, o2, e2⟩
 have A2 := Lib.hid (Aft.lead U.out a2)
 have H2 := Lib.hid h2
 have O2 := Lib.hid (o2.lo U.out.size)
 have E2 := Lib.hid e2
 have R2 : Hid (RB w2 rb b ap) := A2.out.fr.keep _ _ HR.out HX.out
 have y0 : w2.cell? ⟨rb, 0, none⟩ = some (.pointer (some ⟨b, 0, none⟩)) := cell_mk R2.out rfl
 obtain ⟨-, -, x2, -, -, -, x6, -, -, -, -, -, -, -⟩ := h2.cells (Fr.refl _ w2)
 rw [RB2.out.1] at x2
 rw [RB2.out.2] at x6
 obtain ⟨ga, ca, hva⟩ := ownsRow_form o2.row
 subst hva
 obtain ⟨k2, hk2⟩ : ∃ k, mvs.length = k := ⟨_, rfl⟩
 have lm2 : k2 ≤ 900000 := by have := BD.out.1; rw [← e2, List.length_map] at this; omega
 have K2 := Lib.hid hk2
 have BC := Lib.hid (fun W (f : Fr (fun _ _ => True) w2 W) => rbeat_calls (H2.out.tt f) (R2.out.fr f fun _ => trivial) BD.out.2.1 BD.out.2.2.1 BD.out.2.2.2.1 BD.out.2.2.2.2)
 rw [hk2] at O2 ⊢
 clear DC HDO h2 a2 o2 e2 hk2
 rcases C3.out with ⟨c1, e3⟩ | ⟨c1, c2, e3⟩ | ⟨c1, c2, c3, e3⟩ | ⟨c1, c2, c3, e3⟩
 case' inr.inl | inr.inr.inl =>
  subst c1
  have E3 := Lib.hid e3
  clear e3 C3
  have BC2 := Lib.hid (BC.out w2 (Fr.refl _ _))
  go_wp2_with fail
  (with_reducible refine BC2.out.mono ?_)
  rintro e w3 ⟨⟨v3, mv2, rfl, o3, e4⟩, f3⟩
  obtain ⟨gb, cb, hvb⟩ := ownsRow_form o3.row
  subst hvb
  have OW : Hid (w3.ownsRow 0 74 10 (.slice ga k2 ca) mvs.length (mvs.flatMap encM)) := own_re (O2.out.tt f3).row (fun _ _ => Nat.zero_le _)
  have RW := Lib.hid o3.rows
  have lb : mv2.length ≤ 20000 := by rw [← List.length_map (f := MV.ms), e4]; exact Nat.le_trans (Nd.beat_len _) (by have := BD.out.2.1.2; omega)
  obtain ⟨kb, hkb⟩ : ∃ k, mv2.length = k := ⟨_, rfl⟩
  obtain ⟨k4, hN⟩ : ∃ z, k2 + kb = z := ⟨_, rfl⟩
  have HN : Hid ((mvs ++ mv2).length = k4) := by show _ = _; rw [List.length_append, K2.out, hkb, hN]
  have hn : k4 ≤ 1000000 := by omega
  have HH := Lib.hid (And.intro o3 (And.intro e4 f3))
  rw [hkb] at RW ⊢
  clear BC BC2 y0 x2 x6 o3 e4 f3 hkb hN lb lm2
  go_wp2_with (at_builtin; refine wpList_append_mso w3 rfl _ _ rfl (.slice ga k2 ca) mvs rfl OW (.slice gb kb cb) mv2 rfl RW k4 HN hn ?_)
  intro g4 c4 W4 O5 F5 N5
  have OUT : Hid (NOut X P w b (r.1, r.2 ++ r.1.beat) (.returned (.slice g4 k4 c4)) W4) :=
   NOut.app (H2.out.tt HH.out.2.2) (A2.out.tr HH.out.2.2) (O2.out.tt HH.out.2.2) HH.out.1 E2.out HH.out.2.1 OD.out (by rw [HN.out, List.flatMap_append]; exact O5.out) F5.out N5.out
  clear O5 F5 N5 OW RW
  go_wp2
  go_ret
  rw [E3.out]
  exact OUT.out
 case' inl | inr.inr.inr =>
  try (subst c1)
  have E3 := Lib.hid e3
  clear e3 C3 BC
  go_wp2
  go_ret
  rw [E3.out]
  exact ⟨X2, P2, q2, _, mvs, rfl, H2.out, A2.out, O2.out, E2.out⟩
end
end Go.Proofs.Ytmjccpfchhnfhaa
/- raft: New, Propose; ref13: New (printed by yh.py). -/
namespace Go.Proofs.Ytmjccpfchhnfhaa
open Go.RowKit
set_option linter.unusedVariables false
set_option linter.unusedSimpArgs false
def errN (me : Int) (conf : List Int) : Int := if me < 0 ∨ 15 < me then 31 else if rightQ conf = false then 1 else 0
def RNew [Old] (X : Nat → Prop) (w : World) (me : Int) (conf : List Int) (e : Ending) (w' : World) : Prop :=
 (errN me conf ≠ 0 ∧ e = .returned (.tuple #[.pointer none, .int .i64 (errN me conf)]) ∧ FT w w') ∨
 (errN me conf = 0 ∧ ∃ rb b X' P' q', e = .returned (.tuple #[.pointer (some ⟨rb, 0, none⟩), .int .i64 0]) ∧ PNs X' P' w' b (Nd.new me conf) q' ∧ RB w' rb b 0 ∧ ¬ X' rb ∧ Aft X (fun _ => False) X' P' w w' ∧ w.heap.size ≤ b ∧ w.heap.size ≤ rb)
section
variable {X P X' P' : Nat → Prop} {w w' : World} {b rb ap : Nat} {n n' : Nd} {q q' : NV}
set_option maxRecDepth 100000 in
set_option maxHeartbeats 8000000 in
theorem rnew_calls [Old] {X : Nat → Prop} (w : World) (me : Int) (vc : Value) (conf : List Int) (h : IntsAt (RO X) w vc conf) (hl : conf.length ≤ maxLen) (hX : ∀ c, X c → c < w.heap.size) (hO : ∀ c, Old.o c → c < w.heap.size) :
  Calls Try.prog 26 #[.int .i64 me, vc] w fun e w' => RNew X w me conf e w' := by
 have RC := Lib.hid (right_calls w vc conf h hl)
 obtain ⟨rq, hrq⟩ : ∃ x, rightQ conf = x := ⟨_, rfl⟩
 rw [hrq] at RC
 obtain ⟨en, hen⟩ : ∃ x, errN me conf = x := ⟨_, rfl⟩
 have EQ : Hid (en = if me < 0 ∨ 15 < me then 31 else if rq = false then 1 else 0) := by show en = _; rw [← hen, ← hrq]; rfl
 have HEN := Lib.hid hen
 have NC : Hid (rq = true → Calls Try.prog 21 #[.int .i64 me, vc] w fun e w' => ∃ b X' P' q', e = .returned (.pointer (some ⟨b, 0, none⟩)) ∧ PNs X' P' w' b (Nd.new me conf) q' ∧ Aft X (fun _ => False) X' P' w w' ∧ w.heap.size ≤ b) := fun e => by
  have h3 := rgt_all (l := -1) (c := conf) (by have e' : rightQ conf = true := hrq.trans e; unfold rightQ at e'; exact (Bool.and_eq_true _ _ |>.mp e').1)
  have h4 : 0 < conf.length := by
   have e' : rightQ conf = true := hrq.trans e
   cases conf with
   | nil => exact absurd e' (by decide)
   | cons => simp
  have h5 : conf.length ≤ 16 := (right_len (hrq.trans e)).2
  exact enew_calls w me vc conf h h4 (by omega) hX hO
 have HX := Lib.hid hX
 clear h hl hX hO hrq hen
 by_cases c0 : me < 0
 ·have OUT : Hid (en = 31) := EQ.trans (if_pos (.inl c0))
  clear EQ NC RC
  go_enter Try.func26, Try.ntmps26
  go_wp2
  go_ret2
  exact .inl ⟨by rw [HEN.out, OUT.out]; decide, by rw [HEN.out, OUT.out]; rfl, Fr.refl _ _⟩
 ·by_cases c1 : 15 < me
  ·have OUT : Hid (en = 31) := EQ.trans (if_pos (.inr c1))
   have c1' : 16 ≤ me := by omega
   clear EQ NC RC
   go_enter Try.func26, Try.ntmps26
   go_wp2
   go_ret2
   exact .inl ⟨by rw [HEN.out, OUT.out]; decide, by rw [HEN.out, OUT.out]; rfl, Fr.refl _ _⟩
  ·have c1' : ¬ 16 ≤ me := by omega
   replace EQ : Hid (en = if rq = false then 1 else 0) := EQ.out.trans (if_neg (by omega))
   cases rq with
   | false =>
    have OUT : Hid (en = 1) := EQ.trans (if_pos rfl)
    clear EQ NC
    go_enter Try.func26, Try.ntmps26
    go_wp2_with fail
    (with_reducible refine RC.out.mono ?_)
    rintro e w2 ⟨rfl, rfl⟩
    go_wp2
    go_ret2
    exact .inl ⟨by rw [HEN.out, OUT.out]; decide, by rw [HEN.out, OUT.out]; rfl, Fr.refl _ _⟩
   | true =>
    have OUT : Hid (en = 0) := EQ.trans (if_neg (by decide))
    have NC1 := Lib.hid (NC rfl)
    clear EQ NC
    go_enter Try.func26, Try.ntmps26
    go_wp2_with fail
    (with_reducible refine RC.out.mono ?_)
    rintro e w2 ⟨rfl, rfl⟩
    go_wp2_with fail
    (with_reducible refine NC1.out.mono ?_)
    rintro e w2 ⟨b, X2, P2, q2, rfl, h2, a2, hb⟩
    have HH := Lib.hid (And.intro h2 (And.intro a2 hb))
    clear h2 a2 hb NC1 RC
    obtain ⟨W3, hW3⟩ : ∃ Y, w2.alloc (.cells #[.pointer (some ⟨b, 0, none⟩), .int .u64 0] 55 (0, 0)) = Y := ⟨_, rfl⟩
    have F3 : Hid (FT w2 W3) := hW3 ▸ (Fr.refl _ _).alloc _
    have T3 : Hid (RB W3 w2.heap.size b 0) := by show W3.heap[w2.heap.size]? = _; rw [← hW3]; exact heap_alloc_new _ _
    go_wp2
    try rw [hW3]
    go_ret2
    exact .inr ⟨by rw [HEN.out, OUT.out], _, b, X2, P2, q2, rfl, HH.out.1.tt F3.out, T3.out, fun e => by have := HH.out.1.hx _ e; omega, HH.out.2.1.tr F3.out, HH.out.2.2, HH.out.2.1.fr.size⟩
set_option maxRecDepth 100000 in
set_option maxHeartbeats 8000000 in
theorem rpropose_calls [Old] (h : PNs X P w b n q) (hr : RB w rb b ap) (kind : Int) (da : Option Addr) (dc : Nat) (d : List UInt8) (hd : BytesAt (RO X) w (.slice da d.length dc) d) (hcf : 0 < n.conf.length ∧ n.conf.length ≤ 12) (hpos : ∀ x ∈ n.conf, 0 ≤ x) (mN : Nat) (hme : n.me = (mN : Nat)) (hm16 : mN < 16) (hl : n.log.last + 2 < 18446744073709551616) (hle : n.log.es.length ≤ 900000) :
  Calls Try.prog 16 #[.pointer (some ⟨rb, 0, none⟩), .int .i64 kind, .slice da d.length dc] w fun e w' => POut X P w b (n.propose kind d) e w' := by
 have PC := Lib.hid (propose_calls h kind da dc d hd hcf hpos mN hme hm16 hl hle)
 obtain ⟨dl, hdl⟩ : ∃ x, d.length = x := ⟨_, rfl⟩
 rw [hdl] at PC ⊢
 have y0 : w.cell? ⟨rb, 0, none⟩ = some (.pointer (some ⟨b, 0, none⟩)) := cell_mk hr rfl
 clear h hr hd hcf hpos hme hm16 hl hle hdl
 go_enter Try.func16, Try.ntmps16
 go_wp2_with fail
 (with_reducible refine PC.out.mono ?_)
 rintro e w2 ⟨⟨q2, rfl, h2⟩, f2⟩
 have HH := Lib.hid (And.intro h2 f2)
 clear h2 f2 PC
 go_wp2
 go_ret2
 exact ⟨⟨q2, rfl, HH.1⟩, HH.2⟩
end
end Go.Proofs.Ytmjccpfchhnfhaa
