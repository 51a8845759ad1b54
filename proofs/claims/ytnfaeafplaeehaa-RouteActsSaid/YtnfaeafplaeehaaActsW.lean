import Derived.Test.YtnfaeafplaeehaaActsP
import Derived.Deep.CutBlock
import Derived.Deep.CutRange
import Derived.Deep.Cut
set_option linter.unusedVariables false
set_option linter.unusedSimpArgs false
namespace Go.Proofs.Ytnfaeafplaeehaa
open Go.RowKit
/-! The law RouteActs, walked. -/
theorem TbAt.kept {S : List Nat} {w w' : World} {t g : Nat} {m : List (RKey × Rt)} (h : TbAt w t g m) (hk : Kept S w w') (h1 : t ∉ S) (h2 : g ∉ S) : TbAt w' t g m := ⟨hk.blk h.1 h1, h.2.1.kept hk h2, h.2.2⟩
/-- What stands at the head of a round. -/
structure ActsAt (acts : List Act9) (t g gm bc : Nat) (c0 : Value) (most : Int) (w : World) (m : List (RKey × Rt)) (n : Nat) (W : World) : Prop where
  tb : TbAt W t g m
  lm : MapAt W gm RKey.val Rt.val m
  ok : WaysOk acts m n
  c : Blk W bc 94 #[c0, .int .u32 most]
  b : Below w.heap.size w W
  n1 : gm ≠ t
  n2 : gm ≠ g
  l1 : w.heap.size ≤ g
  l2 : w.heap.size ≤ gm
theorem ActsAt.below {acts : List Act9} {t g gm bc n : Nat} {c0 : Value} {most : Int} {w W W' : World} {m : List (RKey × Rt)} (h : ActsAt acts t g gm bc c0 most w m n W) (hb : Below W.heap.size W W') : ActsAt acts t g gm bc c0 most w m n W' :=
  ⟨h.tb.below hb, h.lm.below hb, h.ok, h.c.below' hb, h.b.trans (hb.mono h.b.size), h.n1, h.n2, h.l1, h.l2⟩
theorem blk_map_ne {α β : Type} {W : World} {b g : Nat} {t : TypeId} {cs : Array Value} {ek : α → Value} {ev : β → Value} {m : List (α × β)} (h : Blk W b t cs) (hm : MapAt W g ek ev m) : b ≠ g := by
  rintro rfl
  obtain ⟨es, c, h1, _⟩ := hm
  unfold Blk at h
  rw [h] at h1
  cases h1
theorem ActsAt.next {acts : List Act9} {t g gm bc n n1 : Nat} {c0 : Value} {most : Int} {w W W1 W2 : World} {m m1 : List (RKey × Rt)} (h : ActsAt acts t g gm bc c0 most w m n W) (hT : TbAt W1 t g m1) (hk1 : Kept [g] W W1) (hM : MapAt W2 gm RKey.val Rt.val m1) (hk2 : Kept [gm] W1 W2) (ok : WaysOk acts m1 n1) : ActsAt acts t g gm bc c0 most w m1 n1 W2 :=
  ⟨hT.kept hk2 (by simpa using fun e => h.n1 e.symm) (by simpa using fun e => h.n2 e.symm), hM, ok, hk2.blk (hk1.blk h.c (by simpa using blk_map_ne h.c h.tb.2.1)) (by simpa using blk_map_ne h.c h.lm),
    hk2.below (hk1.below h.b h.b.size (by simpa using h.l1)) (Nat.le_trans h.b.size hk1.size) (by simpa using h.l2), h.n1, h.n2, h.l1, h.l2⟩
theorem ActsAt.kept {acts : List Act9} {t g gm bc n : Nat} {c0 : Value} {most : Int} {w W W' : World} {m : List (RKey × Rt)} {S : List Nat} (h : ActsAt acts t g gm bc c0 most w m n W) (hk : Kept S W W') (hS : ∀ s ∈ S, t ≠ s ∧ g ≠ s ∧ gm ≠ s ∧ bc ≠ s ∧ w.heap.size ≤ s) : ActsAt acts t g gm bc c0 most w m n W' :=
  ⟨h.tb.kept hk (fun e => (hS _ e).1 rfl) (fun e => (hS _ e).2.1 rfl), h.lm.kept hk (fun e => (hS _ e).2.2.1 rfl), h.ok, hk.blk h.c (fun e => (hS _ e).2.2.2.1 rfl), hk.below h.b h.b.size (fun s e => (hS s e).2.2.2.2), h.n1, h.n2, h.l1, h.l2⟩
/-- What stands at the head of a round over the acts: what was seen so far. -/
structure SeenAt (acts : List Act9) (t g gm bc : Nat) (c0 : Value) (most : Int) (w : World) (m : List (RKey × Rt)) (n bs gs : Nat) (sn : List (Pfx × Bool)) (W : World) : Prop where
  a : ActsAt acts t g gm bc c0 most w m n W
  s : Blk W bs 42 #[.map (some gs)]
  m : MapAt W gs Pfx.val (fun b : Bool => Value.bool b) sn
  h : t ≠ gs ∧ g ≠ gs ∧ gm ≠ gs ∧ bc ≠ gs ∧ w.heap.size ≤ gs
theorem SeenAt.below {acts : List Act9} {t g gm bc n bs gs : Nat} {c0 : Value} {most : Int} {w W W' : World} {m : List (RKey × Rt)} {sn : List (Pfx × Bool)} (h : SeenAt acts t g gm bc c0 most w m n bs gs sn W) (hb : Below W.heap.size W W') : SeenAt acts t g gm bc c0 most w m n bs gs sn W' :=
  ⟨h.a.below hb, h.s.below' hb, h.m.below hb, h.h⟩
theorem SeenAt.upd {acts : List Act9} {t g gm bc n bs gs : Nat} {c0 : Value} {most : Int} {w W W' : World} {m : List (RKey × Rt)} {sn sn' : List (Pfx × Bool)} (h : SeenAt acts t g gm bc c0 most w m n bs gs sn W) (hk : Kept [gs] W W') (hm : MapAt W' gs Pfx.val (fun b : Bool => Value.bool b) sn') : SeenAt acts t g gm bc c0 most w m n bs gs sn' W' :=
  ⟨h.a.kept hk (fun s e => by simp only [List.mem_singleton] at e; subst e; exact h.h), hk.blk h.s (by simpa using blk_map_ne h.s h.m), hm, h.h⟩
theorem SeenAt.kept {acts : List Act9} {t g gm bc n bs gs : Nat} {c0 : Value} {most : Int} {w W W' : World} {m : List (RKey × Rt)} {sn : List (Pfx × Bool)} {S : List Nat} (h : SeenAt acts t g gm bc c0 most w m n bs gs sn W) (hk : Kept S W W') (hS : ∀ s ∈ S, t ≠ s ∧ g ≠ s ∧ gm ≠ s ∧ bc ≠ s ∧ w.heap.size ≤ s ∧ bs ≠ s ∧ gs ≠ s) : SeenAt acts t g gm bc c0 most w m n bs gs sn W' :=
  ⟨h.a.kept hk (fun s e => ⟨(hS s e).1, (hS s e).2.1, (hS s e).2.2.1, (hS s e).2.2.2.1, (hS s e).2.2.2.2.1⟩), hk.blk h.s (fun e => (hS _ e).2.2.2.2.2.1 rfl), h.m.kept hk (fun e => (hS _ e).2.2.2.2.2.2 rfl), h.h⟩
theorem keepsT_of3 {bg bs bn bl gs : Nat} {sn : List (Pfx × Bool)} {W W' : World} {pre : List Pfx} (h : Walk3 bg bs bn bl gs sn W pre) (hk : Kept [bg, bn, bl] W W') : KeepsT W W' := ⟨hk.size, fun k o ho hs => by
  refine (hk.block k (lt_of_heap ho) fun hm => ?_).trans ho
  simp only [List.mem_cons, List.not_mem_nil, or_false] at hm
  rcases hm with rfl | rfl | rfl
  · have := h.g
    unfold Blk at this
    rw [this] at ho
    cases ho
    simp [staysT] at hs
  · have := h.n
    unfold Blk at this
    rw [this] at ho
    cases ho
    simp [staysT] at hs
  · have := h.l
    unfold Blk at this
    rw [this] at ho
    cases ho
    simp [staysT] at hs⟩
theorem map_len {α β : Type} {ek : α → Value} {ev : β → Value} {m : List (α × β)} {W : World} {g : Nat} {T K E Z : TypeId} (hT : Try.prog.underlying T = some (.map K E)) (h : MapAt W g ek ev m) : (Builtin.len_ #[T] Z #[.map (some g)]).run Try.prog W = .ok (.int .i64 m.length) W := by
  obtain ⟨es, c, h1, h2, _⟩ := h
  have h3 : es.size = m.length := by have := congrArg List.length h2; simpa using this
  simp [Builtin.len_, run_underlying hT, getObj, Sem.run, h1, h3, goInt]
attribute [-go_sem] Go.run_equalIn_agg in
set_option maxRecDepth 100000 in
set_option maxHeartbeats 0 in
theorem law09_Acts (acts : List Act9) (A : Option Addr) (c : Nat) (list : List Int) (A1 : Option Addr) (c1 : Nat) (most : Int) (w : World) (hr : Row w 9 A acts.length (acts.flatMap Act9.cells)) (hl : Row w 1 A1 list.length (list.map (Value.int .i64))) (ho : ∀ t ∈ acts, t.ok) :
    Calls Try.prog 9 #[.slice A acts.length c, .slice A1 list.length c1, .int .u32 most] w fun e w' => e = .returned (.bool true) ∧ Below w.heap.size w w' := by
  go_enter Try.func9, Try.ntmps9
  go_wp2_with fail
  refine (law09_head w).mono ?_
  rintro e w1 ⟨rfl, hb⟩
  have hmax := hr.2.1
  have hmax2 := hl.2.1
  by_cases h60 : 60 < acts.length
  · have d : decide ((60 : Int) < (acts.length : Int)) = true := decide_eq_true (by omega)
    go_wp2
    go_ret
    exact ⟨rfl, hb⟩
  have d : decide ((60 : Int) < (acts.length : Int)) = false := decide_eq_false (by omega)
  by_cases h12 : 12 < list.length
  · have d2 : decide ((12 : Int) < (list.length : Int)) = true := decide_eq_true (by omega)
    go_wp2
    go_ret
    exact ⟨rfl, hb⟩
  have d2 : decide ((12 : Int) < (list.length : Int)) = false := decide_eq_false (by omega)
  go_wp2_with fail
  refine (table_New w1).mono ?_
  rintro e w2 ⟨hb2, t, g, rfl, hT, ht, hg⟩
  have hA0 : ActsAt acts t g w2.heap.size (w2.heap.size + 1) (.slice A1 list.length c1) most w [] 0 ((w2.alloc (.map #[] 0)).alloc (.cells #[.slice A1 list.length c1, .int .u32 most] 94)) := by
    have hbA := ((Below.refl w2.heap.size w2).alloc (Nat.le_refl _) (.map #[] 0)).alloc (by simp) (.cells #[.slice A1 list.length c1, .int .u32 most] 94)
    have hbs := hb.size
    have hb2s := hb2.size
    refine ⟨hT.below hbA, (MapAt.new w2 _ _).alloc _, WaysOk.nil acts, ?_, (hb.trans (hb2.mono hb.size)).trans (hbA.mono (by omega)), ?_, ?_, by omega, by omega⟩
    · have := Blk.new (w2.alloc (.map #[] 0)) 94 #[.slice A1 list.length c1, .int .u32 most]
      simpa using this
    · exact Nat.ne_of_gt hT.1.lt
    · exact Nat.ne_of_gt hT.2.1.lt
  obtain ⟨gm, hgm⟩ : ∃ gm, w2.heap.size = gm := ⟨_, rfl⟩
  rw [hgm] at hA0
  clear hT ht hg hb hb2 d d2
  go_wp2
  go_loopw [52] (fun i wr => ∃ (k : Nat) (m : List (RKey × Rt)), k ≤ acts.length ∧ i = .int .i64 k ∧ ActsAt acts t g gm (gm + 1) (.slice A1 list.length c1) most w m k wr) (fun i _ => acts.length - (intOf i).toNat)
  case atStart => exact ⟨0, [], Nat.zero_le _, rfl, hA0⟩
  case round =>
    clear hA0
    obtain ⟨k, m, hk, rfl, hA⟩ := hrel
    by_cases hlt : k < acts.length
    · obtain ⟨b, off, rfl, hbl, hcell⟩ := hr.2.2 (by omega)
      have e0 := (hA.b.cell (p := ⟨b, _, none⟩) hbl).trans (hcell (k * 9 + 0) _ ((flat_get Act9.cells 9 (fun _ => rfl) acts k 0 hlt (by omega)).trans rfl))
      have e1 := (hA.b.cell (p := ⟨b, _, none⟩) hbl).trans (hcell (k * 9 + 1) _ ((flat_get Act9.cells 9 (fun _ => rfl) acts k 1 hlt (by omega)).trans rfl))
      have e2 := (hA.b.cell (p := ⟨b, _, none⟩) hbl).trans (hcell (k * 9 + 2) _ ((flat_get Act9.cells 9 (fun _ => rfl) acts k 2 hlt (by omega)).trans rfl))
      have e3 := (hA.b.cell (p := ⟨b, _, none⟩) hbl).trans (hcell (k * 9 + 3) _ ((flat_get Act9.cells 9 (fun _ => rfl) acts k 3 hlt (by omega)).trans rfl))
      have e4 := (hA.b.cell (p := ⟨b, _, none⟩) hbl).trans (hcell (k * 9 + 4) _ ((flat_get Act9.cells 9 (fun _ => rfl) acts k 4 hlt (by omega)).trans rfl))
      have e5 := (hA.b.cell (p := ⟨b, _, none⟩) hbl).trans (hcell (k * 9 + 5) _ ((flat_get Act9.cells 9 (fun _ => rfl) acts k 5 hlt (by omega)).trans rfl))
      have e6 := (hA.b.cell (p := ⟨b, _, none⟩) hbl).trans (hcell (k * 9 + 6) _ ((flat_get Act9.cells 9 (fun _ => rfl) acts k 6 hlt (by omega)).trans rfl))
      have e7 := (hA.b.cell (p := ⟨b, _, none⟩) hbl).trans (hcell (k * 9 + 7) _ ((flat_get Act9.cells 9 (fun _ => rfl) acts k 7 hlt (by omega)).trans rfl))
      have e8 := (hA.b.cell (p := ⟨b, _, none⟩) hbl).trans (hcell (k * 9 + 8) _ ((flat_get Act9.cells 9 (fun _ => rfl) acts k 8 hlt (by omega)).trans rfl))
      have hmem := List.getElem_mem hlt
      have hok := ho _ hmem
      generalize acts[k] = x at *
      obtain ⟨xk, xa, xl, ⟨xn, xi, xs, xm, xx⟩, xw⟩ := x
      simp only [← Nat.add_assoc, Nat.add_zero] at e0 e1 e2 e3 e4 e5 e6 e7 e8
      go_upto_block 2 with fail
      have kX := (Blk.new wr 96 #[.int .i64 xk, .int .u32 xa, .int .i64 xl, .int .i64 xn, .int .u32 xi, .int .u32 xs, .int .u16 xm, .int .i64 xx, .int .i64 xw]).alloc (.cells #[.int .u32 xa, .int .i64 xl, .int .i64 xn] 98)
      have kK := Blk.new (wr.alloc (.cells #[.int .i64 xk, .int .u32 xa, .int .i64 xl, .int .i64 xn, .int .u32 xi, .int .u32 xs, .int .u16 xm, .int .i64 xx, .int .i64 xw] 96)) 98 #[.int .u32 xa, .int .i64 xl, .int .i64 xn]
      have hbA := ((Below.refl wr.heap.size wr).alloc (Nat.le_refl _) (.cells #[.int .i64 xk, .int .u32 xa, .int .i64 xl, .int .i64 xn, .int .u32 xi, .int .u32 xs, .int .u16 xm, .int .i64 xx, .int .i64 xw] 96)).alloc (by simp) (.cells #[.int .u32 xa, .int .i64 xl, .int .i64 xn] 98)
      simp only [World.size_alloc] at kK
      replace hA := hA.below hbA
      clear hbA e0 e1 e2 e3 e4 e5 e6 e7 e8
      generalize (wr.alloc (.cells #[.int .i64 xk, .int .u32 xa, .int .i64 xl, .int .i64 xn, .int .u32 xi, .int .u32 xs, .int .u16 xm, .int .i64 xx, .int .i64 xw] 96)).alloc (.cells #[.int .u32 xa, .int .i64 xl, .int .i64 xn] 98) = W at *
      generalize wr.heap.size = q at *
      generalize bits BinOp.and IntKind.i64 xk 7 = kd at *
      go_cut [13, 14, 16, 18, 19, 20, 21, 52] from 52 to 252 (fun a13 a14 a16 a18 a19 a20 a21 a52 wc => a52 = .int .i64 k ∧ ∃ m', ActsAt acts t g gm (gm + 1) (.slice A1 list.length c1) most w m' (k + 1) wc)
      case first => as_aux_lemma =>
        have hlk := law_look m ⟨xa, xl, xn⟩ gm
        simp only [RKey.val] at hlk
        by_cases k4 : kd = 4
        · have k4' : (kd == 4) = true := beq_iff_eq.2 k4
          have HO := Lib.hid (hA.ok.del ⟨xa, xl, xn⟩)
          clear k4
          have x0 := kX.lt
          have xc0 := kX.cell 0
          have xc1 := kX.cell 1
          have xc2 := kX.cell 2
          have xc3 := kX.cell 3
          have xc4 := kX.cell 4
          have xc5 := kX.cell 5
          have xc6 := kX.cell 6
          have xc7 := kX.cell 7
          have xc8 := kX.cell 8
          have y0 := kK.lt
          have yc0 := kK.cell 0
          have yc1 := kK.cell 1
          have yc2 := kK.cell 2
          simp only [List.getElem?_toArray, List.getElem?_cons_zero, List.getElem?_cons_succ] at xc0 xc1 xc2 xc3 xc4 xc5 xc6 xc7 xc8 yc0 yc1 yc2
          have hlk1 := hlk W hA.lm
          clear hlk
          have hD := fun W' (hb : Below W.heap.size W W') => table_Drop m xa xl xn t g W' (hA.tb.below hb)
          generalize getR m ⟨xa, xl, xn⟩ = qr at *
          obtain ⟨⟨rn, ri, rs, rm, rx⟩, rok⟩ := qr
          simp only [Rt.val] at hlk1 hD
          go_wp2_with fail
          have hbQ := (Below.refl W.heap.size W).alloc (Nat.le_refl _) (.cells #[.int .i64 rn, .int .u32 ri, .int .u32 rs, .int .u16 rm, .int .i64 rx] 68)
          refine (hD _ hbQ).mono ?_
          rintro e w3 ⟨rfl, hT3, hk3⟩
          have hkW := (Kept.of_below (S := [g]) hbQ).trans hk3
          replace kX := hkW.blk kX (by simpa using blk_map_ne kX hA.tb.2.1)
          replace kK := hkW.blk kK (by simpa using blk_map_ne kK hA.tb.2.1)
          have hM3 := hA.lm.kept hkW (by simpa using hA.n2)
          obtain ⟨w4, hdl, hM4, hk4⟩ := run_delete lkey_keys Try.underlying92 hM3 ⟨xa, xl, xn⟩ 98 0
          simp only [RKey.val] at hdl
          have HN := Lib.hid (hA.next hT3 hkW hM4 hk4 HO.out)
          clear hlk1 hD hbQ hk3 hkW hM3 hT3 hM4 hk4 x0 xc0 xc1 xc2 xc3 xc4 xc5 xc6 xc7 xc8 y0 yc0 yc1 yc2
          have x0 := kX.lt
          have xc0 := kX.cell 0
          have xc1 := kX.cell 1
          have xc2 := kX.cell 2
          have xc3 := kX.cell 3
          have xc4 := kX.cell 4
          have xc5 := kX.cell 5
          have xc6 := kX.cell 6
          have xc7 := kX.cell 7
          have xc8 := kX.cell 8
          have y0 := kK.lt
          have yc0 := kK.cell 0
          have yc1 := kK.cell 1
          have yc2 := kK.cell 2
          simp only [List.getElem?_toArray, List.getElem?_cons_zero, List.getElem?_cons_succ] at xc0 xc1 xc2 xc3 xc4 xc5 xc6 xc7 xc8 yc0 yc1 yc2
          go_wp2
          go_meet
          case rel => exact ⟨rfl, _, HN.out⟩
        · have k4' : (kd == 4) = false := beq_eq_false_iff_ne.2 k4
          by_cases k5 : kd = 5
          · have k5' : (kd == 5) = true := beq_iff_eq.2 k5
            have HO := Lib.hid (hA.ok.filter (fun x => !(x.1.n == xn)))
            have hDr := dropL_all hA.ok xn
            clear k4 k5
            have x0 := kX.lt
            have xc0 := kX.cell 0
            have xc1 := kX.cell 1
            have xc2 := kX.cell 2
            have xc3 := kX.cell 3
            have xc4 := kX.cell 4
            have xc5 := kX.cell 5
            have xc6 := kX.cell 6
            have xc7 := kX.cell 7
            have xc8 := kX.cell 8
            have y0 := kK.lt
            have yc0 := kK.cell 0
            have yc1 := kK.cell 1
            have yc2 := kK.cell 2
            simp only [List.getElem?_toArray, List.getElem?_cons_zero, List.getElem?_cons_succ] at xc0 xc1 xc2 xc3 xc4 xc5 xc6 xc7 xc8 yc0 yc1 yc2
            go_wp2_with fail
            refine (table_DropAll m xn t g W hA.tb hA.ok.nd).mono ?_
            rintro e w3 ⟨rfl, hT3, hk3⟩
            replace kX := hk3.blk kX (by simpa using blk_map_ne kX hA.tb.2.1)
            replace kK := hk3.blk kK (by simpa using blk_map_ne kK hA.tb.2.1)
            have hM3 := hA.lm.kept hk3 (by simpa using hA.n2)
            clear x0 xc0 xc1 xc2 xc3 xc4 xc5 xc6 xc7 xc8 y0 yc0 yc1 yc2
            have hb3 := hk3.below hA.b hA.b.size (by simpa using hA.l1)
            have HN := Lib.hid (fun W2 (hM : MapAt W2 gm RKey.val Rt.val (m.filter fun x => !(x.1.n == xn))) (hk2 : Kept [gm] w3 W2) => hA.next hT3 hk3 hM hk2 HO.out)
            have hgml := hA.l2
            have hXg := Lib.hid (show q ∉ [gm] by simpa using blk_map_ne kX hM3)
            clear hT3 hk3
            go_wp2
            go_loopw [103] (fun i wl => ∃ j : Nat, j ≤ acts.length ∧ i = .int .i64 j ∧ MapAt wl gm RKey.val Rt.val (dropL m xn (acts.take j)) ∧ Kept [gm] w3 wl) (fun i _ => acts.length - (intOf i).toNat)
            case atStart => exact ⟨0, Nat.zero_le _, rfl, hM3, Kept.refl _ _⟩
            case round => as_aux_lemma =>
              clear hM3
              obtain ⟨j, hj, rfl, hM3, hk2⟩ := hrel
              by_cases hjl : j < acts.length
              · have hbw := hk2.below hb3 hb3.size (by simpa using hgml)
                have f0 := (hbw.cell (p := ⟨b, _, none⟩) hbl).trans (hcell (j * 9 + 0) _ ((flat_get Act9.cells 9 (fun _ => rfl) acts j 0 hjl (by omega)).trans rfl))
                have f1 := (hbw.cell (p := ⟨b, _, none⟩) hbl).trans (hcell (j * 9 + 1) _ ((flat_get Act9.cells 9 (fun _ => rfl) acts j 1 hjl (by omega)).trans rfl))
                have f2 := (hbw.cell (p := ⟨b, _, none⟩) hbl).trans (hcell (j * 9 + 2) _ ((flat_get Act9.cells 9 (fun _ => rfl) acts j 2 hjl (by omega)).trans rfl))
                have f3 := (hbw.cell (p := ⟨b, _, none⟩) hbl).trans (hcell (j * 9 + 3) _ ((flat_get Act9.cells 9 (fun _ => rfl) acts j 3 hjl (by omega)).trans rfl))
                have f4 := (hbw.cell (p := ⟨b, _, none⟩) hbl).trans (hcell (j * 9 + 4) _ ((flat_get Act9.cells 9 (fun _ => rfl) acts j 4 hjl (by omega)).trans rfl))
                have f5 := (hbw.cell (p := ⟨b, _, none⟩) hbl).trans (hcell (j * 9 + 5) _ ((flat_get Act9.cells 9 (fun _ => rfl) acts j 5 hjl (by omega)).trans rfl))
                have f6 := (hbw.cell (p := ⟨b, _, none⟩) hbl).trans (hcell (j * 9 + 6) _ ((flat_get Act9.cells 9 (fun _ => rfl) acts j 6 hjl (by omega)).trans rfl))
                have f7 := (hbw.cell (p := ⟨b, _, none⟩) hbl).trans (hcell (j * 9 + 7) _ ((flat_get Act9.cells 9 (fun _ => rfl) acts j 7 hjl (by omega)).trans rfl))
                have f8 := (hbw.cell (p := ⟨b, _, none⟩) hbl).trans (hcell (j * 9 + 8) _ ((flat_get Act9.cells 9 (fun _ => rfl) acts j 8 hjl (by omega)).trans rfl))
                have HT := Lib.hid (dropL_snoc m xn acts j hjl)
                generalize acts[j] = y at *
                obtain ⟨yk, ya, yl, ⟨yn, yi, ys, ym, yx⟩, yw⟩ := y
                simp only [← Nat.add_assoc, Nat.add_zero] at f0 f1 f2 f3 f4 f5 f6 f7 f8
                have kX1 := (hk2.blk kX hXg.out).alloc (.cells #[.int .i64 yk, .int .u32 ya, .int .i64 yl, .int .i64 yn, .int .u32 yi, .int .u32 ys, .int .u16 ym, .int .i64 yx, .int .i64 yw] 96)
                have kY := Blk.new wr 96 #[.int .i64 yk, .int .u32 ya, .int .i64 yl, .int .i64 yn, .int .u32 yi, .int .u32 ys, .int .u16 ym, .int .i64 yx, .int .i64 yw]
                obtain ⟨w6, hdl, hM6, hk6⟩ := run_delete lkey_keys Try.underlying92 (hM3.alloc (.cells #[.int .i64 yk, .int .u32 ya, .int .i64 yl, .int .i64 yn, .int .u32 yi, .int .u32 ys, .int .u16 ym, .int .i64 yx, .int .i64 yw] 96)) ⟨ya, yl, xn⟩ 98 0
                simp only [RKey.val] at hdl
                have hk7 := (kept_alloc hk2 (.cells #[.int .i64 yk, .int .u32 ya, .int .i64 yl, .int .i64 yn, .int .u32 yi, .int .u32 ys, .int .u16 ym, .int .i64 yx, .int .i64 yw] 96)).trans hk6
                have z0 := kX1.lt
                have z3 := kX1.cell 3
                have y1 := kY.lt
                have y2 := kY.cell 1
                have y3 := kY.cell 2
                simp only [List.getElem?_toArray, List.getElem?_cons_zero, List.getElem?_cons_succ] at z3 y2 y3
                clear hM3 hk2 hk6 hbw kX1 kY
                go_wp2
                go_roundw
                case rel => exact ⟨j + 1, by omega, by go_num, by rw [HT.out]; exact hM6, hk7⟩
                case measure => simp [intOf]; omega
              · obtain rfl : j = acts.length := by omega
                rw [List.take_length, hDr] at hM3
                go_wp2
                go_meet
                case rel => exact ⟨rfl, _, HN.out _ hM3 hk2⟩
          · have k5' : (kd == 5) = false := beq_eq_false_iff_ne.2 k5
            by_cases k6 : kd = 6
            · have k6' : (kd == 6) = true := beq_iff_eq.2 k6
              have HO := Lib.hid (hA.ok.filter (fun x => !(decide (x.2.x ≤ xw))))
              have hDr := expL_all hA.ok xw
              clear k4 k5 k6
              have x0 := kX.lt
              have xc0 := kX.cell 0
              have xc1 := kX.cell 1
              have xc2 := kX.cell 2
              have xc3 := kX.cell 3
              have xc4 := kX.cell 4
              have xc5 := kX.cell 5
              have xc6 := kX.cell 6
              have xc7 := kX.cell 7
              have xc8 := kX.cell 8
              have y0 := kK.lt
              have yc0 := kK.cell 0
              have yc1 := kK.cell 1
              have yc2 := kK.cell 2
              simp only [List.getElem?_toArray, List.getElem?_cons_zero, List.getElem?_cons_succ] at xc0 xc1 xc2 xc3 xc4 xc5 xc6 xc7 xc8 yc0 yc1 yc2
              go_wp2_with fail
              refine (table_Expire m xw t g W hA.tb hA.ok.nd).mono ?_
              rintro e w3 ⟨rfl, hT3, hk3⟩
              replace kX := hk3.blk kX (by simpa using blk_map_ne kX hA.tb.2.1)
              replace kK := hk3.blk kK (by simpa using blk_map_ne kK hA.tb.2.1)
              have hM3 := hA.lm.kept hk3 (by simpa using hA.n2)
              clear x0 xc0 xc1 xc2 xc3 xc4 xc5 xc6 xc7 xc8 y0 yc0 yc1 yc2
              have hb3 := hk3.below hA.b hA.b.size (by simpa using hA.l1)
              have HN := Lib.hid (fun W2 (hM : MapAt W2 gm RKey.val Rt.val (m.filter fun x => !(decide (x.2.x ≤ xw)))) (hk2 : Kept [gm] w3 W2) => hA.next hT3 hk3 hM hk2 HO.out)
              have hgml := hA.l2
              have hXg := Lib.hid (show q ∉ [gm] by simpa using blk_map_ne kX hM3)
              clear hT3 hk3
              go_wp2
              go_loopw [123] (fun i wl => ∃ j : Nat, j ≤ acts.length ∧ i = .int .i64 j ∧ MapAt wl gm RKey.val Rt.val (expL m xw (acts.take j)) ∧ Kept [gm] w3 wl) (fun i _ => acts.length - (intOf i).toNat)
              case atStart => exact ⟨0, Nat.zero_le _, rfl, hM3, Kept.refl _ _⟩
              case round => as_aux_lemma =>
                clear hM3
                obtain ⟨j, hj, rfl, hM3, hk2⟩ := hrel
                by_cases hjl : j < acts.length
                · have hbw := hk2.below hb3 hb3.size (by simpa using hgml)
                  have f0 := (hbw.cell (p := ⟨b, _, none⟩) hbl).trans (hcell (j * 9 + 0) _ ((flat_get Act9.cells 9 (fun _ => rfl) acts j 0 hjl (by omega)).trans rfl))
                  have f1 := (hbw.cell (p := ⟨b, _, none⟩) hbl).trans (hcell (j * 9 + 1) _ ((flat_get Act9.cells 9 (fun _ => rfl) acts j 1 hjl (by omega)).trans rfl))
                  have f2 := (hbw.cell (p := ⟨b, _, none⟩) hbl).trans (hcell (j * 9 + 2) _ ((flat_get Act9.cells 9 (fun _ => rfl) acts j 2 hjl (by omega)).trans rfl))
                  have f3 := (hbw.cell (p := ⟨b, _, none⟩) hbl).trans (hcell (j * 9 + 3) _ ((flat_get Act9.cells 9 (fun _ => rfl) acts j 3 hjl (by omega)).trans rfl))
                  have f4 := (hbw.cell (p := ⟨b, _, none⟩) hbl).trans (hcell (j * 9 + 4) _ ((flat_get Act9.cells 9 (fun _ => rfl) acts j 4 hjl (by omega)).trans rfl))
                  have f5 := (hbw.cell (p := ⟨b, _, none⟩) hbl).trans (hcell (j * 9 + 5) _ ((flat_get Act9.cells 9 (fun _ => rfl) acts j 5 hjl (by omega)).trans rfl))
                  have f6 := (hbw.cell (p := ⟨b, _, none⟩) hbl).trans (hcell (j * 9 + 6) _ ((flat_get Act9.cells 9 (fun _ => rfl) acts j 6 hjl (by omega)).trans rfl))
                  have f7 := (hbw.cell (p := ⟨b, _, none⟩) hbl).trans (hcell (j * 9 + 7) _ ((flat_get Act9.cells 9 (fun _ => rfl) acts j 7 hjl (by omega)).trans rfl))
                  have f8 := (hbw.cell (p := ⟨b, _, none⟩) hbl).trans (hcell (j * 9 + 8) _ ((flat_get Act9.cells 9 (fun _ => rfl) acts j 8 hjl (by omega)).trans rfl))
                  have HT := Lib.hid (expL_snoc m xw acts j hjl)
                  generalize acts[j] = y at *
                  obtain ⟨yk, ya, yl, ⟨yn, yi, ys, ym, yx⟩, yw⟩ := y
                  simp only [← Nat.add_assoc, Nat.add_zero] at f0 f1 f2 f3 f4 f5 f6 f7 f8
                  go_upto_region 33 with fail
                  have kX1 := ((hk2.blk kX hXg.out).alloc (.cells #[.int .i64 yk, .int .u32 ya, .int .i64 yl, .int .i64 yn, .int .u32 yi, .int .u32 ys, .int .u16 ym, .int .i64 yx, .int .i64 yw] 96)).alloc (.cells #[.int .u32 ya, .int .i64 yl, .int .i64 yn] 98)
                  have kZ := Blk.new (wr.alloc (.cells #[.int .i64 yk, .int .u32 ya, .int .i64 yl, .int .i64 yn, .int .u32 yi, .int .u32 ys, .int .u16 ym, .int .i64 yx, .int .i64 yw] 96)) 98 #[.int .u32 ya, .int .i64 yl, .int .i64 yn]
                  simp only [World.size_alloc] at kZ
                  replace hM3 := (hM3.alloc (.cells #[.int .i64 yk, .int .u32 ya, .int .i64 yl, .int .i64 yn, .int .u32 yi, .int .u32 ys, .int .u16 ym, .int .i64 yx, .int .i64 yw] 96)).alloc (.cells #[.int .u32 ya, .int .i64 yl, .int .i64 yn] 98)
                  replace hk2 := kept_alloc (kept_alloc hk2 (.cells #[.int .i64 yk, .int .u32 ya, .int .i64 yl, .int .i64 yn, .int .u32 yi, .int .u32 ys, .int .u16 ym, .int .i64 yx, .int .i64 yw] 96)) (.cells #[.int .u32 ya, .int .i64 yl, .int .i64 yn] 98)
                  clear f0 f1 f2 f3 f4 f5 f6 f7 f8 hbw
                  generalize (wr.alloc (.cells #[.int .i64 yk, .int .u32 ya, .int .i64 yl, .int .i64 yn, .int .u32 yi, .int .u32 ys, .int .u16 ym, .int .i64 yx, .int .i64 yw] 96)).alloc (.cells #[.int .u32 ya, .int .i64 yl, .int .i64 yn] 98) = W5 at *
                  generalize wr.heap.size = q5 at *
                  have hlk1 := law_look (expL m xw (acts.take j)) ⟨ya, yl, yn⟩ gm W5 hM3
                  unfold expStep Act9.key at HT
                  dsimp only at HT
                  generalize getR (expL m xw (acts.take j)) ⟨ya, yl, yn⟩ = qr at *
                  obtain ⟨⟨rn, ri, rs, rm, rx⟩, rok⟩ := qr
                  simp only [Rt.val, RKey.val] at hlk1 HT
                  have z0 := kZ.cell 0
                  have z1 := kZ.cell 1
                  have z2 := kZ.cell 2
                  simp only [List.getElem?_toArray, List.getElem?_cons_zero, List.getElem?_cons_succ] at z0 z1 z2
                  have z9 := kZ.lt
                  go_upto_region 34 with fail
                  have kQ := Blk.new W5 68 #[.int .i64 rn, .int .u32 ri, .int .u32 rs, .int .u16 rm, .int .i64 rx]
                  replace kX1 := kX1.alloc (.cells #[.int .i64 rn, .int .u32 ri, .int .u32 rs, .int .u16 rm, .int .i64 rx] 68)
                  replace kZ := kZ.alloc (.cells #[.int .i64 rn, .int .u32 ri, .int .u32 rs, .int .u16 rm, .int .i64 rx] 68)
                  replace hM3 := hM3.alloc (.cells #[.int .i64 rn, .int .u32 ri, .int .u32 rs, .int .u16 rm, .int .i64 rx] 68)
                  replace hk2 := kept_alloc hk2 (.cells #[.int .i64 rn, .int .u32 ri, .int .u32 rs, .int .u16 rm, .int .i64 rx] 68)
                  clear hlk1 z0 z1 z2 z9
                  generalize W5.alloc (.cells #[.int .i64 rn, .int .u32 ri, .int .u32 rs, .int .u16 rm, .int .i64 rx] 68) = W6 at *
                  generalize W5.heap.size = q6 at *
                  have z8 := kX1.cell 8
                  have z7 := kX1.lt
                  have v4 := kQ.cell 4
                  have v9 := kQ.lt
                  simp only [List.getElem?_toArray, List.getElem?_cons_zero, List.getElem?_cons_succ] at z8 v4
                  cases rok with
                  | false =>
                    rw [if_neg (fun h => by cases h.1)] at HT
                    go_wp2
                    go_roundw
                    case rel => exact ⟨j + 1, by omega, by go_num, by rw [HT.out]; exact hM3, hk2⟩
                    case measure => simp [intOf]; omega
                  | true =>
                    by_cases hxx : rx ≤ xw
                    · rw [if_pos ⟨rfl, hxx⟩] at HT
                      have hxx' : decide (rx ≤ xw) = true := decide_eq_true hxx
                      obtain ⟨w6, hdl, hM6, hk6⟩ := run_delete lkey_keys Try.underlying92 hM3 ⟨ya, yl, yn⟩ 98 0
                      simp only [RKey.val] at hdl
                      have hk7 := hk2.trans hk6
                      have z0 := kZ.cell 0
                      have z1 := kZ.cell 1
                      have z2 := kZ.cell 2
                      simp only [List.getElem?_toArray, List.getElem?_cons_zero, List.getElem?_cons_succ] at z0 z1 z2
                      have z9 := kZ.lt
                      clear hM3 hk2 hk6
                      go_wp2
                      go_roundw
                      case rel => exact ⟨j + 1, by omega, by go_num, by rw [HT.out]; exact hM6, hk7⟩
                      case measure => simp [intOf]; omega
                    · rw [if_neg (fun h => hxx h.2)] at HT
                      have hxx' : decide (rx ≤ xw) = false := decide_eq_false hxx
                      clear hxx
                      go_wp2
                      go_roundw
                      case rel => exact ⟨j + 1, by omega, by go_num, by rw [HT.out]; exact hM3, hk2⟩
                      case measure => simp [intOf]; omega
                · obtain rfl : j = acts.length := by omega
                  rw [List.take_length, hDr] at hM3
                  go_wp2
                  go_meet
                  case rel => exact ⟨rfl, _, HN.out _ hM3 hk2⟩
            · have k6' : (kd == 6) = false := beq_eq_false_iff_ne.2 k6
              have HO := Lib.hid (hA.ok.upd _ hmem hok)
              clear k4 k5 k6
              have x0 := kX.lt
              have xc0 := kX.cell 0
              have xc1 := kX.cell 1
              have xc2 := kX.cell 2
              have xc3 := kX.cell 3
              have xc4 := kX.cell 4
              have xc5 := kX.cell 5
              have xc6 := kX.cell 6
              have xc7 := kX.cell 7
              have xc8 := kX.cell 8
              have y0 := kK.lt
              have yc0 := kK.cell 0
              have yc1 := kK.cell 1
              have yc2 := kK.cell 2
              simp only [List.getElem?_toArray, List.getElem?_cons_zero, List.getElem?_cons_succ] at xc0 xc1 xc2 xc3 xc4 xc5 xc6 xc7 xc8 yc0 yc1 yc2
              go_wp2_with fail
              refine (table_Set m xa xl ⟨xn, xi, xs, xm, xx⟩ t g W hA.tb).mono ?_
              rintro e w3 ⟨rfl, hT3, hk3⟩
              replace kX := hk3.blk kX (by simpa using blk_map_ne kX hA.tb.2.1)
              replace kK := hk3.blk kK (by simpa using blk_map_ne kK hA.tb.2.1)
              have hM3 := hA.lm.kept hk3 (by simpa using hA.n2)
              obtain ⟨w4, hup, hM4, hk4⟩ := run_mapUpdate lkey_keys Try.underlying92 hM3 ⟨xa, xl, xn⟩ ⟨xn, xi, xs, xm, xx⟩
              simp only [RKey.val, Rt.val] at hup
              have HN := Lib.hid (hA.next hT3 hk3 hM4 hk4 HO.out)
              clear hT3 hk3 hM3 hM4 hk4 x0 xc0 xc1 xc2 xc3 xc4 xc5 xc6 xc7 xc8 y0 yc0 yc1 yc2
              have x0 := kX.lt
              have xc0 := kX.cell 0
              have xc1 := kX.cell 1
              have xc2 := kX.cell 2
              have xc3 := kX.cell 3
              have xc4 := kX.cell 4
              have xc5 := kX.cell 5
              have xc6 := kX.cell 6
              have xc7 := kX.cell 7
              have xc8 := kX.cell 8
              have y0 := kK.lt
              have yc0 := kK.cell 0
              have yc1 := kK.cell 1
              have yc2 := kK.cell 2
              simp only [List.getElem?_toArray, List.getElem?_cons_zero, List.getElem?_cons_succ] at xc0 xc1 xc2 xc3 xc4 xc5 xc6 xc7 xc8 yc0 yc1 yc2
              go_wp2
              go_meet
              case rel => exact ⟨rfl, _, HN.out⟩
      case rest => as_aux_lemma =>
        obtain ⟨rfl, m', hA'⟩ := hcut
        clear hA kX kK hok hmem
        have hln := map_len (Z := 3) Try.underlying92 hA'.lm
        go_wp2_with fail
        refine (table_Len m' t g wc hA'.tb).mono ?_
        rintro e w3 ⟨rfl, rfl⟩
        have hS : SeenAt acts t g gm (gm + 1) (.slice A1 list.length c1) most w m' (k + 1) (w3.heap.size + 1) w3.heap.size (seenM m' (acts.take 0)) ((w3.alloc (.map #[] 0)).alloc (.cells #[.map (some w3.heap.size)] 42)) := by
          have hbA := ((Below.refl w3.heap.size w3).alloc (Nat.le_refl _) (.map #[] 0)).alloc (by simp) (.cells #[.map (some w3.heap.size)] 42)
          refine ⟨hA'.below hbA, ?_, (MapAt.new w3 _ _).alloc _, Nat.ne_of_lt hA'.tb.1.lt, Nat.ne_of_lt hA'.tb.2.1.lt, Nat.ne_of_lt hA'.lm.lt, Nat.ne_of_lt hA'.c.lt, hA'.b.size⟩
          have := Blk.new (w3.alloc (.map #[] 0)) 42 #[.map (some w3.heap.size)]
          simpa using this
        go_upto_block 7 with fail
        clear hA' hln
        generalize (w3.alloc (.map #[] 0)).alloc (.cells #[.map (some w3.heap.size)] 42) = W0 at *
        generalize w3.heap.size = gs at *
        go_wp2
        go_loopw [158] (fun i wl => ∃ j : Nat, j ≤ acts.length ∧ i = .int .i64 j ∧ SeenAt acts t g gm (gm + 1) (.slice A1 list.length c1) most w m' (k + 1) (gs + 1) gs (seenM m' (acts.take j)) wl) (fun i _ => acts.length - (intOf i).toNat)
        case atStart => exact ⟨0, Nat.zero_le _, rfl, hS⟩
        case round => as_aux_lemma =>
          clear hS
          obtain ⟨j, hj, rfl, hS⟩ := hrel
          by_cases hjl : j < acts.length
          · have hb3 := hS.a.b
            have hk2 := Kept.refl ([] : List Nat) wr
            have hbw := hk2.below hb3 hb3.size (by simp)
            have f0 := (hbw.cell (p := ⟨b, _, none⟩) hbl).trans (hcell (j * 9 + 0) _ ((flat_get Act9.cells 9 (fun _ => rfl) acts j 0 hjl (by omega)).trans rfl))
            have f1 := (hbw.cell (p := ⟨b, _, none⟩) hbl).trans (hcell (j * 9 + 1) _ ((flat_get Act9.cells 9 (fun _ => rfl) acts j 1 hjl (by omega)).trans rfl))
            have f2 := (hbw.cell (p := ⟨b, _, none⟩) hbl).trans (hcell (j * 9 + 2) _ ((flat_get Act9.cells 9 (fun _ => rfl) acts j 2 hjl (by omega)).trans rfl))
            have f3 := (hbw.cell (p := ⟨b, _, none⟩) hbl).trans (hcell (j * 9 + 3) _ ((flat_get Act9.cells 9 (fun _ => rfl) acts j 3 hjl (by omega)).trans rfl))
            have f4 := (hbw.cell (p := ⟨b, _, none⟩) hbl).trans (hcell (j * 9 + 4) _ ((flat_get Act9.cells 9 (fun _ => rfl) acts j 4 hjl (by omega)).trans rfl))
            have f5 := (hbw.cell (p := ⟨b, _, none⟩) hbl).trans (hcell (j * 9 + 5) _ ((flat_get Act9.cells 9 (fun _ => rfl) acts j 5 hjl (by omega)).trans rfl))
            have f6 := (hbw.cell (p := ⟨b, _, none⟩) hbl).trans (hcell (j * 9 + 6) _ ((flat_get Act9.cells 9 (fun _ => rfl) acts j 6 hjl (by omega)).trans rfl))
            have f7 := (hbw.cell (p := ⟨b, _, none⟩) hbl).trans (hcell (j * 9 + 7) _ ((flat_get Act9.cells 9 (fun _ => rfl) acts j 7 hjl (by omega)).trans rfl))
            have f8 := (hbw.cell (p := ⟨b, _, none⟩) hbl).trans (hcell (j * 9 + 8) _ ((flat_get Act9.cells 9 (fun _ => rfl) acts j 8 hjl (by omega)).trans rfl))
            clear hbw hk2 hb3
            have HT := Lib.hid (seenM_take m' acts j hjl)
            generalize acts[j] = y at *
            obtain ⟨yk, ya, yl, ⟨yn, yi, ys, ym, yx⟩, yw⟩ := y
            simp only [← Nat.add_assoc, Nat.add_zero] at f0 f1 f2 f3 f4 f5 f6 f7 f8
            unfold Act9.key at HT
            dsimp only at HT
            go_wp2_with fail
            have kY := Blk.new wr 96 #[.int .i64 yk, .int .u32 ya, .int .i64 yl, .int .i64 yn, .int .u32 yi, .int .u32 ys, .int .u16 ym, .int .i64 yx, .int .i64 yw]
            have hbA := (Below.refl wr.heap.size wr).alloc (Nat.le_refl _) (.cells #[.int .i64 yk, .int .u32 ya, .int .i64 yl, .int .i64 yn, .int .u32 yi, .int .u32 ys, .int .u16 ym, .int .i64 yx, .int .i64 yw] 96)
            replace hS := hS.below hbA
            clear hbA f0 f1 f2 f3 f4 f5 f6 f7 f8
            generalize wr.alloc (.cells #[.int .i64 yk, .int .u32 ya, .int .i64 yl, .int .i64 yn, .int .u32 yi, .int .u32 ys, .int .u16 ym, .int .i64 yx, .int .i64 yw] 96) = W1 at *
            generalize wr.heap.size = qy at *
            refine (table_Get m' ya yl yn t g W1 hS.a.tb).mono ?_
            have hlk := law_look m' ⟨ya, yl, yn⟩ gm
            simp only [RKey.val] at hlk
            generalize getR m' ⟨ya, yl, yn⟩ = qr at *
            obtain ⟨⟨rn, ri, rs, rm, rx⟩, rok⟩ := qr
            simp only [Rt.val] at hlk HT ⊢
            rintro e w4 ⟨rfl, hb4⟩
            replace hS := hS.below hb4
            replace kY := kY.below' hb4
            clear hb4
            have hrs := rt_self ⟨rn, ri, rs, rm, rx⟩
            simp only [Rt.val] at hrs
            go_upto_region 44 with fail
            have kR := Blk.new w4 68 #[.int .i64 rn, .int .u32 ri, .int .u32 rs, .int .u16 rm, .int .i64 rx]
            have hbA := (Below.refl w4.heap.size w4).alloc (Nat.le_refl _) (.cells #[.int .i64 rn, .int .u32 ri, .int .u32 rs, .int .u16 rm, .int .i64 rx] 68)
            replace hS := hS.below hbA
            replace kY := kY.below' hbA
            clear hbA
            generalize w4.alloc (.cells #[.int .i64 rn, .int .u32 ri, .int .u32 rs, .int .u16 rm, .int .i64 rx] 68) = W5 at *
            generalize w4.heap.size = qr at *
            have hlk5 := hlk W5 hS.a.lm
            clear hlk
            have y1 := kY.lt
            have y2 := kY.cell 1
            have y3 := kY.cell 2
            have y4 := kY.cell 3
            simp only [List.getElem?_toArray, List.getElem?_cons_zero, List.getElem?_cons_succ] at y2 y3 y4
            go_upto_region 45 with fail
            have kL := Blk.new W5 68 #[.int .i64 rn, .int .u32 ri, .int .u32 rs, .int .u16 rm, .int .i64 rx]
            have hbA := (Below.refl W5.heap.size W5).alloc (Nat.le_refl _) (.cells #[.int .i64 rn, .int .u32 ri, .int .u32 rs, .int .u16 rm, .int .i64 rx] 68)
            replace hS := hS.below hbA
            replace kY := kY.below' hbA
            replace kR := kR.below' hbA
            clear hbA y1 y2 y3 y4 hlk5
            generalize W5.alloc (.cells #[.int .i64 rn, .int .u32 ri, .int .u32 rs, .int .u16 rm, .int .i64 rx] 68) = W6 at *
            generalize W5.heap.size = ql at *
            have r9 := kR.lt
            have r0 := kR.cell 0
            have r1 := kR.cell 1
            have r2 := kR.cell 2
            have r3 := kR.cell 3
            have r4 := kR.cell 4
            have l9 := kL.lt
            have l0 := kL.cell 0
            have l1 := kL.cell 1
            have l2 := kL.cell 2
            have l3 := kL.cell 3
            have l4 := kL.cell 4
            simp only [List.getElem?_toArray, List.getElem?_cons_zero, List.getElem?_cons_succ] at r0 r1 r2 r3 r4 l0 l1 l2 l3 l4
            cases rok with
            | false =>
              rw [if_neg (by decide)] at HT
              rw [← HT.out] at hS
              go_upto_region 49 with fail
              clear r9 r0 r1 r2 r3 r4 l9 l0 l1 l2 l3 l4 kR kL hrs HT
              have hrow := hl.below hS.a.b
              have y1 := kY.lt
              have y2 := kY.cell 1
              have y3 := kY.cell 2
              have y4 := kY.cell 3
              simp only [List.getElem?_toArray, List.getElem?_cons_zero, List.getElem?_cons_succ] at y2 y3 y4
              go_wp2_with fail
              refine (law09_Pick m' ya yl gm _ hS.a.lm hS.a.ok.met list A1 c1 most hrow).mono ?_
              rintro e w8 ⟨rfl, hb8⟩
              clear hrow y1 y2 y3 y4
              replace hS := hS.below hb8
              replace kY := kY.below' hb8
              clear hb8
              have hrow := hl.below hS.a.b
              have hpk := picked (m := m') ya yl list most
              have hP := law09_Pick_of m' ya yl t g w8 hS.a.tb hS.a.ok.met list A1 c1 most hrow
              rw [hpk.1, hpk.2] at hP
              generalize (bestN m' ya yl list most 9).1 = bv at *
              have hlk1 := law_look1 m' ⟨ya, yl, bv⟩ gm
              simp only [RKey.val] at hlk1
              have y1 := kY.lt
              have y2 := kY.cell 1
              have y3 := kY.cell 2
              have y4 := kY.cell 3
              simp only [List.getElem?_toArray, List.getElem?_cons_zero, List.getElem?_cons_succ] at y2 y3 y4
              have kc := hS.a.c
              have c8 := kc.lt
              have c9 := kc.cell 0
              have c10 := kc.cell 1
              simp only [List.getElem?_toArray, List.getElem?_cons_zero, List.getElem?_cons_succ] at c9 c10
              clear hpk kc
              by_cases hbv : 0 ≤ bv
              · have dbv : decide (0 ≤ bv) = true := decide_eq_true hbv
                rw [if_pos hbv, dbv] at hP
                clear hbv
                generalize (getR m' ⟨ya, yl, bv⟩).1 = rg at *
                obtain ⟨an, ai, as', am, ax⟩ := rg
                simp only [Rt.val] at hP hlk1
                have hrs2 := rt_self ⟨an, ai, as', am, ax⟩
                simp only [Rt.val] at hrs2
                go_wp2_with fail
                refine hP.mono ?_
                rintro e w9 ⟨rfl, hb9⟩
                clear hrow y1 y2 y3 y4 c8 c9 c10 hP
                replace hS := hS.below hb9
                replace kY := kY.below' hb9
                clear hb9
                go_upto_region 51 with fail
                have kG := Blk.new w9 68 #[.int .i64 an, .int .u32 ai, .int .u32 as', .int .u16 am, .int .i64 ax]
                have hbA := (Below.refl w9.heap.size w9).alloc (Nat.le_refl _) (.cells #[.int .i64 an, .int .u32 ai, .int .u32 as', .int .u16 am, .int .i64 ax] 68)
                replace hS := hS.below hbA
                replace kY := kY.below' hbA
                clear hbA
                generalize w9.alloc (.cells #[.int .i64 an, .int .u32 ai, .int .u32 as', .int .u16 am, .int .i64 ax] 68) = W10 at *
                generalize w9.heap.size = qg at *
                have y1 := kY.lt
                have y2 := kY.cell 1
                have y3 := kY.cell 2
                have y4 := kY.cell 3
                simp only [List.getElem?_toArray, List.getElem?_cons_zero, List.getElem?_cons_succ] at y2 y3 y4
                have g1 := kG.lt
                have g2 := kG.cell 0
                have g3 := kG.cell 1
                have g4 := kG.cell 2
                have g5 := kG.cell 3
                have g6 := kG.cell 4
                simp only [List.getElem?_toArray, List.getElem?_cons_zero, List.getElem?_cons_succ] at g2 g3 g4 g5 g6
                have hlk2 := fun W h => hlk1 W h
                refine draw_start [] Later (by kernel_rfl) ?_
                refine draw_chunk (n := 253) (by kernel_rfl) (fun _ _ _ _ _ h => h) [0, 1, 2, 3, 4, 5, 6, 7, 8, 9, 10, 11, 12, 13, 14, 15, 16, 17, 18, 19, 20, 21, 22, 23, 24, 25] [] _ #[true, true, true, true, true, true, true, true, true, true, true, true, true, true, true, true, true, true, true, true, true, true, true, true, true, true] (by kernel_rfl) 0 _ ?_ _ rfl ?_ ?_
                rotate_left
                · intro w' hw'
                  have hc' : ∀ b o, b < W10.heap.size → w'.cell? ⟨b, o, none⟩ = W10.cell? ⟨b, o, none⟩ := (bcell hw').1
                  have v0 := (hc' qg 0 g1).trans g2; have v1 := (hc' qg 1 g1).trans g3; have v2 := (hc' qg 2 g1).trans g4; have v3 := (hc' qg 3 g1).trans g5; have v4 := (hc' qg 4 g1).trans g6; have v5 := (hc' qy 1 y1).trans y2; have v6 := (hc' qy 2 y1).trans y3; have v7 := hlk1 w' (hS.a.lm.same ((undrew hw').block gm hS.a.lm.lt))
                  refine ci_step (i := 0) (v := ?_) rfl (by kernel_rfl) ?_ ?_
                  rotate_left
                  · first | (go_simp; done) | (go_simp; with_reducible rfl)
                  skip
                  try simp only [Act.put, List.setIfInBounds_toArray, List.set_cons_zero, List.set_cons_succ]
                  refine ci_step (i := 1) (v := ?_) rfl (by kernel_rfl) ?_ ?_
                  rotate_left
                  · first | (go_simp; done) | (go_simp; with_reducible rfl)
                  skip
                  try simp only [Act.put, List.setIfInBounds_toArray, List.set_cons_zero, List.set_cons_succ]
                  refine ci_step (i := 2) (v := ?_) rfl (by kernel_rfl) ?_ ?_
                  rotate_left
                  · first | (go_simp; done) | (go_simp; with_reducible rfl)
                  skip
                  try simp only [Act.put, List.setIfInBounds_toArray, List.set_cons_zero, List.set_cons_succ]
                  refine ci_step (i := 3) (v := ?_) rfl (by kernel_rfl) ?_ ?_
                  rotate_left
                  · first | (go_simp; done) | (go_simp; with_reducible rfl)
                  skip
                  try simp only [Act.put, List.setIfInBounds_toArray, List.set_cons_zero, List.set_cons_succ]
                  refine ci_step (i := 4) (v := ?_) rfl (by kernel_rfl) ?_ ?_
                  rotate_left
                  · first | (go_simp; done) | (go_simp; with_reducible rfl)
                  skip
                  try simp only [Act.put, List.setIfInBounds_toArray, List.set_cons_zero, List.set_cons_succ]
                  refine ci_step (i := 5) (v := ?_) rfl (by kernel_rfl) ?_ ?_
                  rotate_left
                  · first | (go_simp; done) | (go_simp; with_reducible rfl)
                  skip
                  try simp only [Act.put, List.setIfInBounds_toArray, List.set_cons_zero, List.set_cons_succ]
                  refine ci_step (i := 6) (v := ?_) rfl (by kernel_rfl) ?_ ?_
                  rotate_left
                  · first | (go_simp; done) | (go_simp; with_reducible rfl)
                  skip
                  try simp only [Act.put, List.setIfInBounds_toArray, List.set_cons_zero, List.set_cons_succ]
                  refine ci_step (i := 7) (v := ?_) rfl (by kernel_rfl) ?_ ?_
                  rotate_left
                  · first | (go_simp; done) | (go_simp; with_reducible rfl)
                  skip
                  try simp only [Act.put, List.setIfInBounds_toArray, List.set_cons_zero, List.set_cons_succ]
                  refine ci_step (i := 8) (v := ?_) rfl (by kernel_rfl) ?_ ?_
                  rotate_left
                  · first | (go_simp; done) | (go_simp; with_reducible rfl)
                  skip
                  try simp only [Act.put, List.setIfInBounds_toArray, List.set_cons_zero, List.set_cons_succ]
                  refine ci_step (i := 9) (v := ?_) rfl (by kernel_rfl) ?_ ?_
                  rotate_left
                  · first | (go_simp; done) | (go_simp; with_reducible rfl)
                  skip
                  try simp only [Act.put, List.setIfInBounds_toArray, List.set_cons_zero, List.set_cons_succ]
                  refine ci_step (i := 10) (v := ?_) rfl (by kernel_rfl) ?_ ?_
                  rotate_left
                  · first | (go_simp; done) | (go_simp; with_reducible rfl)
                  skip
                  try simp only [Act.put, List.setIfInBounds_toArray, List.set_cons_zero, List.set_cons_succ]
                  refine ci_step (i := 11) (v := ?_) rfl (by kernel_rfl) ?_ ?_
                  rotate_left
                  · first | (go_simp; done) | (go_simp; with_reducible rfl)
                  skip
                  try simp only [Act.put, List.setIfInBounds_toArray, List.set_cons_zero, List.set_cons_succ]
                  refine ci_step (i := 12) (v := ?_) rfl (by kernel_rfl) ?_ ?_
                  rotate_left
                  · first | (go_simp; done) | (go_simp; with_reducible rfl)
                  skip
                  try simp only [Act.put, List.setIfInBounds_toArray, List.set_cons_zero, List.set_cons_succ]
                  refine ci_step (i := 13) (v := ?_) rfl (by kernel_rfl) ?_ ?_
                  rotate_left
                  · first | (go_simp; done) | (go_simp; with_reducible rfl)
                  skip
                  try simp only [Act.put, List.setIfInBounds_toArray, List.set_cons_zero, List.set_cons_succ]
                  refine ci_step (i := 14) (v := ?_) rfl (by kernel_rfl) ?_ ?_
                  rotate_left
                  · first | (go_simp; done) | (go_simp; with_reducible rfl)
                  skip
                  try simp only [Act.put, List.setIfInBounds_toArray, List.set_cons_zero, List.set_cons_succ]
                  refine ci_step (i := 15) (v := ?_) rfl (by kernel_rfl) ?_ ?_
                  rotate_left
                  · first | (go_simp; done) | (go_simp; with_reducible rfl)
                  skip
                  try simp only [Act.put, List.setIfInBounds_toArray, List.set_cons_zero, List.set_cons_succ]
                  refine ci_step (i := 16) (v := ?_) rfl (by kernel_rfl) ?_ ?_
                  rotate_left
                  · first | (go_simp; done) | (go_simp; with_reducible rfl)
                  skip
                  try simp only [Act.put, List.setIfInBounds_toArray, List.set_cons_zero, List.set_cons_succ]
                  refine ci_step (i := 17) (v := ?_) rfl (by kernel_rfl) ?_ ?_
                  rotate_left
                  · first | (go_simp; done) | (go_simp; with_reducible rfl)
                  skip
                  try simp only [Act.put, List.setIfInBounds_toArray, List.set_cons_zero, List.set_cons_succ]
                  refine ci_step (i := 18) (v := ?_) rfl (by kernel_rfl) ?_ ?_
                  rotate_left
                  · first | (go_simp; done) | (go_simp; with_reducible rfl)
                  skip
                  try simp only [Act.put, List.setIfInBounds_toArray, List.set_cons_zero, List.set_cons_succ]
                  refine ci_step (i := 19) (v := ?_) rfl (by kernel_rfl) ?_ ?_
                  rotate_left
                  · first | (go_simp; done) | (go_simp; with_reducible rfl)
                  skip
                  try simp only [Act.put, List.setIfInBounds_toArray, List.set_cons_zero, List.set_cons_succ]
                  refine ci_step (i := 20) (v := ?_) rfl (by kernel_rfl) ?_ ?_
                  rotate_left
                  · first | (go_simp; done) | (go_simp; with_reducible rfl)
                  skip
                  try simp only [Act.put, List.setIfInBounds_toArray, List.set_cons_zero, List.set_cons_succ]
                  refine ci_off (i := 21) rfl (by kernel_rfl) ?_
                  try simp only [Act.put, List.setIfInBounds_toArray, List.set_cons_zero, List.set_cons_succ]
                  refine ci_off (i := 22) rfl (by kernel_rfl) ?_
                  try simp only [Act.put, List.setIfInBounds_toArray, List.set_cons_zero, List.set_cons_succ]
                  refine ci_off (i := 23) rfl (by kernel_rfl) ?_
                  try simp only [Act.put, List.setIfInBounds_toArray, List.set_cons_zero, List.set_cons_succ]
                  refine ci_step (i := 24) (v := ?_) rfl (by kernel_rfl) ?_ ?_
                  rotate_left
                  · first | (go_simp; done) | (go_simp; with_reducible rfl)
                  skip
                  try simp only [Act.put, List.setIfInBounds_toArray, List.set_cons_zero, List.set_cons_succ]
                  refine ci_step (i := 25) (v := ?_) rfl (by kernel_rfl) ?_ ?_
                  rotate_left
                  · first | (go_simp; done) | (go_simp; with_reducible rfl)
                  skip
                  try simp only [Act.put, List.setIfInBounds_toArray, List.set_cons_zero, List.set_cons_succ]
                  refine ci_end ?_
                  rfl
                refine draw_done (by kernel_rfl) ?_ _
                go_wp2
                go_roundw
                case rel => exact ⟨j + 1, by omega, by go_num, hS.below (Below.drew (Below.refl _ _))⟩
                case measure => simp [intOf]; omega
              · have dbv : decide (0 ≤ bv) = false := decide_eq_false hbv
                rw [if_neg hbv, dbv] at hP
                clear hbv hlk1
                obtain ⟨an, ai, as', am, ax, hz⟩ : ∃ an ai as' am ax : Int, rt0 = ⟨an, ai, as', am, ax⟩ ∧ an = 0 ∧ ai = 0 ∧ as' = 0 ∧ am = 0 ∧ ax = 0 := ⟨0, 0, 0, 0, 0, rfl, rfl, rfl, rfl, rfl, rfl⟩
                rw [hz.1] at hP
                obtain ⟨-, rfl, rfl, rfl, rfl, rfl⟩ := hz
                simp only [Rt.val] at hP
                have hrs2 := rt_self ⟨0, 0, 0, 0, 0⟩
                simp only [Rt.val] at hrs2
                go_wp2_with fail
                refine hP.mono ?_
                rintro e w9 ⟨rfl, hb9⟩
                clear hrow y1 y2 y3 y4 c8 c9 c10 hP
                replace hS := hS.below hb9
                replace kY := kY.below' hb9
                clear hb9
                go_upto_region 51 with fail
                have kG := Blk.new w9 68 #[.int .i64 0, .int .u32 0, .int .u32 0, .int .u16 0, .int .i64 0]
                have hbA := (Below.refl w9.heap.size w9).alloc (Nat.le_refl _) (.cells #[.int .i64 0, .int .u32 0, .int .u32 0, .int .u16 0, .int .i64 0] 68)
                replace hS := hS.below hbA
                replace kY := kY.below' hbA
                clear hbA
                generalize w9.alloc (.cells #[.int .i64 0, .int .u32 0, .int .u32 0, .int .u16 0, .int .i64 0] 68) = W10 at *
                generalize w9.heap.size = qg at *
                have y1 := kY.lt
                have y2 := kY.cell 1
                have y3 := kY.cell 2
                have y4 := kY.cell 3
                simp only [List.getElem?_toArray, List.getElem?_cons_zero, List.getElem?_cons_succ] at y2 y3 y4
                have g1 := kG.lt
                have g2 := kG.cell 0
                have g3 := kG.cell 1
                have g4 := kG.cell 2
                have g5 := kG.cell 3
                have g6 := kG.cell 4
                simp only [List.getElem?_toArray, List.getElem?_cons_zero, List.getElem?_cons_succ] at g2 g3 g4 g5 g6
                refine draw_start [] Later (by kernel_rfl) ?_
                refine draw_chunk (n := 253) (by kernel_rfl) (fun _ _ _ _ _ h => h) [0, 1, 2, 3, 4, 5, 6, 7, 8, 9, 10, 11, 12, 13, 14, 15, 16, 17, 18, 19, 20, 21, 22, 23, 24, 25] [] _ #[true, true, true, true, true, true, true, true, true, true, true, true, true, true, true, true, true, true, true, true, true, true, true, true, true, true] (by kernel_rfl) 0 _ ?_ _ rfl ?_ ?_
                rotate_left
                · intro w' hw'
                  have hc' : ∀ b o, b < W10.heap.size → w'.cell? ⟨b, o, none⟩ = W10.cell? ⟨b, o, none⟩ := (bcell hw').1
                  have v0 := (hc' qg 0 g1).trans g2; have v1 := (hc' qg 1 g1).trans g3; have v2 := (hc' qg 2 g1).trans g4; have v3 := (hc' qg 3 g1).trans g5; have v4 := (hc' qg 4 g1).trans g6
                  refine ci_step (i := 0) (v := ?_) rfl (by kernel_rfl) ?_ ?_
                  rotate_left
                  · first | (go_simp; done) | (go_simp; with_reducible rfl)
                  skip
                  try simp only [Act.put, List.setIfInBounds_toArray, List.set_cons_zero, List.set_cons_succ]
                  refine ci_step (i := 1) (v := ?_) rfl (by kernel_rfl) ?_ ?_
                  rotate_left
                  · first | (go_simp; done) | (go_simp; with_reducible rfl)
                  skip
                  try simp only [Act.put, List.setIfInBounds_toArray, List.set_cons_zero, List.set_cons_succ]
                  refine ci_step (i := 2) (v := ?_) rfl (by kernel_rfl) ?_ ?_
                  rotate_left
                  · first | (go_simp; done) | (go_simp; with_reducible rfl)
                  skip
                  try simp only [Act.put, List.setIfInBounds_toArray, List.set_cons_zero, List.set_cons_succ]
                  refine ci_step (i := 3) (v := ?_) rfl (by kernel_rfl) ?_ ?_
                  rotate_left
                  · first | (go_simp; done) | (go_simp; with_reducible rfl)
                  skip
                  try simp only [Act.put, List.setIfInBounds_toArray, List.set_cons_zero, List.set_cons_succ]
                  refine ci_step (i := 4) (v := ?_) rfl (by kernel_rfl) ?_ ?_
                  rotate_left
                  · first | (go_simp; done) | (go_simp; with_reducible rfl)
                  skip
                  try simp only [Act.put, List.setIfInBounds_toArray, List.set_cons_zero, List.set_cons_succ]
                  refine ci_step (i := 5) (v := ?_) rfl (by kernel_rfl) ?_ ?_
                  rotate_left
                  · first | (go_simp; done) | (go_simp; with_reducible rfl)
                  skip
                  try simp only [Act.put, List.setIfInBounds_toArray, List.set_cons_zero, List.set_cons_succ]
                  refine ci_step (i := 6) (v := ?_) rfl (by kernel_rfl) ?_ ?_
                  rotate_left
                  · first | (go_simp; done) | (go_simp; with_reducible rfl)
                  skip
                  try simp only [Act.put, List.setIfInBounds_toArray, List.set_cons_zero, List.set_cons_succ]
                  refine ci_off (i := 7) rfl (by kernel_rfl) ?_
                  try simp only [Act.put, List.setIfInBounds_toArray, List.set_cons_zero, List.set_cons_succ]
                  refine ci_off (i := 8) rfl (by kernel_rfl) ?_
                  try simp only [Act.put, List.setIfInBounds_toArray, List.set_cons_zero, List.set_cons_succ]
                  refine ci_off (i := 9) rfl (by kernel_rfl) ?_
                  try simp only [Act.put, List.setIfInBounds_toArray, List.set_cons_zero, List.set_cons_succ]
                  refine ci_off (i := 10) rfl (by kernel_rfl) ?_
                  try simp only [Act.put, List.setIfInBounds_toArray, List.set_cons_zero, List.set_cons_succ]
                  refine ci_off (i := 11) rfl (by kernel_rfl) ?_
                  try simp only [Act.put, List.setIfInBounds_toArray, List.set_cons_zero, List.set_cons_succ]
                  refine ci_off (i := 12) rfl (by kernel_rfl) ?_
                  try simp only [Act.put, List.setIfInBounds_toArray, List.set_cons_zero, List.set_cons_succ]
                  refine ci_off (i := 13) rfl (by kernel_rfl) ?_
                  try simp only [Act.put, List.setIfInBounds_toArray, List.set_cons_zero, List.set_cons_succ]
                  refine ci_off (i := 14) rfl (by kernel_rfl) ?_
                  try simp only [Act.put, List.setIfInBounds_toArray, List.set_cons_zero, List.set_cons_succ]
                  refine ci_step (i := 15) (v := ?_) rfl (by kernel_rfl) ?_ ?_
                  rotate_left
                  · first | (go_simp; done) | (go_simp; with_reducible rfl)
                  skip
                  try simp only [Act.put, List.setIfInBounds_toArray, List.set_cons_zero, List.set_cons_succ]
                  refine ci_step (i := 16) (v := ?_) rfl (by kernel_rfl) ?_ ?_
                  rotate_left
                  · first | (go_simp; done) | (go_simp; with_reducible rfl)
                  skip
                  try simp only [Act.put, List.setIfInBounds_toArray, List.set_cons_zero, List.set_cons_succ]
                  refine ci_step (i := 17) (v := ?_) rfl (by kernel_rfl) ?_ ?_
                  rotate_left
                  · first | (go_simp; done) | (go_simp; with_reducible rfl)
                  skip
                  try simp only [Act.put, List.setIfInBounds_toArray, List.set_cons_zero, List.set_cons_succ]
                  refine ci_step (i := 18) (v := ?_) rfl (by kernel_rfl) ?_ ?_
                  rotate_left
                  · first | (go_simp; done) | (go_simp; with_reducible rfl)
                  skip
                  try simp only [Act.put, List.setIfInBounds_toArray, List.set_cons_zero, List.set_cons_succ]
                  refine ci_step (i := 19) (v := ?_) rfl (by kernel_rfl) ?_ ?_
                  rotate_left
                  · first | (go_simp; done) | (go_simp; with_reducible rfl)
                  skip
                  try simp only [Act.put, List.setIfInBounds_toArray, List.set_cons_zero, List.set_cons_succ]
                  refine ci_step (i := 20) (v := ?_) rfl (by kernel_rfl) ?_ ?_
                  rotate_left
                  · first | (go_simp; done) | (go_simp; with_reducible rfl)
                  skip
                  try simp only [Act.put, List.setIfInBounds_toArray, List.set_cons_zero, List.set_cons_succ]
                  refine ci_step (i := 21) (v := ?_) rfl (by kernel_rfl) ?_ ?_
                  rotate_left
                  · first | (go_simp; done) | (go_simp; with_reducible rfl)
                  skip
                  try simp only [Act.put, List.setIfInBounds_toArray, List.set_cons_zero, List.set_cons_succ]
                  refine ci_step (i := 22) (v := ?_) rfl (by kernel_rfl) ?_ ?_
                  rotate_left
                  · first | (go_simp; done) | (go_simp; with_reducible rfl)
                  skip
                  try simp only [Act.put, List.setIfInBounds_toArray, List.set_cons_zero, List.set_cons_succ]
                  refine ci_step (i := 23) (v := ?_) rfl (by kernel_rfl) ?_ ?_
                  rotate_left
                  · first | (go_simp; done) | (go_simp; with_reducible rfl)
                  skip
                  try simp only [Act.put, List.setIfInBounds_toArray, List.set_cons_zero, List.set_cons_succ]
                  refine ci_step (i := 24) (v := ?_) rfl (by kernel_rfl) ?_ ?_
                  rotate_left
                  · first | (go_simp; done) | (go_simp; with_reducible rfl)
                  skip
                  try simp only [Act.put, List.setIfInBounds_toArray, List.set_cons_zero, List.set_cons_succ]
                  refine ci_step (i := 25) (v := ?_) rfl (by kernel_rfl) ?_ ?_
                  rotate_left
                  · first | (go_simp; done) | (go_simp; with_reducible rfl)
                  skip
                  try simp only [Act.put, List.setIfInBounds_toArray, List.set_cons_zero, List.set_cons_succ]
                  refine ci_end ?_
                  rfl
                refine draw_done (by kernel_rfl) ?_ _
                go_wp2
                go_roundw
                case rel => exact ⟨j + 1, by omega, by go_num, hS.below (Below.drew (Below.refl _ _))⟩
                case measure => simp [intOf]; omega
            | true =>
              rw [if_pos rfl] at HT
              obtain ⟨w7, hup, hM7, hk7⟩ := run_mapUpdate pfx_keys Try.underlying42 hS.m ⟨ya, yl⟩ true
              simp only [Pfx.val] at hup
              have s9 := hS.s.lt
              have s0 := hS.s.cell 0
              simp only [List.getElem?_toArray, List.getElem?_cons_zero] at s0
              have y1 := kY.lt
              have y2 := kY.cell 1
              have y3 := kY.cell 2
              have y4 := kY.cell 3
              simp only [List.getElem?_toArray, List.getElem?_cons_zero, List.getElem?_cons_succ] at y2 y3 y4
              go_upto_region 49 with fail
              have hS' := hS.upd hk7 hM7
              rw [← HT.out] at hS'
              replace kY := hk7.blk kY (by simpa using blk_map_ne kY hS.m)
              clear hS r9 r0 r1 r2 r3 r4 l9 l0 l1 l2 l3 l4 kR kL hrs HT hup hM7 hk7 s9 s0 y1 y2 y3 y4
              have hS := hS'
              clear hS'
              have hrow := hl.below hS.a.b
              have y1 := kY.lt
              have y2 := kY.cell 1
              have y3 := kY.cell 2
              have y4 := kY.cell 3
              simp only [List.getElem?_toArray, List.getElem?_cons_zero, List.getElem?_cons_succ] at y2 y3 y4
              go_wp2_with fail
              refine (law09_Pick m' ya yl gm _ hS.a.lm hS.a.ok.met list A1 c1 most hrow).mono ?_
              rintro e w8 ⟨rfl, hb8⟩
              clear hrow y1 y2 y3 y4
              replace hS := hS.below hb8
              replace kY := kY.below' hb8
              clear hb8
              have hrow := hl.below hS.a.b
              have hpk := picked (m := m') ya yl list most
              have hP := law09_Pick_of m' ya yl t g w8 hS.a.tb hS.a.ok.met list A1 c1 most hrow
              rw [hpk.1, hpk.2] at hP
              generalize (bestN m' ya yl list most 9).1 = bv at *
              have hlk1 := law_look1 m' ⟨ya, yl, bv⟩ gm
              simp only [RKey.val] at hlk1
              have y1 := kY.lt
              have y2 := kY.cell 1
              have y3 := kY.cell 2
              have y4 := kY.cell 3
              simp only [List.getElem?_toArray, List.getElem?_cons_zero, List.getElem?_cons_succ] at y2 y3 y4
              have kc := hS.a.c
              have c8 := kc.lt
              have c9 := kc.cell 0
              have c10 := kc.cell 1
              simp only [List.getElem?_toArray, List.getElem?_cons_zero, List.getElem?_cons_succ] at c9 c10
              clear hpk kc
              by_cases hbv : 0 ≤ bv
              · have dbv : decide (0 ≤ bv) = true := decide_eq_true hbv
                rw [if_pos hbv, dbv] at hP
                clear hbv
                generalize (getR m' ⟨ya, yl, bv⟩).1 = rg at *
                obtain ⟨an, ai, as', am, ax⟩ := rg
                simp only [Rt.val] at hP hlk1
                have hrs2 := rt_self ⟨an, ai, as', am, ax⟩
                simp only [Rt.val] at hrs2
                go_wp2_with fail
                refine hP.mono ?_
                rintro e w9 ⟨rfl, hb9⟩
                clear hrow y1 y2 y3 y4 c8 c9 c10 hP
                replace hS := hS.below hb9
                replace kY := kY.below' hb9
                clear hb9
                go_upto_region 51 with fail
                have kG := Blk.new w9 68 #[.int .i64 an, .int .u32 ai, .int .u32 as', .int .u16 am, .int .i64 ax]
                have hbA := (Below.refl w9.heap.size w9).alloc (Nat.le_refl _) (.cells #[.int .i64 an, .int .u32 ai, .int .u32 as', .int .u16 am, .int .i64 ax] 68)
                replace hS := hS.below hbA
                replace kY := kY.below' hbA
                clear hbA
                generalize w9.alloc (.cells #[.int .i64 an, .int .u32 ai, .int .u32 as', .int .u16 am, .int .i64 ax] 68) = W10 at *
                generalize w9.heap.size = qg at *
                have y1 := kY.lt
                have y2 := kY.cell 1
                have y3 := kY.cell 2
                have y4 := kY.cell 3
                simp only [List.getElem?_toArray, List.getElem?_cons_zero, List.getElem?_cons_succ] at y2 y3 y4
                have g1 := kG.lt
                have g2 := kG.cell 0
                have g3 := kG.cell 1
                have g4 := kG.cell 2
                have g5 := kG.cell 3
                have g6 := kG.cell 4
                simp only [List.getElem?_toArray, List.getElem?_cons_zero, List.getElem?_cons_succ] at g2 g3 g4 g5 g6
                have hlk2 := fun W h => hlk1 W h
                refine draw_start [] Later (by kernel_rfl) ?_
                refine draw_chunk (n := 253) (by kernel_rfl) (fun _ _ _ _ _ h => h) [0, 1, 2, 3, 4, 5, 6, 7, 8, 9, 10, 11, 12, 13, 14, 15, 16, 17, 18, 19, 20, 21, 22, 23, 24, 25] [] _ #[true, true, true, true, true, true, true, true, true, true, true, true, true, true, true, true, true, true, true, true, true, true, true, true, true, true] (by kernel_rfl) 0 _ ?_ _ rfl ?_ ?_
                rotate_left
                · intro w' hw'
                  have hc' : ∀ b o, b < W10.heap.size → w'.cell? ⟨b, o, none⟩ = W10.cell? ⟨b, o, none⟩ := (bcell hw').1
                  have v0 := (hc' qg 0 g1).trans g2; have v1 := (hc' qg 1 g1).trans g3; have v2 := (hc' qg 2 g1).trans g4; have v3 := (hc' qg 3 g1).trans g5; have v4 := (hc' qg 4 g1).trans g6; have v5 := (hc' qy 1 y1).trans y2; have v6 := (hc' qy 2 y1).trans y3; have v7 := hlk1 w' (hS.a.lm.same ((undrew hw').block gm hS.a.lm.lt))
                  refine ci_step (i := 0) (v := ?_) rfl (by kernel_rfl) ?_ ?_
                  rotate_left
                  · first | (go_simp; done) | (go_simp; with_reducible rfl)
                  skip
                  try simp only [Act.put, List.setIfInBounds_toArray, List.set_cons_zero, List.set_cons_succ]
                  refine ci_step (i := 1) (v := ?_) rfl (by kernel_rfl) ?_ ?_
                  rotate_left
                  · first | (go_simp; done) | (go_simp; with_reducible rfl)
                  skip
                  try simp only [Act.put, List.setIfInBounds_toArray, List.set_cons_zero, List.set_cons_succ]
                  refine ci_step (i := 2) (v := ?_) rfl (by kernel_rfl) ?_ ?_
                  rotate_left
                  · first | (go_simp; done) | (go_simp; with_reducible rfl)
                  skip
                  try simp only [Act.put, List.setIfInBounds_toArray, List.set_cons_zero, List.set_cons_succ]
                  refine ci_step (i := 3) (v := ?_) rfl (by kernel_rfl) ?_ ?_
                  rotate_left
                  · first | (go_simp; done) | (go_simp; with_reducible rfl)
                  skip
                  try simp only [Act.put, List.setIfInBounds_toArray, List.set_cons_zero, List.set_cons_succ]
                  refine ci_step (i := 4) (v := ?_) rfl (by kernel_rfl) ?_ ?_
                  rotate_left
                  · first | (go_simp; done) | (go_simp; with_reducible rfl)
                  skip
                  try simp only [Act.put, List.setIfInBounds_toArray, List.set_cons_zero, List.set_cons_succ]
                  refine ci_step (i := 5) (v := ?_) rfl (by kernel_rfl) ?_ ?_
                  rotate_left
                  · first | (go_simp; done) | (go_simp; with_reducible rfl)
                  skip
                  try simp only [Act.put, List.setIfInBounds_toArray, List.set_cons_zero, List.set_cons_succ]
                  refine ci_step (i := 6) (v := ?_) rfl (by kernel_rfl) ?_ ?_
                  rotate_left
                  · first | (go_simp; done) | (go_simp; with_reducible rfl)
                  skip
                  try simp only [Act.put, List.setIfInBounds_toArray, List.set_cons_zero, List.set_cons_succ]
                  refine ci_step (i := 7) (v := ?_) rfl (by kernel_rfl) ?_ ?_
                  rotate_left
                  · first | (go_simp; done) | (go_simp; with_reducible rfl)
                  skip
                  try simp only [Act.put, List.setIfInBounds_toArray, List.set_cons_zero, List.set_cons_succ]
                  refine ci_step (i := 8) (v := ?_) rfl (by kernel_rfl) ?_ ?_
                  rotate_left
                  · first | (go_simp; done) | (go_simp; with_reducible rfl)
                  skip
                  try simp only [Act.put, List.setIfInBounds_toArray, List.set_cons_zero, List.set_cons_succ]
                  refine ci_step (i := 9) (v := ?_) rfl (by kernel_rfl) ?_ ?_
                  rotate_left
                  · first | (go_simp; done) | (go_simp; with_reducible rfl)
                  skip
                  try simp only [Act.put, List.setIfInBounds_toArray, List.set_cons_zero, List.set_cons_succ]
                  refine ci_step (i := 10) (v := ?_) rfl (by kernel_rfl) ?_ ?_
                  rotate_left
                  · first | (go_simp; done) | (go_simp; with_reducible rfl)
                  skip
                  try simp only [Act.put, List.setIfInBounds_toArray, List.set_cons_zero, List.set_cons_succ]
                  refine ci_step (i := 11) (v := ?_) rfl (by kernel_rfl) ?_ ?_
                  rotate_left
                  · first | (go_simp; done) | (go_simp; with_reducible rfl)
                  skip
                  try simp only [Act.put, List.setIfInBounds_toArray, List.set_cons_zero, List.set_cons_succ]
                  refine ci_step (i := 12) (v := ?_) rfl (by kernel_rfl) ?_ ?_
                  rotate_left
                  · first | (go_simp; done) | (go_simp; with_reducible rfl)
                  skip
                  try simp only [Act.put, List.setIfInBounds_toArray, List.set_cons_zero, List.set_cons_succ]
                  refine ci_step (i := 13) (v := ?_) rfl (by kernel_rfl) ?_ ?_
                  rotate_left
                  · first | (go_simp; done) | (go_simp; with_reducible rfl)
                  skip
                  try simp only [Act.put, List.setIfInBounds_toArray, List.set_cons_zero, List.set_cons_succ]
                  refine ci_step (i := 14) (v := ?_) rfl (by kernel_rfl) ?_ ?_
                  rotate_left
                  · first | (go_simp; done) | (go_simp; with_reducible rfl)
                  skip
                  try simp only [Act.put, List.setIfInBounds_toArray, List.set_cons_zero, List.set_cons_succ]
                  refine ci_step (i := 15) (v := ?_) rfl (by kernel_rfl) ?_ ?_
                  rotate_left
                  · first | (go_simp; done) | (go_simp; with_reducible rfl)
                  skip
                  try simp only [Act.put, List.setIfInBounds_toArray, List.set_cons_zero, List.set_cons_succ]
                  refine ci_step (i := 16) (v := ?_) rfl (by kernel_rfl) ?_ ?_
                  rotate_left
                  · first | (go_simp; done) | (go_simp; with_reducible rfl)
                  skip
                  try simp only [Act.put, List.setIfInBounds_toArray, List.set_cons_zero, List.set_cons_succ]
                  refine ci_step (i := 17) (v := ?_) rfl (by kernel_rfl) ?_ ?_
                  rotate_left
                  · first | (go_simp; done) | (go_simp; with_reducible rfl)
                  skip
                  try simp only [Act.put, List.setIfInBounds_toArray, List.set_cons_zero, List.set_cons_succ]
                  refine ci_step (i := 18) (v := ?_) rfl (by kernel_rfl) ?_ ?_
                  rotate_left
                  · first | (go_simp; done) | (go_simp; with_reducible rfl)
                  skip
                  try simp only [Act.put, List.setIfInBounds_toArray, List.set_cons_zero, List.set_cons_succ]
                  refine ci_step (i := 19) (v := ?_) rfl (by kernel_rfl) ?_ ?_
                  rotate_left
                  · first | (go_simp; done) | (go_simp; with_reducible rfl)
                  skip
                  try simp only [Act.put, List.setIfInBounds_toArray, List.set_cons_zero, List.set_cons_succ]
                  refine ci_step (i := 20) (v := ?_) rfl (by kernel_rfl) ?_ ?_
                  rotate_left
                  · first | (go_simp; done) | (go_simp; with_reducible rfl)
                  skip
                  try simp only [Act.put, List.setIfInBounds_toArray, List.set_cons_zero, List.set_cons_succ]
                  refine ci_off (i := 21) rfl (by kernel_rfl) ?_
                  try simp only [Act.put, List.setIfInBounds_toArray, List.set_cons_zero, List.set_cons_succ]
                  refine ci_off (i := 22) rfl (by kernel_rfl) ?_
                  try simp only [Act.put, List.setIfInBounds_toArray, List.set_cons_zero, List.set_cons_succ]
                  refine ci_off (i := 23) rfl (by kernel_rfl) ?_
                  try simp only [Act.put, List.setIfInBounds_toArray, List.set_cons_zero, List.set_cons_succ]
                  refine ci_step (i := 24) (v := ?_) rfl (by kernel_rfl) ?_ ?_
                  rotate_left
                  · first | (go_simp; done) | (go_simp; with_reducible rfl)
                  skip
                  try simp only [Act.put, List.setIfInBounds_toArray, List.set_cons_zero, List.set_cons_succ]
                  refine ci_step (i := 25) (v := ?_) rfl (by kernel_rfl) ?_ ?_
                  rotate_left
                  · first | (go_simp; done) | (go_simp; with_reducible rfl)
                  skip
                  try simp only [Act.put, List.setIfInBounds_toArray, List.set_cons_zero, List.set_cons_succ]
                  refine ci_end ?_
                  rfl
                refine draw_done (by kernel_rfl) ?_ _
                go_wp2
                go_roundw
                case rel => exact ⟨j + 1, by omega, by go_num, hS.below (Below.drew (Below.refl _ _))⟩
                case measure => simp [intOf]; omega
              · have dbv : decide (0 ≤ bv) = false := decide_eq_false hbv
                rw [if_neg hbv, dbv] at hP
                clear hbv hlk1
                obtain ⟨an, ai, as', am, ax, hz⟩ : ∃ an ai as' am ax : Int, rt0 = ⟨an, ai, as', am, ax⟩ ∧ an = 0 ∧ ai = 0 ∧ as' = 0 ∧ am = 0 ∧ ax = 0 := ⟨0, 0, 0, 0, 0, rfl, rfl, rfl, rfl, rfl, rfl⟩
                rw [hz.1] at hP
                obtain ⟨-, rfl, rfl, rfl, rfl, rfl⟩ := hz
                simp only [Rt.val] at hP
                have hrs2 := rt_self ⟨0, 0, 0, 0, 0⟩
                simp only [Rt.val] at hrs2
                go_wp2_with fail
                refine hP.mono ?_
                rintro e w9 ⟨rfl, hb9⟩
                clear hrow y1 y2 y3 y4 c8 c9 c10 hP
                replace hS := hS.below hb9
                replace kY := kY.below' hb9
                clear hb9
                go_upto_region 51 with fail
                have kG := Blk.new w9 68 #[.int .i64 0, .int .u32 0, .int .u32 0, .int .u16 0, .int .i64 0]
                have hbA := (Below.refl w9.heap.size w9).alloc (Nat.le_refl _) (.cells #[.int .i64 0, .int .u32 0, .int .u32 0, .int .u16 0, .int .i64 0] 68)
                replace hS := hS.below hbA
                replace kY := kY.below' hbA
                clear hbA
                generalize w9.alloc (.cells #[.int .i64 0, .int .u32 0, .int .u32 0, .int .u16 0, .int .i64 0] 68) = W10 at *
                generalize w9.heap.size = qg at *
                have y1 := kY.lt
                have y2 := kY.cell 1
                have y3 := kY.cell 2
                have y4 := kY.cell 3
                simp only [List.getElem?_toArray, List.getElem?_cons_zero, List.getElem?_cons_succ] at y2 y3 y4
                have g1 := kG.lt
                have g2 := kG.cell 0
                have g3 := kG.cell 1
                have g4 := kG.cell 2
                have g5 := kG.cell 3
                have g6 := kG.cell 4
                simp only [List.getElem?_toArray, List.getElem?_cons_zero, List.getElem?_cons_succ] at g2 g3 g4 g5 g6
                refine draw_start [] Later (by kernel_rfl) ?_
                refine draw_chunk (n := 253) (by kernel_rfl) (fun _ _ _ _ _ h => h) [0, 1, 2, 3, 4, 5, 6, 7, 8, 9, 10, 11, 12, 13, 14, 15, 16, 17, 18, 19, 20, 21, 22, 23, 24, 25] [] _ #[true, true, true, true, true, true, true, true, true, true, true, true, true, true, true, true, true, true, true, true, true, true, true, true, true, true] (by kernel_rfl) 0 _ ?_ _ rfl ?_ ?_
                rotate_left
                · intro w' hw'
                  have hc' : ∀ b o, b < W10.heap.size → w'.cell? ⟨b, o, none⟩ = W10.cell? ⟨b, o, none⟩ := (bcell hw').1
                  have v0 := (hc' qg 0 g1).trans g2; have v1 := (hc' qg 1 g1).trans g3; have v2 := (hc' qg 2 g1).trans g4; have v3 := (hc' qg 3 g1).trans g5; have v4 := (hc' qg 4 g1).trans g6
                  refine ci_step (i := 0) (v := ?_) rfl (by kernel_rfl) ?_ ?_
                  rotate_left
                  · first | (go_simp; done) | (go_simp; with_reducible rfl)
                  skip
                  try simp only [Act.put, List.setIfInBounds_toArray, List.set_cons_zero, List.set_cons_succ]
                  refine ci_step (i := 1) (v := ?_) rfl (by kernel_rfl) ?_ ?_
                  rotate_left
                  · first | (go_simp; done) | (go_simp; with_reducible rfl)
                  skip
                  try simp only [Act.put, List.setIfInBounds_toArray, List.set_cons_zero, List.set_cons_succ]
                  refine ci_step (i := 2) (v := ?_) rfl (by kernel_rfl) ?_ ?_
                  rotate_left
                  · first | (go_simp; done) | (go_simp; with_reducible rfl)
                  skip
                  try simp only [Act.put, List.setIfInBounds_toArray, List.set_cons_zero, List.set_cons_succ]
                  refine ci_step (i := 3) (v := ?_) rfl (by kernel_rfl) ?_ ?_
                  rotate_left
                  · first | (go_simp; done) | (go_simp; with_reducible rfl)
                  skip
                  try simp only [Act.put, List.setIfInBounds_toArray, List.set_cons_zero, List.set_cons_succ]
                  refine ci_step (i := 4) (v := ?_) rfl (by kernel_rfl) ?_ ?_
                  rotate_left
                  · first | (go_simp; done) | (go_simp; with_reducible rfl)
                  skip
                  try simp only [Act.put, List.setIfInBounds_toArray, List.set_cons_zero, List.set_cons_succ]
                  refine ci_step (i := 5) (v := ?_) rfl (by kernel_rfl) ?_ ?_
                  rotate_left
                  · first | (go_simp; done) | (go_simp; with_reducible rfl)
                  skip
                  try simp only [Act.put, List.setIfInBounds_toArray, List.set_cons_zero, List.set_cons_succ]
                  refine ci_step (i := 6) (v := ?_) rfl (by kernel_rfl) ?_ ?_
                  rotate_left
                  · first | (go_simp; done) | (go_simp; with_reducible rfl)
                  skip
                  try simp only [Act.put, List.setIfInBounds_toArray, List.set_cons_zero, List.set_cons_succ]
                  refine ci_off (i := 7) rfl (by kernel_rfl) ?_
                  try simp only [Act.put, List.setIfInBounds_toArray, List.set_cons_zero, List.set_cons_succ]
                  refine ci_off (i := 8) rfl (by kernel_rfl) ?_
                  try simp only [Act.put, List.setIfInBounds_toArray, List.set_cons_zero, List.set_cons_succ]
                  refine ci_off (i := 9) rfl (by kernel_rfl) ?_
                  try simp only [Act.put, List.setIfInBounds_toArray, List.set_cons_zero, List.set_cons_succ]
                  refine ci_off (i := 10) rfl (by kernel_rfl) ?_
                  try simp only [Act.put, List.setIfInBounds_toArray, List.set_cons_zero, List.set_cons_succ]
                  refine ci_off (i := 11) rfl (by kernel_rfl) ?_
                  try simp only [Act.put, List.setIfInBounds_toArray, List.set_cons_zero, List.set_cons_succ]
                  refine ci_off (i := 12) rfl (by kernel_rfl) ?_
                  try simp only [Act.put, List.setIfInBounds_toArray, List.set_cons_zero, List.set_cons_succ]
                  refine ci_off (i := 13) rfl (by kernel_rfl) ?_
                  try simp only [Act.put, List.setIfInBounds_toArray, List.set_cons_zero, List.set_cons_succ]
                  refine ci_off (i := 14) rfl (by kernel_rfl) ?_
                  try simp only [Act.put, List.setIfInBounds_toArray, List.set_cons_zero, List.set_cons_succ]
                  refine ci_step (i := 15) (v := ?_) rfl (by kernel_rfl) ?_ ?_
                  rotate_left
                  · first | (go_simp; done) | (go_simp; with_reducible rfl)
                  skip
                  try simp only [Act.put, List.setIfInBounds_toArray, List.set_cons_zero, List.set_cons_succ]
                  refine ci_step (i := 16) (v := ?_) rfl (by kernel_rfl) ?_ ?_
                  rotate_left
                  · first | (go_simp; done) | (go_simp; with_reducible rfl)
                  skip
                  try simp only [Act.put, List.setIfInBounds_toArray, List.set_cons_zero, List.set_cons_succ]
                  refine ci_step (i := 17) (v := ?_) rfl (by kernel_rfl) ?_ ?_
                  rotate_left
                  · first | (go_simp; done) | (go_simp; with_reducible rfl)
                  skip
                  try simp only [Act.put, List.setIfInBounds_toArray, List.set_cons_zero, List.set_cons_succ]
                  refine ci_step (i := 18) (v := ?_) rfl (by kernel_rfl) ?_ ?_
                  rotate_left
                  · first | (go_simp; done) | (go_simp; with_reducible rfl)
                  skip
                  try simp only [Act.put, List.setIfInBounds_toArray, List.set_cons_zero, List.set_cons_succ]
                  refine ci_step (i := 19) (v := ?_) rfl (by kernel_rfl) ?_ ?_
                  rotate_left
                  · first | (go_simp; done) | (go_simp; with_reducible rfl)
                  skip
                  try simp only [Act.put, List.setIfInBounds_toArray, List.set_cons_zero, List.set_cons_succ]
                  refine ci_step (i := 20) (v := ?_) rfl (by kernel_rfl) ?_ ?_
                  rotate_left
                  · first | (go_simp; done) | (go_simp; with_reducible rfl)
                  skip
                  try simp only [Act.put, List.setIfInBounds_toArray, List.set_cons_zero, List.set_cons_succ]
                  refine ci_step (i := 21) (v := ?_) rfl (by kernel_rfl) ?_ ?_
                  rotate_left
                  · first | (go_simp; done) | (go_simp; with_reducible rfl)
                  skip
                  try simp only [Act.put, List.setIfInBounds_toArray, List.set_cons_zero, List.set_cons_succ]
                  refine ci_step (i := 22) (v := ?_) rfl (by kernel_rfl) ?_ ?_
                  rotate_left
                  · first | (go_simp; done) | (go_simp; with_reducible rfl)
                  skip
                  try simp only [Act.put, List.setIfInBounds_toArray, List.set_cons_zero, List.set_cons_succ]
                  refine ci_step (i := 23) (v := ?_) rfl (by kernel_rfl) ?_ ?_
                  rotate_left
                  · first | (go_simp; done) | (go_simp; with_reducible rfl)
                  skip
                  try simp only [Act.put, List.setIfInBounds_toArray, List.set_cons_zero, List.set_cons_succ]
                  refine ci_step (i := 24) (v := ?_) rfl (by kernel_rfl) ?_ ?_
                  rotate_left
                  · first | (go_simp; done) | (go_simp; with_reducible rfl)
                  skip
                  try simp only [Act.put, List.setIfInBounds_toArray, List.set_cons_zero, List.set_cons_succ]
                  refine ci_step (i := 25) (v := ?_) rfl (by kernel_rfl) ?_ ?_
                  rotate_left
                  · first | (go_simp; done) | (go_simp; with_reducible rfl)
                  skip
                  try simp only [Act.put, List.setIfInBounds_toArray, List.set_cons_zero, List.set_cons_succ]
                  refine ci_end ?_
                  rfl
                refine draw_done (by kernel_rfl) ?_ _
                go_wp2
                go_roundw
                case rel => exact ⟨j + 1, by omega, by go_num, hS.below (Below.drew (Below.refl _ _))⟩
                case measure => simp [intOf]; omega
          · obtain rfl : j = acts.length := by omega
            rw [List.take_length] at hS
            go_wp2_with fail
            have kn := ((Blk.new wr 3 #[.int .i64 0]).alloc (.cells #[.bool true] 4)).alloc (.cells #[.int .u32 0, .int .i64 0] 25)
            have kg := (Blk.new (wr.alloc (.cells #[.int .i64 0] 3)) 4 #[.bool true]).alloc (.cells #[.int .u32 0, .int .i64 0] 25)
            have kl := Blk.new ((wr.alloc (.cells #[.int .i64 0] 3)).alloc (.cells #[.bool true] 4)) 25 #[.int .u32 0, .int .i64 0]
            simp only [World.size_alloc] at kg kl
            have hbA := (((Below.refl wr.heap.size wr).alloc (Nat.le_refl _) (.cells #[.int .i64 0] 3)).alloc (by simp) (.cells #[.bool true] 4)).alloc (by simp; omega) (.cells #[.int .u32 0, .int .i64 0] 25)
            have hne : t < wr.heap.size ∧ g < wr.heap.size ∧ gm < wr.heap.size ∧ gm + 1 < wr.heap.size ∧ w.heap.size ≤ wr.heap.size ∧ gs + 1 < wr.heap.size := ⟨hS.a.tb.1.lt, hS.a.tb.2.1.lt, hS.a.lm.lt, hS.a.c.lt, hS.a.b.size, hS.s.lt⟩
            have HNE := Lib.hid hne
            clear hne
            replace hS := hS.below hbA
            clear hbA
            generalize ((wr.alloc (.cells #[.int .i64 0] 3)).alloc (.cells #[.bool true] 4)).alloc (.cells #[.int .u32 0, .int .i64 0] 25) = V0 at *
            generalize wr.heap.size = z at *
            refine (table_Prefixes t V0).mono ?_
            rintro e w5 ⟨rfl, rfl⟩
            have kx := Blk.new V0 64 #[.pointer (some ⟨t, 0, none⟩)]
            have hbA := (Below.refl V0.heap.size V0).alloc (Nat.le_refl _) (.cells #[.pointer (some ⟨t, 0, none⟩)] 64)
            replace kn := kn.below' hbA
            replace kg := kg.below' hbA
            replace kl := kl.below' hbA
            replace hS := hS.below hbA
            clear hbA
            generalize V0.alloc (.cells #[.pointer (some ⟨t, 0, none⟩)] 64) = V1 at *
            generalize V0.heap.size = bx at *
            have hml := hS.a.ok.len
            have e50 : ∀ args w, (callFunc 50 args).run Try.prog w = .ok (.enter 50 args) w := enters_of Try.func50 (by kernel_rfl) rfl
            have hw3 : Walk3 (z + 1) (gs + 1) z (z + 1 + 1) gs (seenM m' acts) V1 [] := ⟨by simpa [goodR] using kg, hS.s, kn, by simpa using kl, hS.m⟩
            have hP := prefixes_of 50 #[.pointer (some ⟨z + 1, 0, none⟩), .pointer (some ⟨gs + 1, 0, none⟩), .pointer (some ⟨z, 0, none⟩), .pointer (some ⟨z + 1 + 1, 0, none⟩)] e50 m' t g bx V1 hS.a.tb kx (by omega)
              (fun pre W => Walk3 (z + 1) (gs + 1) z (z + 1 + 1) gs (seenM m' acts) W pre ∧ SeenAt acts t g gm (gm + 1) (.slice A1 list.length c1) most w m' (k + 1) (gs + 1) gs (seenM m' acts) W) (fun _ _ => False)
              (fun pre W W' h hbb => ⟨h.1.below hbb, h.2.below hbb⟩) (fun _ _ _ h _ => h)
              (fun pre x W h hlen => (acts1 (z + 1) (gs + 1) z (z + 1 + 1) gs (seenM m' acts) pre x W h.1 (by omega)).mono fun e W' ⟨h1, h2, h3⟩ => ⟨keepsT_of3 h.1 h3, .inl ⟨h1, h2, h.2.kept h3 (fun s hs => by
                have := HNE.out
                simp only [List.mem_cons, List.not_mem_nil, or_false] at hs
                omega)⟩⟩) ⟨hw3, hS⟩
            have hokk := hS.a.ok
            clear kx kn kg kl hS hw3 e50
            go_wp2_with fail
            refine hP.mono ?_
            rintro e V2 ⟨rfl, ps, hps, ⟨⟨kg, ks, kn, kl, hm⟩, hS⟩ | ⟨_, _, _, h⟩⟩
            rotate_left
            · exact h.elim
            clear hP
            obtain ⟨hsl, hgd⟩ := seen_len hokk hps
            rw [hgd] at kg
            rw [hsl] at kn
            have hln := map_len (Z := 3) Try.underlying42 hm
            have g1 := kg.lt
            have s1 := ks.lt
            have n1 := kn.lt
            have g0 := kg.cell 0
            have s0 := ks.cell 0
            have n0 := kn.cell 0
            simp only [List.getElem?_toArray, List.getElem?_cons_zero] at g0 s0 n0
            clear hsl hgd hm kl
            go_wp2
            go_roundw
            case rel => exact ⟨k + 1, m', by omega, by go_num, hS.a⟩
            case measure => simp [intOf]; omega
    · obtain rfl : k = acts.length := by omega
      go_wp2
      go_ret
      exact ⟨rfl, hA.b⟩
end Go.Proofs.Ytnfaeafplaeehaa
