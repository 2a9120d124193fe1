/- What the proof of a statement of this seat rests on, part 5: PqZo, PqCH, PqMB, PqMC, PqMD, PqCI, PqME, PqWE, PqWG, PqCD, PqY5, PqY6, PqY7, PqMF, PqMG, PqMH. -/
import Derived.Test.YtokadkakmhfdeaaMgMoveRefuses4
set_option linter.unusedVariables false
set_option linter.unusedSimpArgs false
set_option linter.unusedSectionVars false
namespace Go.Proofs.Ytokadkakmhfdeaa.Pq
open Go.RowKit
/- Regions of which the order is not told even for what they make: every order is gone through. -/
/-- Whatever comes next. -/
def XA (E : Env) (T : Tab) (sh : Bool) (nt : Nat) (ops : Array Oper) (R : Sl → Hp → Prop) : Nat → Array Bool → Sl → Hp → Prop
  | 0, listed, s, H => Region.ready .any ops listed = [] ∧ R s H
  | f + 1, listed, s, H => (Region.ready .any ops listed = [] → R s H) ∧ ∀ i ∈ Region.ready .any ops listed, ∃ o s' H', ops[i]? = some o ∧ xop E T sh nt ops o s H = some (s', H') ∧ XA E T sh nt ops R f (listed.setIfInBounds i true) s' H'
section
variable {P : Program} {T : Tab} {B0 : Nat} {w0 : World} {E : Env} {sh : Bool} {nt : Nat} {ops : Array Oper}
theorem XA_ok (hT : TOK P T) (hE : EOK P E) {R : Sl → Hp → Prop} {Q : Exit → Act → World → Prop} : ∀ (fuel : Nat) (listed : Array Bool) (a : Act) (w : World) (G : Cx) (s : Sl) (H : Hp), XA E T sh nt ops R fuel listed s H → St B0 w0 G H w → RF' nt G s a →
    (∀ s' H' a' w' G', R s' H' → Le G G' → St B0 w0 G' H' w' → RF' nt G' s' a' → a'.defers = a.defers → Q .normal a' w') → wpAny P .any ops Q fuel listed a w := by
  intro fuel
  induction fuel with
  | zero =>
    intro listed a w G s H h hst hrf hk
    exact ⟨h.1, hk s H a w G h.2 (Le.refl G) hst hrf rfl⟩
  | succ fuel ih =>
    intro listed a w G s H h hst hrf hk
    refine ⟨fun h0 => hk s H a w G (h.1 h0) (Le.refl G) hst hrf rfl, fun i hi => ?_⟩
    obtain ⟨o, s', H', ho, hx, hn⟩ := h.2 i hi
    unfold wpOp
    rw [ho]
    simp only
    exact xop_ok hT hE hst hrf hx fun a' w' G' g1 g2 g3 g4 => ih _ a' w' G' s' H' hn g2 g3 fun s2 H2 a2 w2 G2 r e1 e2 e3 e4 => hk s2 H2 a2 w2 G2 r (g1.trans e1) e2 e3 (e4.trans g4)
end
/-- Code of which a region or two go through every order. -/
inductive XW (E : Env) (T : Tab) (A : Ann) (nt : Nat) : Code → Sl → Hp → (Ex → Sl → Hp → Prop) → Prop where
  | det {c : Code} {s : Sl} {H : Hp} {R : Ex → Sl → Hp → Prop} {k : Nat} {x : Ex} {s' : Sl} {H' : Hp} (ok : okCode E A c = true) (hx : xcode E T A nt k c s H = some (x, s', H')) (hr : R x s' H') : XW E T A nt c s H R
  | seq {a b : Code} {s : Sl} {H : Hp} {R M : Ex → Sl → Hp → Prop} (h1 : XW E T A nt a s H M) (h2 : ∀ s' H', M .norm s' H' → XW E T A nt b s' H' R) (h3 : ∀ x s' H', x ≠ .norm → M x s' H' → R x s' H') : XW E T A nt (.seq a b) s H R
  | any {id : Nat} {ops : Array Oper} {s : Sl} {H : Hp} {R : Ex → Sl → Hp → Prop} (h : XA E T (A.share id) nt ops (R .norm) ops.size (Array.replicate ops.size false) s H) : XW E T A nt (.region id ops true) s H R
theorem XW_ok {P : Program} {T : Tab} {B0 : Nat} {w0 : World} {E : Env} {A : Ann} {nt : Nat} (hT : TOK P T) (hE : EOK P E) (hmix : P.follows .mixedOrders = true) {c : Code} {s : Sl} {H : Hp} {R : Ex → Sl → Hp → Prop} (h : XW E T A nt c s H R) : ∀ {a : Act} {w : World} {G : Cx} {Q : Exit → Act → World → Prop}, St B0 w0 G H w → RF' nt G s a →
    (∀ x s' H' a' w' G', R x s' H' → Le G G' → St B0 w0 G' H' w' → RF' nt G' s' a' → a'.defers = a.defers → Q x.exit' a' w') → c.wp P Q a w := by
  induction h with
  | det ok hx hr =>
    intro a w G Q hst hrf hk
    exact xcode_ok hT hE hmix _ ok hx hst hrf fun a' w' G' e1 e2 e3 e4 => hk _ _ _ a' w' G' hr e1 e2 e3 e4
  | seq h1 h2 h3 ih1 ih2 =>
    intro a w G Q hst hrf hk
    refine wp_seq (ih1 hst hrf fun x s' H' a' w' G' hm g1 g2 g3 g4 => ?_)
    cases x with
    | norm => exact ih2 s' H' hm g2 g3 fun x2 s2 H2 a2 w2 G2 r e1 e2 e3 e4 => hk x2 s2 H2 a2 w2 G2 r (g1.trans e1) e2 e3 (e4.trans g4)
    | exit id => exact hk _ s' H' a' w' G' (h3 _ _ _ (fun h => by cases h) hm) g1 g2 g3 g4
    | ret => exact hk _ s' H' a' w' G' (h3 _ _ _ (fun h => by cases h) hm) g1 g2 g3 g4
  | any h =>
    intro a w G Q hst hrf hk
    refine wp_region_any hmix (XA_ok hT hE _ _ a w.drew G _ _ h hst.drew hrf fun s' H' a' w' G' r e1 e2 e3 e4 => hk .norm s' H' a' w' G' r e1 e2 e3 e4)
theorem sound_any {P : Program} {T : Tab} {E : Env} (hT : TOK P T) (hE : EOK P E) (hmix : P.follows .mixedOrders = true) {g : Nat} {fn : Func} {c : Code} (A : Ann) (hf : P.funcs[g]? = some fn) (hb : fn.body = some c)
    (hn : (fn.name == "runtime.NumGoroutine") = false) (n : Nat) (hnt : (decide (n ≤ fn.ntmps) && decide (fn.ntmps ≤ 1000000)) = true) (rs : List ResultVar) (hrs : fn.results.toList = rs)
    {F : List AV → Hp → Option (AV × Hp)}
    (hF : ∀ args H r H', Wf H → F args H = some (r, H') → args.length = n ∧ (get (argSl args 0) 1000000 = .bad → XW E T A fn.ntmps c (argSl args 0) H fun x s' H2 => (x = .norm ∨ x = .ret) ∧ ∃ vs js, xres T s' H2 rs = some vs ∧ Can H H2 H' (xret vs) r js)) : Sound P g F := by
  simp only [Bool.and_eq_true, decide_eq_true_eq] at hnt
  refine ⟨⟨fn, hf, by rw [hb]; rfl, hn⟩, ?_⟩
  intro args H r H' hx B0 w0 G w vargs hst hrv
  obtain ⟨hlen, hX⟩ := hF args H r H' (fun b k hk => (hst.blk b k hk).1) hx
  have hbad : get (argSl args 0) 1000000 = .bad := by
    rw [get_argSl, if_pos (Nat.zero_le _), List.getElem?_eq_none (by omega)]; rfl
  refine calls_of_wp hf hb ?_
  have hlv : vargs.length = args.length := hrv.length.symm
  have hrf : RF' fn.ntmps G (argSl args 0) { tmps := vargs.toArray ++ Array.replicate (fn.ntmps - vargs.toArray.size) undef, defers := [] } := by
    refine ⟨fun t => ?_, by simp; omega⟩
    rw [get_argSl, if_pos (Nat.zero_le _), Nat.sub_zero]
    cases hg : args[t]? with
    | none => exact .bad _
    | some x =>
      obtain ⟨v, h1, h2⟩ := hrv.get hg
      have ht : t < vargs.length := (List.getElem?_eq_some_iff.1 h1).1
      have : (vargs.toArray ++ Array.replicate (fn.ntmps - vargs.toArray.size) undef).getD t undef = v := by
        rw [Array.getD_eq_getD_getElem?, Array.getElem?_append_left (by simpa using ht)]
        simp [h1]
      show RV G x _
      rw [this]; exact h2
  refine XW_ok hT hE hmix (hX hbad) hst hrf fun x s' H2 a' w' G2 hr e1 e2 e3 e4 => ?_
  obtain ⟨hxe, vs, js, hvs, hcan⟩ := hr
  obtain ⟨us, h5, h6⟩ := xres_ok hT e2 e3 _ _ hvs
  have h7 := results_eq fn a'.tmps w' us (by rw [hrs]; exact h5)
  obtain ⟨G', f1, f2, f3⟩ := hcan.st hst e2 e1 (RV.xret h6)
  rcases hxe with rfl | rfl <;> exact ⟨e4, _, h7, _, _, rfl, f1, f2, f3⟩
/-- A part whose order is told. -/
theorem XW.ofX {E : Env} {T : Tab} {A : Ann} {nt : Nat} (hnt : nt ≤ 1000000) {c : Code} {s : Sl} {H : Hp} {R : Ex → Sl → Hp → Prop} (ok : okCode E A c = true) (hs : okSlots nt c = true) (hr : okRecs A c = true) {cc : Cc} (hc : shortC A c = cc) (hb : get s 1000000 = .bad) (h : X E T cc s H fun x s' H' => get s' 1000000 = .bad → R x s' H') : XW E T A nt c s H R := by
  obtain ⟨k, x, s', H', h1, h2, h3⟩ := X_sound hnt c hs hr s H _ hb (hc ▸ h)
  exact .det ok h1 (h2 h3)
theorem coOf_none {ops : Array Oper} {l : List Co} (hl : ops.toList.map (coOf ops) = l) {i : Nat} {d : Option Nat} {op : Op} (hi : l[i]? = some ⟨d, op, none⟩) : ∃ o, ops[i]? = some o ∧ o.dst = d ∧ o.op = op ∧ o.guard = none := by
  subst hl
  rw [List.getElem?_map] at hi
  obtain ⟨o, ho, he⟩ := Option.map_eq_some_iff.1 hi
  refine ⟨o, by simpa using ho, ?_⟩
  unfold coOf at he
  injection he with h1 h2 h3
  refine ⟨h1, h2, ?_⟩
  split at h3
  · assumption
  · cases h3
/-- The next one, whichever. -/
theorem xop_none {E : Env} {T : Tab} {sh : Bool} {nt : Nat} {ops : Array Oper} {o : Oper} {s : Sl} {H H' : Hp} {d : Nat} {v : AV} (hd : o.dst = some d) (hg : o.guard = none) (hlt : d < nt) (h : xdo E T sh o.op s H = some (v, H')) : xop E T sh nt ops o s H = some ((d, v) :: s, H') := by
  unfold xop wantedA
  rw [hg]
  simp only [h, Option.map_some, hd, aput]
  rw [if_pos hlt]
/-- The same over what was made. -/
structure ZA (E : Env) (B : Bs) (sh : Bool) (nt : Nat) (ops : Array Oper) (R : Sl → Hp → Prop) (f : Nat) (listed : Array Bool) (s : Sl) (L : Lo) : Prop where
  out : ∀ H, SL B L H → XA E T sh nt ops R f listed s H
section
variable {E : Env} {B : Bs} {sh : Bool} {nt : Nat} {ops : Array Oper} {R : Sl → Hp → Prop} {f : Nat} {listed : Array Bool} {s : Sl} {L : Lo}
/-- The next one is i. -/
structure ZI (E : Env) (B : Bs) (sh : Bool) (nt : Nat) (ops : Array Oper) (R : Sl → Hp → Prop) (f : Nat) (listed : Array Bool) (s : Sl) (L : Lo) (c : Co) : Prop where
  out : ∀ H, SL B L H → ∃ d v H', c.d = some d ∧ d < nt ∧ xdo E T sh c.o s H = some (v, H') ∧ XA E T sh nt ops R f listed ((d, v) :: s) H'
theorem zaOne {l : List Co} (hl : ops.toList.map (coOf ops) = l) (i : Nat) {d : Option Nat} {op : Op} (hr : Region.ready .any ops listed = [i]) (hi : l[i]? = some ⟨d, op, none⟩) (h : ZI E B sh nt ops R f (listed.setIfInBounds i true) s L ⟨d, op, none⟩) : ZA E B sh nt ops R (f + 1) listed s L :=
  ⟨fun H hS => ⟨fun h0 => by (rw [hr] at h0; cases h0), fun j hj => by
    rw [hr, List.mem_singleton] at hj
    subst hj
    obtain ⟨o, ho, h1, h2, h3⟩ := coOf_none hl hi
    obtain ⟨d', v, H', e1, e2, e3, e4⟩ := h.out H hS
    exact ⟨o, _, H', ho, xop_none (h1.trans e1) h3 e2 (by rw [h2]; exact e3), e4⟩⟩⟩
theorem zaTwo {l : List Co} (hl : ops.toList.map (coOf ops) = l) (i j : Nat) {d d' : Option Nat} {op op' : Op} (hr : Region.ready .any ops listed = [i, j]) (hi : l[i]? = some ⟨d, op, none⟩) (hj : l[j]? = some ⟨d', op', none⟩) (h : ZI E B sh nt ops R f (listed.setIfInBounds i true) s L ⟨d, op, none⟩) (h' : ZI E B sh nt ops R f (listed.setIfInBounds j true) s L ⟨d', op', none⟩) : ZA E B sh nt ops R (f + 1) listed s L :=
  ⟨fun H hS => ⟨fun h0 => by (rw [hr] at h0; cases h0), fun q hq => by
    rw [hr] at hq
    rcases List.mem_cons.1 hq with rfl | hq
    · obtain ⟨o, ho, h1, h2, h3⟩ := coOf_none hl hi
      obtain ⟨d', v, H', e1, e2, e3, e4⟩ := h.out H hS
      exact ⟨o, _, H', ho, xop_none (h1.trans e1) h3 e2 (by rw [h2]; exact e3), e4⟩
    · rw [List.mem_singleton] at hq
      subst hq
      obtain ⟨o, ho, h1, h2, h3⟩ := coOf_none hl hj
      obtain ⟨d', v, H', e1, e2, e3, e4⟩ := h'.out H hS
      exact ⟨o, _, H', ho, xop_none (h1.trans e1) h3 e2 (by rw [h2]; exact e3), e4⟩⟩⟩
theorem zaEnd (hr : Region.ready .any ops listed = []) (h : ∀ H, SL B L H → R s H) : ZA E B sh nt ops R 0 listed s L := ⟨fun H hS => ⟨hr, h H hS⟩⟩
theorem ziOp {d : Nat} {op : Op} {v : AV} (hd : d < nt) (e : ∀ H, SL B L H → xdo E T sh op s H = some (v, H)) (h : ZA E B sh nt ops R f listed ((d, v) :: s) L) : ZI E B sh nt ops R f listed s L ⟨some d, op, none⟩ :=
  ⟨fun H hS => ⟨d, v, H, rfl, hd, e H hS, h.out H hS⟩⟩
theorem ziNew {d : Nat} {op : Op} (t : Tr) (cells : List AV) (hc : t.cs? = some (cells.map .at)) (hd : d < nt) (e : ∀ H, SL B L H → xdo E T sh op s H = some (t.hd H.bs.length H.c, H.new cells)) (h : ∀ b ver, ZA E B sh nt ops R f listed ((d, t.hd b ver) :: s) ((t.hd b ver, t) :: L)) : ZI E B sh nt ops R f listed s L ⟨some d, op, none⟩ :=
  ⟨fun H hS => ⟨d, _, _, rfl, hd, e H hS, (h _ _).out _ (hS.new t cells hc)⟩⟩
end
/- Functions in short form. -/
/-! parquetry/code.New (1 parameters; calls none) NOT COVERED: order -/
def A74 : Ann := { recs := fun i => if i = 3 then [(0, 4), (2, 1)] else [], drop := fun i => false }
noncomputable def b74 : Code := Try.f74.body.getD .skip
theorem hb74 : Try.f74.body = some b74 := by kernel_rfl
def rs74 : List ResultVar := [(ResultVar.tmp 2)]
theorem hr74 : Try.f74.results.toList = rs74 := by kernel_rfl
/- Walks: code.New (printed by mkmb.py). -/
def codeL : Code → Code | .seq a _ => a | c => c
def codeR : Code → Code | .seq _ b => b | c => c
def codeOps : Code → Array Oper | .region _ ops _ => ops | _ => #[]
noncomputable def b74a : Code := codeL b74
noncomputable def b74b : Code := codeL (codeR b74)
noncomputable def ops74 : Array Oper := codeOps (codeL (codeR (codeR b74)))
theorem b74_eq : b74 = .seq b74a (.seq b74b (.seq (.region 3 ops74 true) .ret)) := by kernel_rfl
theorem l74 : ops74.toList.map (coOf ops74) = [⟨some 9, (Op.move (Operand.tmp 0)), none⟩,
    ⟨some 10, (Op.makeSlice 70 (Operand.tmp 9) (Operand.tmp 9)), none⟩,
    ⟨some 11, (Op.move (Operand.tmp 0)), none⟩,
    ⟨some 12, (Op.makeSlice 22 (Operand.tmp 11) (Operand.tmp 11)), none⟩,
    ⟨some 13, (Op.build 135 #[(0, (Operand.tmp 10)), (1, (Operand.tmp 12))]), none⟩,
    ⟨some 14, (Op.box 135 (Operand.tmp 13)), none⟩,
    ⟨some 2, (Op.assign (Operand.tmp 14)), none⟩] := by kernel_rfl
theorem s74 : ops74.size = 7 := by kernel_rfl
theorem c74a : shortC A74 b74a = (.reg false [⟨some 2, (Op.assign (Operand.const (Value.pointer none))), none⟩]) := by kernel_rfl
noncomputable def c74b : Cc :=
  (.seq (.reg false [⟨some 3, (Op.move (Operand.tmp 0)), none⟩,
    ⟨some 4, (Op.binOp BinOp.lss 3 (Operand.tmp 3) (Operand.const (Value.int IntKind.i64 1)) 3), none⟩,
    ⟨some 5, (Op.move (Operand.tmp 4)), none⟩,
    ⟨some 6, (Op.move (Operand.tmp 0)), some (5, false)⟩,
    ⟨some 7, (Op.binOp BinOp.gtr 3 (Operand.tmp 6) (Operand.const (Value.int IntKind.i64 8)) 3), some (5, false)⟩,
    ⟨some 8, (Op.pick (Operand.tmp 5) (Operand.const (Value.bool true)) (Operand.tmp 7)), none⟩])
  (.cond (Operand.tmp 8)
    (.seq (.reg false [⟨some 2, (Op.assign (Operand.const (Value.pointer none))), none⟩])
    .ret)
    .skip))
theorem e74b : shortC A74 b74b = c74b := by kernel_rfl
theorem mk70 {E : Env} {sh : Bool} {s : Sl} {H : Hp} {x : Operand} {n : Nat} (hx : ev s x = .int .i64 n) (hn : n ≤ 8) : xdo E T sh (.makeSlice 70 x x) s H = some (.sl H.bs.length H.c 0 n 1 true, H.new (List.replicate n .nilS)) := by
  rw [xdo_make, hx]
  simp only [amake, D70, T141, Option.bind_some]
  rw [if_pos (by refine ⟨trivial, by omega, by omega, by omega⟩)]
  have : ∀ k : Nat, rep k [AV.nilS] = List.replicate k .nilS := by
    intro k
    induction k with
    | zero => rfl
    | succ k ih => simp [rep, ih, List.replicate_succ] at ih ⊢; first | done | exact ih
  simp [this]
theorem mk22 {E : Env} {sh : Bool} {s : Sl} {H : Hp} {x : Operand} {n : Nat} (hx : ev s x = .int .i64 n) (hn : n ≤ 8) : xdo E T sh (.makeSlice 22 x x) s H = some (.sl H.bs.length H.c 0 n 1 true, H.new ((List.replicate n (0 : Int)).map (.int .i64))) := by
  rw [xdo_make, hx]
  simp only [amake, D22, T3, Option.bind_some]
  rw [if_pos (by refine ⟨trivial, by omega, by omega, by omega⟩)]
  simp [rep_ints]
theorem bld135 {E : Env} {sh : Bool} {s : Sl} {H : Hp} {x y : Operand} {b v n c u m : Nat} {f g : Bool} (hx : ev s x = .sl b v 0 n 1 f) (hy : ev s y = .sl c u 0 m 1 g) : xdo E T sh (.build 135 #[(0, x), (1, y)]) s H = some (.agg [.sl b v 0 n 1 f, .sl c u 0 m 1 g, .int .i64 0], H) := by
  simp [xdo, aop, T135, afill, T70, T22, setAll, AV.cells, hx, hy, AV.one]
theorem bx135 {E : Env} {sh : Bool} {s : Sl} {H : Hp} {x : Operand} {b v n c u m : Nat} {f g : Bool} (hx : ev s x = .agg [.sl b v 0 n 1 f, .sl c u 0 m 1 g, .int .i64 0]) : xdo E T sh (.box 135 x) s H = some (.ptr H.bs.length H.c 0, H.new [.sl b v 0 n 1 f, .sl c u 0 m 1 g, .int .i64 0]) := by
  simp [xdo, aop, hx, AV.cells, AV.one]
/-- A new maker. -/
def newTr (n : Nat) : Tr := .bx [.sl n 1 true (List.replicate n (.at .nilS)), .sl n 1 true (trI (List.replicate n 0)), .at (.int .i64 0)]
theorem okT_new (c n : Nat) : okT c (newTr n) = true := by
  have h : ∀ k : Nat, okTs c (List.replicate k (.at .nilS)) = true := by
    intro k
    induction k with
    | zero => rfl
    | succ k ih => simp [List.replicate_succ, okTs, okT, old, ih]
  have h2 : okTs c (trI (List.replicate n 0)) = true := okT_F c (List.replicate n 0)
  simp [newTr, okT, okTs, h, h2, old]
noncomputable def F74 (args : List AV) (H : Hp) : Option (AV × Hp) := match args with
  | [.int .i64 i] => if i < 1 ∨ 8 < i then some (.nilP, H) else some (mk (newTr i.toNat) H)
  | _ => none
set_option maxHeartbeats 2000000 in
theorem snd74 : Sound Try.prog 74 (FSem.eff F74).run := by
  refine sound_any hT (EOK_nil _) mixed A74 Try.func74 hb74 (by kernel_rfl) 1 (by kernel_rfl) rs74 hr74 ?_
  intro args H r H' hw h
  have hv : F74 args H = some (r, H') := h
  clear h
  unfold F74 at hv
  split at hv
  rotate_left
  · cases hv
  rename_i i
  refine ⟨rfl, fun hb => ?_⟩
  rw [b74_eq]
  refine .seq (M := fun x s' H2 => x = .norm ∧ get s' 1000000 = .bad ∧ get s' 0 = .int .i64 i ∧ H2 = H) (XW.ofX (of_decide_eq_true (by kernel_rfl)) (by kernel_rfl) (by kernel_rfl) (by kernel_rfl) c74a hb (go ?_)) ?_ (fun x s' H2 hx hm => absurd hm.1 hx)
  · simp only [argSl]
    repeat' (first | apply goSeq | apply goReg | apply goSeqN | apply goSeqR | apply goSkip | apply goRet | apply goNil | apply goBlock | apply goExit | apply goBlkN | apply goBlkR | apply goBlkE | apply goSeqE | apply goLoopR | apply goLoopE | refine xOp ?_ | refine xOp0 ?_ | refine xYes ?_ | refine xNo ?_ | refine xNoU ?_ | refine xIfT ?_ | refine xIfF ?_ | refine xIf ?_ ?_ | refine xSplit ?_ ?_ | refine xIfQ ?_ ?_ | refine xSplitQ ?_ ?_ | refine xBlkX ?_ | intro _)
    exact goFin fun hb => ⟨rfl, hb, rfl, rfl⟩
  clear hb
  rintro s1 H1 ⟨_, hb1, g0, rfl⟩
  by_cases hi : i < 1 ∨ 8 < i
  · rw [if_pos hi] at hv
    cases hv
    have hp : ¬ i < 1 → 8 < i := fun h => by omega
    refine .seq (M := fun x s' H2 => x ≠ .norm ∧ ((x = .norm ∨ x = .ret) ∧ ∃ vs js, xres T s' H2 rs74 = some vs ∧ Can H' H2 H' (xret vs) .nilP js)) (XW.ofX (of_decide_eq_true (by kernel_rfl)) (by kernel_rfl) (by kernel_rfl) (by kernel_rfl) e74b hb1 (go ?_)) (fun s' H2 hm => absurd rfl hm.1) (fun x s' H2 _ hm => hm.2)
    unfold c74b
    by_cases h1 : i < 1
    · repeat' (first | apply goSeq | apply goReg | apply goSeqN | apply goSeqR | apply goSkip | apply goRet | apply goNil | apply goBlock | apply goExit | apply goBlkN | apply goBlkR | apply goBlkE | apply goSeqE | apply goLoopR | apply goLoopE | refine xOp ?_ | refine xOp0 ?_ | refine xYes ?_ | refine xNo ?_ | refine xNoU ?_ | refine xIfT ?_ | refine xIfF ?_ | refine xIf ?_ ?_ | refine xSplit ?_ ?_ | refine xIfQ ?_ ?_ | refine xSplitQ ?_ ?_ | refine xBlkX ?_ | intro _)
      exact goFin fun hb => ⟨(fun h => by cases h), ⟨.inr rfl, [.nilP], [], by simp [rs74], Can.pure hw (Pre.refl _) rfl⟩⟩
    · have h8 := hp h1
      repeat' (first | apply goSeq | apply goReg | apply goSeqN | apply goSeqR | apply goSkip | apply goRet | apply goNil | apply goBlock | apply goExit | apply goBlkN | apply goBlkR | apply goBlkE | apply goSeqE | apply goLoopR | apply goLoopE | refine xOp ?_ | refine xOp0 ?_ | refine xYes ?_ | refine xNo ?_ | refine xNoU ?_ | refine xIfT ?_ | refine xIfF ?_ | refine xIf ?_ ?_ | refine xSplit ?_ ?_ | refine xIfQ ?_ ?_ | refine xSplitQ ?_ ?_ | refine xBlkX ?_ | intro _)
      exact goFin fun hb => ⟨(fun h => by cases h), ⟨.inr rfl, [.nilP], [], by simp [rs74], Can.pure hw (Pre.refl _) rfl⟩⟩
  · rw [if_neg hi] at hv
    have h1 : ¬ i < 1 := by omega
    have h8 : ¬ 8 < i := by omega
    refine .seq (M := fun x s' H2 => x = .norm ∧ get s' 1000000 = .bad ∧ get s' 0 = .int .i64 i ∧ H2 = H1) (XW.ofX (of_decide_eq_true (by kernel_rfl)) (by kernel_rfl) (by kernel_rfl) (by kernel_rfl) e74b hb1 (go ?_)) ?_ (fun x s' H2 hx hm => absurd hm.1 hx)
    · unfold c74b
      repeat' (first | apply goSeq | apply goReg | apply goSeqN | apply goSeqR | apply goSkip | apply goRet | apply goNil | apply goBlock | apply goExit | apply goBlkN | apply goBlkR | apply goBlkE | apply goSeqE | apply goLoopR | apply goLoopE | refine xOp ?_ | refine xOp0 ?_ | refine xYes ?_ | refine xNo ?_ | refine xNoU ?_ | refine xIfT ?_ | refine xIfF ?_ | refine xIf ?_ ?_ | refine xSplit ?_ ?_ | refine xIfQ ?_ ?_ | refine xSplitQ ?_ ?_ | refine xBlkX ?_ | intro _)
      exact goFin fun hb => ⟨rfl, hb, (by simp [g0]), rfl⟩
    clear g0 hb1
    rintro s2 H2 ⟨_, hb2, g0, rfl⟩
    obtain ⟨n, rfl⟩ : ∃ n : Nat, i = n := ⟨i.toNat, by omega⟩
    have hn8 : n ≤ 8 := by omega
    rw [show (n : Int).toNat = n by omega] at hv
    have hv' := Option.some.inj hv
    clear hv
    refine .seq (M := fun x s' H3 => x = .norm ∧ ∃ vs js, xres T s' H3 rs74 = some vs ∧ Can H2 H3 H' (xret vs) r js) (.any ?_) (fun s' H3 hm => .det (k := 0) (x := .ret) rfl rfl ⟨.inr rfl, hm.2⟩) (fun x s' H3 hx hm => absurd hm.1 hx)
    rw [s74]
    have fin : ∀ (s' : Sl) (Hx : Hp) {bc vc : Nat}, get s' 2 = .ptr bc vc 0 → SL ⟨H2, []⟩ [(.ptr bc vc 0, newTr n)] Hx → Ex.norm = .norm ∧ ∃ vs js, xres T s' Hx rs74 = some vs ∧ Can H2 Hx H' (xret vs) r js := by
      intro s' Hx bc vc e0 hS
      have hz : ZK (envL []) ⟨H2, []⟩ (.fin fun x s' H3 => (x = .norm ∨ x = .ret) ∧ ∃ vs js, xres T s' H3 rs74 = some vs ∧ Can H2 H3 H' (xret vs) r js) .norm s' [(.ptr bc vc 0, newTr n)] := zFin (vs := [.ptr bc vc 0]) (t := newTr n) (.inl rfl) (fun H hS => by simp [rs74, e0]) ⟨_, .pick .here⟩ (okT_new _ n) hv'
      exact ⟨rfl, (hz.out Hx hS).out.2⟩
    refine (ZA.out (B := ⟨H2, []⟩) (L := []) ?_ H2 (SL.nil hw []))
    show ZA _ _ _ _ _ _ 7 (Array.replicate 7 false) _ _
    refine zaTwo l74 0 2 (by kernel_rfl) rfl rfl ?_ ?_
    · refine ziOp (v := .int .i64 n) (by decide) (fun Hx hS => by simp [g0]) ?_
      refine zaTwo l74 1 2 (by kernel_rfl) rfl rfl ?_ ?_
      · refine ziNew (.sl n 1 true (List.replicate n (.at .nilS))) (List.replicate n .nilS) (by simp [Tr.cs?]) (by decide) (fun Hx hS => mk70 rfl hn8) fun ba va => ?_
        refine zaOne l74 2 (by kernel_rfl) rfl ?_
        refine ziOp (v := .int .i64 n) (by decide) (fun Hx hS => by simp [g0]) ?_
        refine zaOne l74 3 (by kernel_rfl) rfl ?_
        refine ziNew (.sl n 1 true (trI (List.replicate n 0))) ((List.replicate n (0 : Int)).map (.int .i64)) (by simp [trI, Tr.cs?]) (by decide) (fun Hx hS => mk22 rfl hn8) fun bb vb => ?_
        refine zaOne l74 4 (by kernel_rfl) rfl ?_
        refine ziOp (v := .agg [.sl ba va 0 n 1 true, .sl bb vb 0 n 1 true, .int .i64 0]) (by decide) (fun Hx hS => bld135 rfl rfl) ?_
        refine zaOne l74 5 (by kernel_rfl) rfl ?_
        refine ziNew (.bx [.at (.sl ba va 0 n 1 true), .at (.sl bb vb 0 n 1 true), .at (.int .i64 0)]) [.sl ba va 0 n 1 true, .sl bb vb 0 n 1 true, .int .i64 0] rfl (by decide) (fun Hx hS => bx135 rfl) fun bc vc => ?_
        refine zaOne l74 6 (by kernel_rfl) rfl ?_
        refine ziOp (v := .ptr bc vc 0) (by decide) (fun Hx hS => by simp [Tr.hd]) ?_
        exact zaEnd (by kernel_rfl) (fun Hx hS => fin _ Hx rfl ((hS.fold 0 0 2 rfl rfl rfl rfl (by decide)).fold 0 1 1 rfl rfl rfl rfl (by decide)))
      · refine ziOp (v := .int .i64 n) (by decide) (fun Hx hS => by simp [g0]) ?_
        refine zaTwo l74 1 3 (by kernel_rfl) rfl rfl ?_ ?_
        · refine ziNew (.sl n 1 true (List.replicate n (.at .nilS))) (List.replicate n .nilS) (by simp [Tr.cs?]) (by decide) (fun Hx hS => mk70 rfl hn8) fun ba va => ?_
          refine zaOne l74 3 (by kernel_rfl) rfl ?_
          refine ziNew (.sl n 1 true (trI (List.replicate n 0))) ((List.replicate n (0 : Int)).map (.int .i64)) (by simp [trI, Tr.cs?]) (by decide) (fun Hx hS => mk22 rfl hn8) fun bb vb => ?_
          refine zaOne l74 4 (by kernel_rfl) rfl ?_
          refine ziOp (v := .agg [.sl ba va 0 n 1 true, .sl bb vb 0 n 1 true, .int .i64 0]) (by decide) (fun Hx hS => bld135 rfl rfl) ?_
          refine zaOne l74 5 (by kernel_rfl) rfl ?_
          refine ziNew (.bx [.at (.sl ba va 0 n 1 true), .at (.sl bb vb 0 n 1 true), .at (.int .i64 0)]) [.sl ba va 0 n 1 true, .sl bb vb 0 n 1 true, .int .i64 0] rfl (by decide) (fun Hx hS => bx135 rfl) fun bc vc => ?_
          refine zaOne l74 6 (by kernel_rfl) rfl ?_
          refine ziOp (v := .ptr bc vc 0) (by decide) (fun Hx hS => by simp [Tr.hd]) ?_
          exact zaEnd (by kernel_rfl) (fun Hx hS => fin _ Hx rfl ((hS.fold 0 0 2 rfl rfl rfl rfl (by decide)).fold 0 1 1 rfl rfl rfl rfl (by decide)))
        · refine ziNew (.sl n 1 true (trI (List.replicate n 0))) ((List.replicate n (0 : Int)).map (.int .i64)) (by simp [trI, Tr.cs?]) (by decide) (fun Hx hS => mk22 rfl hn8) fun bb vb => ?_
          refine zaOne l74 1 (by kernel_rfl) rfl ?_
          refine ziNew (.sl n 1 true (List.replicate n (.at .nilS))) (List.replicate n .nilS) (by simp [Tr.cs?]) (by decide) (fun Hx hS => mk70 rfl hn8) fun ba va => ?_
          refine zaOne l74 4 (by kernel_rfl) rfl ?_
          refine ziOp (v := .agg [.sl ba va 0 n 1 true, .sl bb vb 0 n 1 true, .int .i64 0]) (by decide) (fun Hx hS => bld135 rfl rfl) ?_
          refine zaOne l74 5 (by kernel_rfl) rfl ?_
          refine ziNew (.bx [.at (.sl ba va 0 n 1 true), .at (.sl bb vb 0 n 1 true), .at (.int .i64 0)]) [.sl ba va 0 n 1 true, .sl bb vb 0 n 1 true, .int .i64 0] rfl (by decide) (fun Hx hS => bx135 rfl) fun bc vc => ?_
          refine zaOne l74 6 (by kernel_rfl) rfl ?_
          refine ziOp (v := .ptr bc vc 0) (by decide) (fun Hx hS => by simp [Tr.hd]) ?_
          exact zaEnd (by kernel_rfl) (fun Hx hS => fin _ Hx rfl ((hS.fold 0 0 1 rfl rfl rfl rfl (by decide)).fold 0 1 1 rfl rfl rfl rfl (by decide)))
    · refine ziOp (v := .int .i64 n) (by decide) (fun Hx hS => by simp [g0]) ?_
      refine zaTwo l74 0 3 (by kernel_rfl) rfl rfl ?_ ?_
      · refine ziOp (v := .int .i64 n) (by decide) (fun Hx hS => by simp [g0]) ?_
        refine zaTwo l74 1 3 (by kernel_rfl) rfl rfl ?_ ?_
        · refine ziNew (.sl n 1 true (List.replicate n (.at .nilS))) (List.replicate n .nilS) (by simp [Tr.cs?]) (by decide) (fun Hx hS => mk70 rfl hn8) fun ba va => ?_
          refine zaOne l74 3 (by kernel_rfl) rfl ?_
          refine ziNew (.sl n 1 true (trI (List.replicate n 0))) ((List.replicate n (0 : Int)).map (.int .i64)) (by simp [trI, Tr.cs?]) (by decide) (fun Hx hS => mk22 rfl hn8) fun bb vb => ?_
          refine zaOne l74 4 (by kernel_rfl) rfl ?_
          refine ziOp (v := .agg [.sl ba va 0 n 1 true, .sl bb vb 0 n 1 true, .int .i64 0]) (by decide) (fun Hx hS => bld135 rfl rfl) ?_
          refine zaOne l74 5 (by kernel_rfl) rfl ?_
          refine ziNew (.bx [.at (.sl ba va 0 n 1 true), .at (.sl bb vb 0 n 1 true), .at (.int .i64 0)]) [.sl ba va 0 n 1 true, .sl bb vb 0 n 1 true, .int .i64 0] rfl (by decide) (fun Hx hS => bx135 rfl) fun bc vc => ?_
          refine zaOne l74 6 (by kernel_rfl) rfl ?_
          refine ziOp (v := .ptr bc vc 0) (by decide) (fun Hx hS => by simp [Tr.hd]) ?_
          exact zaEnd (by kernel_rfl) (fun Hx hS => fin _ Hx rfl ((hS.fold 0 0 2 rfl rfl rfl rfl (by decide)).fold 0 1 1 rfl rfl rfl rfl (by decide)))
        · refine ziNew (.sl n 1 true (trI (List.replicate n 0))) ((List.replicate n (0 : Int)).map (.int .i64)) (by simp [trI, Tr.cs?]) (by decide) (fun Hx hS => mk22 rfl hn8) fun bb vb => ?_
          refine zaOne l74 1 (by kernel_rfl) rfl ?_
          refine ziNew (.sl n 1 true (List.replicate n (.at .nilS))) (List.replicate n .nilS) (by simp [Tr.cs?]) (by decide) (fun Hx hS => mk70 rfl hn8) fun ba va => ?_
          refine zaOne l74 4 (by kernel_rfl) rfl ?_
          refine ziOp (v := .agg [.sl ba va 0 n 1 true, .sl bb vb 0 n 1 true, .int .i64 0]) (by decide) (fun Hx hS => bld135 rfl rfl) ?_
          refine zaOne l74 5 (by kernel_rfl) rfl ?_
          refine ziNew (.bx [.at (.sl ba va 0 n 1 true), .at (.sl bb vb 0 n 1 true), .at (.int .i64 0)]) [.sl ba va 0 n 1 true, .sl bb vb 0 n 1 true, .int .i64 0] rfl (by decide) (fun Hx hS => bx135 rfl) fun bc vc => ?_
          refine zaOne l74 6 (by kernel_rfl) rfl ?_
          refine ziOp (v := .ptr bc vc 0) (by decide) (fun Hx hS => by simp [Tr.hd]) ?_
          exact zaEnd (by kernel_rfl) (fun Hx hS => fin _ Hx rfl ((hS.fold 0 0 1 rfl rfl rfl rfl (by decide)).fold 0 1 1 rfl rfl rfl rfl (by decide)))
      · refine ziNew (.sl n 1 true (trI (List.replicate n 0))) ((List.replicate n (0 : Int)).map (.int .i64)) (by simp [trI, Tr.cs?]) (by decide) (fun Hx hS => mk22 rfl hn8) fun bb vb => ?_
        refine zaOne l74 0 (by kernel_rfl) rfl ?_
        refine ziOp (v := .int .i64 n) (by decide) (fun Hx hS => by simp [g0]) ?_
        refine zaOne l74 1 (by kernel_rfl) rfl ?_
        refine ziNew (.sl n 1 true (List.replicate n (.at .nilS))) (List.replicate n .nilS) (by simp [Tr.cs?]) (by decide) (fun Hx hS => mk70 rfl hn8) fun ba va => ?_
        refine zaOne l74 4 (by kernel_rfl) rfl ?_
        refine ziOp (v := .agg [.sl ba va 0 n 1 true, .sl bb vb 0 n 1 true, .int .i64 0]) (by decide) (fun Hx hS => bld135 rfl rfl) ?_
        refine zaOne l74 5 (by kernel_rfl) rfl ?_
        refine ziNew (.bx [.at (.sl ba va 0 n 1 true), .at (.sl bb vb 0 n 1 true), .at (.int .i64 0)]) [.sl ba va 0 n 1 true, .sl bb vb 0 n 1 true, .int .i64 0] rfl (by decide) (fun Hx hS => bx135 rfl) fun bc vc => ?_
        refine zaOne l74 6 (by kernel_rfl) rfl ?_
        refine ziOp (v := .ptr bc vc 0) (by decide) (fun Hx hS => by simp [Tr.hd]) ?_
        exact zaEnd (by kernel_rfl) (fun Hx hS => fin _ Hx rfl ((hS.fold 0 0 1 rfl rfl rfl rfl (by decide)).fold 0 1 1 rfl rfl rfl rfl (by decide)))
/- Walks: a maker's devices, programs; count. -/
open Classical in
/-- A list of so many empty programs. -/
noncomputable def nilsL (H : Hp) (v : AV) : Option Nat := match v with
  | .sl b ver 0 n 1 _ => (H.at b ver).bind fun k => if k.cells = List.replicate n .nilS ∧ n ≤ 8 then some n else none
  | _ => none
theorem nilsL_some {H : Hp} {v : AV} {n : Nat} (h : nilsL H v = some n) : ∃ b ver f k, v = .sl b ver 0 n 1 f ∧ H.at b ver = some k ∧ k.cells = List.replicate n .nilS ∧ n ≤ 8 := by
  unfold nilsL at h
  split at h
  · obtain ⟨k, hk, h⟩ := Option.bind_eq_some_iff.1 h
    split at h
    · rename_i hc
      cases h
      exact ⟨_, _, _, k, rfl, hk, hc.1, hc.2⟩
    · cases h
  · cases h
theorem nilsL_of {H : Hp} {b ver n : Nat} {f : Bool} {k : Blk} (hk : H.at b ver = some k) (hc : k.cells = List.replicate n .nilS) (hn : n ≤ 8) : nilsL H (.sl b ver 0 n 1 f) = some n := by
  simp only [nilsL, hk, Option.bind_some]
  rw [if_pos ⟨hc, hn⟩]
theorem nilsL_ext {H H' : Hp} (hp : Pre H H') {v : AV} {n : Nat} (h : nilsL H v = some n) : nilsL H' v = some n := by
  obtain ⟨b, ver, f, k, rfl, hk, hc, hn⟩ := nilsL_some h
  exact nilsL_of (hp.at hk) hc hn
theorem alen70 (b ver n : Nat) (f : Bool) : alen T 70 (.sl b ver 0 n 1 f) = some (.int .i64 n) := by simp [alen, alenS, D70, T141]
theorem aidx70 (b ver n : Nat) (f : Bool) (j : Nat) (h : j < n) : aidx T 70 (.sl b ver 0 n 1 f) (.int .i64 j) = some (.ptr b ver j) := by
  simp [aidx, aidxS, D70, T141, h]
theorem alen141 : alen T 141 .nilS = some (.int .i64 0) := by simp [alen, alenS, D141, T103]
theorem ld141 {H : Hp} {b ver n : Nat} {k : Blk} (hk : H.at b ver = some k) (hc : k.cells = List.replicate n .nilS) (j : Nat) (h : j < n) : aload T 141 (.ptr b ver j) H = some .nilS := by
  simp [aload, T141, hk, hc, h]
/-- So many empty programs, made. -/
def nilsTr (n : Nat) : Tr := .sl n 1 true (List.replicate n (.at .nilS))
noncomputable def F117 (args : List AV) (H : Hp) : Option (AV × Hp) := match args with
  | [v] => (nilsL H v).map fun n => mk (nilsTr n) H
  | _ => none
theorem okT_nils (c n : Nat) : okT c (nilsTr n) = true := by
  have h : ∀ k : Nat, okTs c (List.replicate k (.at .nilS)) = true := by
    intro k
    induction k with
    | zero => rfl
    | succ k ih => simp [List.replicate_succ, okTs, okT, old, ih]
  simp [nilsTr, okT, h]
set_option maxHeartbeats 2000000 in
theorem snd117 : Sound Try.prog 117 (FSem.eff F117).run := by
  refine sound_of hT (EOK_nil _) mixed A117 Try.func117 hb117 (by kernel_rfl) (by kernel_rfl) (by kernel_rfl) (by kernel_rfl) sh117 1 (by kernel_rfl) rs117 hr117 ?_
  intro args H r H' hw h
  have hv : F117 args H = some (r, H') := h
  clear h
  unfold F117 at hv
  split at hv
  rotate_left
  · cases hv
  rename_i v
  obtain ⟨n, hn, hv2⟩ := Option.map_eq_some_iff.1 hv
  clear hv
  obtain ⟨b, ver, f, k, rfl, hk, hc, hn8⟩ := nilsL_some hn
  have hlen := alen70 b ver n f
  have hnil := alen141
  refine ⟨rfl, go (zStart (SL.nil hw []) ?_)⟩
  unfold c117
  simp only [argSl]
  repeat' (first | apply zSeq | apply zReg | apply zSeqN | apply zSeqR | apply zSkip | apply zRet | apply zNil | apply zBlock | apply zExit | apply zBlkN | apply zBlkR | apply zBlkE | apply zSeqE | apply zLoopR | apply zLoopE | refine yYes' ?_ | refine yNo' ?_ | refine yNoU' ?_ | refine yLd' ?_ | refine yLdI' ?_ | refine yStS' ?_ | refine yStF' ?_ | refine ySt' ?_ | refine yBS' fun _ _ => ?_ | refine yAlloc' fun _ _ => ?_ | refine yBox' fun _ _ => ?_ | refine yOp' ?_ | refine yIfT ?_ | refine yIfF ?_ | refine yIf ?_ ?_ | refine ySplit' ?_ ?_ | refine yIfQ ?_ ?_ | refine ySplitQ' ?_ ?_ | refine yBlkX ?_ | intro _)
  refine zNew' (.sl n 1 true (List.replicate n (.at .nilS))) (List.replicate n .nilS) (by simp [Tr.cs?]) (fun Hx hS hF => mk70 rfl hn8) fun b1 v1 => ?_
  dsimp only [Tr.hd]
  repeat' (first | apply zSeq | apply zReg | apply zSeqN | apply zSeqR | apply zSkip | apply zRet | apply zNil | apply zBlock | apply zExit | apply zBlkN | apply zBlkR | apply zBlkE | apply zSeqE | apply zLoopR | apply zLoopE | refine yYes' ?_ | refine yNo' ?_ | refine yNoU' ?_ | refine yLd' ?_ | refine yLdI' ?_ | refine yStS' ?_ | refine yStF' ?_ | refine ySt' ?_ | refine yBS' fun _ _ => ?_ | refine yAlloc' fun _ _ => ?_ | refine yBox' fun _ _ => ?_ | refine yOp' ?_ | refine yIfT ?_ | refine yIfF ?_ | refine yIf ?_ ?_ | refine ySplit' ?_ ?_ | refine yIfQ ?_ ?_ | refine ySplitQ' ?_ ?_ | refine yBlkX ?_ | intro _)
  refine zLoop (fun m s1 L => ∃ d : Nat, m = n - d ∧ d ≤ n ∧ get s1 3 = .sl b1 v1 0 n 1 true ∧ get s1 11 = .sl b ver 0 n 1 f ∧ get s1 12 = .int .i64 n ∧ get s1 13 = .int .i64 d ∧ L = [(.sl b1 v1 0 n 1 true, .sl n 1 true (List.replicate n (.at .nilS)))]) n ⟨0, rfl, Nat.zero_le _, rfl, rfl, rfl, rfl, rfl⟩ ?_
  rintro m s1 L ⟨d, hm, hd, g1, g2, g3, g4, rfl⟩
  simp only [cut_cons, cut_nil, g1, g2, g3, g4]
  clear g1 g2 g3 g4
  have hwd : w ((d : Int) + 1) = ((d + 1 : Nat) : Int) := w_id (by omega)
  by_cases hdn : d < n
  · have hdn' : (d : Int) < n := by omega
    have hidx := aidx70 b ver n f d hdn
    have hld : ∀ Hx, Fm ⟨H, []⟩ Hx → aload T 141 (.ptr b ver d) Hx = some .nilS := fun Hx hF => ld141 (hF.pre'.at hk) hc d hdn
    repeat' (first | apply zSeq | apply zReg | apply zSeqN | apply zSeqR | apply zSkip | apply zRet | apply zNil | apply zBlock | apply zExit | apply zBlkN | apply zBlkR | apply zBlkE | apply zSeqE | apply zLoopR | apply zLoopE | refine yYes' ?_ | refine yNo' ?_ | refine yNoU' ?_ | refine yLd' ?_ | refine yLdI' ?_ | refine yStS' ?_ | refine yStF' ?_ | refine ySt' ?_ | refine yBS' fun _ _ => ?_ | refine yAlloc' fun _ _ => ?_ | refine yBox' fun _ _ => ?_ | refine yOp' ?_ | refine yIfT ?_ | refine yIfF ?_ | refine yIf ?_ ?_ | refine ySplit' ?_ ?_ | refine yIfQ ?_ ?_ | refine ySplitQ' ?_ ?_ | refine yBlkX ?_ | intro _)
    refine zLoop (fun m s1 L => get s1 3 = .sl b1 v1 0 n 1 true ∧ get s1 11 = .sl b ver 0 n 1 f ∧ get s1 12 = .int .i64 n ∧ get s1 13 = .int .i64 d ∧ get s1 19 = .int .i64 0 ∧ get s1 20 = .int .i64 0 ∧ L = [(.sl b1 v1 0 n 1 true, .sl n 1 true (List.replicate n (.at .nilS)))]) 0 ⟨rfl, rfl, rfl, rfl, rfl, rfl, rfl⟩ ?_
    rintro m2 s2 L ⟨g1, g2, g3, g4, g5, g6, rfl⟩
    simp only [cut_cons, cut_nil, g1, g2, g3, g4, g5, g6]
    clear g1 g2 g3 g4 g5 g6
    repeat' (first | apply zSeq | apply zReg | apply zSeqN | apply zSeqR | apply zSkip | apply zRet | apply zNil | apply zBlock | apply zExit | apply zBlkN | apply zBlkR | apply zBlkE | apply zSeqE | apply zLoopR | apply zLoopE | refine yYes' ?_ | refine yNo' ?_ | refine yNoU' ?_ | refine yLd' ?_ | refine yLdI' ?_ | refine yStS' ?_ | refine yStF' ?_ | refine ySt' ?_ | refine yBS' fun _ _ => ?_ | refine yAlloc' fun _ _ => ?_ | refine yBox' fun _ _ => ?_ | refine yOp' ?_ | refine yIfT ?_ | refine yIfF ?_ | refine yIf ?_ ?_ | refine ySplit' ?_ ?_ | refine yIfQ ?_ ?_ | refine ySplitQ' ?_ ?_ | refine yBlkX ?_ | intro _)
    exact zLoopN (n - (d + 1)) (by omega) ⟨d + 1, rfl, by omega, rfl, rfl, rfl, rfl, rfl⟩
  · have hdn' : ¬ (d : Int) < n := by omega
    repeat' (first | apply zSeq | apply zReg | apply zSeqN | apply zSeqR | apply zSkip | apply zRet | apply zNil | apply zBlock | apply zExit | apply zBlkN | apply zBlkR | apply zBlkE | apply zSeqE | apply zLoopR | apply zLoopE | refine yYes' ?_ | refine yNo' ?_ | refine yNoU' ?_ | refine yLd' ?_ | refine yLdI' ?_ | refine yStS' ?_ | refine yStF' ?_ | refine ySt' ?_ | refine yBS' fun _ _ => ?_ | refine yAlloc' fun _ _ => ?_ | refine yBox' fun _ _ => ?_ | refine yOp' ?_ | refine yIfT ?_ | refine yIfF ?_ | refine yIf ?_ ?_ | refine ySplit' ?_ ?_ | refine yIfQ ?_ ?_ | refine ySplitQ' ?_ ?_ | refine yBlkX ?_ | intro _)
    exact zFin (vs := [.sl b1 v1 0 n 1 true]) (t := nilsTr n) (by simp) (fun H1 hS => by simp [rs117]) ⟨_, .pick .here⟩ (okT_nils _ _) hv2
/-! ### a maker as it was made -/
noncomputable def makerN (H : Hp) (m : AV) : Option Nat := (aload T 70 m H).bind fun l => nilsL H l
theorem makerN_some {H : Hp} {m : AV} {n : Nat} (h : makerN H m = some n) : ∃ b ver o bl vl f, m = .ptr b ver o ∧ aload T 70 (.ptr b ver o) H = some (.sl bl vl 0 n 1 f) ∧ nilsL H (.sl bl vl 0 n 1 f) = some n := by
  unfold makerN at h
  obtain ⟨l, hl, h2⟩ := Option.bind_eq_some_iff.1 h
  clear h
  obtain ⟨bl, vl, f, k, e, _⟩ := nilsL_some h2
  rw [e] at hl h2
  cases m with
  | ptr b ver o => exact ⟨_, _, _, _, _, _, rfl, hl, h2⟩
  | _ => simp [aload, T70] at hl
noncomputable def F120 (args : List AV) (H : Hp) : Option AV := match args with
  | [m] => (makerN H m).map fun (n : Nat) => AV.int .i64 (n : Int)
  | _ => none
theorem snd120 : Sound Try.prog 120 (FSem.pure F120).run := by
  refine sound_of hT (EOK_nil _) mixed A120 Try.func120 hb120 (by kernel_rfl) (by kernel_rfl) (by kernel_rfl) (by kernel_rfl) sh120 1 (by kernel_rfl) rs120 hr120 ?_
  intro args H r H' hw h
  obtain ⟨rfl, hv⟩ := pureAt h
  clear h
  unfold F120 at hv
  split at hv
  rotate_left
  · cases hv
  rename_i m
  obtain ⟨n, hn, hv2⟩ := Option.map_eq_some_iff.1 hv
  clear hv
  cases hv2
  obtain ⟨b, ver, o, bl, vl, f, rfl, hl, _⟩ := makerN_some hn
  have hlen := alen70 bl vl n f
  refine ⟨rfl, go ?_⟩
  unfold c120
  simp only [argSl]
  repeat' (first | apply goSeq | apply goReg | apply goSeqN | apply goSeqR | apply goSkip | apply goRet | apply goNil | apply goBlock | apply goExit | apply goBlkN | apply goBlkR | apply goBlkE | apply goSeqE | apply goLoopR | apply goLoopE | refine xOp ?_ | refine xOp0 ?_ | refine xYes ?_ | refine xNo ?_ | refine xNoU ?_ | refine xIfT ?_ | refine xIfF ?_ | refine xIf ?_ ?_ | refine xSplit ?_ ?_ | refine xIfQ ?_ ?_ | refine xSplitQ ?_ ?_ | refine xBlkX ?_ | intro _)
  exact goEnd hw (Pre.refl _) (by simp) (by simp [rs120]; exact rfl) rfl (by simp)
noncomputable def F52 (args : List AV) (H : Hp) : Option (AV × Hp) := match args with
  | [m] => (makerN H m).map fun n => mk (nilsTr n) H
  | _ => none
theorem snd52 : Sound Try.prog 52 (FSem.eff F52).run := by
  refine sound_of hT (EOK_cons snd117 (EOK_nil _)) mixed A52 Try.func52 hb52 (by kernel_rfl) (by kernel_rfl) (by kernel_rfl) (by kernel_rfl) sh52 1 (by kernel_rfl) rs52 hr52 ?_
  intro args H r H' hw h
  have hv : F52 args H = some (r, H') := h
  clear h
  unfold F52 at hv
  split at hv
  rotate_left
  · cases hv
  rename_i m
  obtain ⟨n, hn, hv2⟩ := Option.map_eq_some_iff.1 hv
  clear hv
  obtain ⟨b, ver, o, bl, vl, f, rfl, hl, hnl⟩ := makerN_some hn
  have k70 : ∀ Hx, Fm ⟨H, []⟩ Hx → aload T 70 (.ptr b ver o) Hx = some (.sl bl vl 0 n 1 f) := fun Hx hF => aload_ext hF.pre' hl
  refine ⟨rfl, go (zStart (SL.nil hw []) ?_)⟩
  unfold c52
  simp only [argSl]
  repeat' (first | apply zSeq | apply zReg | apply zSeqN | apply zSeqR | apply zSkip | apply zRet | apply zNil | apply zBlock | apply zExit | apply zBlkN | apply zBlkR | apply zBlkE | apply zSeqE | apply zLoopR | apply zLoopE | refine yYes' ?_ | refine yNo' ?_ | refine yNoU' ?_ | refine yLd' ?_ | refine yLdI' ?_ | refine yStS' ?_ | refine yStF' ?_ | refine ySt' ?_ | refine yBS' fun _ _ => ?_ | refine yAlloc' fun _ _ => ?_ | refine yBox' fun _ _ => ?_ | refine yOp' ?_ | refine yIfT ?_ | refine yIfF ?_ | refine yIf ?_ ?_ | refine ySplit' ?_ ?_ | refine yIfQ ?_ ?_ | refine ySplitQ' ?_ ?_ | refine yBlkX ?_ | intro _)
  refine zCall' (F := F117) (args := [.sl bl vl 0 n 1 f]) (t := nilsTr n) rfl rfl rfl (fun Hx hS hF => by simp [F117, nilsL_ext hF.pre' hnl]) fun v => ?_
  repeat' (first | apply zSeq | apply zReg | apply zSeqN | apply zSeqR | apply zSkip | apply zRet | apply zNil | apply zBlock | apply zExit | apply zBlkN | apply zBlkR | apply zBlkE | apply zSeqE | apply zLoopR | apply zLoopE | refine yYes' ?_ | refine yNo' ?_ | refine yNoU' ?_ | refine yLd' ?_ | refine yLdI' ?_ | refine yStS' ?_ | refine yStF' ?_ | refine ySt' ?_ | refine yBS' fun _ _ => ?_ | refine yAlloc' fun _ _ => ?_ | refine yBox' fun _ _ => ?_ | refine yOp' ?_ | refine yIfT ?_ | refine yIfF ?_ | refine yIf ?_ ?_ | refine ySplit' ?_ ?_ | refine yIfQ ?_ ?_ | refine ySplitQ' ?_ ?_ | refine yBlkX ?_ | intro _)
  exact zFin (vs := [v]) (t := nilsTr n) (by simp) (fun H1 hS => by simp [rs52]) ⟨_, .pick .here⟩ (okT_nils _ _) hv2
noncomputable def F122 (args : List AV) (H : Hp) : Option AV := match args with
  | [v] => (nilsL H v).map fun n => .int .i64 0
  | _ => none
theorem snd122 : Sound Try.prog 122 (FSem.pure F122).run := by
  refine sound_of hT (EOK_nil _) mixed A122 Try.func122 hb122 (by kernel_rfl) (by kernel_rfl) (by kernel_rfl) (by kernel_rfl) sh122 1 (by kernel_rfl) rs122 hr122 ?_
  intro args H r H' hw h
  obtain ⟨rfl, hv⟩ := pureAt h
  clear h
  unfold F122 at hv
  split at hv
  rotate_left
  · cases hv
  rename_i v
  obtain ⟨n, hn, hv2⟩ := Option.map_eq_some_iff.1 hv
  clear hv
  cases hv2
  obtain ⟨b, ver, f, k, rfl, hk, hc, hn8⟩ := nilsL_some hn
  have hlen := alen70 b ver n f
  have hnil := alen141
  refine ⟨rfl, go ?_⟩
  unfold c122
  simp only [argSl]
  repeat' (first | apply goSeq | apply goReg | apply goSeqN | apply goSeqR | apply goSkip | apply goRet | apply goNil | apply goBlock | apply goExit | apply goBlkN | apply goBlkR | apply goBlkE | apply goSeqE | apply goLoopR | apply goLoopE | refine xOp ?_ | refine xOp0 ?_ | refine xYes ?_ | refine xNo ?_ | refine xNoU ?_ | refine xIfT ?_ | refine xIfF ?_ | refine xIf ?_ ?_ | refine xSplit ?_ ?_ | refine xIfQ ?_ ?_ | refine xSplitQ ?_ ?_ | refine xBlkX ?_ | intro _)
  refine goLoop (fun m s1 H1 => H1 = H' ∧ ∃ d : Nat, m = n - d ∧ d ≤ n ∧ get s1 0 = .sl b ver 0 n 1 f ∧ get s1 3 = .int .i64 0 ∧ get s1 6 = .int .i64 n ∧ get s1 7 = .int .i64 d) n ⟨rfl, 0, rfl, Nat.zero_le _, rfl, rfl, rfl, rfl⟩ ?_
  rintro m s1 H1 ⟨rfl, d, hm, hd, g1, g2, g3, g4⟩
  simp only [cut_cons, cut_nil, g1, g2, g3, g4]
  clear g1 g2 g3 g4
  have hwd : w ((d : Int) + 1) = ((d + 1 : Nat) : Int) := w_id (by omega)
  have hw0 : w 0 = 0 := w_id (by omega)
  by_cases hdn : d < n
  · have hdn' : (d : Int) < n := by omega
    have hidx := aidx70 b ver n f d hdn
    have hld := ld141 hk hc d hdn
    repeat' (first | apply goSeq | apply goReg | apply goSeqN | apply goSeqR | apply goSkip | apply goRet | apply goNil | apply goBlock | apply goExit | apply goBlkN | apply goBlkR | apply goBlkE | apply goSeqE | apply goLoopR | apply goLoopE | refine xOp ?_ | refine xOp0 ?_ | refine xYes ?_ | refine xNo ?_ | refine xNoU ?_ | refine xIfT ?_ | refine xIfF ?_ | refine xIf ?_ ?_ | refine xSplit ?_ ?_ | refine xIfQ ?_ ?_ | refine xSplitQ ?_ ?_ | refine xBlkX ?_ | intro _)
    exact goLoopN (n - (d + 1)) (by omega) ⟨rfl, d + 1, rfl, by omega, rfl, rfl, rfl, rfl⟩
  · have hdn' : ¬ (d : Int) < n := by omega
    repeat' (first | apply goSeq | apply goReg | apply goSeqN | apply goSeqR | apply goSkip | apply goRet | apply goNil | apply goBlock | apply goExit | apply goBlkN | apply goBlkR | apply goBlkE | apply goSeqE | apply goLoopR | apply goLoopE | refine xOp ?_ | refine xOp0 ?_ | refine xYes ?_ | refine xNo ?_ | refine xNoU ?_ | refine xIfT ?_ | refine xIfF ?_ | refine xIf ?_ ?_ | refine xSplit ?_ ?_ | refine xIfQ ?_ ?_ | refine xSplitQ ?_ ?_ | refine xBlkX ?_ | intro _)
    exact goEnd hw (Pre.refl _) (by simp) (by simp [rs122]; exact rfl) rfl (by simp)
/- Walks: move.Do where it refuses. -/
noncomputable def b121a : Code := codeL b121
noncomputable def b121b : Code := codeL (codeR b121)
noncomputable def b121c : Code := codeL (codeR (codeR b121))
noncomputable def b121d : Code := codeR (codeR (codeR b121))
theorem b121_eq : b121 = .seq b121a (.seq b121b (.seq b121c b121d)) := by kernel_rfl
noncomputable def c121a : Cc := (.reg false [⟨some 12, (Op.assign (Operand.const (Value.slice none 0 0))), none⟩,
    ⟨some 13, (Op.assign (Operand.const (Value.int IntKind.i64 0))), none⟩])
noncomputable def c121b : Cc := (.reg false [⟨some 25, (Op.move (Operand.tmp 1)), none⟩,
    ⟨some 26, (Op.call { callee := (Callee.value (Operand.func 88)), args := #[(Operand.tmp 25)], argTypes := #[22] }), none⟩,
    ⟨some 14, (Op.assign (Operand.tmp 26)), none⟩])
noncomputable def c121c : Cc :=
  (.seq (.reg false [⟨some 27, (Op.move (Operand.tmp 0)), none⟩,
    ⟨some 28, (Op.binOp BinOp.eql 61 (Operand.tmp 27) (Operand.const (Value.pointer none)) 61), none⟩,
    ⟨some 29, (Op.move (Operand.tmp 28)), none⟩,
    ⟨some 30, (Op.move (Operand.tmp 1)), some (29, false)⟩,
    ⟨some 31, (Op.move (Operand.tmp 2)), some (29, false)⟩,
    ⟨some 32, (Op.move (Operand.tmp 3)), some (29, false)⟩,
    ⟨some 33, (Op.move (Operand.tmp 4)), some (29, false)⟩,
    ⟨some 34, (Op.call { callee := (Callee.value (Operand.func 150)), args := #[(Operand.tmp 30), (Operand.tmp 31), (Operand.tmp 32), (Operand.tmp 33)], argTypes := #[22, 22, 22, 22] }), some (29, false)⟩,
    ⟨some 35, (Op.unOp UnOp.not 4 (Operand.tmp 34)), some (29, false)⟩,
    ⟨some 36, (Op.pick (Operand.tmp 29) (Operand.const (Value.bool true)) (Operand.tmp 35)), none⟩,
    ⟨some 37, (Op.move (Operand.tmp 36)), none⟩,
    ⟨some 38, (Op.move (Operand.tmp 0)), some (37, false)⟩,
    ⟨some 39, (Op.call { callee := (Callee.value (Operand.func 120)), args := #[(Operand.tmp 38)], argTypes := #[61] }), some (37, false)⟩,
    ⟨some 40, (Op.move (Operand.tmp 14)), some (37, false)⟩,
    ⟨some 41, (Op.binOp BinOp.neq 3 (Operand.tmp 39) (Operand.tmp 40) 3), some (37, false)⟩,
    ⟨some 42, (Op.pick (Operand.tmp 37) (Operand.const (Value.bool true)) (Operand.tmp 41)), none⟩,
    ⟨some 43, (Op.move (Operand.tmp 42)), none⟩,
    ⟨some 44, (Op.move (Operand.tmp 5)), some (43, false)⟩,
    ⟨some 45, (Op.call { callee := (Callee.builtin Builtin.len), args := #[(Operand.tmp 44)], argTypes := #[22] }), some (43, false)⟩,
    ⟨some 46, (Op.move (Operand.tmp 14)), some (43, false)⟩,
    ⟨some 47, (Op.binOp BinOp.neq 3 (Operand.tmp 45) (Operand.tmp 46) 3), some (43, false)⟩,
    ⟨some 48, (Op.pick (Operand.tmp 43) (Operand.const (Value.bool true)) (Operand.tmp 47)), none⟩,
    ⟨some 49, (Op.move (Operand.tmp 48)), none⟩,
    ⟨some 50, (Op.move (Operand.tmp 5)), some (49, false)⟩,
    ⟨some 51, (Op.call { callee := (Callee.value (Operand.func 151)), args := #[(Operand.tmp 50), (Operand.func 152)], argTypes := #[22, 122] }), some (49, false)⟩,
    ⟨some 52, (Op.pick (Operand.tmp 49) (Operand.const (Value.bool true)) (Operand.tmp 51)), none⟩])
  (.cond (Operand.tmp 52)
    (.seq (.reg false [⟨some 12, (Op.assign (Operand.const (Value.slice none 0 0))), none⟩,
      ⟨some 13, (Op.assign (Operand.const (Value.int IntKind.i64 1))), none⟩])
    .ret)
    .skip))
theorem e121a : shortC A121 b121a = c121a := by kernel_rfl
theorem e121b : shortC A121 b121b = c121b := by kernel_rfl
theorem e121c : shortC A121 b121c = c121c := by kernel_rfl
/-- Does Do go on? -/
def goesOn (n : Nat) (sz s f t rg : List Int) : Prop := mayM sz s f t = true ∧ (n : Int) = devs sz ∧ (rg.length : Int) = devs sz ∧ (rg.any fun x => decide (x < 0)) = false
open Classical in
noncomputable def F121 (args : List AV) (H : Hp) : Option AV := match args with
  | [m, a, b, c, d, v] => (ints H a).bind fun sz => (ints H b).bind fun s => (ints H c).bind fun f => (ints H d).bind fun t => (ints H v).bind fun rg =>
      if m = .nilP then some (.tup [.nilS, .int .i64 1]) else (makerN H m).bind fun n => if goesOn n sz s f t rg then none else some (.tup [.nilS, .int .i64 1])
  | _ => none
set_option maxHeartbeats 2000000 in
theorem snd121 : Sound Try.prog 121 (FSem.pure F121).run := by
  refine sound_any hT (EOK_cons snd88 (EOK_cons snd120 (EOK_cons snd150 (EOK_cons snd151 (EOK_nil _))))) mixed A121 Try.func121 hb121 (by kernel_rfl) 6 (by kernel_rfl) rs121 hr121 ?_
  intro args H r H' hw h
  obtain ⟨rfl, hv⟩ := pureAt h
  clear h
  unfold F121 at hv
  split at hv
  rotate_left
  · cases hv
  rename_i m a b c d v
  obtain ⟨sz, ha, hv⟩ := Option.bind_eq_some_iff.1 hv
  obtain ⟨s, hb, hv⟩ := Option.bind_eq_some_iff.1 hv
  obtain ⟨f, hc, hv⟩ := Option.bind_eq_some_iff.1 hv
  obtain ⟨t, hd, hv⟩ := Option.bind_eq_some_iff.1 hv
  obtain ⟨rg, hr, hv2⟩ := Option.bind_eq_some_iff.1 hv
  clear hv
  have e150 := F150_of ha hb hc hd
  have e88 : F88 [a] H' = some (.int .i64 (devs sz)) := by simp [F88, ha]
  have e151 : F151 [v, .func 152 []] H' = some (.bool (rg.any fun x => decide (x < 0))) := by simp [F151, hr]
  have hlen := alenS_ints hr
  simp only [← alen22] at hlen
  refine ⟨rfl, fun hbad => ?_⟩
  rw [b121_eq]
  refine .seq (M := fun x s' H2 => x = .norm ∧ s' = [(13, .int .i64 0), (12, .nilS), (0, m), (1, a), (2, b), (3, c), (4, d), (5, v)] ∧ H2 = H') (XW.ofX (of_decide_eq_true (by kernel_rfl)) (by kernel_rfl) (by kernel_rfl) (by kernel_rfl) e121a hbad (go ?_)) ?_ (fun x s' H2 hx hm => absurd hm.1 hx)
  · unfold c121a
    simp only [argSl]
    repeat' (first | apply goSeq | apply goReg | apply goSeqN | apply goSeqR | apply goSkip | apply goRet | apply goNil | apply goBlock | apply goExit | apply goBlkN | apply goBlkR | apply goBlkE | apply goSeqE | apply goLoopR | apply goLoopE | refine xOp ?_ | refine xOp0 ?_ | refine xYes ?_ | refine xNo ?_ | refine xNoU ?_ | refine xIfT ?_ | refine xIfF ?_ | refine xIf ?_ ?_ | refine xSplit ?_ ?_ | refine xIfQ ?_ ?_ | refine xSplitQ ?_ ?_ | refine xBlkX ?_ | intro _)
    exact goFin fun hb => ⟨rfl, rfl, rfl⟩
  rintro s1 H1 ⟨_, rfl, rfl⟩
  refine .seq (M := fun x s' H2 => x = .norm ∧ s' = [(14, .int .i64 (devs sz)), (26, .int .i64 (devs sz)), (25, a), (13, .int .i64 0), (12, .nilS), (0, m), (1, a), (2, b), (3, c), (4, d), (5, v)] ∧ H2 = H1) (XW.ofX (of_decide_eq_true (by kernel_rfl)) (by kernel_rfl) (by kernel_rfl) (by kernel_rfl) e121b rfl (go ?_)) ?_ (fun x s' H2 hx hm => absurd hm.1 hx)
  · unfold c121b
    repeat' (first | apply goSeq | apply goReg | apply goSeqN | apply goSeqR | apply goSkip | apply goRet | apply goNil | apply goBlock | apply goExit | apply goBlkN | apply goBlkR | apply goBlkE | apply goSeqE | apply goLoopR | apply goLoopE | refine xOp ?_ | refine xOp0 ?_ | refine xYes ?_ | refine xNo ?_ | refine xNoU ?_ | refine xIfT ?_ | refine xIfF ?_ | refine xIf ?_ ?_ | refine xSplit ?_ ?_ | refine xIfQ ?_ ?_ | refine xSplitQ ?_ ?_ | refine xBlkX ?_ | intro _)
    exact goFin fun hb => ⟨rfl, rfl, rfl⟩
  rintro s1 H2 ⟨_, rfl, rfl⟩
  have fin : ∀ (s' : Sl), get s' 12 = .nilS → get s' 13 = .int .i64 1 → r = .tup [.nilS, .int .i64 1] → (Ex.ret = .norm ∨ Ex.ret = .ret) ∧ ∃ vs js, xres T s' H2 rs121 = some vs ∧ Can H2 H2 H2 (xret vs) r js := fun s' e1 e2 e3 => by
    subst e3
    exact ⟨.inr rfl, [.nilS, .int .i64 1], [], by simp [rs121, e1, e2], Can.pure hw (Pre.refl _) rfl⟩
  refine .seq (M := fun x s' H3 => x ≠ .norm ∧ ((x = .norm ∨ x = .ret) ∧ ∃ vs js, xres T s' H3 rs121 = some vs ∧ Can H2 H3 H2 (xret vs) r js)) (XW.ofX (of_decide_eq_true (by kernel_rfl)) (by kernel_rfl) (by kernel_rfl) (by kernel_rfl) e121c rfl (go ?_)) (fun s' H2 hm => absurd rfl hm.1) (fun x s' H2 _ hm => hm.2)
  unfold c121c
  generalize hD : devs sz = D at *
  by_cases hm : m = .nilP
  · subst hm
    rw [if_pos rfl] at hv2
    have hr2 := (Option.some.inj hv2).symm
    clear hv2
    repeat' (first | apply goSeq | apply goReg | apply goSeqN | apply goSeqR | apply goSkip | apply goRet | apply goNil | apply goBlock | apply goExit | apply goBlkN | apply goBlkR | apply goBlkE | apply goSeqE | apply goLoopR | apply goLoopE | refine xOp ?_ | refine xOp0 ?_ | refine xYes ?_ | refine xNo ?_ | refine xNoU ?_ | refine xIfT ?_ | refine xIfF ?_ | refine xIf ?_ ?_ | refine xSplit ?_ ?_ | refine xIfQ ?_ ?_ | refine xSplitQ ?_ ?_ | refine xBlkX ?_ | intro _)
    exact goFin fun hb => ⟨(fun h => by cases h), fin _ rfl rfl hr2⟩
  rw [if_neg hm] at hv2
  obtain ⟨n, hn, hv3⟩ := Option.bind_eq_some_iff.1 hv2
  clear hv2
  split at hv3
  · cases hv3
  rename_i hno
  have hr2 := (Option.some.inj hv3).symm
  clear hv3
  have e120 : F120 [m] H2 = some (.int .i64 n) := by simp [F120, hn]
  obtain ⟨b', ver, o, bl, vl, f', rfl, _, _⟩ := makerN_some hn
  unfold goesOn at hno
  rcases hq : mayM sz s f t with _ | _
  · rw [hq] at e150
    repeat' (first | apply goSeq | apply goReg | apply goSeqN | apply goSeqR | apply goSkip | apply goRet | apply goNil | apply goBlock | apply goExit | apply goBlkN | apply goBlkR | apply goBlkE | apply goSeqE | apply goLoopR | apply goLoopE | refine xOp ?_ | refine xOp0 ?_ | refine xYes ?_ | refine xNo ?_ | refine xNoU ?_ | refine xIfT ?_ | refine xIfF ?_ | refine xIf ?_ ?_ | refine xSplit ?_ ?_ | refine xIfQ ?_ ?_ | refine xSplitQ ?_ ?_ | refine xBlkX ?_ | intro _)
    exact goFin fun hb => ⟨(fun h => by cases h), fin _ rfl rfl hr2⟩
  rw [hq] at e150
  by_cases h2 : (n : Int) = D
  rotate_left
  · repeat' (first | apply goSeq | apply goReg | apply goSeqN | apply goSeqR | apply goSkip | apply goRet | apply goNil | apply goBlock | apply goExit | apply goBlkN | apply goBlkR | apply goBlkE | apply goSeqE | apply goLoopR | apply goLoopE | refine xOp ?_ | refine xOp0 ?_ | refine xYes ?_ | refine xNo ?_ | refine xNoU ?_ | refine xIfT ?_ | refine xIfF ?_ | refine xIf ?_ ?_ | refine xSplit ?_ ?_ | refine xIfQ ?_ ?_ | refine xSplitQ ?_ ?_ | refine xBlkX ?_ | intro _)
    exact goFin fun hb => ⟨(fun h => by cases h), fin _ rfl rfl hr2⟩
  by_cases h3 : (rg.length : Int) = D
  rotate_left
  · repeat' (first | apply goSeq | apply goReg | apply goSeqN | apply goSeqR | apply goSkip | apply goRet | apply goNil | apply goBlock | apply goExit | apply goBlkN | apply goBlkR | apply goBlkE | apply goSeqE | apply goLoopR | apply goLoopE | refine xOp ?_ | refine xOp0 ?_ | refine xYes ?_ | refine xNo ?_ | refine xNoU ?_ | refine xIfT ?_ | refine xIfF ?_ | refine xIf ?_ ?_ | refine xSplit ?_ ?_ | refine xIfQ ?_ ?_ | refine xSplitQ ?_ ?_ | refine xBlkX ?_ | intro _)
    exact goFin fun hb => ⟨(fun h => by cases h), fin _ rfl rfl hr2⟩
  have h4 : (rg.any fun x => decide (x < 0)) = true := by
    rcases h : (rg.any fun x => decide (x < 0)) with _ | _
    · exact absurd ⟨hq, h2.trans hD.symm, h3.trans hD.symm, h⟩ hno
    · rfl
  rw [h4] at e151
  clear hno
  repeat' (first | apply goSeq | apply goReg | apply goSeqN | apply goSeqR | apply goSkip | apply goRet | apply goNil | apply goBlock | apply goExit | apply goBlkN | apply goBlkR | apply goBlkE | apply goSeqE | apply goLoopR | apply goLoopE | refine xOp ?_ | refine xOp0 ?_ | refine xYes ?_ | refine xNo ?_ | refine xNoU ?_ | refine xIfT ?_ | refine xIfF ?_ | refine xIf ?_ ?_ | refine xSplit ?_ ?_ | refine xIfQ ?_ ?_ | refine xSplitQ ?_ ?_ | refine xBlkX ?_ | intro _)
  exact goFin fun hb => ⟨(fun h => by cases h), fin _ rfl rfl hr2⟩
/- Functions in short form. -/
/-! parquetry/parquetrylaw23.known (0 parameters; calls 74 parquetry/code.New, 119 parquetry/move.Bound, 121 parquetry/move.Do) -/
def A55 : Ann := { drop := fun i => false }
noncomputable def c55 : Cc :=
  (.seq (.reg false [⟨some 0, (Op.assign (Operand.const (Value.bool false))), none⟩])
  (.seq (.reg false [⟨some 6, (Op.call { callee := (Callee.value (Operand.func 74)), args := #[(Operand.const (Value.int IntKind.i64 2))], argTypes := #[3] }), none⟩,
    ⟨some 1, (Op.assign (Operand.tmp 6)), none⟩])
  (.seq (.reg false [⟨some 8, (Op.move (Operand.tmp 1)), none⟩,
    ⟨some 9, (Op.buildSlice 22 1 #[(0, (Operand.const (Value.int IntKind.i64 2)))]), none⟩,
    ⟨some 10, (Op.buildSlice 22 1 #[(0, (Operand.const (Value.int IntKind.i64 4)))]), none⟩,
    ⟨some 11, (Op.buildSlice 22 1 #[(0, (Operand.const (Value.int IntKind.i64 0)))]), none⟩,
    ⟨some 12, (Op.buildSlice 22 2 #[(0, (Operand.const (Value.int IntKind.i64 0))), (1, (Operand.const (Value.int IntKind.i64 (-1))))]), none⟩,
    ⟨some 13, (Op.buildSlice 22 2 #[(0, (Operand.const (Value.int IntKind.i64 0))), (1, (Operand.const (Value.int IntKind.i64 0)))]), none⟩,
    ⟨some 14, (Op.call { callee := (Callee.value (Operand.func 121)), args := #[(Operand.tmp 8), (Operand.tmp 9), (Operand.tmp 10), (Operand.tmp 11), (Operand.tmp 12), (Operand.tmp 13)], argTypes := #[61, 22, 22, 22, 22, 22] }), none⟩,
    ⟨some 7, (Op.move (Operand.tmp 14)), none⟩,
    ⟨some 15, (Op.extract (Operand.tmp 7) 0), none⟩,
    ⟨some 16, (Op.extract (Operand.tmp 7) 1), none⟩,
    ⟨some 2, (Op.assign (Operand.tmp 15)), none⟩,
    ⟨some 3, (Op.assign (Operand.tmp 16)), none⟩])
  (.seq (.reg false [⟨some 18, (Op.buildSlice 22 1 #[(0, (Operand.const (Value.int IntKind.i64 0)))]), none⟩,
    ⟨some 19, (Op.call { callee := (Callee.value (Operand.func 121)), args := #[(Operand.const (Value.pointer none)), (Operand.const (Value.slice none 0 0)), (Operand.const (Value.slice none 0 0)), (Operand.const (Value.slice none 0 0)), (Operand.const (Value.slice none 0 0)), (Operand.tmp 18)], argTypes := #[61, 22, 22, 22, 22, 22] }), none⟩,
    ⟨some 17, (Op.move (Operand.tmp 19)), none⟩,
    ⟨some 20, (Op.extract (Operand.tmp 17) 0), none⟩,
    ⟨some 21, (Op.extract (Operand.tmp 17) 1), none⟩,
    ⟨some 4, (Op.assign (Operand.tmp 20)), none⟩,
    ⟨some 5, (Op.assign (Operand.tmp 21)), none⟩])
  (.seq (.reg false [⟨some 22, (Op.move (Operand.tmp 3)), none⟩,
    ⟨some 23, (Op.binOp BinOp.eql 46 (Operand.tmp 22) (Operand.const (Value.int IntKind.i64 1)) 46), none⟩,
    ⟨some 24, (Op.move (Operand.tmp 23)), none⟩,
    ⟨some 25, (Op.move (Operand.tmp 5)), some (24, true)⟩,
    ⟨some 26, (Op.binOp BinOp.eql 46 (Operand.tmp 25) (Operand.const (Value.int IntKind.i64 1)) 46), some (24, true)⟩,
    ⟨some 27, (Op.pick (Operand.tmp 24) (Operand.tmp 26) (Operand.const (Value.bool false))), none⟩,
    ⟨some 28, (Op.move (Operand.tmp 27)), none⟩,
    ⟨some 29, (Op.buildSlice 22 1 #[(0, (Operand.const (Value.int IntKind.i64 2)))]), some (28, true)⟩,
    ⟨some 30, (Op.buildSlice 22 1 #[(0, (Operand.const (Value.int IntKind.i64 4)))]), some (28, true)⟩,
    ⟨some 31, (Op.buildSlice 22 1 #[(0, (Operand.const (Value.int IntKind.i64 0)))]), some (28, true)⟩,
    ⟨some 32, (Op.buildSlice 22 1 #[(0, (Operand.const (Value.int IntKind.i64 (-1))))]), some (28, true)⟩,
    ⟨some 33, (Op.call { callee := (Callee.value (Operand.func 119)), args := #[(Operand.tmp 29), (Operand.tmp 30), (Operand.tmp 31), (Operand.tmp 32)], argTypes := #[22, 22, 22, 22] }), some (28, true)⟩,
    ⟨some 34, (Op.binOp BinOp.eql 3 (Operand.tmp 33) (Operand.const (Value.int IntKind.i64 320)) 3), some (28, true)⟩,
    ⟨some 35, (Op.pick (Operand.tmp 28) (Operand.tmp 34) (Operand.const (Value.bool false))), none⟩,
    ⟨some 36, (Op.move (Operand.tmp 35)), none⟩,
    ⟨some 37, (Op.buildSlice 22 1 #[(0, (Operand.const (Value.int IntKind.i64 9)))]), some (36, true)⟩,
    ⟨some 38, (Op.call { callee := (Callee.value (Operand.func 119)), args := #[(Operand.tmp 37), (Operand.const (Value.slice none 0 0)), (Operand.const (Value.slice none 0 0)), (Operand.const (Value.slice none 0 0))], argTypes := #[22, 22, 22, 22] }), some (36, true)⟩,
    ⟨some 39, (Op.binOp BinOp.eql 3 (Operand.tmp 38) (Operand.const (Value.int IntKind.i64 0)) 3), some (36, true)⟩,
    ⟨some 40, (Op.pick (Operand.tmp 36) (Operand.tmp 39) (Operand.const (Value.bool false))), none⟩,
    ⟨some 0, (Op.assign (Operand.tmp 40)), none⟩])
  .ret)))))
noncomputable def b55 : Code := Try.f55.body.getD .skip
theorem hb55 : Try.f55.body = some b55 := by kernel_rfl
theorem sh55 : shortC A55 b55 = c55 := by kernel_rfl
def rs55 : List ResultVar := [(ResultVar.tmp 0)]
theorem hr55 : Try.f55.results.toList = rs55 := by kernel_rfl
/-! parquetry/parquetrylaw23.refuses (6 parameters; calls 20 parquetry/parquetryref14.Devices, 52 (*parquetry/code.Maker).Programs, 74 parquetry/code.New, 118 parquetry/parquetrylaw23.may, 119 parquetry/move.Bound, 120 (*parquetry/code.Maker).Devices, 121 parquetry/move.Do, 122 parquetry/parquetrylaw23.count) -/
def A54 : Ann := { live := fun i => if i = 12 then [1, 2, 3, 4, 5, 13, 16, 60, 61] else [], drop := fun i => false }
noncomputable def c54 : Cc :=
  (.seq (.reg false [⟨some 12, (Op.assign (Operand.const (Value.bool false))), none⟩])
  (.seq (.reg false [⟨some 20, (Op.move (Operand.tmp 0)), none⟩,
    ⟨some 21, (Op.binOp BinOp.and 3 (Operand.tmp 20) (Operand.const (Value.int IntKind.i64 7)) 3), none⟩,
    ⟨some 22, (Op.binOp BinOp.add 3 (Operand.const (Value.int IntKind.i64 1)) (Operand.tmp 21) 3), none⟩,
    ⟨some 23, (Op.call { callee := (Callee.value (Operand.func 74)), args := #[(Operand.tmp 22)], argTypes := #[3] }), none⟩,
    ⟨some 13, (Op.assign (Operand.tmp 23)), none⟩])
  (.seq (.seq (.reg false [⟨some 24, (Op.move (Operand.tmp 13)), none⟩,
    ⟨some 25, (Op.binOp BinOp.eql 61 (Operand.tmp 24) (Operand.const (Value.pointer none)) 61), none⟩])
  (.cond (Operand.tmp 25)
    (.seq (.reg false [⟨some 12, (Op.assign (Operand.const (Value.bool false))), none⟩])
    .ret)
    .skip))
  (.seq (.reg false [⟨some 26, (Op.move (Operand.tmp 1)), none⟩,
    ⟨some 27, (Op.call { callee := (Callee.value (Operand.func 20)), args := #[(Operand.tmp 26)], argTypes := #[22] }), none⟩,
    ⟨some 14, (Op.assign (Operand.tmp 27)), none⟩])
  (.seq (.reg false [⟨some 15, (Op.assign (Operand.const (Value.int IntKind.i64 0))), none⟩])
  (.seq (.seq (.reg false [⟨some 28, (Op.move (Operand.tmp 1)), none⟩,
    ⟨some 29, (Op.move (Operand.tmp 2)), none⟩,
    ⟨some 30, (Op.move (Operand.tmp 3)), none⟩,
    ⟨some 31, (Op.move (Operand.tmp 4)), none⟩,
    ⟨some 32, (Op.call { callee := (Callee.value (Operand.func 118)), args := #[(Operand.tmp 28), (Operand.tmp 29), (Operand.tmp 30), (Operand.tmp 31)], argTypes := #[22, 22, 22, 22] }), none⟩])
  (.cond (Operand.tmp 32)
    (.reg false [⟨some 33, (Op.move (Operand.tmp 14)), none⟩,
      ⟨some 34, (Op.binOp BinOp.mul 3 (Operand.const (Value.int IntKind.i64 64)) (Operand.tmp 33) 3), none⟩,
      ⟨some 35, (Op.move (Operand.tmp 14)), none⟩,
      ⟨some 36, (Op.binOp BinOp.mul 3 (Operand.tmp 34) (Operand.tmp 35) 3), none⟩,
      ⟨some 37, (Op.binOp BinOp.add 3 (Operand.tmp 36) (Operand.const (Value.int IntKind.i64 64)) 3), none⟩,
      ⟨some 15, (Op.assign (Operand.tmp 37)), none⟩])
    .skip))
  (.seq (.seq (.reg false [⟨some 38, (Op.move (Operand.tmp 1)), none⟩,
    ⟨some 39, (Op.move (Operand.tmp 2)), none⟩,
    ⟨some 40, (Op.move (Operand.tmp 3)), none⟩,
    ⟨some 41, (Op.move (Operand.tmp 4)), none⟩,
    ⟨some 42, (Op.call { callee := (Callee.value (Operand.func 119)), args := #[(Operand.tmp 38), (Operand.tmp 39), (Operand.tmp 40), (Operand.tmp 41)], argTypes := #[22, 22, 22, 22] }), none⟩,
    ⟨some 43, (Op.move (Operand.tmp 15)), none⟩,
    ⟨some 44, (Op.binOp BinOp.neq 3 (Operand.tmp 42) (Operand.tmp 43) 3), none⟩])
  (.cond (Operand.tmp 44)
    (.seq (.reg false [⟨some 12, (Op.assign (Operand.const (Value.bool false))), none⟩])
    .ret)
    .skip))
  (.seq (.reg false [⟨some 45, (Op.move (Operand.tmp 15)), none⟩,
    ⟨some 46, (Op.binOp BinOp.gtr 3 (Operand.tmp 45) (Operand.const (Value.int IntKind.i64 0)) 3), none⟩,
    ⟨some 47, (Op.move (Operand.tmp 46)), none⟩,
    ⟨some 48, (Op.move (Operand.tmp 14)), some (47, true)⟩,
    ⟨some 49, (Op.move (Operand.tmp 13)), some (47, true)⟩,
    ⟨some 50, (Op.call { callee := (Callee.value (Operand.func 120)), args := #[(Operand.tmp 49)], argTypes := #[61] }), some (47, true)⟩,
    ⟨some 51, (Op.binOp BinOp.eql 3 (Operand.tmp 48) (Operand.tmp 50) 3), some (47, true)⟩,
    ⟨some 52, (Op.pick (Operand.tmp 47) (Operand.tmp 51) (Operand.const (Value.bool false))), none⟩,
    ⟨some 53, (Op.move (Operand.tmp 52)), none⟩,
    ⟨some 54, (Op.move (Operand.tmp 5)), some (53, true)⟩,
    ⟨some 55, (Op.call { callee := (Callee.builtin Builtin.len), args := #[(Operand.tmp 54)], argTypes := #[22] }), some (53, true)⟩,
    ⟨some 56, (Op.move (Operand.tmp 14)), some (53, true)⟩,
    ⟨some 57, (Op.binOp BinOp.eql 3 (Operand.tmp 55) (Operand.tmp 56) 3), some (53, true)⟩,
    ⟨some 58, (Op.pick (Operand.tmp 53) (Operand.tmp 57) (Operand.const (Value.bool false))), none⟩,
    ⟨some 16, (Op.assign (Operand.tmp 58)), none⟩])
  (.seq (.seq (.reg false [⟨some 59, (Op.move (Operand.tmp 5)), none⟩,
    ⟨some 60, (Op.call { callee := (Callee.builtin Builtin.len), args := #[(Operand.tmp 59)], argTypes := #[22] }), none⟩,
    ⟨some 61, (Op.move (Operand.const (Value.int IntKind.i64 0))), none⟩])
  (.block 0 (.loop [1, 2, 3, 4, 5, 13, 16, 60, 61] false
    (.seq (.reg false [⟨some 62, (Op.binOp BinOp.lss 3 (Operand.tmp 61) (Operand.tmp 60) 3), none⟩])
    (.seq (.cond (Operand.tmp 62)
      .skip
      (.exit 0))
    (.seq (.block 1 (.seq (.reg false [⟨some 63, (Op.move (Operand.tmp 61)), none⟩,
      ⟨some 17, (Op.assign (Operand.tmp 63)), none⟩])
    (.reg false [⟨some 64, (Op.move (Operand.tmp 16)), none⟩,
      ⟨some 65, (Op.move (Operand.tmp 64)), none⟩,
      ⟨some 66, (Op.move (Operand.tmp 5)), some (65, true)⟩,
      ⟨some 67, (Op.move (Operand.tmp 17)), some (65, true)⟩,
      ⟨some 68, (Op.indexAddr 22 (Operand.tmp 66) (Operand.tmp 67)), some (65, true)⟩,
      ⟨some 69, (Op.load 3 (Operand.tmp 68)), some (65, true)⟩,
      ⟨some 70, (Op.binOp BinOp.geq 3 (Operand.tmp 69) (Operand.const (Value.int IntKind.i64 0)) 3), some (65, true)⟩,
      ⟨some 71, (Op.pick (Operand.tmp 65) (Operand.tmp 70) (Operand.const (Value.bool false))), none⟩,
      ⟨some 16, (Op.assign (Operand.tmp 71)), none⟩])))
    (.reg false [⟨some 72, (Op.binOp BinOp.add 3 (Operand.tmp 61) (Operand.const (Value.int IntKind.i64 1)) 3), none⟩,
      ⟨some 61, (Op.move (Operand.tmp 72)), none⟩])))))))
  (.seq (.seq (.reg false [⟨some 73, (Op.move (Operand.tmp 16)), none⟩])
  (.cond (Operand.tmp 73)
    (.seq (.reg false [⟨some 12, (Op.assign (Operand.const (Value.bool true))), none⟩])
    .ret)
    .skip))
  (.seq (.reg false [⟨some 75, (Op.move (Operand.tmp 13)), none⟩,
    ⟨some 76, (Op.move (Operand.tmp 1)), none⟩,
    ⟨some 77, (Op.move (Operand.tmp 2)), none⟩,
    ⟨some 78, (Op.move (Operand.tmp 3)), none⟩,
    ⟨some 79, (Op.move (Operand.tmp 4)), none⟩,
    ⟨some 80, (Op.move (Operand.tmp 5)), none⟩,
    ⟨some 81, (Op.call { callee := (Callee.value (Operand.func 121)), args := #[(Operand.tmp 75), (Operand.tmp 76), (Operand.tmp 77), (Operand.tmp 78), (Operand.tmp 79), (Operand.tmp 80)], argTypes := #[61, 22, 22, 22, 22, 22] }), none⟩,
    ⟨some 74, (Op.move (Operand.tmp 81)), none⟩,
    ⟨some 82, (Op.extract (Operand.tmp 74) 0), none⟩,
    ⟨some 83, (Op.extract (Operand.tmp 74) 1), none⟩,
    ⟨some 18, (Op.assign (Operand.tmp 82)), none⟩,
    ⟨some 19, (Op.assign (Operand.tmp 83)), none⟩])
  (.seq (.reg false [⟨some 84, (Op.move (Operand.tmp 19)), none⟩,
    ⟨some 85, (Op.binOp BinOp.eql 46 (Operand.tmp 84) (Operand.const (Value.int IntKind.i64 1)) 46), none⟩,
    ⟨some 86, (Op.move (Operand.tmp 85)), none⟩,
    ⟨some 87, (Op.move (Operand.tmp 18)), some (86, true)⟩,
    ⟨some 88, (Op.call { callee := (Callee.builtin Builtin.len), args := #[(Operand.tmp 87)], argTypes := #[22] }), some (86, true)⟩,
    ⟨some 89, (Op.binOp BinOp.eql 3 (Operand.tmp 88) (Operand.const (Value.int IntKind.i64 0)) 3), some (86, true)⟩,
    ⟨some 90, (Op.pick (Operand.tmp 86) (Operand.tmp 89) (Operand.const (Value.bool false))), none⟩,
    ⟨some 91, (Op.move (Operand.tmp 90)), none⟩,
    ⟨some 92, (Op.move (Operand.tmp 13)), some (91, true)⟩,
    ⟨some 93, (Op.call { callee := (Callee.value (Operand.func 52)), args := #[(Operand.tmp 92)], argTypes := #[61] }), some (91, true)⟩,
    ⟨some 94, (Op.call { callee := (Callee.value (Operand.func 122)), args := #[(Operand.tmp 93)], argTypes := #[70] }), some (91, true)⟩,
    ⟨some 95, (Op.binOp BinOp.eql 3 (Operand.tmp 94) (Operand.const (Value.int IntKind.i64 0)) 3), some (91, true)⟩,
    ⟨some 96, (Op.pick (Operand.tmp 91) (Operand.tmp 95) (Operand.const (Value.bool false))), none⟩,
    ⟨some 12, (Op.assign (Operand.tmp 96)), none⟩])
  .ret))))))))))))
noncomputable def b54 : Code := Try.f54.body.getD .skip
theorem hb54 : Try.f54.body = some b54 := by kernel_rfl
theorem sh54 : shortC A54 b54 = c54 := by kernel_rfl
def rs54 : List ResultVar := [(ResultVar.tmp 12)]
theorem hr54 : Try.f54.results.toList = rs54 := by kernel_rfl
/-! parquetry/parquetrylaw23.MoveRefuses (7 parameters; calls 53 parquetry/parquetrylaw23.made, 54 parquetry/parquetrylaw23.refuses, 55 parquetry/parquetrylaw23.known) -/
def A15 : Ann := { drop := fun i => false }
noncomputable def c15 : Cc :=
  (.seq (.reg false [⟨some 14, (Op.assign (Operand.const (Value.bool false))), none⟩])
  (.seq (.reg false [⟨some 20, (Op.move (Operand.tmp 0)), none⟩,
    ⟨some 21, (Op.call { callee := (Callee.value (Operand.func 53)), args := #[(Operand.tmp 20)], argTypes := #[22] }), none⟩,
    ⟨some 19, (Op.move (Operand.tmp 21)), none⟩,
    ⟨some 22, (Op.extract (Operand.tmp 19) 0), none⟩,
    ⟨some 23, (Op.extract (Operand.tmp 19) 1), none⟩,
    ⟨some 24, (Op.extract (Operand.tmp 19) 2), none⟩,
    ⟨some 25, (Op.extract (Operand.tmp 19) 3), none⟩,
    ⟨some 15, (Op.alloc 40), none⟩,
    ⟨none, (Op.store 40 (Operand.tmp 15) (Operand.tmp 22)), none⟩,
    ⟨some 16, (Op.assign (Operand.tmp 23)), none⟩,
    ⟨some 17, (Op.assign (Operand.tmp 24)), none⟩,
    ⟨some 18, (Op.assign (Operand.tmp 25)), none⟩])
  (.seq (.reg false [⟨some 26, (Op.move (Operand.tmp 1)), none⟩,
    ⟨some 27, (Op.move (Operand.tmp 2)), none⟩,
    ⟨some 28, (Op.move (Operand.tmp 3)), none⟩,
    ⟨some 29, (Op.move (Operand.tmp 4)), none⟩,
    ⟨some 30, (Op.move (Operand.tmp 5)), none⟩,
    ⟨some 31, (Op.move (Operand.tmp 6)), none⟩,
    ⟨some 32, (Op.call { callee := (Callee.value (Operand.func 54)), args := #[(Operand.tmp 26), (Operand.tmp 27), (Operand.tmp 28), (Operand.tmp 29), (Operand.tmp 30), (Operand.tmp 31)], argTypes := #[3, 22, 22, 22, 22, 22] }), none⟩,
    ⟨some 33, (Op.move (Operand.tmp 32)), none⟩,
    ⟨some 34, (Op.move (Operand.tmp 1)), some (33, true)⟩,
    ⟨some 35, (Op.move (Operand.tmp 16)), some (33, true)⟩,
    ⟨some 36, (Op.fieldAddr 40 (Operand.tmp 15) 0), some (33, true)⟩,
    ⟨some 37, (Op.load 22 (Operand.tmp 36)), some (33, true)⟩,
    ⟨some 38, (Op.move (Operand.tmp 17)), some (33, true)⟩,
    ⟨some 39, (Op.move (Operand.tmp 5)), some (33, true)⟩,
    ⟨some 40, (Op.move (Operand.tmp 6)), some (33, true)⟩,
    ⟨some 41, (Op.call { callee := (Callee.value (Operand.func 54)), args := #[(Operand.tmp 34), (Operand.tmp 35), (Operand.tmp 37), (Operand.tmp 38), (Operand.tmp 39), (Operand.tmp 40)], argTypes := #[3, 22, 22, 22, 22, 22] }), some (33, true)⟩,
    ⟨some 42, (Op.pick (Operand.tmp 33) (Operand.tmp 41) (Operand.const (Value.bool false))), none⟩,
    ⟨some 43, (Op.move (Operand.tmp 42)), none⟩,
    ⟨some 44, (Op.move (Operand.tmp 1)), some (43, true)⟩,
    ⟨some 45, (Op.move (Operand.tmp 16)), some (43, true)⟩,
    ⟨some 46, (Op.fieldAddr 40 (Operand.tmp 15) 0), some (43, true)⟩,
    ⟨some 47, (Op.load 22 (Operand.tmp 46)), some (43, true)⟩,
    ⟨some 48, (Op.move (Operand.tmp 17)), some (43, true)⟩,
    ⟨some 49, (Op.move (Operand.tmp 18)), some (43, true)⟩,
    ⟨some 50, (Op.move (Operand.tmp 6)), some (43, true)⟩,
    ⟨some 51, (Op.call { callee := (Callee.value (Operand.func 54)), args := #[(Operand.tmp 44), (Operand.tmp 45), (Operand.tmp 47), (Operand.tmp 48), (Operand.tmp 49), (Operand.tmp 50)], argTypes := #[3, 22, 22, 22, 22, 22] }), some (43, true)⟩,
    ⟨some 52, (Op.pick (Operand.tmp 43) (Operand.tmp 51) (Operand.const (Value.bool false))), none⟩,
    ⟨some 53, (Op.move (Operand.tmp 52)), none⟩,
    ⟨some 54, (Op.call { callee := (Callee.value (Operand.func 55)), args := #[], argTypes := #[] }), some (53, true)⟩,
    ⟨some 55, (Op.pick (Operand.tmp 53) (Operand.tmp 54) (Operand.const (Value.bool false))), none⟩,
    ⟨some 14, (Op.assign (Operand.tmp 55)), none⟩])
  .ret)))
noncomputable def b15 : Code := Try.f15.body.getD .skip
theorem hb15 : Try.f15.body = some b15 := by kernel_rfl
theorem sh15 : shortC A15 b15 = c15 := by kernel_rfl
def rs15 : List ResultVar := [(ResultVar.tmp 14)]
theorem hr15 : Try.f15.results.toList = rs15 := by kernel_rfl
/- Walks: known of chapter 23. -/
theorem F121_no {H : Hp} {m a b c d v : AV} {n : Nat} {sz s f t rg : List Int} (hn : makerN H m = some n) (h1 : ints H a = some sz) (h2 : ints H b = some s) (h3 : ints H c = some f) (h4 : ints H d = some t) (h5 : ints H v = some rg) (hno : ¬ goesOn n sz s f t rg) : F121 [m, a, b, c, d, v] H = some (.tup [.nilS, .int .i64 1]) := by
  simp only [F121, h1, h2, h3, h4, h5, Option.bind_some]
  rw [if_neg (by rintro rfl; obtain ⟨_, _, _, _, _, _, h, _⟩ := makerN_some hn; cases h), hn, Option.bind_some, if_neg hno]
theorem F121_nil {H : Hp} {a b c d v : AV} {sz s f t rg : List Int} (h1 : ints H a = some sz) (h2 : ints H b = some s) (h3 : ints H c = some f) (h4 : ints H d = some t) (h5 : ints H v = some rg) : F121 [.nilP, a, b, c, d, v] H = some (.tup [.nilS, .int .i64 1]) := by
  simp only [F121, h1, h2, h3, h4, h5, Option.bind_some]
  rw [if_pos trivial]
theorem SL.maker {B : Bs} {L : Lo} {H : Hp} (h : SL B L H) (i : Nat) {n : Nat} {v : AV} (hi : L[i]? = some (v, newTr n)) (hn : n ≤ 8) : makerN H v = some n := by
  obtain ⟨bs, h1, h2, h3⟩ := h.rx
  obtain ⟨v', b1, b', b2, g1, rfl, g3, _, g5⟩ := RXs.pick _ h1 i _ (getE hi)
  rw [getE hi] at g1
  cases g1
  simp only [newTr, RX, RXs] at g3
  obtain ⟨b, ver, vs, bs', rfl, hk, ⟨x, rest, c1, c2, rfl, ⟨bl, vl, us, c3, rfl, hk2, hus, _⟩, _, _⟩, _⟩ := g3
  have e : List.replicate n (Tr.at .nilS) = (List.replicate n AV.nilS).map .at := by simp
  rw [e] at hus
  have hu := RXs.leafEq _ hus rfl
  have hl : aload T 70 (.ptr b ver 0) H = some (.sl bl vl 0 n 1 true) := by simp [aload, T70, hk]
  unfold makerN
  rw [hl, Option.bind_some]
  exact nilsL_of hk2 hu hn
def F55 (args : List AV) (H : Hp) : Option AV := match args with
  | [] => some (.bool true)
  | _ => none
theorem bound1 : boundL [2] [4] [0] [-1] = 320 := by decide +kernel
theorem bound2 : boundL [9] [] [] [] = 0 := by decide +kernel
theorem no1 : ¬ goesOn 2 [2] [4] [0] [0, -1] [0, 0] := by
  rintro ⟨h, _⟩
  exact absurd h (by decide +kernel)
set_option maxHeartbeats 4000000 in
theorem snd55 : Sound Try.prog 55 (FSem.pure F55).run := by
  refine sound_of hT (EOK_cons snd74 (EOK_cons snd119 (EOK_cons snd121 (EOK_nil _)))) mixed A55 Try.func55 hb55 (by kernel_rfl) (by kernel_rfl) (by kernel_rfl) (by kernel_rfl) sh55 0 (by kernel_rfl) rs55 hr55 ?_
  intro args H r H' hw h
  obtain ⟨rfl, hv⟩ := pureAt h
  clear h
  unfold F55 at hv
  split at hv
  rotate_left
  · cases hv
  cases hv
  refine ⟨rfl, go (zStart (SL.nil hw []) ?_)⟩
  unfold c55
  simp only [argSl]
  repeat' (first | apply zSeq | apply zReg | apply zSeqN | apply zSeqR | apply zSkip | apply zRet | apply zNil | apply zBlock | apply zExit | apply zBlkN | apply zBlkR | apply zBlkE | apply zSeqE | apply zLoopR | apply zLoopE | refine yYes' ?_ | refine yNo' ?_ | refine yNoU' ?_ | refine yLd' ?_ | refine yLdI' ?_ | refine yStS' ?_ | refine yStF' ?_ | refine ySt' ?_ | refine yBS' fun _ _ => ?_ | refine yAlloc' fun _ _ => ?_ | refine yBox' fun _ _ => ?_ | refine yOp' ?_ | refine yIfT ?_ | refine yIfF ?_ | refine yIf ?_ ?_ | refine ySplit' ?_ ?_ | refine yIfQ ?_ ?_ | refine ySplitQ' ?_ ?_ | refine yBlkX ?_ | intro _)
  refine zCall' (F := F74) (args := [.int .i64 2]) (t := newTr 2) rfl rfl rfl (fun Hx hS hF => by simp [F74]) fun m => ?_
  repeat' (first | apply zSeq | apply zReg | apply zSeqN | apply zSeqR | apply zSkip | apply zRet | apply zNil | apply zBlock | apply zExit | apply zBlkN | apply zBlkR | apply zBlkE | apply zSeqE | apply zLoopR | apply zLoopE | refine yYes' ?_ | refine yNo' ?_ | refine yNoU' ?_ | refine yLd' ?_ | refine yLdI' ?_ | refine yStS' ?_ | refine yStF' ?_ | refine ySt' ?_ | refine yBS' fun _ _ => ?_ | refine yAlloc' fun _ _ => ?_ | refine yBox' fun _ _ => ?_ | refine yOp' ?_ | refine yIfT ?_ | refine yIfF ?_ | refine yIf ?_ ?_ | refine ySplit' ?_ ?_ | refine yIfQ ?_ ?_ | refine ySplitQ' ?_ ?_ | refine yBlkX ?_ | intro _)
  refine zBS' (cells := [.int .i64 0, .int .i64 (-1)]) D22 T3 (by decide) (by simp [afill, rep, setAll, AV.cells, AV.one]) fun b4 v4 => ?_
  refine zBS' (cells := [.int .i64 0, .int .i64 0]) D22 T3 (by decide) (by simp [afill, rep, setAll, AV.cells, AV.one]) fun b5 v5 => ?_
  refine zPure' (F := F121) rfl rfl rfl (fun Hx hS hF => F121_no (hS.maker 5 rfl (by decide)) (hS.ints 4 rfl (numsT_F (l := [2]) (by simp))) (hS.ints 3 rfl (numsT_F (l := [4]) (by simp))) (hS.ints 2 rfl (numsT_F (l := [0]) (by simp))) (hS.ints 1 rfl (numsT_F (l := [0, -1]) (by simp))) (hS.ints 0 rfl (numsT_F (l := [0, 0]) (by simp))) no1) ?_
  repeat' (first | apply zSeq | apply zReg | apply zSeqN | apply zSeqR | apply zSkip | apply zRet | apply zNil | apply zBlock | apply zExit | apply zBlkN | apply zBlkR | apply zBlkE | apply zSeqE | apply zLoopR | apply zLoopE | refine yYes' ?_ | refine yNo' ?_ | refine yNoU' ?_ | refine yLd' ?_ | refine yLdI' ?_ | refine yStS' ?_ | refine yStF' ?_ | refine ySt' ?_ | refine yBS' fun _ _ => ?_ | refine yAlloc' fun _ _ => ?_ | refine yBox' fun _ _ => ?_ | refine yOp' ?_ | refine yIfT ?_ | refine yIfF ?_ | refine yIf ?_ ?_ | refine ySplit' ?_ ?_ | refine yIfQ ?_ ?_ | refine ySplitQ' ?_ ?_ | refine yBlkX ?_ | intro _)
  refine zPure' (F := F121) rfl rfl rfl (fun Hx hS hF => F121_nil rfl rfl rfl rfl (hS.ints 0 rfl (numsT_F (l := [0]) (by simp)))) ?_
  repeat' (first | apply zSeq | apply zReg | apply zSeqN | apply zSeqR | apply zSkip | apply zRet | apply zNil | apply zBlock | apply zExit | apply zBlkN | apply zBlkR | apply zBlkE | apply zSeqE | apply zLoopR | apply zLoopE | refine yYes' ?_ | refine yNo' ?_ | refine yNoU' ?_ | refine yLd' ?_ | refine yLdI' ?_ | refine yStS' ?_ | refine yStF' ?_ | refine ySt' ?_ | refine yBS' fun _ _ => ?_ | refine yAlloc' fun _ _ => ?_ | refine yBox' fun _ _ => ?_ | refine yOp' ?_ | refine yIfT ?_ | refine yIfF ?_ | refine yIf ?_ ?_ | refine ySplit' ?_ ?_ | refine yIfQ ?_ ?_ | refine ySplitQ' ?_ ?_ | refine yBlkX ?_ | intro _)
  refine zPure' (F := F119) rfl rfl rfl (fun Hx hS hF => F119_of (hS.ints 3 rfl (numsT_F (l := [2]) (by simp))) (hS.ints 2 rfl (numsT_F (l := [4]) (by simp))) (hS.ints 1 rfl (numsT_F (l := [0]) (by simp))) (hS.ints 0 rfl (numsT_F (l := [-1]) (by simp)))) ?_
  rw [bound1]
  repeat' (first | apply zSeq | apply zReg | apply zSeqN | apply zSeqR | apply zSkip | apply zRet | apply zNil | apply zBlock | apply zExit | apply zBlkN | apply zBlkR | apply zBlkE | apply zSeqE | apply zLoopR | apply zLoopE | refine yYes' ?_ | refine yNo' ?_ | refine yNoU' ?_ | refine yLd' ?_ | refine yLdI' ?_ | refine yStS' ?_ | refine yStF' ?_ | refine ySt' ?_ | refine yBS' fun _ _ => ?_ | refine yAlloc' fun _ _ => ?_ | refine yBox' fun _ _ => ?_ | refine yOp' ?_ | refine yIfT ?_ | refine yIfF ?_ | refine yIf ?_ ?_ | refine ySplit' ?_ ?_ | refine yIfQ ?_ ?_ | refine ySplitQ' ?_ ?_ | refine yBlkX ?_ | intro _)
  refine zPure' (F := F119) rfl rfl rfl (fun Hx hS hF => F119_of (hS.ints 0 rfl (numsT_F (l := [9]) (by simp))) rfl rfl rfl) ?_
  rw [bound2]
  repeat' (first | apply zSeq | apply zReg | apply zSeqN | apply zSeqR | apply zSkip | apply zRet | apply zNil | apply zBlock | apply zExit | apply zBlkN | apply zBlkR | apply zBlkE | apply zSeqE | apply zLoopR | apply zLoopE | refine yYes' ?_ | refine yNo' ?_ | refine yNoU' ?_ | refine yLd' ?_ | refine yLdI' ?_ | refine yStS' ?_ | refine yStF' ?_ | refine ySt' ?_ | refine yBS' fun _ _ => ?_ | refine yAlloc' fun _ _ => ?_ | refine yBox' fun _ _ => ?_ | refine yOp' ?_ | refine yIfT ?_ | refine yIfF ?_ | refine yIf ?_ ?_ | refine ySplit' ?_ ?_ | refine yIfQ ?_ ?_ | refine ySplitQ' ?_ ?_ | refine yBlkX ?_ | intro _)
  exact zEndP (vs := [.bool true]) (by simp) (fun H1 hS => by simp [rs55]) rfl
/- Walks: which device is somewhere; lists that are the same. -/
def rOfL (sz l : List Int) : Int := if rOK sz = false ∨ l.length ≠ sz.length then -1 else ofGo 0 sz l
def F127 (args : List AV) (H : Hp) : Option AV := match args with
  | [a, b] => (ints H a).bind fun sz => (ints H b).map fun l => .int .i64 (rOfL sz l)
  | _ => none
@[simp] theorem F127_at (a b : AV) (H : Hp) : F127 [a, b] H = (ints H a).bind fun sz => (ints H b).map fun l => .int .i64 (rOfL sz l) := rfl
/- Walks: the document's least device that has the same part; spec.Whole. -/
def F67 (args : List AV) (H : Hp) : Option AV := match args with
  | [a, b, .int .i64 d] => (ints H a).bind fun sz => (ints H b).map fun sp => .int .i64 (firstL sz sp d)
  | _ => none
@[simp] theorem F67_at (a b : AV) (d : Int) (H : Hp) : F67 [a, b, .int .i64 d] H = (ints H a).bind fun sz => (ints H b).map fun sp => .int .i64 (firstL sz sp d) := rfl
/- Functions in short form. -/
/-! parquetry/parquetryref14.Join (4 parameters; calls 20 parquetry/parquetryref14.Devices, 39 parquetry/parquetryref1.Same, 40 parquetry/parquetryref14.Tile, 41 parquetry/parquetryref1.Place, 42 parquetry/parquetryref1.Index, 67 parquetry/parquetryref14.First, 70 parquetry/parquetryref1.Fill, 84 parquetry/parquetryref1.Tensor, 85 parquetry/parquetryref14.may, 97 parquetry/parquetryref1.Ints) -/
/-! parquetry/parquetrylaw17.joins (4 parameters; calls 38 parquetry/split.Join, 39 parquetry/parquetryref1.Same, 86 parquetry/parquetryref14.Join) -/
/-! parquetry/parquetrylaw17.SplitTells (9 parameters; calls 31 parquetry/parquetrylaw17.made, 33 parquetry/parquetrylaw17.same, 34 parquetry/parquetryref14.All, 35 parquetry/parquetrylaw17.joins, 36 parquetry/parquetrylaw17.known) -/
noncomputable def c9 : Cc :=
  (.seq (.reg false [⟨some 10, (Op.box 40 (Operand.tmp 1)), none⟩,
    ⟨some 18, (Op.assign (Operand.const (Value.bool false))), none⟩])
  (.seq (.reg false [⟨some 27, (Op.move (Operand.tmp 0)), none⟩,
    ⟨some 28, (Op.call { callee := (Callee.value (Operand.func 31)), args := #[(Operand.tmp 27)], argTypes := #[22] }), none⟩,
    ⟨some 26, (Op.move (Operand.tmp 28)), none⟩,
    ⟨some 29, (Op.extract (Operand.tmp 26) 0), none⟩,
    ⟨some 30, (Op.extract (Operand.tmp 26) 1), none⟩,
    ⟨some 31, (Op.extract (Operand.tmp 26) 2), none⟩,
    ⟨some 19, (Op.alloc 40), none⟩,
    ⟨none, (Op.store 40 (Operand.tmp 19) (Operand.tmp 29)), none⟩,
    ⟨some 20, (Op.assign (Operand.tmp 30)), none⟩,
    ⟨some 21, (Op.assign (Operand.tmp 31)), none⟩])
  (.seq (.seq (.reg false [⟨some 32, (Op.move (Operand.tmp 5)), none⟩,
    ⟨some 33, (Op.call { callee := (Callee.builtin Builtin.len), args := #[(Operand.tmp 32)], argTypes := #[45] }), none⟩,
    ⟨some 34, (Op.binOp BinOp.gtr 3 (Operand.tmp 33) (Operand.const (Value.int IntKind.i64 9)) 3), none⟩])
  (.cond (Operand.tmp 34)
    (.reg false [⟨some 35, (Op.move (Operand.tmp 5)), none⟩,
      ⟨some 36, (Op.slice 45 (Operand.tmp 35) none (some (Operand.const (Value.int IntKind.i64 9))) none), none⟩,
      ⟨some 5, (Op.assign (Operand.tmp 36)), none⟩])
    .skip))
  (.seq (.reg false [⟨some 38, (Op.load 40 (Operand.tmp 19)), none⟩,
    ⟨some 39, (Op.move (Operand.tmp 20)), none⟩,
    ⟨some 40, (Op.move (Operand.tmp 21)), none⟩,
    ⟨some 41, (Op.call { callee := (Callee.value (Operand.func 34)), args := #[(Operand.tmp 38), (Operand.tmp 39), (Operand.tmp 40)], argTypes := #[40, 22, 22] }), none⟩,
    ⟨some 37, (Op.move (Operand.tmp 41)), none⟩,
    ⟨some 42, (Op.extract (Operand.tmp 37) 0), none⟩,
    ⟨some 43, (Op.extract (Operand.tmp 37) 1), none⟩,
    ⟨some 22, (Op.assign (Operand.tmp 42)), none⟩,
    ⟨some 23, (Op.assign (Operand.tmp 43)), none⟩])
  (.seq (.reg false [⟨some 44, (Op.buildSlice 45 0 #[]), none⟩,
    ⟨some 45, (Op.move (Operand.tmp 22)), none⟩,
    ⟨some 46, (Op.call { callee := (Callee.builtin Builtin.append), args := #[(Operand.tmp 44), (Operand.tmp 45)], argTypes := #[45, 45] }), none⟩,
    ⟨some 24, (Op.assign (Operand.tmp 46)), none⟩])
  (.seq (.seq (.reg false [⟨some 47, (Op.move (Operand.tmp 24)), none⟩,
    ⟨some 48, (Op.call { callee := (Callee.builtin Builtin.len), args := #[(Operand.tmp 47)], argTypes := #[45] }), none⟩,
    ⟨some 49, (Op.binOp BinOp.gtr 3 (Operand.tmp 48) (Operand.const (Value.int IntKind.i64 0)) 3), none⟩])
  (.cond (Operand.tmp 49)
    (.seq (.reg false [⟨some 50, (Op.move (Operand.tmp 7)), none⟩,
      ⟨some 51, (Op.move (Operand.tmp 24)), none⟩,
      ⟨some 52, (Op.call { callee := (Callee.builtin Builtin.len), args := #[(Operand.tmp 51)], argTypes := #[45] }), none⟩,
      ⟨some 53, (Op.binOp BinOp.rem 3 (Operand.tmp 50) (Operand.tmp 52) 3), none⟩,
      ⟨some 54, (Op.move (Operand.tmp 24)), none⟩,
      ⟨some 55, (Op.call { callee := (Callee.builtin Builtin.len), args := #[(Operand.tmp 54)], argTypes := #[45] }), none⟩,
      ⟨some 56, (Op.binOp BinOp.add 3 (Operand.tmp 53) (Operand.tmp 55) 3), none⟩,
      ⟨some 57, (Op.move (Operand.tmp 24)), none⟩,
      ⟨some 58, (Op.call { callee := (Callee.builtin Builtin.len), args := #[(Operand.tmp 57)], argTypes := #[45] }), none⟩,
      ⟨some 59, (Op.binOp BinOp.rem 3 (Operand.tmp 56) (Operand.tmp 58) 3), none⟩,
      ⟨some 25, (Op.assign (Operand.tmp 59)), none⟩])
    (.seq (.drw false [⟨some 60, (Op.move (Operand.tmp 24)), none⟩,
      ⟨some 61, (Op.move (Operand.tmp 25)), none⟩,
      ⟨some 62, (Op.move (Operand.tmp 24)), none⟩,
      ⟨some 63, (Op.move (Operand.tmp 25)), none⟩,
      ⟨some 64, (Op.indexAddr 45 (Operand.tmp 62) (Operand.tmp 63)), none⟩,
      ⟨some 65, (Op.fieldAddr 40 (Operand.tmp 64) 0), none⟩,
      ⟨some 66, (Op.load 22 (Operand.tmp 65)), none⟩,
      ⟨some 67, (Op.buildSlice 38 0 #[]), none⟩,
      ⟨some 68, (Op.move (Operand.tmp 24)), none⟩,
      ⟨some 69, (Op.move (Operand.tmp 25)), none⟩,
      ⟨some 70, (Op.indexAddr 45 (Operand.tmp 68) (Operand.tmp 69)), none⟩,
      ⟨some 71, (Op.fieldAddr 40 (Operand.tmp 70) 1), none⟩,
      ⟨some 72, (Op.load 38 (Operand.tmp 71)), none⟩,
      ⟨some 73, (Op.call { callee := (Callee.builtin Builtin.append), args := #[(Operand.tmp 67), (Operand.tmp 72)], argTypes := #[38, 38] }), none⟩,
      ⟨some 74, (Op.build 40 #[(0, (Operand.tmp 66)), (1, (Operand.tmp 73))]), none⟩,
      ⟨some 75, (Op.indexAddr 45 (Operand.tmp 60) (Operand.tmp 61)), none⟩,
      ⟨none, (Op.store 40 (Operand.tmp 75) (Operand.tmp 74)), none⟩] [(6, 8), (6, 14), (12, 7)])
    (.seq (.reg false [⟨some 76, (Op.move (Operand.tmp 24)), none⟩,
      ⟨some 77, (Op.move (Operand.tmp 25)), none⟩,
      ⟨some 78, (Op.indexAddr 45 (Operand.tmp 76) (Operand.tmp 77)), none⟩,
      ⟨some 79, (Op.fieldAddr 40 (Operand.tmp 78) 1), none⟩,
      ⟨some 80, (Op.load 38 (Operand.tmp 79)), none⟩,
      ⟨some 81, (Op.call { callee := (Callee.builtin Builtin.len), args := #[(Operand.tmp 80)], argTypes := #[38] }), none⟩,
      ⟨some 82, (Op.binOp BinOp.gtr 3 (Operand.tmp 81) (Operand.const (Value.int IntKind.i64 0)) 3), none⟩])
    (.cond (Operand.tmp 82)
      (.reg false [⟨some 83, (Op.move (Operand.tmp 24)), none⟩,
        ⟨some 84, (Op.move (Operand.tmp 25)), none⟩,
        ⟨some 85, (Op.indexAddr 45 (Operand.tmp 83) (Operand.tmp 84)), none⟩,
        ⟨some 86, (Op.fieldAddr 40 (Operand.tmp 85) 1), none⟩,
        ⟨some 87, (Op.load 38 (Operand.tmp 86)), none⟩,
        ⟨some 88, (Op.move (Operand.tmp 8)), none⟩,
        ⟨some 89, (Op.indexAddr 38 (Operand.tmp 87) (Operand.const (Value.int IntKind.i64 0))), none⟩,
        ⟨none, (Op.store 2 (Operand.tmp 89) (Operand.tmp 88)), none⟩])
      .skip))))
    .skip))
  (.seq (.reg false [⟨some 90, (Op.load 40 (Operand.tmp 19)), none⟩,
    ⟨some 91, (Op.move (Operand.tmp 20)), none⟩,
    ⟨some 92, (Op.move (Operand.tmp 21)), none⟩,
    ⟨some 93, (Op.move (Operand.tmp 6)), none⟩,
    ⟨some 94, (Op.binOp BinOp.and 3 (Operand.tmp 93) (Operand.const (Value.int IntKind.i64 7)) 3), none⟩,
    ⟨some 95, (Op.call { callee := (Callee.value (Operand.func 33)), args := #[(Operand.tmp 90), (Operand.tmp 91), (Operand.tmp 92), (Operand.tmp 94)], argTypes := #[40, 22, 22, 3] }), none⟩,
    ⟨some 96, (Op.move (Operand.tmp 95)), none⟩,
    ⟨some 97, (Op.load 40 (Operand.tmp 10)), some (96, true)⟩,
    ⟨some 98, (Op.move (Operand.tmp 2)), some (96, true)⟩,
    ⟨some 99, (Op.move (Operand.tmp 3)), some (96, true)⟩,
    ⟨some 100, (Op.move (Operand.tmp 6)), some (96, true)⟩,
    ⟨some 101, (Op.call { callee := (Callee.value (Operand.func 33)), args := #[(Operand.tmp 97), (Operand.tmp 98), (Operand.tmp 99), (Operand.tmp 100)], argTypes := #[40, 22, 22, 3] }), some (96, true)⟩,
    ⟨some 102, (Op.pick (Operand.tmp 96) (Operand.tmp 101) (Operand.const (Value.bool false))), none⟩,
    ⟨some 103, (Op.move (Operand.tmp 102)), none⟩,
    ⟨some 104, (Op.load 40 (Operand.tmp 19)), some (103, true)⟩,
    ⟨some 105, (Op.move (Operand.tmp 20)), some (103, true)⟩,
    ⟨some 106, (Op.move (Operand.tmp 3)), some (103, true)⟩,
    ⟨some 107, (Op.move (Operand.tmp 6)), some (103, true)⟩,
    ⟨some 108, (Op.call { callee := (Callee.value (Operand.func 33)), args := #[(Operand.tmp 104), (Operand.tmp 105), (Operand.tmp 106), (Operand.tmp 107)], argTypes := #[40, 22, 22, 3] }), some (103, true)⟩,
    ⟨some 109, (Op.pick (Operand.tmp 103) (Operand.tmp 108) (Operand.const (Value.bool false))), none⟩,
    ⟨some 110, (Op.move (Operand.tmp 109)), none⟩,
    ⟨some 111, (Op.move (Operand.tmp 24)), some (110, true)⟩,
    ⟨some 112, (Op.fieldAddr 40 (Operand.tmp 19) 0), some (110, true)⟩,
    ⟨some 113, (Op.load 22 (Operand.tmp 112)), some (110, true)⟩,
    ⟨some 114, (Op.move (Operand.tmp 20)), some (110, true)⟩,
    ⟨some 115, (Op.move (Operand.tmp 21)), some (110, true)⟩,
    ⟨some 116, (Op.call { callee := (Callee.value (Operand.func 35)), args := #[(Operand.tmp 111), (Operand.tmp 113), (Operand.tmp 114), (Operand.tmp 115)], argTypes := #[45, 22, 22, 22] }), some (110, true)⟩,
    ⟨some 117, (Op.pick (Operand.tmp 110) (Operand.tmp 116) (Operand.const (Value.bool false))), none⟩,
    ⟨some 118, (Op.move (Operand.tmp 117)), none⟩,
    ⟨some 119, (Op.move (Operand.tmp 5)), some (118, true)⟩,
    ⟨some 120, (Op.move (Operand.tmp 4)), some (118, true)⟩,
    ⟨some 121, (Op.move (Operand.tmp 2)), some (118, true)⟩,
    ⟨some 122, (Op.move (Operand.tmp 3)), some (118, true)⟩,
    ⟨some 123, (Op.call { callee := (Callee.value (Operand.func 35)), args := #[(Operand.tmp 119), (Operand.tmp 120), (Operand.tmp 121), (Operand.tmp 122)], argTypes := #[45, 22, 22, 22] }), some (118, true)⟩,
    ⟨some 124, (Op.pick (Operand.tmp 118) (Operand.tmp 123) (Operand.const (Value.bool false))), none⟩,
    ⟨some 125, (Op.move (Operand.tmp 124)), none⟩,
    ⟨some 126, (Op.move (Operand.tmp 22)), some (125, true)⟩,
    ⟨some 127, (Op.move (Operand.tmp 4)), some (125, true)⟩,
    ⟨some 128, (Op.move (Operand.tmp 20)), some (125, true)⟩,
    ⟨some 129, (Op.move (Operand.tmp 21)), some (125, true)⟩,
    ⟨some 130, (Op.call { callee := (Callee.value (Operand.func 35)), args := #[(Operand.tmp 126), (Operand.tmp 127), (Operand.tmp 128), (Operand.tmp 129)], argTypes := #[45, 22, 22, 22] }), some (125, true)⟩,
    ⟨some 131, (Op.pick (Operand.tmp 125) (Operand.tmp 130) (Operand.const (Value.bool false))), none⟩,
    ⟨some 132, (Op.move (Operand.tmp 131)), none⟩,
    ⟨some 133, (Op.call { callee := (Callee.value (Operand.func 36)), args := #[], argTypes := #[] }), some (132, true)⟩,
    ⟨some 134, (Op.pick (Operand.tmp 132) (Operand.tmp 133) (Operand.const (Value.bool false))), none⟩,
    ⟨some 18, (Op.assign (Operand.tmp 134)), none⟩])
  .ret)))))))
/-! parquetry/parquetrylaw17.tape (1 parameters; calls none) -/
/- Walks: the document's Join. -/
/- Walks: 'joins' of the split: program and document put parts together alike. -/
/- Walks: SplitTells. -/
def aand (a b : Int) : Int := IntKind.i64.wrap (BitVec.ofInt 64 a &&& BitVec.ofInt 64 b).toNat
theorem abin_and (t : Nat) (a b : Int) : abin T .and t (.int .i64 a) (.int .i64 b) = some (.int .i64 (aand a b)) := rfl
/- Walks: refuses of chapter 23. -/
theorem aand7 (a : Int) : 0 ≤ aand a 7 ∧ aand a 7 ≤ 7 := by
  have h : (BitVec.ofInt 64 a &&& BitVec.ofInt 64 7).toNat ≤ 7 := by
    rw [BitVec.toNat_and]
    exact Nat.le_trans Nat.and_le_right (by decide)
  have e : aand a 7 = (((BitVec.ofInt 64 a &&& BitVec.ofInt 64 7).toNat : Nat) : Int) := w_id (by omega)
  omega
theorem SL.nils {B : Bs} {L : Lo} {H : Hp} (h : SL B L H) (i : Nat) {n : Nat} {v : AV} (hi : L[i]? = some (v, nilsTr n)) (hn : n ≤ 8) : nilsL H v = some n := by
  obtain ⟨bs, h1, h2, h3⟩ := h.rx
  obtain ⟨v', b1, b', b2, g1, rfl, g3, _, g5⟩ := RXs.pick _ h1 i _ (getE hi)
  rw [getE hi] at g1
  cases g1
  simp only [nilsTr, RX] at g3
  obtain ⟨bl, vl, us, c3, rfl, hk2, hus, _⟩ := g3
  have e : List.replicate n (Tr.at .nilS) = (List.replicate n AV.nilS).map .at := by simp
  rw [e] at hus
  exact nilsL_of hk2 (RXs.leafEq _ hus rfl) hn
def allGe (rg : List Int) (k : Nat) : Bool := (rg.take k).all fun x => decide (0 ≤ x)
theorem allGe_succ (rg : List Int) (k : Nat) (h : k < rg.length) : allGe rg (k + 1) = (allGe rg k && decide (0 ≤ nth rg k)) := by
  have e : rg.take (k + 1) = rg.take k ++ [nth rg k] := by
    rw [List.take_add_one, List.getElem?_eq_getElem h]
    simp [nth, List.getD_eq_getElem?_getD, h]
  unfold allGe
  rw [e, List.all_append]
  simp
theorem allGe_all (rg : List Int) : allGe rg rg.length = !(rg.any fun x => decide (x < 0)) := by
  simp only [allGe, List.take_length]
  induction rg with
  | nil => rfl
  | cons a l ih =>
    simp only [List.all_cons, List.any_cons, ih, Bool.not_or]
    congr 1
    by_cases h : a < 0
    · have : ¬ 0 ≤ a := by omega
      simp [h, this]
    · have : 0 ≤ a := by omega
      simp [h, this]
theorem F120_of {H : Hp} {m : AV} {n : Nat} (h : makerN H m = some n) : F120 [m] H = some (.int .i64 n) := by simp [F120, h]
def F54 (args : List AV) (H : Hp) : Option AV := match args with
  | [.int .i64 _, a, b, c, d, v] => (ints H a).bind fun sz => (ints H b).bind fun s => (ints H c).bind fun f => (ints H d).bind fun t => (ints H v).map fun rg => .bool true
  | _ => none
set_option maxHeartbeats 8000000 in
theorem snd54 : Sound Try.prog 54 (FSem.pure F54).run := by
  refine sound_of hT (EOK_cons snd20 (EOK_cons snd52 (EOK_cons snd74 (EOK_cons snd118 (EOK_cons snd119 (EOK_cons snd120 (EOK_cons snd121 (EOK_cons snd122 (EOK_nil _))))))))) mixed A54 Try.func54 hb54 (by kernel_rfl) (by kernel_rfl) (by kernel_rfl) (by kernel_rfl) sh54 6 (by kernel_rfl) rs54 hr54 ?_
  intro args H r H' hw h
  obtain ⟨rfl, hv⟩ := pureAt h
  clear h
  unfold F54 at hv
  split at hv
  rotate_left
  · cases hv
  rename_i dv a b c d v
  obtain ⟨sz, ha, hv⟩ := Option.bind_eq_some_iff.1 hv
  obtain ⟨s, hb, hv⟩ := Option.bind_eq_some_iff.1 hv
  obtain ⟨f, hc, hv⟩ := Option.bind_eq_some_iff.1 hv
  obtain ⟨t, hd, hv⟩ := Option.bind_eq_some_iff.1 hv
  obtain ⟨rg, hr, hv2⟩ := Option.map_eq_some_iff.1 hv
  clear hv
  cases hv2
  have za := Fz.of ha
  have zb := Fz.of hb
  have zc := Fz.of hc
  have zd := Fz.of hd
  have zr := Fz.of hr
  have hlen := alenS_ints hr
  have hix := aidxS_ints hr .i64
  have hbl := ints_len hr
  have hld : ∀ Hx, Fm ⟨H', []⟩ Hx → ∀ j : Nat, j < rg.length → aload T 3 (pAt v j) Hx = some (.int .i64 (nth rg j)) := fun Hx hF j hj => aload_nth T3 rfl (ints_ext hF.pre' hr) j (by omega) (by omega)
  simp only [← aidx22, ← alen22] at hix hlen
  have hnil : alen T 22 .nilS = some (.int .i64 0) := by simp [alen, alenS, D22]
  have hab := abin_and
  have h7 := aand7 dv
  obtain ⟨n, hn, hn1, hn8⟩ : ∃ n : Nat, w (1 + aand dv 7) = n ∧ 1 ≤ n ∧ n ≤ 8 := ⟨(1 + aand dv 7).toNat, by rw [w_id (by omega)]; omega, by omega, by omega⟩
  have e20 : ∀ Hx, Fm ⟨H', []⟩ Hx → F20 [a] Hx = some (.int .i64 (devs sz)) := fun Hx hF => by simp [F20, za.out _ hF, rDevs_eq]
  have e118 : ∀ Hx, Fm ⟨H', []⟩ Hx → F150 [a, b, c, d] Hx = some (.bool (mayM sz s f t)) := fun Hx hF => F150_of (za.out _ hF) (zb.out _ hF) (zc.out _ hF) (zd.out _ hF)
  have e119 : ∀ Hx, Fm ⟨H', []⟩ Hx → F119 [a, b, c, d] Hx = some (.int .i64 (boundL sz s f t)) := fun Hx hF => F119_of (za.out _ hF) (zb.out _ hF) (zc.out _ hF) (zd.out _ hF)
  have e74 : ∀ Hx, F74 [.int .i64 n] Hx = some (mk (newTr n) Hx) := fun Hx => by
    simp only [F74]
    rw [if_neg (by omega), Int.toNat_natCast]
  have hgo : ∀ (p2 p3 : Bool), (p2 = true ↔ devs sz = n) → (p3 = true ↔ (rg.length : Int) = devs sz) → (((mayM sz s f t && (p2 && p3)) && allGe rg rg.length) = false → ¬ goesOn n sz s f t rg) := by
    intro p2 p3 h2 h3 h hg
    obtain ⟨g1, g2, g3, g4⟩ := hg
    rw [allGe_all, g4, g1, h2.2 g2.symm, h3.2 g3] at h
    cases h
  have hbd : boundL sz s f t = if mayM sz s f t = true then 64 * devs sz * devs sz + 64 else 0 := rfl
  rw [hbd] at e119
  clear hbd
  have hD8 := devs_le sz
  have hD0 : mayM sz s f t = true → 1 ≤ devs sz := fun h => devs_pos (by unfold mayM at h; simp at h; exact h.1)
  obtain ⟨p2, hp2⟩ : ∃ p2 : Bool, p2 = true ↔ devs sz = n := ⟨decide (devs sz = (n : Int)), by simp⟩
  obtain ⟨p3, hp3⟩ : ∃ p3 : Bool, p3 = true ↔ (rg.length : Int) = devs sz := ⟨decide ((rg.length : Int) = devs sz), by simp⟩
  have hgo' := hgo p2 p3 hp2 hp3
  clear hgo ha hb hc hd hr
  generalize mayM sz s f t = q at *
  generalize hDe : devs sz = D at *
  refine ⟨rfl, go (zStart (SL.nil hw []) ?_)⟩
  unfold c54
  simp only [argSl]
  repeat' (first | apply zSeq | apply zReg | apply zSeqN | apply zSeqR | apply zSkip | apply zRet | apply zNil | apply zBlock | apply zExit | apply zBlkN | apply zBlkR | apply zBlkE | apply zSeqE | apply zLoopR | apply zLoopE | refine yYes' ?_ | refine yNo' ?_ | refine yNoU' ?_ | refine yLd' ?_ | refine yLdI' ?_ | refine yStS' ?_ | refine yStF' ?_ | refine ySt' ?_ | refine yBS' fun _ _ => ?_ | refine yAlloc' fun _ _ => ?_ | refine yBox' fun _ _ => ?_ | refine yOp' ?_ | refine yIfT ?_ | refine yIfF ?_ | refine yIf ?_ ?_ | refine ySplit' ?_ ?_ | refine yIfQ ?_ ?_ | refine ySplitQ' ?_ ?_ | refine yBlkX ?_ | intro _)
  refine zCall' (F := F74) (args := [.int .i64 n]) (t := newTr n) rfl rfl rfl (fun Hx hS hF => e74 Hx) fun m => ?_
  refine zML fun Hm hSm => ?_
  obtain ⟨bm, vm, om, _, _, _, rfl, _, _⟩ := makerN_some (hSm.maker 0 rfl hn8)
  clear hSm
  have hDn : 0 ≤ D := by
    rw [← hDe]
    by_cases h : meshOK sz = true
    · have := devs_pos h; omega
    · simp [devs, h]
  have h1 : w (64 * D) = 64 * D := w_id (by omega)
  have hm := mul_rng (a := 64 * D) (b := D) (A := 512) (B := 8) (by omega) (by omega)
  have h2 : w (64 * D * D) = 64 * D * D := w_id (by omega)
  have h3 : w (64 * D * D + 64) = 64 * D * D + 64 := w_id (by omega)
  have h5 : (0 : Int) < 64 * D * D + 64 := by omega
  clear hm hDe hD0 h7
  obtain ⟨base, hbase⟩ : ∃ base, base = (q && (p2 && p3)) := ⟨_, rfl⟩
  rw [← hbase] at hgo'
  replace hgo' := Hide.mk hgo'
  cases q <;> cases p2 <;> cases p3 <;> simp only [Bool.false_eq_true, false_iff, true_iff, Bool.and_true, Bool.and_false, Bool.true_and, Bool.false_and, if_true, if_false] at hp2 hp3 hbase e119
  all_goals (
    try subst hp2
    repeat' (first | apply zSeq | apply zReg | apply zSeqN | apply zSeqR | apply zSkip | apply zRet | apply zNil | apply zBlock | apply zExit | apply zBlkN | apply zBlkR | apply zBlkE | apply zSeqE | apply zLoopR | apply zLoopE | refine yYes' ?_ | refine yNo' ?_ | refine yNoU' ?_ | refine yLd' ?_ | refine yLdI' ?_ | refine yStS' ?_ | refine yStF' ?_ | refine ySt' ?_ | refine yBS' fun _ _ => ?_ | refine yAlloc' fun _ _ => ?_ | refine yBox' fun _ _ => ?_ | refine yOp' ?_ | refine yIfT ?_ | refine yIfF ?_ | refine yIf ?_ ?_ | refine ySplit' ?_ ?_ | refine yIfQ ?_ ?_ | refine ySplitQ' ?_ ?_ | refine yBlkX ?_ | intro _)
    first
      | (refine zPure' (F := F120) rfl rfl rfl (fun Hx hS hF => F120_of (hS.maker 0 rfl hn8)) ?_
         repeat' (first | apply zSeq | apply zReg | apply zSeqN | apply zSeqR | apply zSkip | apply zRet | apply zNil | apply zBlock | apply zExit | apply zBlkN | apply zBlkR | apply zBlkE | apply zSeqE | apply zLoopR | apply zLoopE | refine yYes' ?_ | refine yNo' ?_ | refine yNoU' ?_ | refine yLd' ?_ | refine yLdI' ?_ | refine yStS' ?_ | refine yStF' ?_ | refine ySt' ?_ | refine yBS' fun _ _ => ?_ | refine yAlloc' fun _ _ => ?_ | refine yBox' fun _ _ => ?_ | refine yOp' ?_ | refine yIfT ?_ | refine yIfF ?_ | refine yIf ?_ ?_ | refine ySplit' ?_ ?_ | refine yIfQ ?_ ?_ | refine ySplitQ' ?_ ?_ | refine yBlkX ?_ | intro _))
      | skip
    refine zLoop (fun m s1 LL => ∃ (k : Nat) (N : Int), N = rg.length ∧ m = rg.length - k ∧ k ≤ rg.length ∧ get s1 1 = a ∧ get s1 2 = b ∧ get s1 3 = c ∧ get s1 4 = d ∧ get s1 5 = v ∧ get s1 13 = .ptr bm vm om ∧ get s1 16 = .bool (base && allGe rg k) ∧ get s1 60 = .int .i64 N ∧ get s1 61 = .int .i64 k ∧ LL = [(.ptr bm vm om, newTr n)]) rg.length ?_ ?_
    · refine ⟨0, _, ?_, rfl, Nat.zero_le _, rfl, rfl, rfl, rfl, rfl, rfl, ?_, rfl, rfl, rfl⟩
      · first | rfl | exact hp3.symm
      · rw [hbase]; rfl
    clear hp3 hD8 hDn h1 h2 h3 h5
    rintro m2 s2 LL ⟨k, _, rfl, hm2, hk, g1, g2, g3, g4, g5, g6, g7, g8, g9, rfl⟩
    simp only [cut_cons, cut_nil, g1, g2, g3, g4, g5, g6, g7, g8, g9]
    clear g1 g2 g3 g4 g5 g6 g7 g8 g9
    have hwk : w ((k : Int) + 1) = ((k + 1 : Nat) : Int) := w_id (by omega)
    by_cases hkn : k < rg.length
    · have hkn' : (k : Int) < rg.length := by omega
      have hst := Hide.mk (allGe_succ rg k hkn)
      have hlk : ∀ Hx, Fm ⟨H', []⟩ Hx → aload T 3 (pAt v k) Hx = some (.int .i64 (nth rg k)) := fun Hx hF => hld Hx hF k hkn
      have hxk : aidx T 22 v (.int .i64 k) = some (pAt v k) := by rw [hix, if_pos ⟨by omega, by omega⟩]
      generalize hb : (base && allGe rg k) = o at *
      replace hb := Hide.mk hb
      cases o
      · repeat' (first | apply zSeq | apply zReg | apply zSeqN | apply zSeqR | apply zSkip | apply zRet | apply zNil | apply zBlock | apply zExit | apply zBlkN | apply zBlkR | apply zBlkE | apply zSeqE | apply zLoopR | apply zLoopE | refine yYes' ?_ | refine yNo' ?_ | refine yNoU' ?_ | refine yLd' ?_ | refine yLdI' ?_ | refine yStS' ?_ | refine yStF' ?_ | refine ySt' ?_ | refine yBS' fun _ _ => ?_ | refine yAlloc' fun _ _ => ?_ | refine yBox' fun _ _ => ?_ | refine yOp' ?_ | refine yIfT ?_ | refine yIfF ?_ | refine yIf ?_ ?_ | refine ySplit' ?_ ?_ | refine yIfQ ?_ ?_ | refine ySplitQ' ?_ ?_ | refine yBlkX ?_ | intro _)
        exact zLoopN (rg.length - (k + 1)) (by omega) ⟨k + 1, _, rfl, rfl, by omega, rfl, rfl, rfl, rfl, rfl, rfl, (by rw [hst.out, ← Bool.and_assoc, hb.out]; rfl), rfl, rfl, rfl⟩
      · by_cases hge : 0 ≤ nth rg k
        · repeat' (first | apply zSeq | apply zReg | apply zSeqN | apply zSeqR | apply zSkip | apply zRet | apply zNil | apply zBlock | apply zExit | apply zBlkN | apply zBlkR | apply zBlkE | apply zSeqE | apply zLoopR | apply zLoopE | refine yYes' ?_ | refine yNo' ?_ | refine yNoU' ?_ | refine yLd' ?_ | refine yLdI' ?_ | refine yStS' ?_ | refine yStF' ?_ | refine ySt' ?_ | refine yBS' fun _ _ => ?_ | refine yAlloc' fun _ _ => ?_ | refine yBox' fun _ _ => ?_ | refine yOp' ?_ | refine yIfT ?_ | refine yIfF ?_ | refine yIf ?_ ?_ | refine ySplit' ?_ ?_ | refine yIfQ ?_ ?_ | refine ySplitQ' ?_ ?_ | refine yBlkX ?_ | intro _)
          exact zLoopN (rg.length - (k + 1)) (by omega) ⟨k + 1, _, rfl, rfl, by omega, rfl, rfl, rfl, rfl, rfl, rfl, (by rw [hst.out, ← Bool.and_assoc, hb.out]; simp [hge]), rfl, rfl, rfl⟩
        · repeat' (first | apply zSeq | apply zReg | apply zSeqN | apply zSeqR | apply zSkip | apply zRet | apply zNil | apply zBlock | apply zExit | apply zBlkN | apply zBlkR | apply zBlkE | apply zSeqE | apply zLoopR | apply zLoopE | refine yYes' ?_ | refine yNo' ?_ | refine yNoU' ?_ | refine yLd' ?_ | refine yLdI' ?_ | refine yStS' ?_ | refine yStF' ?_ | refine ySt' ?_ | refine yBS' fun _ _ => ?_ | refine yAlloc' fun _ _ => ?_ | refine yBox' fun _ _ => ?_ | refine yOp' ?_ | refine yIfT ?_ | refine yIfF ?_ | refine yIf ?_ ?_ | refine ySplit' ?_ ?_ | refine yIfQ ?_ ?_ | refine ySplitQ' ?_ ?_ | refine yBlkX ?_ | intro _)
          exact zLoopN (rg.length - (k + 1)) (by omega) ⟨k + 1, _, rfl, rfl, by omega, rfl, rfl, rfl, rfl, rfl, rfl, (by rw [hst.out, ← Bool.and_assoc, hb.out]; simp [hge]), rfl, rfl, rfl⟩
    · obtain rfl : k = rg.length := by omega
      have hkn' : ¬ (rg.length : Int) < rg.length := by omega
      have hgo2 := hgo'.out
      generalize hb : (base && allGe rg rg.length) = o at *
      cases o
      · have hno := Hide.mk (hgo2 rfl)
        clear hb hgo2
        repeat' (first | apply zSeq | apply zReg | apply zSeqN | apply zSeqR | apply zSkip | apply zRet | apply zNil | apply zBlock | apply zExit | apply zBlkN | apply zBlkR | apply zBlkE | apply zSeqE | apply zLoopR | apply zLoopE | refine yYes' ?_ | refine yNo' ?_ | refine yNoU' ?_ | refine yLd' ?_ | refine yLdI' ?_ | refine yStS' ?_ | refine yStF' ?_ | refine ySt' ?_ | refine yBS' fun _ _ => ?_ | refine yAlloc' fun _ _ => ?_ | refine yBox' fun _ _ => ?_ | refine yOp' ?_ | refine yIfT ?_ | refine yIfF ?_ | refine yIf ?_ ?_ | refine ySplit' ?_ ?_ | refine yIfQ ?_ ?_ | refine ySplitQ' ?_ ?_ | refine yBlkX ?_ | intro _)
        refine zPure' (F := F121) rfl rfl rfl (fun Hx hS hF => F121_no (hS.maker 0 rfl hn8) (za.out _ hF) (zb.out _ hF) (zc.out _ hF) (zd.out _ hF) (zr.out _ hF) hno.out) ?_
        repeat' (first | apply zSeq | apply zReg | apply zSeqN | apply zSeqR | apply zSkip | apply zRet | apply zNil | apply zBlock | apply zExit | apply zBlkN | apply zBlkR | apply zBlkE | apply zSeqE | apply zLoopR | apply zLoopE | refine yYes' ?_ | refine yNo' ?_ | refine yNoU' ?_ | refine yLd' ?_ | refine yLdI' ?_ | refine yStS' ?_ | refine yStF' ?_ | refine ySt' ?_ | refine yBS' fun _ _ => ?_ | refine yAlloc' fun _ _ => ?_ | refine yBox' fun _ _ => ?_ | refine yOp' ?_ | refine yIfT ?_ | refine yIfF ?_ | refine yIf ?_ ?_ | refine ySplit' ?_ ?_ | refine yIfQ ?_ ?_ | refine ySplitQ' ?_ ?_ | refine yBlkX ?_ | intro _)
        refine zCall' (F := F52) (args := [.ptr bm vm om]) (t := nilsTr n) rfl rfl rfl (fun Hx hS hF => by simp [F52, hS.maker 0 rfl hn8]) fun u => ?_
        repeat' (first | apply zSeq | apply zReg | apply zSeqN | apply zSeqR | apply zSkip | apply zRet | apply zNil | apply zBlock | apply zExit | apply zBlkN | apply zBlkR | apply zBlkE | apply zSeqE | apply zLoopR | apply zLoopE | refine yYes' ?_ | refine yNo' ?_ | refine yNoU' ?_ | refine yLd' ?_ | refine yLdI' ?_ | refine yStS' ?_ | refine yStF' ?_ | refine ySt' ?_ | refine yBS' fun _ _ => ?_ | refine yAlloc' fun _ _ => ?_ | refine yBox' fun _ _ => ?_ | refine yOp' ?_ | refine yIfT ?_ | refine yIfF ?_ | refine yIf ?_ ?_ | refine ySplit' ?_ ?_ | refine yIfQ ?_ ?_ | refine ySplitQ' ?_ ?_ | refine yBlkX ?_ | intro _)
        refine zPure' (F := F122) (v := .int .i64 0) rfl rfl rfl (fun Hx hS hF => by simp [F122, hS.nils 0 rfl hn8]) ?_
        repeat' (first | apply zSeq | apply zReg | apply zSeqN | apply zSeqR | apply zSkip | apply zRet | apply zNil | apply zBlock | apply zExit | apply zBlkN | apply zBlkR | apply zBlkE | apply zSeqE | apply zLoopR | apply zLoopE | refine yYes' ?_ | refine yNo' ?_ | refine yNoU' ?_ | refine yLd' ?_ | refine yLdI' ?_ | refine yStS' ?_ | refine yStF' ?_ | refine ySt' ?_ | refine yBS' fun _ _ => ?_ | refine yAlloc' fun _ _ => ?_ | refine yBox' fun _ _ => ?_ | refine yOp' ?_ | refine yIfT ?_ | refine yIfF ?_ | refine yIf ?_ ?_ | refine ySplit' ?_ ?_ | refine yIfQ ?_ ?_ | refine ySplitQ' ?_ ?_ | refine yBlkX ?_ | intro _)
        exact zEndP (vs := [.bool true]) (by simp) (fun H1 hS => by simp [rs54]) rfl
      · clear hb hgo2
        repeat' (first | apply zSeq | apply zReg | apply zSeqN | apply zSeqR | apply zSkip | apply zRet | apply zNil | apply zBlock | apply zExit | apply zBlkN | apply zBlkR | apply zBlkE | apply zSeqE | apply zLoopR | apply zLoopE | refine yYes' ?_ | refine yNo' ?_ | refine yNoU' ?_ | refine yLd' ?_ | refine yLdI' ?_ | refine yStS' ?_ | refine yStF' ?_ | refine ySt' ?_ | refine yBS' fun _ _ => ?_ | refine yAlloc' fun _ _ => ?_ | refine yBox' fun _ _ => ?_ | refine yOp' ?_ | refine yIfT ?_ | refine yIfF ?_ | refine yIf ?_ ?_ | refine ySplit' ?_ ?_ | refine yIfQ ?_ ?_ | refine ySplitQ' ?_ ?_ | refine yBlkX ?_ | intro _)
        exact zEndP (vs := [.bool true]) (by simp) (fun H1 hS => by simp [rs54]) rfl)
/- Walks: made of chapter 23 (turned from snd31). -/
def mdQ (l : List Int) : List Int × Nat := specT l (mdM l).length (mdS l).1.length (mdP l).2 (List.replicate (mdM l).length false)
def madeTr4 (l : List Int) : Tr := .tup [.agg [trC (mdS l).1, trS (mdD l).1], trF (mdM l), trF (mdP l).1, trF (mdQ l).1]
open Classical in
noncomputable def F53 (args : List AV) (H : Hp) : Option (AV × Hp) := match args with
  | [v] => (ints H v).bind fun l => if In64 l then some (mk (madeTr4 l) H) else none
  | _ => none
theorem goLits7b {E : Env} {s : Sl} {H : Hp} {k : Ct} {l : List Co}
    (h : ∀ (v0 v1 v2 v3 v4 v5 v6 : AV) (HL : Hp), litH H seven = ([v0, v1, v2, v3, v4, v5, v6], HL) →
      YL E T false l ((19, .sl HL.bs.length HL.c 0 7 1 true) :: (18, v6) :: (17, v5) :: (16, v4) :: (15, v3) :: (14, v2) :: (13, v1) :: (12, v0) :: s) (HL.new [v0, v1, v2, v3, v4, v5, v6]) k) :
    YL E T false (⟨some 12, (Op.buildSlice 22 1 #[(0, (Operand.const (Value.int IntKind.i64 2)))]), none⟩ ::
    ⟨some 13, (Op.buildSlice 22 2 #[(0, (Operand.const (Value.int IntKind.i64 2))), (1, (Operand.const (Value.int IntKind.i64 4)))]), none⟩ ::
    ⟨some 14, (Op.buildSlice 22 2 #[(0, (Operand.const (Value.int IntKind.i64 3))), (1, (Operand.const (Value.int IntKind.i64 2)))]), none⟩ ::
    ⟨some 15, (Op.buildSlice 22 3 #[(0, (Operand.const (Value.int IntKind.i64 2))), (1, (Operand.const (Value.int IntKind.i64 2))), (2, (Operand.const (Value.int IntKind.i64 2)))]), none⟩ ::
    ⟨some 16, (Op.buildSlice 22 0 #[]), none⟩ ::
    ⟨some 17, (Op.buildSlice 22 1 #[(0, (Operand.const (Value.int IntKind.i64 5)))]), none⟩ ::
    ⟨some 18, (Op.buildSlice 22 2 #[(0, (Operand.const (Value.int IntKind.i64 2))), (1, (Operand.const (Value.int IntKind.i64 2)))]), none⟩ ::
    ⟨some 19, (Op.buildSlice 26 7 #[(0, (Operand.tmp 12)), (1, (Operand.tmp 13)), (2, (Operand.tmp 14)), (3, (Operand.tmp 15)), (4, (Operand.tmp 16)), (5, (Operand.tmp 17)), (6, (Operand.tmp 18))]), none⟩ :: l) s H k := by
  refine goOp (xdo_bs22_1 2) rfl ?_
  refine goOp (xdo_bs22_2 2 4) rfl ?_
  refine goOp (xdo_bs22_2 3 2) rfl ?_
  refine goOp (xdo_bs22_3 2 2 2) rfl ?_
  refine goOp xdo_bs22_0 rfl ?_
  refine goOp (xdo_bs22_1 5) rfl ?_
  refine goOp (xdo_bs22_2 2 2) rfl ?_
  refine goOp (xdo_bs26_g7 _ _ _ _ _ _ _ rfl rfl rfl rfl rfl rfl rfl rfl) rfl ?_
  exact h _ _ _ _ _ _ _ _ rfl
/-! ### what it comes to -/
theorem specT_le {l : List Int} (k : Nat) : ∀ m a us, a ≤ l.length → (specT l k m a us).2 ≤ l.length := by
  intro m
  induction m with
  | zero => intro a us h; exact h
  | succ m ih =>
    intro a us h
    simp only [specT]
    split
    · split
      · split
        · exact ih _ _ (nextAt_le (nextAt_le h))
        · exact ih _ _ (nextAt_le (nextAt_le h))
      · exact ih _ _ (nextAt_le h)
    · exact ih _ _ h
theorem rep_tup4 {c : Nat} {H : Hp} {a b d e : Tr} {x y z u : AV} {b1 b2 b3 b4 : List (Nat × Nat)} (h1 : Rep c H a x b1) (h2 : Rep c H b y b2) (h3 : Rep c H d z b3) (h4 : Rep c H e u b4) : Rep c H (.tup [a, b, d, e]) (.tup [x, y, z, u]) (b1 ++ (b2 ++ (b3 ++ b4))) := by
  simp only [Rep, Reps]
  exact ⟨_, rfl, x, _, b1, b2 ++ (b3 ++ b4), rfl, h1, ⟨y, _, b2, b3 ++ b4, rfl, h2, ⟨z, _, b3, b4, rfl, h3, ⟨u, _, b4, [], rfl, h4, ⟨rfl, rfl⟩, by simp⟩, rfl⟩, rfl⟩, rfl⟩
set_option maxHeartbeats 4000000 in
set_option maxRecDepth 4000 in
theorem snd53 : Sound Try.prog 53 (FSem.eff F53).run := by
  refine sound_of hT (EOK_cons snd16 (EOK_cons snd17 (EOK_cons snd18 (EOK_cons snd80 (EOK_nil _))))) mixed A53 Try.func53 hb53 (by kernel_rfl) (by kernel_rfl) (by kernel_rfl) (by kernel_rfl) sh53 1 (by kernel_rfl) rs53 hr53 ?_
  intro args H r H' hw h
  have hv : F53 args H = some (r, H') := h
  clear h
  unfold F53 at hv
  split at hv
  · rename_i v
    obtain ⟨l, hl, hv⟩ := Option.bind_eq_some_iff.1 hv
    split at hv
    rotate_left
    · cases hv
    rename_i hr
    have hvv := Hide.mk (Option.some.inj hv)
    clear hv
    have x0 : Ext H (H.new [.nilS, .nilS]) := (Ext.refl hw).new _
    have c0 : OwnC H (H.new [.nilS, .nilS]) H.bs.length H.c [.nilS, .nilS] := ⟨Nat.le_refl _, new_at _ _⟩
    have hq0lt : H.c < (H.new [AV.nilS, AV.nilS]).c := Nat.lt_succ_self _
    generalize hH0 : H.new [.nilS, .nilS] = H0 at *
    generalize hp0 : H.bs.length = p0 at *
    generalize hq0 : H.c = q0 at *
    have hl0 := ints_ext x0.pre hl
    obtain ⟨hv1, hv2, hvo⟩ := ints_cell hl0
    have ht0 : Tape (H0.new [v, .int .i64 0]) H0.bs.length H0.c v l 0 := ⟨new_at _ _, ints_ext (Pre.new (Pre.refl _) _) hl0, hvo, Nat.zero_le _, hr⟩
    have hE0 : Ext H0 (H0.new [v, .int .i64 0]) := (Ext.refl x0.wf).new _
    have hbx : abox (.agg [v, .int .i64 0]) H0 = some (.ptr H0.bs.length H0.c 0, H0.new [v, .int .i64 0]) := by
      unfold abox; rw [if_pos (by simp [AV.cells, hv2]; rfl)]; rfl
    refine ⟨rfl, go ?_⟩
    unfold c53
    simp only [argSl]
    refine goSeq (goReg ?_)
    iterate 4 (apply goOp; (· (simp [hH0, hp0, hq0]; try exact rfl)); (· exact rfl))
    refine goNil (goSeqN (goSeq (goReg ?_)))
    iterate 4 (apply goOp; (· (simp [hv1, hbx]; try exact rfl)); (· exact rfl))
    refine goNil (goSeqN (goSeq (goReg ?_)))
    have hlt : H0.bs.length < (H0.new [v, .int .i64 0]).bs.length := by rw [new_len]; omega
    have hbl : H0.bs.length ≤ H0.bs.length := Nat.le_refl _
    have hver1 : H0.c < (H0.new [v, .int .i64 0]).c := by rw [new_c]; omega
    have hvH : H0.c ≤ H0.c := Nat.le_refl _
    generalize H0.new [v, .int .i64 0] = H1 at *
    generalize hb : H0.bs.length = b at hbl hlt ht0 hvo ⊢
    generalize hver0 : H0.c = ver at ht0 hver1 hvH hq0lt ⊢
    clear hbx hv1 hv2 hvo
    refine goLits7b fun v0 v1 v2 v3 v4 v5 v6 HL hL => ?_
    have hE1 : Ext H1 HL := by have := litH_ext seven hE0.wf; rwa [hL] at this
    obtain ⟨hk0, hk1⟩ := next_in hr 0 7 (by omega)
    obtain ⟨k, hk⟩ : ∃ k : Nat, nextOf l 0 7 = k := ⟨(nextOf l 0 7).toNat, by omega⟩
    obtain ⟨m, mb, mv, hsz, hm, hmat, hmb, hmv, hmv2⟩ := litH_rep seven hE0.wf k (by simp [seven]; omega)
    rw [hL] at hsz hmat hmv2
    have hmem : m ∈ seven := List.mem_of_getElem? hm
    have hM : mdM l = m := by simp only [mdM, hk, Int.toNat_natCast, List.getD_eq_getElem?_getD, hm, Option.getD_some]
    have hml := seven_len m hmem
    have hvs : HL.bs.length ≠ b := by have := Pre.le hE1.pre; omega
    have ht1 : Tape (HL.new [v0, v1, v2, v3, v4, v5, v6]) b ver v l 0 := ht0.ext (hE1.new _).pre
    have hE2 : Ext H0 (HL.new [v0, v1, v2, v3, v4, v5, v6]) := hE0.trans (hE1.new _)
    have hm1 : (HL.new [v0, v1, v2, v3, v4, v5, v6]).at mb mv = some ⟨mv, m.map (.int .i64), true, true⟩ := at_new hmat _
    have e16 := F16_at ht1 7
    have hix : aidx T 26 (.sl HL.bs.length HL.c 0 7 1 true) (.int .i64 k) = some (.ptr HL.bs.length HL.c k) := by
      rw [aidx26]; simp only [aidxS]; rw [if_pos ⟨trivial, by omega, by omega⟩]; simp
    have hld : aload T 22 (.ptr HL.bs.length HL.c k) (tapePut (HL.new [v0, v1, v2, v3, v4, v5, v6]) b ver v (nextAt l 0 7)) = some (.sl mb mv 0 m.length 1 true) := by
      have := at_put (H := HL.new [v0, v1, v2, v3, v4, v5, v6]) (ver := HL.c) (k := ⟨ver, [v, .int .i64 (nextAt l 0 7)], true, true⟩) hvs
      simp only [aload, T22, tapePut, this, new_at]
      exact hsz
    rw [hk] at e16
    have hmver : mv ≠ ver := by omega
    have hm2 := Keeps.tape (a' := nextAt l 0 7) ht1 hmver _ hm1
    have ht2 : Tape (tapePut (HL.new [v0, v1, v2, v3, v4, v5, v6]) b ver v (nextAt l 0 7)) b ver v l (nextAt l 0 7) := ht1.put (nextAt_le (Nat.zero_le _))
    have hE3 : Ext H0 (tapePut (HL.new [v0, v1, v2, v3, v4, v5, v6]) b ver v (nextAt l 0 7)) := hE2.tapeN (by omega) ht1
    have hver2 : mv < (tapePut (HL.new [v0, v1, v2, v3, v4, v5, v6]) b ver v (nextAt l 0 7)).c := by
      show mv < HL.c + 1
      have : mv < HL.c := hmv2
      omega
    replace hm1 := Hide.mk hm1
    replace hm2 := Hide.mk hm2
    replace ht1 := Hide.mk ht1
    replace ht2 := Hide.mk ht2
    replace hE2 := Hide.mk hE2
    replace hE3 := Hide.mk hE3
    replace hmem := Hide.mk hmem
    replace hver2 := Hide.mk hver2
    replace hr := Hide.mk hr
    replace x0 := Hide.mk x0
    replace c0 := Hide.mk c0
    replace hM := Hide.mk hM
    replace hmat := Hide.mk hmat
    clear hE0 hE1 ht0 hL hm hsz hl0 hH0 hp0
    repeat' (first | apply goSeq | apply goReg | apply goSeqN | apply goSeqR | apply goSkip | apply goRet | apply goNil | apply goBlock | apply goExit | apply goBlkN | apply goBlkR | apply goBlkE | apply goSeqE | apply goLoopR | apply goLoopE | refine xOp ?_ | refine xOp0 ?_ | refine xYes ?_ | refine xNo ?_ | refine xNoU ?_ | refine xIfT ?_ | refine xIfF ?_ | refine xIf ?_ ?_ | refine xSplit ?_ ?_ | refine xIfQ ?_ ?_ | refine xSplitQ ?_ ?_ | refine xBlkX ?_ | intro _)
    have hmv2 : mv < HL.c := hmv2
    have hr := hr.out
    have hm2 := hm2.out
    have hver2 := hver2.out
    clear hv
    have hverG : ver < (tapePut (HL.new [v0, v1, v2, v3, v4, v5, v6]) b ver v (nextAt l 0 7)).c := by omega
    generalize hH2 : tapePut (HL.new [v0, v1, v2, v3, v4, v5, v6]) b ver v (nextAt l 0 7) = H2 at hm2 ht2 hE3 hver2 hverG ⊢
    clear hH2 hld hix e16 ht1 hE2 hm1 hmat
    -- the shape
    obtain ⟨hn0, hn3⟩ := next_in hr (nextAt l 0 7) 4 (by omega)
    have e17 : F17 [.ptr b ver 0] H2 = some (mkS (tapePut H2 b ver v (mdS l).2) (mdS l).1) := by
      simp only [F17]; exact tapeF_at ht2.out
    have h3 : (mdS l).1.length = (nextOf l (nextAt l 0 7) 4).toNat := shapeT_len l (nextOf l (nextAt l 0 7) 4).toNat (nextAt l (nextAt l 0 7) 4)
    have hA : (mdS l).2 ≤ l.length := shapeT_le l (nextOf l (nextAt l 0 7) 4).toNat (nextAt l (nextAt l 0 7) 4) (nextAt_le (nextAt_le (Nat.zero_le _)))
    replace h3 : (mdS l).1.length ≤ 3 := by omega
    have hmd : mdD l = dataT l (sizeOf (mdS l).1).toNat (mdS l).2 := rfl
    have hmp : mdP l = specT l (mdM l).length (mdS l).1.length (mdD l).2 (List.replicate (mdM l).length false) := rfl
    have hmq : mdQ l = specT l (mdM l).length (mdS l).1.length (mdP l).2 (List.replicate (mdM l).length false) := rfl
    have hmt : madeTr4 l = .tup [.agg [trC (mdS l).1, trS (mdD l).1], trF (mdM l), trF (mdP l).1, trF (mdQ l).1] := rfl
    rw [hM.out] at hmp hmq hmt
    generalize mdS l = SA at *
    obtain ⟨S, A2⟩ := SA
    simp only at e17 h3 hA hmd hmp hmq hmt
    have tw := ht2.out.wf (a' := A2) hE3.out.wf
    have ht3 := (ht2.out.put hA).ext (mkS_ext tw S).pre
    have hE4 := (hE3.out.tapeN (a' := A2) (by omega) ht2.out).trans (mkS_ext tw S)
    have ho3 := mkS_own (tapePut H2 b ver v A2) S
    have his3 := ints_of_own ho3 (by omega)
    have hm3 := (mkS_ext tw S).pre.at (Keeps.tape (a' := A2) ht2.out hmver _ hm2)
    have hc3 : H2.c ≤ (mkS (tapePut H2 b ver v A2) S).2.c := (mkS_ext tw S).c
    generalize hr3 : mkS (tapePut H2 b ver v A2) S = r3 at *
    obtain ⟨sv, H3⟩ := r3
    simp only at ht3 hE4 ho3 his3 hm3 hc3
    -- the tensor
    have hsz := sizeOf_le S
    have e80 : F80 [.ptr b ver 0, sv] H3 = some (mk (.agg [trC S, trS (mdD l).1]) (tapePut H3 b ver v (mdD l).2)) := by
      show (ints H3 sv).bind _ = _
      rw [his3, Option.bind_some, if_pos (by omega), hmd]
      exact tapeF_at ht3
    have hDl : (mdD l).1.length ≤ 4096 := by rw [hmd, dataT_len]; omega
    have hA3 : (mdD l).2 ≤ l.length := by rw [hmd]; exact dataT_le _ _ hA
    generalize mdD l = DA at *
    obtain ⟨D, A3⟩ := DA
    simp only at e80 hDl hA3 hmp hmt
    have tw3 := ht3.wf (a' := A3) hE4.wf
    obtain ⟨bs, r1, f1, x1, t1⟩ := mk_tens (H := tapePut H3 b ver v A3) tw3 (a := trC S) (b := trS D) (s := S) (d := D) (.inr (.inr rfl)) (.inl rfl) (by omega) (by omega)
    have ht4 := (ht3.put hA3).ext x1.pre
    have hE5 := (hE4.tapeN (a' := A3) (by omega) ht3).trans x1
    have hm4 := x1.pre.at (Keeps.tape (a' := A3) ht3 hmver _ hm3)
    have hc4 : H3.c ≤ (mk (.agg [trC S, trS D]) (tapePut H3 b ver v A3)).2.c := x1.c
    replace f1 : Fresh H3.c (mk (.agg [trC S, trS D]) (tapePut H3 b ver v A3)).2.c bs := f1
    replace r1 : Rep H3.c (mk (.agg [trC S, trS D]) (tapePut H3 b ver v A3)).2 (.agg [trC S, trS D]) (mk (.agg [trC S, trS D]) (tapePut H3 b ver v A3)).1 bs := r1
    generalize hr4 : mk (.agg [trC S, trS D]) (tapePut H3 b ver v A3) = r4 at *
    obtain ⟨tv, H4⟩ := r4
    simp only at ht4 hE5 hm4 hc4 f1 r1 t1
    obtain ⟨shv, dav, b1, b2, rfl, rs1, rd1, rfl⟩ := rep_agg2.1 r1
    obtain ⟨_, _, hag, hsi, hdi⟩ := tens_some t1
    cases hag
    have hone := ints_one' hsi
    have hone2 := ints_one' hdi
    -- its cell
    have a5 := new_at H4 [.nilS, .nilS]
    have x5 : Ext H4 (H4.new [.nilS, .nilS]) := (Ext.refl hE5.wf).new _
    have st5 := st40 (x := shv) (y := dav) a5 hone hone2
    have hc5 : H4.c < (H4.new [AV.nilS, AV.nilS]).c := Nat.lt_succ_self _
    have x6 : Ext H4 ((H4.new [.nilS, .nilS]).put H4.bs.length ⟨H4.c, [shv, dav], true, true⟩) := put_ext hE5.wf x5 (Nat.le_refl _) a5
    have a6 : ((H4.new [.nilS, .nilS]).put H4.bs.length ⟨H4.c, [shv, dav], true, true⟩).at H4.bs.length H4.c = some ⟨H4.c, [shv, dav], true, true⟩ := at_put_same a5 rfl
    have hc6 : ((H4.new [AV.nilS, AV.nilS]).put H4.bs.length ⟨H4.c, [shv, dav], true, true⟩).c = (H4.new [AV.nilS, AV.nilS]).c := rfl
    generalize hH5 : H4.new [.nilS, .nilS] = H5 at *
    generalize hp5 : H4.bs.length = p5 at *
    generalize hH6 : H5.put p5 ⟨H4.c, [shv, dav], true, true⟩ = H6 at *
    have hE6 := hE5.trans x6
    have ht6 := ht4.ext x6.pre
    have hm6 := x6.pre.at hm4
    have rs6 := Rep.ext x6.pre rs1
    have rd6 := Rep.ext x6.pre rd1
    have hsi6 := ints_ext x6.pre hsi
    have l40 := ld40 a6
    have l22 := ld22 a6 0
    simp only [List.getElem?_cons_zero] at l22
    have hlS := alenS_ints hsi6
    simp only [← alen22] at hlS
    have him6 : ints H6 (.sl mb mv 0 m.length 1 true) = some m := ints_of_ownF (H0 := ⟨[], 0⟩) ⟨mb, mv, rfl, Nat.zero_le _, hm6⟩ (by omega)
    have hmof : off (.sl mb mv 0 m.length 1 true) b = true := by
      have : mb ≠ b := by omega
      simpa [off] using this
    -- the spec
    have e18 : F18 [.ptr b ver 0, .sl mb mv 0 m.length 1 true, .int .i64 S.length] H6 = some (mkF (tapePut H6 b ver v (mdP l).2) (mdP l).1) := by
      rw [F18_at ht6 him6 (by omega) (by omega) hmof, hmp]
    have hPl : (mdP l).1.length ≤ 3 := by rw [hmp, specT_len]; exact h3
    have hA4 : (mdP l).2 ≤ l.length := by rw [hmp]; exact specT_le _ _ _ _ hA3
    generalize mdP l = PA at *
    obtain ⟨P, A4⟩ := PA
    simp only at e18 hPl hA4 hmq hmt
    have tw6 := ht6.wf (a' := A4) hE6.wf
    have ho7 := mkF_own (tapePut H6 b ver v A4) P
    have hx7 := mkF_ext tw6 P
    have hk7 : ∀ b' ver', ver' ≠ ver → Keeps H6 (mkF (tapePut H6 b ver v A4) P).2 b' ver' := fun b' ver' h => (Keeps.tape ht6 h).trans (Keeps.pre hx7.pre b' ver')
    have hE7 := (hE6.tapeN (a' := A4) (by omega) ht6).trans hx7
    have hc7 : H6.c < (mkF (tapePut H6 b ver v A4) P).2.c := Nat.lt_succ_self _
    have ht7 := (ht6.put hA4).ext hx7.pre
    generalize hr7 : mkF (tapePut H6 b ver v A4) P = r7 at *
    obtain ⟨pv, H7⟩ := r7
    simp only at ho7 hk7 hE7 hc7 ht7
    obtain ⟨b7, r7, f7⟩ := OwnF.repF hE7.wf ho7
    have a7 := hk7 p5 H4.c (by omega) _ a6
    have l40b := ld40 a7
    have l22b := ld22 a7 0
    simp only [List.getElem?_cons_zero] at l22b
    have hm7 := hk7 mb mv hmver _ hm6
    have him7 : ints H7 (.sl mb mv 0 m.length 1 true) = some m := ints_of_ownF (H0 := ⟨[], 0⟩) ⟨mb, mv, rfl, Nat.zero_le _, hm7⟩ (by omega)
    have e18b : F18 [.ptr b ver 0, .sl mb mv 0 m.length 1 true, .int .i64 S.length] H7 = some (mkF (tapePut H7 b ver v (mdQ l).2) (mdQ l).1) := by
      rw [F18_at ht7 him7 (by omega) (by omega) hmof, hmq]
    have hQl : (mdQ l).1.length ≤ 3 := by rw [hmq, specT_len]; exact h3
    generalize mdQ l = QA at *
    obtain ⟨Q, A5⟩ := QA
    simp only at e18b hQl hmt
    have tw7 := ht7.wf (a' := A5) hE7.wf
    have hoq := mkF_own (tapePut H7 b ver v A5) Q
    have hxq := mkF_ext tw7 Q
    have hkq : ∀ b' ver', ver' ≠ ver → Keeps H7 (mkF (tapePut H7 b ver v A5) Q).2 b' ver' := fun b' ver' h => (Keeps.tape ht7 h).trans (Keeps.pre hxq.pre b' ver')
    have hEq := (hE7.tapeN (a' := A5) (by omega) ht7).trans hxq
    have hcq : H7.c < (mkF (tapePut H7 b ver v A5) Q).2.c := Nat.lt_succ_self _
    generalize hrq : mkF (tapePut H7 b ver v A5) Q = rq at *
    obtain ⟨qv, H9⟩ := rq
    simp only at hoq hkq hEq hcq
    obtain ⟨bq, rq, fq⟩ := OwnF.repF hEq.wf hoq
    have a9 := hkq p5 H4.c (by omega) _ a7
    have l40c := ld40 a9
    have c9 : OwnC H H9 p0 q0 [.nilS, .nilS] := (c0.out.ext hEq.pre)
    have st8 := st40 (x := shv) (y := dav) c9.at' hone hone2
    have hk8 : ∀ b' ver', ver' ≠ q0 → Keeps H9 (H9.put p0 ⟨q0, [shv, dav], true, true⟩) b' ver' := fun b' ver' h => Keeps.put c9.at' h
    have lr := ld40 (at_put_same (k' := ⟨q0, [shv, dav], true, true⟩) c9.at' rfl)
    have hx8 := put_ext (cs := [shv, dav]) hw (x0.out.trans hEq) (by omega) c9.at'
    replace f7 : Fresh H6.c H7.c b7 := f7
    replace r7 : Rep H6.c H7 (trF P) pv b7 := r7
    replace fq : Fresh H7.c H9.c bq := fq
    replace rq : Rep H7.c H9 (trF Q) qv bq := rq
    clear ht2 hE3 ht3 hE4 ho3 his3 hm3 tw tw3 x1 ht4 hE5 hm4 r1 t1 rs1 rd1 hsi hdi a5 x5 x6 hE6 ht6 hsi6 him6 hmof tw6 ho7 hx7 hE7 c9 hn0 hn3 hk0 hk1 hk hH6 ht7 him7 hm7 tw7 hoq hxq hEq hA4
    replace f1 := Hide.mk f1
    replace f7 := Hide.mk f7
    replace r7 := Hide.mk r7
    replace fq := Hide.mk fq
    replace rq := Hide.mk rq
    replace rs6 := Hide.mk rs6
    replace rd6 := Hide.mk rd6
    replace hm6 := Hide.mk hm6
    replace hk7 := Hide.mk hk7
    replace hkq := Hide.mk hkq
    replace hk8 := Hide.mk hk8
    replace hx8 := Hide.mk hx8
    replace hmt := Hide.mk hmt
    repeat' (first | apply goSeq | apply goReg | apply goSeqN | apply goSeqR | apply goSkip | apply goRet | apply goNil | apply goBlock | apply goExit | apply goBlkN | apply goBlkR | apply goBlkE | apply goSeqE | apply goLoopR | apply goLoopE | refine xOp ?_ | refine xOp0 ?_ | refine xYes ?_ | refine xNo ?_ | refine xNoU ?_ | refine xIfT ?_ | refine xIfF ?_ | refine xIf ?_ ?_ | refine xSplit ?_ ?_ | refine xIfQ ?_ ?_ | refine xSplitQ ?_ ?_ | refine xBlkX ?_ | intro _)
    apply goDrw
    iterate 14 (apply goTOp; (· (simp [*]; try exact rfl)); (· exact rfl))
    apply goTOp0; (· (simp [*]; try exact rfl)); (· exact rfl)
    iterate 3 (apply goTOp; (· (simp [*]; try exact rfl)); (· exact rfl))
    refine goTNil (by simp [again, XG_none, get, l40, l40b, l40c, l22, l22b]) ?_
    repeat' (first | apply goSeq | apply goReg | apply goSeqN | apply goSeqR | apply goSkip | apply goRet | apply goNil | apply goBlock | apply goExit | apply goBlkN | apply goBlkR | apply goBlkE | apply goSeqE | apply goLoopR | apply goLoopE | refine xOp ?_ | refine xOp0 ?_ | refine xYes ?_ | refine xNo ?_ | refine xNoU ?_ | refine xIfT ?_ | refine xIfF ?_ | refine xIf ?_ ?_ | refine xSplit ?_ ?_ | refine xIfQ ?_ ?_ | refine xSplitQ ?_ ?_ | refine xBlkX ?_ | intro _)
    have hf1 := f1.out
    have hf7 := f7.out
    have hfq := fq.out
    have hk12 : ∀ p ∈ b1 ++ b2, p.2 ≠ ver ∧ p.2 ≠ q0 := fun p hp => by have := (hf1.2 p hp).1; omega
    have hk77 : ∀ p ∈ b7, p.2 ≠ ver ∧ p.2 ≠ q0 := fun p hp => by have := (hf7.2 p hp).1; omega
    have hkqq : ∀ p ∈ bq, p.2 ≠ q0 := fun p hp => by have := (hfq.2 p hp).1; omega
    have hkk : ∀ b' ver', ver' ≠ ver → ver' ≠ q0 → Keeps H6 (H9.put p0 ⟨q0, [shv, dav], true, true⟩) b' ver' := fun b' ver' h1 h2 => ((hk7.out b' ver' h1).trans (hkq.out b' ver' h1)).trans (hk8.out b' ver' h2)
    have hm8 : Rep H.c (H9.put p0 ⟨q0, [shv, dav], true, true⟩) (trF m) (.sl mb mv 0 m.length 1 true) [(mb, mv)] := rep_F.2 ⟨mb, mv, rfl, by omega, hkk mb mv hmver (by omega) _ hm6.out, rfl⟩
    have ht8 : Rep H.c (H9.put p0 ⟨q0, [shv, dav], true, true⟩) (.agg [trC S, trS D]) (.agg [shv, dav]) (b1 ++ b2) :=
      rep_agg2.2 ⟨shv, dav, b1, b2, rfl, rep_down _ (c0 := 0) (okT_C 0 S) (Nat.zero_le _) (by omega) (Rep.keep (trC S) (fun p hp => hkk p.1 p.2 (hk12 p (by simp [hp])).1 (hk12 p (by simp [hp])).2) rs6.out), rep_down _ (c0 := 0) (okT_S 0 D) (Nat.zero_le _) (by omega) (Rep.keep (trS D) (fun p hp => hkk p.1 p.2 (hk12 p (by simp [hp])).1 (hk12 p (by simp [hp])).2) rd6.out), rfl⟩
    have hp8 : Rep H.c (H9.put p0 ⟨q0, [shv, dav], true, true⟩) (trF P) pv b7 := rep_down _ (c0 := 0) (okT_F 0 P) (Nat.zero_le _) (by omega) (Rep.keep (trF P) (fun p hp => (hkq.out p.1 p.2 (hk77 p hp).1).trans (hk8.out p.1 p.2 (hk77 p hp).2)) r7.out)
    have hq8 : Rep H.c (H9.put p0 ⟨q0, [shv, dav], true, true⟩) (trF Q) qv bq := rep_down _ (c0 := 0) (okT_F 0 Q) (Nat.zero_le _) (by omega) (Rep.keep (trF Q) (fun p hp => hk8.out p.1 p.2 (hkqq p hp)) rq.out)
    have hall : Fresh H.c H9.c ((b1 ++ b2) ++ ([(mb, mv)] ++ (b7 ++ bq))) := by
      have g1 : Fresh H.c H2.c [(mb, mv)] := Fresh.one (by omega) hver2
      have g2 := g1.app (hf1.wide hc3 (Nat.le_refl _)) (by omega) (by omega)
      have g3 := g2.app (hf7.wide (by omega : H4.c ≤ H6.c) (Nat.le_refl _)) (by omega) (by omega)
      have g4 := g3.app hfq (by omega) (by omega)
      refine g4.perm ?_
      rw [← List.append_assoc (b1 ++ b2), List.append_assoc _ b7 bq]
      exact List.Perm.append_right (b7 ++ bq) List.perm_append_comm
    exact goEndR (vs := [.agg [shv, dav], .sl mb mv 0 m.length 1 true, pv, qv]) (bs := (b1 ++ b2) ++ ([(mb, mv)] ++ (b7 ++ bq))) (d := H9.c) (t := .tup [.agg [trC S, trS D], trF m, trF P, trF Q]) hw hx8.out.pre (rep_tup4 ht8 hm8 hp8 hq8) hall (by simp) (by simp [rs53, lr]) rfl (hmt.out ▸ hvv.out)
  · cases hv
/- Walks: MoveRefuses. -/
theorem F54_of {H : Hp} {n : Int} {a b c d v : AV} {sz s f t rg : List Int} (h1 : ints H a = some sz) (h2 : ints H b = some s) (h3 : ints H c = some f) (h4 : ints H d = some t) (h5 : ints H v = some rg) : F54 [.int .i64 n, a, b, c, d, v] H = some (.bool true) := by
  simp [F54, h1, h2, h3, h4, h5]
open Classical in
noncomputable def F15 (args : List AV) (H : Hp) : Option AV := match args with
  | [tv, .int .i64 _, a, b, c, d, v] => if (∃ l, ints H tv = some l ∧ In64 l) ∧ (∃ l, ints H a = some l) ∧ (∃ l, ints H b = some l) ∧ (∃ l, ints H c = some l) ∧ (∃ l, ints H d = some l) ∧ (∃ l, ints H v = some l) then some (.bool true) else none
  | _ => none
set_option maxHeartbeats 8000000 in
theorem snd15 : Sound Try.prog 15 (FSem.pure F15).run := by
  refine sound_of hT (EOK_cons snd53 (EOK_cons snd54 (EOK_cons snd55 (EOK_nil _)))) mixed A15 Try.func15 hb15 (by kernel_rfl) (by kernel_rfl) (by kernel_rfl) (by kernel_rfl) sh15 7 (by kernel_rfl) rs15 hr15 ?_
  intro args H r H' hw h
  obtain ⟨rfl, hv⟩ := pureAt h
  clear h
  unfold F15 at hv
  split at hv
  rotate_left
  · cases hv
  rename_i tv dd a b c d v
  split at hv
  rotate_left
  · cases hv
  rename_i hex
  obtain ⟨⟨l, hl, hr⟩, ⟨sz, ha⟩, ⟨s, hb⟩, ⟨f, hc⟩, ⟨t, hd⟩, ⟨rg, hv5⟩⟩ := hex
  cases hv
  have g := made_good hr
  have zd := Fz.of hd
  have zv := Fz.of hv5
  have p54 : ∀ Hx, Fm ⟨H', []⟩ Hx → F54 [.int .i64 dd, a, b, c, d, v] Hx = some (.bool true) := fun Hx hF => F54_of (ints_ext hF.pre' ha) (ints_ext hF.pre' hb) (ints_ext hF.pre' hc) (ints_ext hF.pre' hd) (ints_ext hF.pre' hv5)
  have p55 : ∀ Hx, F55 [] Hx = some (.bool true) := fun _ => rfl
  have e53 : ∀ Hx, Fm ⟨H', []⟩ Hx → F53 [tv] Hx = some (mk (madeTr4 l) Hx) := fun Hx hF => by
    show (ints Hx tv).bind _ = _
    rw [ints_ext hF.pre' hl, Option.bind_some, if_pos hr]
  have hm3 := (six_ok _ g.six).2.2.2
  have hs3 := g.s3
  have hpl := g.pl
  have hp3 : (mdP l).1.length ≤ 3 := by omega
  have hq3 : (mdQ l).1.length ≤ 3 := by unfold mdQ; rw [specT_len]; exact hs3
  clear hpl ha hb hc hd hv5 hl
  have hdl : ((mdD l).1.length : Int) = sizeOf (mdS l).1 := by
    have := g.tok
    simp only [tOK, Bool.and_eq_true, decide_eq_true_eq] at this
    exact this.2
  have hsz4 := sizeOf_le (mdS l).1
  unfold madeTr4 at e53
  clear g hr
  generalize (mdS l).1 = S at *
  generalize (mdD l).1 = D at *
  generalize mdM l = M at *
  generalize (mdP l).1 = P at *
  generalize (mdQ l).1 = Q at *
  refine ⟨rfl, go (zStart (SL.nil hw []) ?_)⟩
  unfold c15
  simp only [argSl]
  repeat' (first | apply zSeq | apply zReg | apply zSeqN | apply zSeqR | apply zSkip | apply zRet | apply zNil | apply zBlock | apply zExit | apply zBlkN | apply zBlkR | apply zBlkE | apply zSeqE | apply zLoopR | apply zLoopE | refine yYes' ?_ | refine yNo' ?_ | refine yNoU' ?_ | refine yLd' ?_ | refine yLdI' ?_ | refine yStS' ?_ | refine yStF' ?_ | refine ySt' ?_ | refine yBS' fun _ _ => ?_ | refine yAlloc' fun _ _ => ?_ | refine yBox' fun _ _ => ?_ | refine yOp' ?_ | refine yIfT ?_ | refine yIfF ?_ | refine yIf ?_ ?_ | refine ySplit' ?_ ?_ | refine yIfQ ?_ ?_ | refine ySplitQ' ?_ ?_ | refine yBlkX ?_ | intro _)
  refine zCall' (F := F53) (args := [tv]) (t := .tup [.agg [trC S, trS D], trF M, trF P, trF Q]) rfl rfl rfl (fun Hx hS hF => e53 Hx hF) fun r => ?_
  refine zTup' fun vs hlv h => ?_
  obtain ⟨t1, mv, pv, qv, rfl⟩ : ∃ x y z u, vs = [x, y, z, u] := by
    match vs, hlv with
    | [x, y, z, u], _ => exact ⟨_, _, _, _, rfl⟩
  subst h
  simp only [List.zip_cons_cons, List.zip_nil_right, List.cons_append, List.nil_append]
  refine zAgg2' fun sx dy h => ?_
  subst h
  refine zNum' .here (numsT_C (by omega)) fun o1 _ _ => ?_
  refine zNum' (.there .here) (numsT_S (by omega)) fun o2 _ _ => ?_
  repeat' (first | apply zSeq | apply zReg | apply zSeqN | apply zSeqR | apply zSkip | apply zRet | apply zNil | apply zBlock | apply zExit | apply zBlkN | apply zBlkR | apply zBlkE | apply zSeqE | apply zLoopR | apply zLoopE | refine yYes' ?_ | refine yNo' ?_ | refine yNoU' ?_ | refine yLd' ?_ | refine yLdI' ?_ | refine yStS' ?_ | refine yStF' ?_ | refine ySt' ?_ | refine yBS' fun _ _ => ?_ | refine yAlloc' fun _ _ => ?_ | refine yBox' fun _ _ => ?_ | refine yOp' ?_ | refine yIfT ?_ | refine yIfF ?_ | refine yIf ?_ ?_ | refine ySplit' ?_ ?_ | refine yIfQ ?_ ?_ | refine ySplitQ' ?_ ?_ | refine yBlkX ?_ | intro _)
  refine zPure' (F := F54) rfl rfl rfl (fun Hx hS hF => F54_of (hS.ints 3 rfl (numsT_F (by omega))) (hS.ints 1 rfl (numsT_C (by omega))) (hS.ints 4 rfl (numsT_F (by omega))) (zd.out _ hF) (zv.out _ hF)) ?_
  repeat' (first | apply zSeq | apply zReg | apply zSeqN | apply zSeqR | apply zSkip | apply zRet | apply zNil | apply zBlock | apply zExit | apply zBlkN | apply zBlkR | apply zBlkE | apply zSeqE | apply zLoopR | apply zLoopE | refine yYes' ?_ | refine yNo' ?_ | refine yNoU' ?_ | refine yLd' ?_ | refine yLdI' ?_ | refine yStS' ?_ | refine yStF' ?_ | refine ySt' ?_ | refine yBS' fun _ _ => ?_ | refine yAlloc' fun _ _ => ?_ | refine yBox' fun _ _ => ?_ | refine yOp' ?_ | refine yIfT ?_ | refine yIfF ?_ | refine yIf ?_ ?_ | refine ySplit' ?_ ?_ | refine yIfQ ?_ ?_ | refine ySplitQ' ?_ ?_ | refine yBlkX ?_ | intro _)
  refine zPure' (F := F54) rfl rfl rfl (fun Hx hS hF => F54_of (hS.ints 3 rfl (numsT_F (by omega))) (hS.ints 1 rfl (numsT_C (by omega))) (hS.ints 4 rfl (numsT_F (by omega))) (hS.ints 5 rfl (numsT_F (by omega))) (zv.out _ hF)) ?_
  repeat' (first | apply zSeq | apply zReg | apply zSeqN | apply zSeqR | apply zSkip | apply zRet | apply zNil | apply zBlock | apply zExit | apply zBlkN | apply zBlkR | apply zBlkE | apply zSeqE | apply zLoopR | apply zLoopE | refine yYes' ?_ | refine yNo' ?_ | refine yNoU' ?_ | refine yLd' ?_ | refine yLdI' ?_ | refine yStS' ?_ | refine yStF' ?_ | refine ySt' ?_ | refine yBS' fun _ _ => ?_ | refine yAlloc' fun _ _ => ?_ | refine yBox' fun _ _ => ?_ | refine yOp' ?_ | refine yIfT ?_ | refine yIfF ?_ | refine yIf ?_ ?_ | refine ySplit' ?_ ?_ | refine yIfQ ?_ ?_ | refine ySplitQ' ?_ ?_ | refine yBlkX ?_ | intro _)
  exact zEndP (vs := [.bool true]) (by simp) (fun H1 hS => by simp [rs15]) rfl
end Go.Proofs.Ytokadkakmhfdeaa.Pq
