/- Code and functions. -/
import Derived.Test.YtokadkakmhfdeaaPqN
import Derived.Laws.Sem
set_option linter.unusedVariables false
set_option linter.unusedSimpArgs false
namespace Go.Proofs.Ytokadkakmhfdeaa.Pq
open Go.RowKit

/-- What is told beside a function's code: where an append lives beside what it was made of; what has to be seen again in regions that draw their order; of each loop which slots live on, and whether what a round makes is let go. -/
structure Ann where
  share : Nat → Bool := fun _ => false
  recs : Nat → List (Nat × Nat) := fun _ => []
  live : Nat → List Nat := fun _ => []
  drop : Nat → Bool := fun _ => true

def firstReg : Code → Nat
  | .region id _ _ => id
  | .seq a _ => firstReg a
  | .block _ b => firstReg b
  | .loop b => firstReg b
  | .cond _ x _ => firstReg x
  | _ => 0

def okCode (E : Env) (A : Ann) : Code → Bool
  | .region id ops draw => !draw || (lexA ops && chainA E ops && (recs E ops == A.recs id))
  | .seq a b => okCode E A a && okCode E A b
  | .cond _ a b => okCode E A a && okCode E A b
  | .block _ b => okCode E A b
  | .loop b => okCode E A b
  | _ => true

inductive Ex where
  | norm | exit (id : Nat) | ret
def Ex.exit' : Ex → Exit
  | .norm => .normal
  | .exit id => .exit id
  | .ret => .ret

def cutSl (lv : List Nat) (s : Sl) : Sl := lv.map fun j => (j, get s j)
def Hp.take (H : Hp) (n : Nat) : Hp := ⟨H.bs.take n, H.c⟩

def xloop (f : Sl → Hp → Option (Ex × Sl × Hp)) (lv : List Nat) (drop : Bool) (n : Nat) : Nat → Sl → Hp → Option (Ex × Sl × Hp)
  | 0, _, _ => none
  | k + 1, s, H =>
    match f (cutSl lv s) (if drop = true then H.take n else H) with
    | some (.norm, s', H') => xloop f lv drop n k s' H'
    | r => r

open Classical in
noncomputable def xdraw (E : Env) (T : Tab) (share : Bool) (nt : Nat) (ops : Array Oper) (rs : List (Nat × Nat)) (s : Sl) (H : Hp) : Option (Sl × Hp) :=
  match xtr E T share nt ops ops.toList s H with
  | some tr => if Restab E T share ops tr rs then tr[ops.size]? else none
  | none => none

noncomputable def xcode (E : Env) (T : Tab) (A : Ann) (nt k : Nat) : Code → Sl → Hp → Option (Ex × Sl × Hp)
  | .skip, s, H => some (.norm, s, H)
  | .label _, s, H => some (.norm, s, H)
  | .region id ops draw, s, H =>
    (if draw = true then xdraw E T (A.share id) nt ops (A.recs id) s H else xlist E T (A.share id) nt ops ops.toList s H).map fun r => (.norm, r.1, r.2)
  | .seq a b, s, H =>
    match xcode E T A nt k a s H with
    | some (.norm, s', H') => xcode E T A nt k b s' H'
    | r => r
  | .cond c x y, s, H =>
    match ev s c with
    | .bool true => xcode E T A nt k x s H
    | .bool false => xcode E T A nt k y s H
    | _ => none
  | .block id b, s, H =>
    match xcode E T A nt k b s H with
    | some (.exit j, s', H') => some (if j = id then .norm else .exit j, s', H')
    | r => r
  | .loop b, s, H => xloop (xcode E T A nt k b) (A.live (firstReg b)) (A.drop (firstReg b)) H.bs.length k s H
  | .exit id, s, H => some (.exit id, s, H)
  | .ret, s, H => some (.ret, s, H)
  | _, _, _ => none

section
variable {P : Program} {T : Tab} {B0 : Nat} {w0 : World} {E : Env}

theorem St.back {G G' : Cx} {H H' : Hp} {w : World} (h : St B0 w0 G' H' w) (hc : H.c ≤ H'.c) (hbs : ∀ (b : Nat) (k : Blk), H.bs[b]? = some k → H'.bs[b]? = some k ∧ k.ver < H.c) (hG : G.c = H.c) (hmu : G.mu = G'.mu) (hsz : G.sz = G'.sz)
    (hr : ∀ (b : Nat) (k : Blk), H.bs[b]? = some k → ∀ vs, RVs G' k.cells vs → RVs G k.cells vs) : St B0 w0 G H w := by
  refine ⟨h.below, h.base, hG, ?_, ?_, fun b k hk => h.ones b k (hbs b k hk).1, ?_⟩
  · intro b k hk
    obtain ⟨h1, h2⟩ := hbs b k hk
    obtain ⟨_, B, o, h3, ⟨cs, e, fr, h4, h5, h6, h7⟩, h8⟩ := h.blk b k h1
    exact ⟨h2, B, o, by rw [hmu]; exact h3, ⟨cs, e, fr, h4, h5, hr b k hk _ h6, h7⟩, h8⟩
  · intro b k b' k' B o B' o' hne hk hk' hm hm'
    rw [hmu] at hm hm'
    exact h.apart b k b' k' B o B' o' hne (hbs b k hk).1 (hbs b' k' hk').1 hm hm'
  · intro b v B o hv hm
    rw [hmu] at hm
    obtain ⟨cs, e, fr, h1, h2⟩ := h.maps b v B o (by rw [h.c]; omega) hm
    exact ⟨cs, e, fr, h1, by rw [hsz]; exact h2⟩

theorem St.take {G : Cx} {H : Hp} {w : World} (h : St B0 w0 G H w) (n : Nat) : St B0 w0 G (H.take n) w := by
  refine h.back (Nat.le_refl _) (fun b k hk => ?_) h.c rfl rfl (fun _ _ _ _ hr => hr)
  simp only [Hp.take, List.getElem?_take] at hk
  split at hk
  · exact ⟨hk, (h.blk b k hk).1⟩
  · cases hk

theorem RF'.cut {nt : Nat} {G : Cx} {s : Sl} {a : Act} (h : RF' nt G s a) (lv : List Nat) : RF' nt G (cutSl lv s) a := by
  refine ⟨fun t => ?_, h.2⟩
  have : get (cutSl lv s) t = get s t ∨ get (cutSl lv s) t = .bad := by
    unfold cutSl
    induction lv with
    | nil => exact .inr rfl
    | cons j lv ih =>
      simp only [List.map_cons, get]
      by_cases ht : t = j
      · rw [if_pos ht, ht]; exact .inl rfl
      · rw [if_neg ht]; exact ih
  rcases this with e | e
  · rw [e]; exact h.1 t
  · rw [e]; exact .bad _

theorem xcode_ok (hT : TOK P T) (hE : EOK P E) (hmix : P.follows .mixedOrders = true) {A : Ann} {nt k : Nat} : ∀ (c : Code), okCode E A c = true → ∀ {s s' : Sl} {H H' : Hp} {x : Ex} {a : Act} {w : World} {G : Cx} {Q : Exit → Act → World → Prop},
    xcode E T A nt k c s H = some (x, s', H') → St B0 w0 G H w → RF' nt G s a →
    (∀ a' w' G', Le G G' → St B0 w0 G' H' w' → RF' nt G' s' a' → a'.defers = a.defers → Q x.exit' a' w') → c.wp P Q a w := by
  intro c
  induction c with
  | skip =>
    intro _ s s' H H' x a w G Q hx hst hrf hk
    simp only [xcode] at hx; cases hx
    exact wp_skip (hk a w G (Le.refl G) hst hrf rfl)
  | label l =>
    intro _ s s' H H' x a w G Q hx hst hrf hk
    simp only [xcode] at hx; cases hx
    exact wp_label (hk a w G (Le.refl G) hst hrf rfl)
  | exit id =>
    intro _ s s' H H' x a w G Q hx hst hrf hk
    simp only [xcode] at hx; cases hx
    exact wp_exit (hk a w G (Le.refl G) hst hrf rfl)
  | ret =>
    intro _ s s' H H' x a w G Q hx hst hrf hk
    simp only [xcode] at hx; cases hx
    exact wp_ret (hk a w G (Le.refl G) hst hrf rfl)
  | region id ops draw =>
    intro hok s s' H H' x a w G Q hx hst hrf hk
    simp only [xcode] at hx
    obtain ⟨r, hr, he⟩ := Option.map_eq_some_iff.1 hx
    obtain ⟨r1, r2⟩ := r
    cases he
    cases draw with
    | false =>
      simp only [Bool.false_eq_true, if_false] at hr
      exact wp_region_list (xlist_ok hT hE ops.toList hst hrf hr hk)
    | true =>
      simp only [if_true, xdraw] at hr
      simp only [okCode, Bool.not_true, Bool.false_or, Bool.and_eq_true, beq_iff_eq] at hok
      split at hr
      · rename_i tr htr
        split at hr
        · rename_i hstab
          rw [← hok.2] at hstab
          exact draw_ok hT hE hmix htr hok.1.1 hok.1.2 hstab hst hrf hr hk
        · cases hr
      · cases hr
  | seq p q ihp ihq =>
    intro hok s s' H H' x a w G Q hx hst hrf hk
    simp only [okCode, Bool.and_eq_true] at hok
    simp only [xcode] at hx
    refine wp_seq ?_
    split at hx
    · rename_i s1 H1 h1
      exact ihp hok.1 h1 hst hrf fun a1 w1 G1 g1 g2 g3 g4 => ihq hok.2 hx g2 g3 fun a2 w2 G2 e1 e2 e3 e4 => hk a2 w2 G2 (g1.trans e1) e2 e3 (e4.trans g4)
    · rename_i hne
      refine ihp hok.1 hx hst hrf fun a1 w1 G1 g1 g2 g3 g4 => ?_
      have := hk a1 w1 G1 g1 g2 g3 g4
      cases x with
      | norm => exact absurd hx (hne _ _)
      | exit id => exact this
      | ret => exact this
  | cond c p q ihp ihq =>
    intro hok s s' H H' x a w G Q hx hst hrf hk
    simp only [okCode, Bool.and_eq_true] at hok
    simp only [xcode] at hx
    have hc := hrf.1.ev c
    split at hx
    · rename_i he
      rw [he] at hc
      refine wp_cond_true ?_ (ihp hok.1 hx hst hrf hk)
      generalize a.eval c = v at hc
      cases hc; rfl
    · rename_i he
      rw [he] at hc
      refine wp_cond_false ?_ (ihq hok.2 hx hst hrf hk)
      generalize a.eval c = v at hc
      cases hc; rfl
    · cases hx
  | block id b ih =>
    intro hok s s' H H' x a w G Q hx hst hrf hk
    simp only [okCode] at hok
    simp only [xcode] at hx
    refine wp_block ?_
    split at hx
    · rename_i j s1 H1 h1
      cases hx
      refine ih hok h1 hst hrf fun a1 w1 G1 g1 g2 g3 g4 => ?_
      have := hk a1 w1 G1 g1 g2 g3 g4
      simp only [Ex.exit', Exit.inBlock]
      by_cases hj : j = id
      · rw [if_pos hj] at this ⊢; exact this
      · rw [if_neg hj] at this ⊢; exact this
    · rename_i hne
      refine ih hok hx hst hrf fun a1 w1 G1 g1 g2 g3 g4 => ?_
      have := hk a1 w1 G1 g1 g2 g3 g4
      cases x with
      | norm => exact this
      | exit j => exact absurd hx (hne _ _ _)
      | ret => exact this
  | loop b ih =>
    intro hok s s' H H' x a w G Q hx hst hrf hk
    simp only [okCode] at hok
    simp only [xcode] at hx
    have key : ∀ (n m : Nat) (s : Sl) (H : Hp) (a : Act) (w : World) (G : Cx), xloop (xcode E T A nt k b) (A.live (firstReg b)) (A.drop (firstReg b)) m n s H = some (x, s', H') → St B0 w0 G H w → RF' nt G s a →
        (∀ a' w' G', Le G G' → St B0 w0 G' H' w' → RF' nt G' s' a' → a'.defers = a.defers → Q x.exit' a' w') → Code.rounds P b Q n a w := by
      intro n
      induction n with
      | zero => intro m s H a w G h _ _ _; simp [xloop] at h
      | succ n ihn =>
        intro m s H a w G h hst hrf hk
        simp only [xloop] at h
        rw [rounds_succ]
        have hst' : St B0 w0 G (if A.drop (firstReg b) = true then H.take m else H) w := by
          split
          · exact hst.take m
          · exact hst
        split at h
        · rename_i s1 H1 h1
          exact ih hok h1 hst' (hrf.cut _) fun a1 w1 G1 g1 g2 g3 g4 => ihn m s1 H1 a1 w1 G1 h g2 g3 fun a2 w2 G2 e1 e2 e3 e4 => hk a2 w2 G2 (g1.trans e1) e2 e3 (e4.trans g4)
        · rename_i hne
          refine ih hok h hst' (hrf.cut _) fun a1 w1 G1 g1 g2 g3 g4 => ?_
          have := hk a1 w1 G1 g1 g2 g3 g4
          cases x with
          | norm => exact absurd h (hne _ _)
          | exit id => exact this
          | ret => exact this
    exact wp_loop_rounds k (key k _ s H a w G hx hst hrf hk)
  | _ =>
    intro _ s s' H H' x a w G Q hx hst hrf hk
    simp only [xcode] at hx
    cases hx

/-! ### functions -/
def xres (T : Tab) (s : Sl) (H : Hp) : List ResultVar → Option (List AV)
  | [] => some []
  | .tmp t :: l => (xres T s H l).map (get s t :: ·)
  | .cell a t :: l =>
    match aload T t (get s a) H with
    | some v => (xres T s H l).map (v :: ·)
    | none => none
def xret (vs : List AV) : AV := match vs with | [v] => v | vs => .tup vs
def argSl : List AV → Nat → Sl
  | [], _ => []
  | a :: l, i => (i, a) :: argSl l (i + 1)
noncomputable def xbody (E : Env) (T : Tab) (A : Ann) (nt : Nat) (c : Code) (rs : List ResultVar) (k : Nat) (args : List AV) (H : Hp) : Option (AV × Hp) :=
  match xcode E T A nt k c (argSl args 0) H with
  | some (.norm, s, H') => (xres T s H' rs).map fun vs => (xret vs, H')
  | some (.ret, s, H') => (xres T s H' rs).map fun vs => (xret vs, H')
  | _ => none

theorem get_argSl : ∀ (args : List AV) (i t : Nat), get (argSl args i) t = if i ≤ t then (args[t - i]?).getD .bad else .bad := by
  intro args
  induction args with
  | nil => intro i t; simp [argSl, get]
  | cons a l ih =>
    intro i t
    simp only [argSl, get]
    by_cases ht : t = i
    · subst ht; simp
    · rw [if_neg ht, ih]
      by_cases hle : i ≤ t
      · rw [if_pos (by omega), if_pos hle, show t - i = (t - (i + 1)) + 1 by omega]; rfl
      · rw [if_neg (by omega), if_neg hle]

theorem loadVar_ok (hT : TOK P T) {G : Cx} {H : Hp} {w : World} (h : St B0 w0 G H w) {t : Nat} {a v' : AV} {va : Value} (ha : RV G a va) (hl : aload T t a H = some v') :
    ∃ ad v, va = .pointer (some ad) ∧ (loadVar t ad).run P w = .ok v w ∧ RV G v' v := by
  unfold aload at hl
  split at hl
  · rename_i i b ver off hi
    cases ha with | ptr _ _ _ B o h1 h2 =>
    split at hl
    · rename_i k hk
      obtain ⟨cs, e, fr, hh, hlen, hrv, _⟩ := h.cellsAt hk h2
      have ht := hT t i hi
      have hagg := run_isAgg ht w
      have key : ∀ n, off + n ≤ k.cells.length → RVs G ((k.cells.drop off).take n) ((cs.toList.drop (o + off)).take n) := by
        intro n hn
        have := (hrv.drop off).take n
        rw [List.drop_take, List.take_take, List.drop_drop] at this
        rwa [Nat.min_eq_left (by omega)] at this
      have aggcase : off + i.size ≤ k.cells.length → (isAgg t).run P w = .ok true w → some (AV.agg ((k.cells.drop off).take i.size)) = some v' → ∃ ad v, Value.pointer (some (⟨B, o + off, none⟩ : Addr)) = .pointer (some ad) ∧ (loadVar t ad).run P w = .ok v w ∧ RV G v' v := by
        intro hle hag hv
        cases hv
        refine ⟨_, .agg ((cs.toList.drop (o + off)).take i.size).toArray, rfl, ?_, .agg _ _ (key _ hle)⟩
        simp [loadVar, hag, run_sizeOf ht, run_loadCells_at hh (o + off) i.size (by omega)]
      have onecase : (isAgg t).run P w = .ok false w → k.cells[off]? = some v' → ∃ ad v, Value.pointer (some (⟨B, o + off, none⟩ : Addr)) = .pointer (some ad) ∧ (loadVar t ad).run P w = .ok v w ∧ RV G v' v := by
        intro hag hv
        obtain ⟨v, hv1, hv2⟩ := hrv.get hv
        have hv3 : cs.toList[o + off]? = some v := by
          simp only [List.getElem?_take, List.getElem?_drop] at hv1
          split at hv1
          · exact hv1
          · cases hv1
        refine ⟨_, v, rfl, ?_, hv2⟩
        simp only [loadVar, Sem.run_bind, Sem.run_pure, Result.andThen_ok, hag, Bool.false_eq_true, if_false, Sem.run_ite]
        exact run_cell_at hh _ hv3
      cases hd : i.d <;> simp only [hd] at hl hagg <;> first
        | (split at hl
           · exact aggcase ‹_› hagg hl
           · cases hl)
        | exact onecase hagg hl
    · cases hl
  · cases hl

def resOne (tmps : Array Value) : ResultVar → Sem Value
  | .tmp t => pure (tmps.getD t undef)
  | .cell a t => do loadVar t (← asAddr (tmps.getD a undef))

theorem xres_ok (hT : TOK P T) {nt : Nat} {G : Cx} {s : Sl} {H : Hp} {a : Act} {w : World} (hst : St B0 w0 G H w) (hrf : RF' nt G s a) : ∀ (rs : List ResultVar) (vs : List AV), xres T s H rs = some vs →
    ∃ us, (rs.mapM (resOne a.tmps)).run P w = .ok us w ∧ RVs G vs us := by
  intro rs
  induction rs with
  | nil => intro vs h; simp [xres] at h; subst h; exact ⟨[], by simp, .nil⟩
  | cons r rs ih =>
    intro vs h
    cases r with
    | tmp t =>
      simp only [xres] at h
      obtain ⟨vs', h1, rfl⟩ := Option.map_eq_some_iff.1 h
      obtain ⟨us, h2, h3⟩ := ih vs' h1
      exact ⟨a.tmps.getD t undef :: us, by simp only [List.mapM_cons, resOne, Sem.run_bind, Sem.run_pure, Result.andThen_ok, h2], .cons _ _ _ _ (hrf.1 t) h3⟩
    | cell x t =>
      simp only [xres] at h
      split at h
      · rename_i v hv
        obtain ⟨vs', h1, rfl⟩ := Option.map_eq_some_iff.1 h
        obtain ⟨us, h2, h3⟩ := ih vs' h1
        obtain ⟨ad, u, e1, e2, e3⟩ := loadVar_ok hT hst (hrf.1 x) hv
        refine ⟨u :: us, ?_, .cons _ _ _ _ e3 h3⟩
        simp only [List.mapM_cons, resOne, Sem.run_bind, Sem.run_pure, e1, asAddr, Result.andThen_ok, e2, h2]
      · cases h

def pack (vs : List Value) : Value := match vs with | [v] => v | vs => .tuple vs.toArray

theorem results_eq (fn : Func) (tmps : Array Value) (w : World) (us : List Value) (h : (fn.results.toList.mapM (resOne tmps)).run P w = .ok us w) : (results fn tmps).run P w = .ok (pack us) w := by
  have hr : results fn tmps = (do
      let vs ← fn.results.mapM (resOne tmps)
      pure (if h : vs.size = 1 then vs[0] else .tuple vs)) := by
    unfold results
    congr 1
  rw [hr, Array.mapM_eq_mapM_toList]
  simp only [map_eq_pure_bind, bind_assoc, pure_bind, Sem.run_bind, h, Result.andThen_ok, Sem.run_pure]
  match us with
  | [] => rfl
  | [_] => rfl
  | _ :: _ :: _ => simp [pack]

theorem RV.xret {G : Cx} {vs : List AV} {us : List Value} (h : RVs G vs us) : RV G (xret vs) (pack us) := by
  match vs, us, h with
  | [], [], .nil => exact .tup _ _ .nil
  | [_], [_], .cons _ _ _ _ h1 .nil => exact h1
  | _ :: _ :: _, _ :: _ :: _, h => exact .tup _ _ h

theorem Sound_body (hT : TOK P T) (hE : EOK P E) (hmix : P.follows .mixedOrders = true) {g : Nat} {fn : Func} {c : Code} {F : List AV → Hp → Option (AV × Hp)} (hf : P.funcs[g]? = some fn) (hb : fn.body = some c)
    (hn : (fn.name == "runtime.NumGoroutine") = false) {A : Ann} (hok : okCode E A c = true) (n : Nat) (hF : ∀ args H r H', F args H = some (r, H') → args.length = n ∧ ∃ k, xbody E T A fn.ntmps c fn.results.toList k args H = some (r, H')) (hnt : n ≤ fn.ntmps) : Sound P g F := by
  refine ⟨⟨fn, hf, by rw [hb]; rfl, hn⟩, ?_⟩
  intro args H r H' hx B0 w0 G w vargs hst hrv
  obtain ⟨hlen, k, hk⟩ := hF args H r H' hx
  refine calls_of_wp hf hb ?_
  have hlv : vargs.length = args.length := hrv.length.symm
  have hrf : RF' fn.ntmps G (argSl args 0) { tmps := vargs.toArray ++ Array.replicate (fn.ntmps - vargs.toArray.size) undef, defers := [] } := by
    refine ⟨fun t => ?_, by simp; omega⟩
    rw [get_argSl, if_pos (Nat.zero_le _), Nat.sub_zero]
    cases hg : args[t]? with
    | none => exact .bad _
    | some x =>
      obtain ⟨v, h1, h2⟩ := hrv.get hg
      have ht : t < vargs.length := (List.getElem?_eq_some_iff.1 h1).1
      have : (vargs.toArray ++ Array.replicate (fn.ntmps - vargs.toArray.size) undef).getD t undef = v := by
        rw [Array.getD_eq_getD_getElem?, Array.getElem?_append_left (by simpa using ht)]
        simp [h1]
      show RV G x _
      rw [this]; exact h2
  have fin : ∀ (s : Sl) (vs : List AV) (e : Exit), e = .normal ∨ e = .ret → xres T s H' fn.results.toList = some vs → r = xret vs → ∀ a' w' G', Le G G' → St B0 w0 G' H' w' → RF' fn.ntmps G' s a' → a'.defers = [] →
      bodyPost P fn (fun e w' => ∃ v G', e = .returned v ∧ Le G G' ∧ St B0 w0 G' H' w' ∧ RV G' r v) e a' w' := by
    intro s vs e he hvs hr a' w' G' h1 h2 h3 h4
    obtain ⟨us, h5, h6⟩ := xres_ok hT h2 h3 _ _ hvs
    have := results_eq fn a'.tmps w' us h5
    rcases he with rfl | rfl <;> exact ⟨h4, _, this, _, _, rfl, h1, h2, hr ▸ RV.xret h6⟩
  unfold xbody at hk
  split at hk
  · rename_i s H1 h1
    obtain ⟨vs, h2, h3⟩ := Option.map_eq_some_iff.1 hk
    cases h3
    exact xcode_ok hT hE hmix c hok h1 hst hrf fun a' w' G' e1 e2 e3 e4 => fin s vs _ (.inl rfl) h2 rfl a' w' G' e1 e2 e3 e4
  · rename_i s H1 h1
    obtain ⟨vs, h2, h3⟩ := Option.map_eq_some_iff.1 hk
    cases h3
    exact xcode_ok hT hE hmix c hok h1 hst hrf fun a' w' G' e1 e2 e3 e4 => fin s vs _ (.inr rfl) h2 rfl a' w' G' e1 e2 e3 e4
  · cases hk

end
end Go.Proofs.Ytokadkakmhfdeaa.Pq
