/- append where there is room; append as a whole; copy. -/
import Derived.Test.YtokadkakmhfdeaaPqG
set_option linter.unusedVariables false
set_option linter.unusedSimpArgs false
namespace Go.Proofs.Ytokadkakmhfdeaa.Pq
open Go.RowKit

section
variable {P : Program} {T : Tab} {B0 : Nat} {w0 w : World} {G : Cx} {H : Hp}

theorem run_append_in (hT : TOK P T) {t u e e' : Nat} {ie : TI} (ht : Tab.d T t = .slice e) (hu : Tab.d T u = .slice e') (he : T e = some ie)
    {B p n cap m : Nat} {vx : Value} {ys cs : Array Value} {eB : TypeId} (hlx : (Builtin.lenOf vx).run P w = .ok m w) (hfx : (Builtin.firstCells ie.size m vx).run P w = .ok ys w)
    (hh : w.heap[B]? = some (.cells cs eB (0, 0))) (hroom : n + m ≤ cap) (hfit : p + n * ie.size + ys.size ≤ cs.size) (h1 : ∀ v ∈ ys.toList, v.oneCell' = true) (ty : Nat) :
    (Builtin.append_ #[t, u] ty #[.slice (some ⟨B, p, none⟩) n cap, vx]).run P w =
      .ok (.slice (some ⟨B, p, none⟩) (n + m) cap) (w.setRow B (setAllV cs.toList (p + n * ie.size) ys.toList).toArray) := by
  have hut := desc_slice hT ht
  have huu := desc_slice hT hu
  have hsz := run_sizeOf (hT e ie he)
  have hst := run_storeCells_at P B (p + n * ie.size) eB ys.toList 0 cs w hh (by simpa using hfit) h1
  rw [setAllV_eq _ _ _ (by simpa using hfit)]
  simp only [Nat.add_zero] at hst
  simp only [Builtin.append_, List.getElem?_toArray, List.getElem?_cons_zero, List.getElem?_cons_succ, Sem.run_bind, run_underlying hut, run_underlying huu, Result.andThen_ok, hsz w, hlx, Sem.run_pure, Bool.false_eq_true, if_false, Sem.run_ite]
  rw [if_pos hroom]
  simp only [Bool.not_false, if_true, hfx, Result.andThen_ok, add_plain', hst, Sem.run_bind, Sem.run_pure]

theorem append_zero (hT : TOK P T) {t u e e' : Nat} {ie : TI} (ht : Tab.d T t = .slice e) (hu : Tab.d T u = .slice e') (he : T e = some ie)
    {base : Option Addr} {n cap : Nat} {vx : Value} (hn : n ≤ cap) (hlx : (Builtin.lenOf vx).run P w = .ok 0 w) (hfx : (Builtin.firstCells ie.size 0 vx).run P w = .ok #[] w) (ty : Nat) :
    (Builtin.append_ #[t, u] ty #[.slice base n cap, vx]).run P w = .ok (.slice base n cap) w := by
  have hut := desc_slice hT ht
  have huu := desc_slice hT hu
  have hsz := run_sizeOf (hT e ie he)
  simp only [Builtin.append_, List.getElem?_toArray, List.getElem?_cons_zero, List.getElem?_cons_succ, Sem.run_bind, run_underlying hut, run_underlying huu, Result.andThen_ok, hsz w, hlx, Sem.run_pure, Bool.false_eq_true, if_false, Sem.run_ite]
  rw [if_pos (by omega)]
  simp only [Bool.not_false, if_true, hfx, Result.andThen_ok, Sem.run_bind, Sem.run_pure]
  cases base <;> simp [storeCells]

theorem seg_list {α : Type} (l y r : List α) (q p : Nat) (hq : q ≤ p) (hp : p ≤ l.length) : ((l.take p ++ y ++ r).drop q).take (p - q + y.length) = (l.drop q).take (p - q) ++ y := by
  have h1 : (l.take p ++ y ++ r).drop q = (l.drop q).take (p - q) ++ y ++ r := by
    rw [List.append_assoc, List.drop_append_of_le_length (by rw [List.length_take]; omega), List.drop_take, List.append_assoc]
  rw [h1]
  exact List.take_left' (by simp; omega)

theorem append_ok (hT : TOK P T) (h : St B0 w0 G H w) {share : Bool} {t u e e' : Nat} {ie : TI} (ht : Tab.d T t = .slice e) (hu : Tab.d T u = .slice e') (he : T e = some ie)
    {s x v' : AV} {H' : Hp} {vs vx : Value} (hs : RV G s vs) (hx : RV G x vx) (ha : aappend share ie.size ie.bytes s x H = some (v', H')) (ty : Nat) :
    OkV P B0 w0 G w (Builtin.append_ #[t, u] ty #[vs, vx]) v' H' := by
  unfold aappend at ha
  split at ha
  · cases ha
  rename_i m xs hc
  split at ha
  · cases ha
  rename_i hxl
  have hxl : xs.length = m * ie.size := Classical.byContradiction fun e => hxl e
  obtain ⟨hlx, hfx⟩ := slCells_ok (P := P) h hx hc hxl
  split at ha
  · rename_i hm
    subst hm
    obtain ⟨ys, hf, hr⟩ := hfx 0 (Nat.le_refl _)
    have hy0 : ys = #[] := by
      have := hr.length; simp at this
      exact Array.eq_empty_of_size_eq_zero this.symm
    subst hy0
    cases hs <;> simp only at ha <;> first | (cases ha; done) | skip
    · cases ha
      exact ⟨_, w, G, append_zero hT ht hu he (Nat.le_refl _) hlx hf ty, Le.refl G, h, .nilS⟩
    · cases ha
      exact ⟨_, w, G, append_zero hT ht hu he (Nat.le_refl _) hlx hf ty, Le.refl G, h, .mt1⟩
    · cases ha
      exact ⟨_, w, G, append_zero hT ht hu he (Nat.le_refl _) hlx hf ty, Le.refl G, h, .mt2 _⟩
    · cases ha
      exact ⟨_, w, G, append_zero hT ht hu he ‹_› hlx hf ty, Le.refl G, h, .sl _ _ _ _ _ _ _ _ _ _ ‹_› ‹_› ‹_› ‹_› ‹_›⟩
  · rename_i hm
    obtain ⟨ys, hf, hr⟩ := hfx m (Nat.le_refl _)
    have hr' : RVs G xs ys.toList := by rwa [← hxl, List.take_length] at hr
    obtain ⟨_, hfx2⟩ := slCells_ok (P := P) h.drew hx hc hxl
    obtain ⟨ys2, hf2, hr2⟩ := hfx2 m (Nat.le_refl _)
    have hr2' : RVs G xs ys2.toList := by rwa [← hxl, List.take_length] at hr2
    have hpush : ∀ (bs : List Blk) (k : Blk), (∀ x, x ≠ bs.length → (bs ++ [k])[x]? = bs[x]?) ∧ (bs ++ [k])[bs.length]? = some k := by
      intro bs k
      refine ⟨fun x hx => ?_, by simp⟩
      simp only [List.getElem?_append]
      split
      · rfl
      · rename_i hlt
        rw [List.getElem?_eq_none (by simp; omega), List.getElem?_eq_none (by omega)]
    cases hs <;> simp only at ha <;> first | (cases ha; done) | skip
    case nilS =>
      split at ha
      · rename_i hb
        cases ha
        have hp := hpush H.bs ⟨H.c, xs, true, true⟩
        have := append_new hT h ht hu he (base := none) (n := 0) (cap := 0) (ss := []) (zs := #[]) hlx hf2 (by simp [Builtin.firstCells]) hr2' (by simp; exact .nil) (by simp) hxl (by omega) (by simpa using hb.1) hb.2 ty
          H.bs.length (H.new xs).bs ⟨H.c, xs, true, true⟩ rfl (by first | rfl | exact slCells_all h hsl) (slCells_all h hc) rfl hp.1 hp.2
        simpa [Hp.new] using this
      · cases ha
    case mt1 =>
      split at ha
      · rename_i hb
        cases ha
        have hp := hpush H.bs ⟨H.c, xs, true, true⟩
        have := append_new hT h ht hu he (base := none) (n := 0) (cap := 0) (ss := []) (zs := #[]) hlx hf2 (by simp [Builtin.firstCells]) hr2' (by simp; exact .nil) (by simp) hxl (by omega) (by simpa using hb.1) hb.2 ty
          H.bs.length (H.new xs).bs ⟨H.c, xs, true, true⟩ rfl (by first | rfl | exact slCells_all h hsl) (slCells_all h hc) rfl hp.1 hp.2
        simpa [Hp.new] using this
      · cases ha
    case mt2 x =>
      split at ha
      · rename_i hb
        cases ha
        have hp := hpush H.bs ⟨H.c, xs, true, true⟩
        have := append_new hT h ht hu he (base := some x) (n := 0) (cap := 0) (ss := []) (zs := #[]) hlx hf2 (by have := run_loadCells_list (P := P) w.drew x [] (fun j v hj => by simp at hj); simpa [Builtin.firstCells] using this) hr2' (by simp; exact .nil) (by simp) hxl (by omega) (by simpa using hb.1) hb.2 ty
          H.bs.length (H.new xs).bs ⟨H.c, xs, true, true⟩ rfl (by first | rfl | exact slCells_all h hsl) (slCells_all h hc) rfl hp.1 hp.2
        simpa [Hp.new] using this
      · cases ha
    case sl b ver off n es' full B o A cap a1 a2 a3 a4 a5 =>
      split at ha
      · cases ha
      rename_i k hk
      split at ha
      · cases ha
      rename_i hcond
      have c1 : es' = ie.size := Classical.byContradiction fun e => hcond (.inl e)
      have c2 : off + n * ie.size ≤ k.cells.length := Nat.le_of_not_lt fun e => hcond (.inr (.inl e))
      have c3 : (n + m) * ie.bytes ≤ maxBytes := Nat.le_of_not_lt fun e => hcond (.inr (.inr (.inl e)))
      have c4 : ie.bytes ≠ 0 := fun e => hcond (.inr (.inr (.inr e)))
      subst c1
      obtain ⟨hk1, hv⟩ := Hp.at_some hk
      have hsl : slCells H (.sl b ver off n ie.size full) = some (n, (k.cells.drop off).take (n * ie.size)) := by simp [slCells, hk, c2]
      have hslen : ((k.cells.drop off).take (n * ie.size)).length = n * ie.size := by rw [List.length_take, List.length_drop]; omega
      have hRV : RV G (.sl b ver off n ie.size full) (.slice (some A) n cap) := .sl _ _ _ _ _ _ _ _ _ _ a1 a2 a3 a4 a5
      obtain ⟨_, hfs⟩ := slCells_ok (P := P) h.drew hRV hsl hslen
      obtain ⟨zs, hz1, hz2⟩ := hfs n (Nat.le_refl _)
      have hz2' : RVs G ((k.cells.drop off).take (n * ie.size)) zs.toList := by
        have e : ((k.cells.drop off).take (n * ie.size)).take (n * ie.size) = (k.cells.drop off).take (n * ie.size) := by rw [List.take_take, Nat.min_self]
        rwa [e] at hz2
      have hone : ∀ v ∈ ys.toList, v.oneCell' = true := hr'.one (slCells_all h hc)
      split at ha
      · rename_i hfull
        cases ha
        have hp := hpush H.bs ⟨H.c, (k.cells.drop off).take (n * ie.size) ++ xs, true, true⟩
        have hcap := a4 hfull
        have := append_new hT h ht hu he (base := some A) (n := n) (cap := cap) hlx hf2 hz1 hr2' hz2' hslen hxl (by omega) c3 c4 ty
          H.bs.length (H.new ((k.cells.drop off).take (n * ie.size) ++ xs)).bs ⟨H.c, (k.cells.drop off).take (n * ie.size) ++ xs, true, true⟩ rfl (by first | rfl | exact slCells_all h hsl) (slCells_all h hc) rfl hp.1 hp.2
        simpa [Hp.new] using this
      · split at ha
        · rename_i htail
          obtain ⟨t1, t2⟩ := htail
          have htake : (k.cells.drop off).take (n * ie.size) = k.cells.drop off := by
            rw [List.take_of_length_le (by rw [List.length_drop]; omega)]
          rw [htake] at hz2' hslen
          have hbl : b < H.bs.length := (List.getElem?_eq_some_iff.1 hk1).1
          obtain ⟨csB, eB, frB, hhB, hlenB, hrvB, hfrB, hszB⟩ := h.cellsAt hk a2
          have hfr0 := hfrB (.inl t1)
          subst hfr0
          have hB0 : B0 ≤ B := by
            obtain ⟨_, B', o', m1, _, m3⟩ := h.blk b k hk1
            rw [hv, a2] at m1; cases m1
            exact m3 (.inl t1)
          have haps := fun x k' B' o' (hne : b ≠ x) hk' hm' => h.apart b k x k' B o B' o' hne hk1 hk' (by rw [hv]; exact a2) hm'
          have hapo := fun x k' B' o' (hne : x ≠ b) hk' hm' => h.apart x k' b k B' o' B o hne hk' hk1 hm' (by rw [hv]; exact a2)
          -- where there is room
          have inplace : ∀ (H1 : Hp) (h1 : St B0 w0 G H1 w) (hc1 : H1.c = H.c) (bn : Nat) (bs' : List Blk) (sol : Bool), n + m ≤ cap →
              (∀ x, x ≠ bn → bs'[x]? = H1.bs[x]?) → bs'[bn]? = some ⟨H.c, k.cells.drop off ++ xs, true, sol⟩ →
              (∀ x k' o', x ≠ bn → H1.bs[x]? = some k' → G.mu x k'.ver = some (B, o') → k'.tail = false ∧ k'.solo = false ∧ o' + k'.cells.length ≤ o + k.cells.length ∧ sol = false) →
              OkV P B0 w0 G w (Builtin.append_ #[t, u] ty #[.slice (some A) n cap, vx]) (.sl bn H.c 0 (n + m) ie.size false) ⟨bs', H.c + 1⟩ := by
            intro H1 h1 hc1 bn bs' sol hroom hbs hbn hoth
            obtain ⟨rfl, hbnd⟩ := a5 (by omega)
            have hyl := hr'.length
            simp at hyl
            have hmul : (n + m) * ie.size ≤ cap * ie.size := Nat.mul_le_mul_right _ hroom
            rw [Nat.add_mul] at hmul
            have hfit : o + off + n * ie.size + ys.size ≤ csB.size := by omega
            have hrun := run_append_in (P := P) (w := w) hT ht hu he (vx := vx) hlx hf hhB hroom hfit hone ty
            have hsetl : (setAllV csB.toList (o + off + n * ie.size) ys.toList).length = csB.size := by rw [length_setAllV]; simp
            have hpre : ∀ q len, q + len ≤ o + off + n * ie.size → ((setAllV csB.toList (o + off + n * ie.size) ys.toList).drop q).take len = (csB.toList.drop q).take len := by
              intro q len hq
              rw [setAllV_eq _ _ _ (by simpa using hfit)]
              apply List.ext_getElem?
              intro j
              simp only [List.getElem?_take, List.getElem?_drop, List.append_assoc]
              split
              · rw [List.getElem?_append_left (by rw [List.length_take]; simp; omega), List.getElem?_take, if_pos (by omega)]
              · rfl
            obtain ⟨G', hl, hst, hmu, hsz'⟩ := h1.update bn bs' ⟨H.c, k.cells.drop off ++ xs, true, sol⟩ B (o + off) (w.setRow B (setAllV csB.toList (o + off + n * ie.size) ys.toList).toArray) (setAllV csB.toList (o + off + n * ie.size) ys.toList).toArray eB (0, 0)
              hc1.symm (by simp only [List.all_append, slCells_all h hc, Bool.and_true]; rw [← htake]; exact slCells_all h hsl) hbs hbn (Below.setRow h1.below hB0 _) (by rw [setRow_size]; exact h1.base) (setRow_same _ _ _ csB _ _ hhB)
              (fun X x hX hx => by rw [setRow_ne _ _ _ _ hX]; exact hx) (.inr ⟨csB, eB, (0, 0), hhB, by simp [length_setAllV]⟩)
              (by simp only [List.length_append, hslen, List.size_toArray, hsetl]; omega)
              (by
                simp only [List.length_append]
                rw [setAllV_eq _ _ _ (by simpa using hfit)]
                have e1 : ((csB.toList.take (o + off + n * ie.size) ++ ys.toList ++ csB.toList.drop (o + off + n * ie.size + ys.toList.length)).drop (o + off)).take ((k.cells.drop off).length + xs.length) = ((csB.toList.drop (o + off)).take (n * ie.size)) ++ ys.toList := by
                  have := seg_list csB.toList ys.toList (csB.toList.drop (o + off + n * ie.size + ys.toList.length)) (o + off) (o + off + n * ie.size) (by omega) (by simp; omega)
                  rw [show o + off + n * ie.size - (o + off) = n * ie.size by omega] at this
                  rw [← this]
                  congr 1
                  simp only [hslen, hyl, Array.length_toList]
                rw [e1]
                refine RVs.append ?_ hr'
                have := (hrvB.drop off)
                rw [List.drop_take, List.drop_drop] at this
                have e2 : k.cells.length - off = n * ie.size := by omega
                rwa [e2] at this)
              (fun _ => ⟨rfl, hB0⟩)
              (fun x k' o' hx hk' hm' => by
                obtain ⟨q1, q2, q3, q4⟩ := hoth x k' o' hx hk' hm'
                obtain ⟨_, B', o2, m1, ⟨cs2, e2, f2, n1, n2, n3, n4⟩, _⟩ := h1.blk x k' hk'
                rw [hm'] at m1; cases m1
                rw [hhB] at n1; cases n1
                refine ⟨_, eB, (0, 0), setRow_same _ _ _ csB _ _ hhB, by simp [length_setAllV]; exact n2, ?_, fun _ => rfl⟩
                have : (setAllV csB.toList (o + off + n * ie.size) ys.toList).toArray.toList = setAllV csB.toList (o + off + n * ie.size) ys.toList := rfl
                rw [this, hpre o' k'.cells.length (by omega)]
                exact n3)
              (fun x k' B' o' hx hk' hm' hlt => by
                refine ⟨fun hsol => ?_, fun _ hBB => ?_, fun hsol hBB => ?_, fun htl hBB => ?_⟩
                · intro hBB
                  subst hBB
                  have := (hoth x k' o' hx hk' hm').2.2.2
                  simp only at hsol; rw [this] at hsol; cases hsol
                · subst hBB
                  have := hoth x k' o' hx hk' hm'
                  exact ⟨this.1, by simp only [List.length_append, hslen]; omega⟩
                · subst hBB
                  have := (hoth x k' o' hx hk' hm').2.1
                  rw [this] at hsol; cases hsol
                · subst hBB
                  have := (hoth x k' o' hx hk' hm').1
                  rw [this] at htl; cases htl)
            refine ⟨_, _, G', hrun, hl, by rw [hc1] at hst; exact hst, ?_⟩
            refine .sl _ _ _ _ _ _ B (o + off) _ _ (by have := hst.c; simp at this; omega) (by rw [← hc1]; exact hmu) hroom (by simp) fun _ => ⟨rfl, ?_⟩
            rw [hsz']
            simp only [List.size_toArray, hsetl]
            omega
          split at ha
          · rename_i hsh
            cases ha
            have hlow := h.lower hk1
            have hp := hpush (H.bs.set b { k with tail := false, solo := false }) ⟨H.c, k.cells.drop off ++ xs, true, false⟩
            have hll : (H.bs.set b { k with tail := false, solo := false }).length = H.bs.length := by simp
            rw [hll] at hp
            by_cases hroom : n + m ≤ cap
            · refine inplace _ hlow rfl H.bs.length _ false hroom hp.1 hp.2 fun x k' o' hx hk' hm' => ?_
              simp only [Hp.put, List.getElem?_set] at hk'
              by_cases hxb : b = x
              · subst hxb
                rw [if_pos rfl, if_pos hbl] at hk'
                cases hk'
                simp only at hm'
                rw [hv, a2] at hm'; cases hm'
                exact ⟨rfl, rfl, Nat.le_refl _, rfl⟩
              · rw [if_neg hxb] at hk'
                have h1 := haps x k' B o' hxb hk' hm'
                have h2 := hapo x k' B o' (fun e => hxb e.symm) hk' hm'
                refine ⟨(h1.2 t1 rfl).1, ?_, (h1.2 t1 rfl).2, rfl⟩
                cases hs : k'.solo with
                | false => rfl
                | true => exact absurd rfl (h2.1 hs)
            · have := append_new hT hlow ht hu he (base := some A) (n := n) (cap := cap) hlx hf2 hz1 hr2' (by rw [htake] at *; exact hz2') (by rw [htake] at *; exact hslen) hxl (by omega) c3 c4 ty
                H.bs.length _ ⟨H.c, k.cells.drop off ++ xs, true, false⟩ rfl (by rw [← htake]; exact slCells_all h hsl) (slCells_all h hc) rfl hp.1 hp.2
              exact this
          · cases ha
            have hset : (∀ x, x ≠ b → (H.bs.set b ⟨H.c, k.cells.drop off ++ xs, true, k.solo⟩)[x]? = H.bs[x]?) ∧ (H.bs.set b ⟨H.c, k.cells.drop off ++ xs, true, k.solo⟩)[b]? = some ⟨H.c, k.cells.drop off ++ xs, true, k.solo⟩ := by
              refine ⟨fun x hx => ?_, ?_⟩
              · rw [List.getElem?_set, if_neg (fun e => hx e.symm)]
              · rw [List.getElem?_set, if_pos rfl, if_pos hbl]
            by_cases hroom : n + m ≤ cap
            · refine inplace H h rfl b _ k.solo hroom hset.1 hset.2 fun x k' o' hx hk' hm' => ?_
              have h1 := haps x k' B o' (fun e => hx e.symm) hk' hm'
              have h2 := hapo x k' B o' hx hk' hm'
              refine ⟨(h1.2 t1 rfl).1, ?_, (h1.2 t1 rfl).2, ?_⟩
              · cases hs : k'.solo with
                | false => rfl
                | true => exact absurd rfl (h2.1 hs)
              · cases hs : k.solo with
                | false => rfl
                | true => exact absurd rfl (h1.1 hs)
            · have := append_new hT h ht hu he (base := some A) (n := n) (cap := cap) hlx hf2 hz1 hr2' hz2' hslen hxl (by omega) c3 c4 ty
                b _ ⟨H.c, k.cells.drop off ++ xs, true, k.solo⟩ rfl (by rw [← htake]; exact slCells_all h hsl) (slCells_all h hc) rfl hset.1 hset.2
              exact this
        · cases ha

end
end Go.Proofs.Ytokadkakmhfdeaa.Pq
