/- Walks: some of chapter 16's runs. -/
import Derived.Test.YtokadkakmhfdeaaPqW7
set_option linter.unusedVariables false
set_option linter.unusedSimpArgs false
namespace Go.Proofs.Ytokadkakmhfdeaa.Pq
open Go.RowKit

theorem new_len (H : Hp) (cs : List AV) : (H.new cs).bs.length = H.bs.length + 1 := by simp [Hp.new]
theorem new_c (H : Hp) (cs : List AV) : (H.new cs).c = H.c + 1 := rfl
theorem ints_skip {X : Hp} {b ver off n es : Nat} {f : Bool} {cs : List AV} (hb : b < X.bs.length) : ints (X.new cs) (.sl b ver off n es f) = ints X (.sl b ver off n es f) := by
  have : (X.new cs).at b ver = X.at b ver := by
    simp only [Hp.at, Hp.new]; rw [List.getElem?_append_left hb]
  simp only [ints, this]
theorem ints_one {X : Hp} {b ver : Nat} {f : Bool} {a : Int} (hb : b = X.bs.length) (hc : ver = X.c) : ints (X.new [.int .i64 a]) (.sl b ver 0 1 1 f) = some [a] := by
  subst hb; subst hc
  simp [ints, new_at, toInts, toInt]
theorem mkS_one (H : Hp) (a : Int) : mkS H [a] = (.sl H.bs.length H.c 0 1 1 false, H.new [.int .i64 a]) := rfl
theorem known_devs : devs [2] = 2 := by decide
theorem known_may (d : Int) (h0 : 0 ≤ d) (h1 : d < 2) : mayCut [5] [2] [0] d := ⟨by decide, by decide, h0, by rw [known_devs]; exact h1⟩
theorem known1 : sizeL [5] [2] [0] 1 = [2] := by unfold sizeL cutsL; rw [if_pos (known_may 1 (by decide) (by decide))]; decide
theorem known2 : fromL [5] [2] [0] 1 = [3] := by unfold fromL cutsL; rw [if_pos (known_may 1 (by decide) (by decide))]; decide
theorem known3 : sizeL [5] [2] [0] 0 = [3] := by unfold sizeL cutsL; rw [if_pos (known_may 0 (by decide) (by decide))]; decide
@[simp] theorem F61_at (n k : Int) (H : Hp) : F61 [.int .i64 n, .int .i64 k] H = some (.int .i64 (width n k)) := rfl

def F24 (args : List AV) (H : Hp) : Option AV := match args with
  | [] => some (.bool true)
  | _ => none
set_option maxHeartbeats 1000000 in
theorem snd24 : Sound Try.prog 24 (FSem.pure F24).run := by
  refine sound_of hT (EOK_cons snd60 (EOK_cons snd61 (EOK_cons snd21 (EOK_cons snd22 (EOK_cons snd19 (EOK_cons snd62 (EOK_nil _))))))) mixed A24 Try.func24 hb24 (by kernel_rfl) (by kernel_rfl) (by kernel_rfl) (by kernel_rfl) sh24 0 (by kernel_rfl) rs24 hr24 ?_
  intro args H r H' hw h
  obtain ⟨rfl, hv⟩ := pureAt h
  clear h
  unfold F24 at hv
  split at hv
  · cases hv
    have c1 : cut 5 2 1 = (3, 5) := by decide
    have c2 : cut 2 4 3 = (2, 2) := by decide
    have c3 : width 5 2 = 3 := by decide
    have q1 : sameL [2] [2] = true := by decide
    have q2 : sameL [3] [3] = true := by decide
    have k1 := known1
    have k2 := known2
    have k3 := known3
    have n1 := new_len
    have n2 := new_c
    have n3 := @ints_skip
    have n4 := @ints_one
    have n5 := mkS_one
    have n6 : ∀ x k : Nat, x < x + (k + 1) := by intros; omega
    have n7 : ∀ x : Nat, x < x + 2 := by intros; omega
    have n8 : ∀ x : Nat, x < x + 1 + 1 := by intros; omega
    refine ⟨rfl, go ?_⟩
    unfold c24
    simp only [argSl]
    repeat (first | apply goSeq | apply goReg | apply goSeqN | apply goNil | apply goRet | (apply goOp; (· (simp [*]; try exact rfl)); (· exact rfl)) | (apply goYes; (· (simp [*]; done)); (· (simp [*]; try exact rfl)); (· exact rfl)))
    exact goEnd hw (by repeat (first | exact Pre.refl _ | apply Pre.new)) (by simp) (by simp [rs24]; exact rfl) rfl rfl
  · cases hv
end Go.Proofs.Ytokadkakmhfdeaa.Pq
