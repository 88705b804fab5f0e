/- Facts: a part of the proofs over this seat: what stands in its theorems holds for every input that they name. -/
import Derived.Test.YtemnchkebhclpaaTy
import Derived.Test.YtemnchkebhclpaaRows
import Derived.WalkKit
import Derived.ProofKit
import Derived.OpenShut
import Derived.JoinedCond
namespace Go.Proofs.Ytemnchkebhclpaa
open Go.ChangeShapes Go.WideShapes Go.ChangeAt Go.RowKit
theorem words_sp (r : List Char) : wordsSigns (' ' :: r) = [] :: wordsSigns r := by rw [wordsSigns]
theorem words_ne (r : List Char) : ∃ w ws, wordsSigns r = w :: ws := by
  unfold wordsSigns
  split
  · exact ⟨_, _, rfl⟩
  · exact ⟨_, _, rfl⟩
  · split
    · exact ⟨_, _, rfl⟩
    · exact ⟨_, _, rfl⟩
theorem words_ch (c : Char) (hc : c ≠ ' ') (l w : List Char) (ws : List (List Char)) (h : wordsSigns l = w :: ws) : wordsSigns (c :: l) = (c :: w) :: ws := by
  rw [wordsSigns, h]
  exact hc
theorem words_cons : ∀ (a r : List Char), (∀ c ∈ a, c ≠ ' ') → wordsSigns (a ++ ' ' :: r) = a :: wordsSigns r
  | [], r, _ => words_sp r
  | c :: a, r, h => words_ch c (h c (List.mem_cons_self ..)) _ _ _ (words_cons a r fun x hx => h x (List.mem_cons_of_mem _ hx))
def headRest : List Char := ['a', 't', ' ', 't', 'a', 'i', 'l', 'r', 'a', 'c', 'e', '/', 't', 'a', 'i', 'l', 'r', 'a', 'c', 'e', 'k', 'e', 'e', 'p', '.', 'T', 'w', 'i', 'c', 'e', 'S', 'a', 'm', 'e', ' ', 't', 'a', 'i', 'l', 'r', 'a', 'c', 'e', '/', 't', 'a', 'i', 'l', 'r', 'a', 'c', 'e', 'k', 'e', 'e', 'p', '.', 'S', 't', 'a', 'b', 'l', 'e', 'A', 'h', 'e', 'a', 'd', ' ', 't', 'a', 'i', 'l', 'r', 'a', 'c', 'e', '/', 't', 'a', 'i', 'l', 'r', 'a', 'c', 'e', 'k', 'e', 'e', 'p', '.', 'E', 'n', 't', 'r', 'y', 'F', 'i', 'x', 'e', 'd', ' ', 't', 'a', 'i', 'l', 'r', 'a', 'c', 'e', '/', 't', 'a', 'i', 'l', 'r', 'a', 'c', 'e', 'k', 'e', 'e', 'p', '.', 'C', 'o', 'o', 'r', 'd', 'P', 'i', 'd', 's', ' ', 't', 'a', 'i', 'l', 'r', 'a', 'c', 'e', '/', 't', 'a', 'i', 'l', 'r', 'a', 'c', 'e', 'k', 'e', 'e', 'p', '.', 'O', 'n', 'c', 'e', 'E', 'a', 'c', 'h', ' ', 't', 'a', 'i', 'l', 'r', 'a', 'c', 'e', '/', 't', 'a', 'i', 'l', 'r', 'a', 'c', 'e', 'k', 'e', 'e', 'p', '.', 'E', 'n', 't', 'r', 'y', 'S', 'p', 'o', 'i', 'l', 't', ' ', 't', 'a', 'i', 'l', 'r', 'a', 'c', 'e', '/', 't', 'a', 'i', 'l', 'r', 'a', 'c', 'e', 'k', 'e', 'e', 'p', '.', 'E', 'n', 't', 'r', 'y', 'B', 'a', 'c', 'k', ' ', 't', 'a', 'i', 'l', 'r', 'a', 'c', 'e', '/', 't', 'a', 'i', 'l', 'r', 'a', 'c', 'e', 'k', 'e', 'e', 'p', '.', 'R', 'e', 'a', 'd', 'P', 'a', 'g', 'e', 's', ' ', 't', 'a', 'i', 'l', 'r', 'a', 'c', 'e', '/', 't', 'a', 'i', 'l', 'r', 'a', 'c', 'e', 'k', 'e', 'e', 'p', '.', 'R', 'e', 'a', 'd', 'D', 'o', 'n', 'e', ' ', 't', 'a', 'i', 'l', 'r', 'a', 'c', 'e', '/', 't', 'a', 'i', 'l', 'r', 'a', 'c', 'e', 'k', 'e', 'e', 'p', '.', 'E', 'n', 't', 'r', 'y', 'B', 'a', 'd', ' ', 't', 'a', 'i', 'l', 'r', 'a', 'c', 'e', '/', 't', 'a', 'i', 'l', 'r', 'a', 'c', 'e', 'k', 'e', 'e', 'p', '.', 'E', 'n', 't', 'r', 'y', 'T', 'o', 'r', 'n', ' ', 't', 'a', 'i', 'l', 'r', 'a', 'c', 'e', '/', 't', 'a', 'i', 'l', 'r', 'a', 'c', 'e', 'k', 'e', 'e', 'p', '.', 'L', 'o', 'g', 'G', 'r', 'o', 'w', 's', ' ', 't', 'a', 'i', 'l', 'r', 'a', 'c', 'e', '/', 't', 'a', 'i', 'l', 'r', 'a', 'c', 'e', 'k', 'e', 'e', 'p', '.', 'L', 'o', 'g', 'C', 'r', 'a', 's', 'h', 'e', 's', ' ', 't', 'a', 'i', 'l', 'r', 'a', 'c', 'e', '/', 't', 'a', 'i', 'l', 'r', 'a', 'c', 'e', 'k', 'e', 'e', 'p', '.', 'L', 'o', 'g', 'C', 'u', 't', 's', ' ', 't', 'a', 'i', 'l', 'r', 'a', 'c', 'e', '/', 't', 'a', 'i', 'l', 'r', 'a', 'c', 'e', 'k', 'e', 'e', 'p', '.', 'G', 'r', 'o', 'u', 'p', 'O', 'r', 'd', 'e', 'r', ' ', 't', 'a', 'i', 'l', 'r', 'a', 'c', 'e', '/', 't', 'a', 'i', 'l', 'r', 'a', 'c', 'e', 'k', 'e', 'e', 'p', '.', 'C', 'o', 'o', 'r', 'd', 'W', 'a', 'i', 't', 's', ' ', 't', 'a', 'i', 'l', 'r', 'a', 'c', 'e', '/', 't', 'a', 'i', 'l', 'r', 'a', 'c', 'e', 'k', 'e', 'e', 'p', '.', 'G', 'r', 'o', 'u', 'p', 'S', 'i', 'l', 'e', 'n', 't', ' ', 't', 'a', 'i', 'l', 'r', 'a', 'c', 'e', '/', 't', 'a', 'i', 'l', 'r', 'a', 'c', 'e', 'k', 'e', 'e', 'p', '.', 'C', 'o', 'o', 'r', 'd', 'G', 'o', 'o', 'd', ' ', 't', 'a', 'i', 'l', 'r', 'a', 'c', 'e', '/', 't', 'a', 'i', 'l', 'r', 'a', 'c', 'e', 'k', 'e', 'e', 'p', '.', 'C', 'o', 'o', 'r', 'd', 'F', 'e', 'n', 'c', 'e', 's', ' ', 't', 'a', 'i', 'l', 'r', 'a', 'c', 'e', '/', 't', 'a', 'i', 'l', 'r', 'a', 'c', 'e', 'k', 'e', 'e', 'p', '.', 'P', 'a', 'r', 't', 'F', 'e', 'w', ' ', 't', 'a', 'i', 'l', 'r', 'a', 'c', 'e', '/', 't', 'a', 'i', 'l', 'r', 'a', 'c', 'e', 'k', 'e', 'e', 'p', '.', 'P', 'a', 'r', 't', 'C', 'a', 't', 'c', 'h', 'e', 's', ' ', 't', 'a', 'i', 'l', 'r', 'a', 'c', 'e', '/', 't', 'a', 'i', 'l', 'r', 'a', 'c', 'e', 'k', 'e', 'e', 'p', '.', 'G', 'r', 'o', 'u', 'p', 'G', 'o', 'o', 'd', ' ', 't', 'a', 'i', 'l', 'r', 'a', 'c', 'e', '/', 't', 'a', 'i', 'l', 'r', 'a', 'c', 'e', 'k', 'e', 'e', 'p', '.', 'G', 'r', 'o', 'u', 'p', 'S', 'h', 'a', 'r', 'e', 's', ' ', 't', 'a', 'i', 'l', 'r', 'a', 'c', 'e', '/', 't', 'a', 'i', 'l', 'r', 'a', 'c', 'e', 'k', 'e', 'e', 'p', '.', 'G', 'r', 'o', 'u', 'p', 'G', 'o', 'e', 's', 'O', 'n', ' ', 't', 'a', 'i', 'l', 'r', 'a', 'c', 'e', '/', 't', 'a', 'i', 'l', 'r', 'a', 'c', 'e', 'k', 'e', 'e', 'p', '.', 'P', 'a', 'r', 't', 'L', 'e', 'd', ' ', 't', 'a', 'i', 'l', 'r', 'a', 'c', 'e', '/', 't', 'a', 'i', 'l', 'r', 'a', 'c', 'e', 'k', 'e', 'e', 'p', '.', 'P', 'a', 'r', 't', 'G', 'o', 'o', 'd', ' ', 't', 'a', 'i', 'l', 'r', 'a', 'c', 'e', '/', 't', 'a', 'i', 'l', 'r', 'a', 'c', 'e', 'k', 'e', 'e', 'p', '.', 'P', 'a', 'r', 't', 'C', 'a', 'l', 'm', ' ', 't', 'a', 'i', 'l', 'r', 'a', 'c', 'e', '/', 't', 'a', 'i', 'l', 'r', 'a', 'c', 'e', 'k', 'e', 'e', 'p', '.', 'P', 'a', 'r', 't', 'K', 'e', 'p', 't', ' ', 't', 'a', 'i', 'l', 'r', 'a', 'c', 'e', '/', 't', 'a', 'i', 'l', 'r', 'a', 'c', 'e', 'k', 'e', 'e', 'p', '.', 'P', 'a', 'r', 't', 'A', 'l', 'i', 'k', 'e', ' ', 't', 'a', 'i', 'l', 'r', 'a', 'c', 'e', '/', 't', 'a', 'i', 'l', 'r', 'a', 'c', 'e', 'k', 'e', 'e', 'p', '.', 'R', 'e', 'a', 'd', 's', 'K', 'e', 'p', 't', ' ', 't', 'a', 'i', 'l', 'r', 'a', 'c', 'e', '/', 't', 'a', 'i', 'l', 'r', 'a', 'c', 'e', 'k', 'e', 'e', 'p', '.', 'C', 'o', 'o', 'r', 'd', 'S', 't', 'a', 'y', 's']
def headSum : List Char := ['3', '7', '7', '1', '4', '3', '4', '3', 'b', '2', 'd', '9', '3', 'a', '6', '9', '9', '9', 'a', '7', '9', 'd', '3', '1', '8', '6', '8', 'b', 'b', '9', '4', '5', '9', '7', '2', 'd', '6', 'b', '7', '3', '1', 'f', 'c', '9', 'd', 'c', '6', 'a', '3', '3', 'a', 'd', 'e', 'c', '8', '4', '7', '0', '2', 'e', '1', 'd', '4', 'd']
theorem head_is : Try.checked.prog.initOrder = String.ofList (['h', 'a', 'r', 'n', 'e', 's', 's'] ++ ' ' :: (headSum ++ ' ' :: (['c', 'u', 't'] ++ ' ' :: headRest))) := by kernel_rfl
theorem head_words : behindMainWord (wordsSigns Try.checked.prog.initOrder.toList) = ['c', 'u', 't'] :: wordsSigns headRest := by
  rw [head_is, String.toList_ofList, words_cons _ _ (by decide), words_cons _ _ (by decide +kernel), words_cons _ _ (by decide)]
  have hs : isSumSigns headSum = true := by decide +kernel
  simp [behindMainWord, hs]
theorem t_gc : "gc".toList = ['g','c'] := by simp
theorem t_spec : "spec".toList = ['s','p','e','c'] := by simp
theorem t_cut : "cut".toList = ['c','u','t'] := by simp
theorem t_carried : "carried".toList = ['c','a','r','r','i','e','d'] := by simp
theorem make_of {P : Program} {c : List Char} {r : List (List Char)} (h : behindMainWord (wordsSigns P.initOrder.toList) = c :: r) (hg : (c == "gc".toList || c == "spec".toList) = false) (hc : (c == "cut".toList || (c == "finals".toList && r.head? == some "cut".toList)) = true) : P.make = some .cut := by
  unfold Program.make
  rw [h]
  simp only [hg, hc]
  rfl
theorem cut_gs : (['c','u','t'] == "gc".toList || ['c','u','t'] == "spec".toList) = false := by rw [t_gc, t_spec]; decide
theorem cut_c (r : List (List Char)) : (['c','u','t'] == "cut".toList || (['c','u','t'] == "finals".toList && r.head? == some "cut".toList)) = true := by rw [t_cut]; rfl
theorem strip_cut (ws : List (List Char)) : stripLifts liftWords (['c','u','t'] :: ws) = ([], ['c','u','t'] :: ws) := by
  simp [stripLifts, liftWords]
theorem enter_of {P : Program} {c : List Char} {r : List (List Char)} (h : behindMainWord (wordsSigns P.initOrder.toList) = c :: r) (hs : stripLifts liftWords (c :: r) = ([], c :: r)) (hc : (c == "cut".toList) = true) (hl : P.laysLater = false) (hb : P.bearsReflect = false) (hd : P.doorFits [] = true) : P.mayEnter = true := by
  have e : ((c :: r).head? == some "cut".toList) = true := by
    rw [eq_of_beq hc]; simp
  unfold Program.mayEnter
  rw [h]
  simp only [hs, hl, hb, hd, e]
  simp
theorem cut_cut : (['c','u','t'] == "cut".toList) = true := by rw [t_cut]; rfl
theorem head_lifts : Try.checked.prog.headLifts = [] := by
  unfold Program.headLifts
  rw [head_words]
  generalize wordsSigns headRest = ws
  simp [strip_cut]
theorem lifts_final : Try.checked.prog.liftsFinal = false := by
  unfold Program.liftsFinal
  rw [head_words, head_lifts]
  generalize wordsSigns headRest = ws
  simp
theorem make_cut : Try.checked.prog.make = some .cut := make_of head_words cut_gs (cut_c _)
theorem lays_later : Try.checked.prog.laysLater = false := by kernel_rfl
theorem bears_reflect : Try.checked.prog.bearsReflect = false := by kernel_rfl
theorem door_fits : Try.checked.prog.doorFits [] = true := by kernel_rfl
theorem may_enter : Try.checked.prog.mayEnter = true := enter_of head_words (strip_cut _) cut_cut lays_later bears_reflect door_fits
theorem ownKnob_ok : ownKnob Try.prog.godebug = none := by kernel_rfl
theorem laidOut : laidOutB Try.checked.prog = true := by kernel_rfl
theorem maps_rowed : mapsRowed Try.checked.prog = true := by kernel_rfl
theorem no_stops : (Try.checked.prog.stops == []) = true := by kernel_rfl
theorem no_knobs : (Try.checked.prog.stopKnobs == []) = true := by kernel_rfl
theorem plain_keys : Try.checked.prog.plainKeys = false := by kernel_rfl
theorem stops_heard : Try.checked.prog.stopsHeard = true := by kernel_rfl
end Go.Proofs.Ytemnchkebhclpaa
