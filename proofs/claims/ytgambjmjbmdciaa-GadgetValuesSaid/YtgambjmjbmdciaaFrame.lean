/-
  THE FRAME OF A LAW'S PROOF, once for every law of the seat: if the call returns true and nothing below the heap's old size has turned ('Below'), the law's post holds: each argument reads as it did.
-/
import Derived.Test.YtgambjmjbmdciaaRows
import Derived.WalkKit
import Derived.ProofKit
import Derived.OpenShut
namespace Go.Proofs.Ytgambjmjbmdciaa
open Go.ChangeShapes Go.WideShapes Go.ChangeAt Go.RowKit

theorem own_knob : ownKnob Try.prog.godebug = none := by kernel_rfl
theorem laid_out : laidOutB Try.prog = true := by kernel_rfl

theorem maps_rowed : mapsRowed Try.checked.prog = true := by kernel_rfl
theorem laid_out' : laidOutB Try.checked.prog = true := laid_out
theorem stops_heard : Program.stopsHeard Try.checked.prog = true := by kernel_rfl
theorem may_enter : Program.mayEnter Try.checked.prog = true := by kernel_rfl
theorem and_mk {a b : Bool} (h : a = true) (k : b = true) : (a && b) = true := by rw [h, k]; rfl

theorem trodAll_below {H : Type} {enc : TypeId × Value → H} {P : Program} {W W' : World} (hl : laidOutB P = true) (hb : Below W.heap.size W W') :
    ∀ (ts : List TypeId), ts.all (fun t => P.readableRec t && decide (t < P.types.size)) = true → ∀ (vs : List Value) (ds : List (DataW H)) (ps : List MemPlace),
      DataW.TrodAll enc P W 0 (fun _ => true) true ts vs ds ps → (∀ x ∈ ps, x.block < W.heap.size) → DataW.TrodAll enc P W' 0 (fun b => decide (b < W.heap.size)) true ts vs ds ps
  | [], _, [], [], ps, h, _ => h
  | [], _, _ :: _, _, _, h, _ => by cases h
  | [], _, [], _ :: _, _, h, _ => by cases h
  | _ :: _, _, [], _, _, h, _ => by cases h
  | _ :: _, _, _ :: _, [], _, h, _ => by cases h
  | t :: ts, hts, v :: vs, d :: ds, ps, h, hlt => by
    obtain ⟨p, q, h1, h2, rfl⟩ := h
    simp only [List.all_cons, Bool.and_eq_true, decide_eq_true_eq] at hts
    exact ⟨p, q, Below.trod hl hts.1.1 hts.1.2 h1 hb (fun x hx => hlt x (List.mem_append_left _ hx)), trodAll_below hl hb ts hts.2 vs ds q h2 (fun x hx => hlt x (List.mem_append_right _ hx)), rfl⟩

theorem trodAll_length {H : Type} {enc : TypeId × Value → H} {P : Program} {W : World} {b : Nat} {sp : Nat → Bool} {hd : Bool} :
    ∀ (ts : List TypeId) (vs : List Value) (ds : List (DataW H)) (ps : List MemPlace), DataW.TrodAll enc P W b sp hd ts vs ds ps → ds.length = ts.length
  | [], [], [], _, _ => rfl
  | [], _ :: _, _, _, h => by cases h
  | [], [], _ :: _, _, h => by cases h
  | _ :: _, [], _, _, h => by cases h
  | _ :: _, _ :: _, [], _, h => by cases h
  | _ :: ts, _ :: vs, _ :: ds, _, h => by
    obtain ⟨p, q, _, h2, _⟩ := h
    simp only [List.length_cons, trodAll_length ts vs ds q h2]

theorem law_post {H : Type} {enc : TypeId × Value → H} {P : Program} {fn : Func} {s : ChangeSpec} {W W' : World} {args : Array Value} {ds gs : List (DataW H)} {before : List MemPlace} {tb : TypeId}
    (hl : laidOutB P = true) (hts : fn.params.toList.all (fun t => P.readableRec t && decide (t < P.types.size)) = true)
    (hres : fn.resultTypes = #[tb]) (htb : P.underlying tb = some .bool) (hv : s.vars = [])
    (hs : ∀ ds : List (DataW H), ds.length = fn.params.toList.length → s.fn H ds = { results := [.lit (.bool true)], args := ds })
    (hW : DataW.Whole enc P fn.params.toList s.vars false W args.toList ds gs before) (hb : Below W.heap.size W W') :
    s.post enc P fn false true false false W args (.bool true) W' := by
  have hW' := hW
  obtain ⟨p, q, hA, hV, hpq, _, _⟩ := hW
  rw [hv] at hV
  obtain ⟨rfl, rfl⟩ := trodVars_none hV
  have hfn : s.fn H (ds ++ []) = { results := [.lit (.bool true)], args := ds } := by
    rw [List.append_nil]
    exact hs ds (trodAll_length _ _ _ _ hA)
  have hlt : ∀ x ∈ p, x.block < W.heap.size := fun x hx => hW'.lt x (by rw [hpq]; exact List.mem_append_left _ hx)
  refine ⟨ds, [], before, [], p, [], hW', ?_, ?_, ?_, ?_, fun h => by cases h⟩
  · rw [hfn, hres]
    exact trodAll_mk1 (shut_bool htb true)
  · rw [hfn]
    exact trodAll_below hl hb _ hts _ _ _ hA hlt
  · rw [hfn, hv]
    rfl
  · exact hb.frame _

end Go.Proofs.Ytgambjmjbmdciaa
