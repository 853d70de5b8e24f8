import Derived.Test.YtlbglinpgjlbkaaDoorWkO1
import Derived.Test.YtlbglinpgjlbkaaDoorWkRp
import Derived.Shelf.Strings.BuilderK
import Derived.Shelf.Strings.BuilderF
/- Zone texts: a builder that a call made, strings.Join by blanks, and the lengths of the words of a line. -/
namespace Go.Proofs.YtlbglinpgjlbkaaDoor
open Go.RowKit Wk

def Bld (w0 : World) (b : Nat) (l : Bs) (w : World) : Prop := Lib.IsBuilderF 39 5 w0.heap.size b (Lib.byteCells l) w ∧ Below w0.heap.size w0 w
theorem Bld.new {w0 W : World} (hb : Below w0.heap.size w0 W) : Bld w0 W.heap.size [] (W.alloc (.cells #[.pointer none, .slice none 0 0] 39)) := by
 refine ⟨.inl ⟨hb.size, .slice none 0 0, ?_, World.ownsRowF_nil _ _ _ _, by simp [Value.ownBlock]⟩, hb.alloc hb.size _⟩
 have := Blk.new W #[.pointer none, .slice none 0 0] 39
 exact this
theorem at_below {T e : TypeId} {B b : Nat} {p : Value} {bs : List Value} {W W' : World} (h : Lib.BuilderAtF T e B b p bs W) (hb : Below W.heap.size W W') : Lib.BuilderAtF T e B b p bs W' := by
 have hlt := h.lt
 obtain ⟨hB, v, hv, hown, hne⟩ := h
 exact ⟨hB, v, (hb.block b hlt).trans hv, hown.kept (row := none) (below_grown hb none) (Classical.em _), hne⟩
theorem Bld.below {w0 w w' : World} {b : Nat} {l : Bs} (h : Bld w0 b l w) (hb : Below w.heap.size w w') : Bld w0 b l w' :=
 ⟨h.1.elim (fun x => .inl (at_below x hb)) (fun x => .inr (at_below x hb)), keepBelow h.2 hb⟩
theorem Bld.lt {w0 w : World} {b : Nat} {l : Bs} (h : Bld w0 b l w) : b < w.heap.size := h.1.elim (fun q => q.lt) fun q => q.lt
theorem blen_any {w0 w : World} {b : Nat} {l : Bs} (h : Bld w0 b l w) : Calls Tryd.prog 12 #[.pointer (some ⟨b, 0, none⟩)] w fun e w' => e = .returned (.int .i64 l.length) ∧ w' = w := by
 have q := Any.Builder_Len_f Tryd.lays170 w0.heap.size b (Lib.byteCells l) w h.1
 rw [Lib.byteCells_length] at q
 exact q
theorem Blk.others {w w' : World} {b b' : Nat} {cs : Array Value} {T : TypeId} (h : Blk w b' cs T) (hk : Lib.OthersKept 5 (some b) w w') (hn : b' ≠ b) (hT : T ≠ 5) : Blk w' b' cs T :=
 hk b' _ h (fun e => hn (by injection e)) fun c fz e => hT (by injection e)

end Go.Proofs.YtlbglinpgjlbkaaDoor
