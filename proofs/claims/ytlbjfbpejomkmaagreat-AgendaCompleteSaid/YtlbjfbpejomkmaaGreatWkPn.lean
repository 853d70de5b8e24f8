import Derived.Test.YtlbjfbpejomkmaaGreatWkPl
/- The reference's working time, plain. -/
namespace Go.Proofs.YtlbjfbpejomkmaaGreat
namespace Wk

end Wk
end Go.Proofs.YtlbjfbpejomkmaaGreat
namespace Go.Proofs.YtlbjfbpejomkmaaGreat
namespace Wk

end Wk
end Go.Proofs.YtlbjfbpejomkmaaGreat
namespace Go.Proofs.YtlbjfbpejomkmaaGreat
namespace Wk

end Wk
end Go.Proofs.YtlbjfbpejomkmaaGreat
namespace Go.Proofs.YtlbjfbpejomkmaaGreat
namespace Wk

end Wk
end Go.Proofs.YtlbjfbpejomkmaaGreat
namespace Go.Proofs.YtlbjfbpejomkmaaGreat
namespace Wk

end Wk
end Go.Proofs.YtlbjfbpejomkmaaGreat
namespace Go.Proofs.YtlbjfbpejomkmaaGreat
namespace Wk

end Wk
end Go.Proofs.YtlbjfbpejomkmaaGreat
namespace Go.Proofs.YtlbjfbpejomkmaaGreat
namespace Wk

end Wk
end Go.Proofs.YtlbjfbpejomkmaaGreat
namespace Go.Proofs.YtlbjfbpejomkmaaGreat
namespace Wk

end Wk
end Go.Proofs.YtlbjfbpejomkmaaGreat
namespace Go.Proofs.YtlbjfbpejomkmaaGreat
namespace Wk
def aL : List Sp := [(0, 1)]
theorem ak_pe {P : Int} {l : List Sp} (h : pvB P l = true) : peB P l P l = true := by
 unfold peB; rw [h]; simp
theorem ak_pair {P : Int} {l : List Sp} (h : pvB P l = true) : pairM P l P l = 0 := by
 unfold pairM; rw [if_pos (ak_pe h)]
theorem ak_VB {s : St} (h1 : pvB s.lf.1 s.lf.2 = true) (h2 : pvB s.rt.1 s.rt.2 = true) (h3 : (decide (s.fr ≤ s.to) && lineB s.fr && lineB s.to && rvB s.l && (decide (s.l = []) || (decide (s.fr ≤ (s.l.getD 0 (0, 0)).1) && decide ((s.l.getD (s.l.length - 1) (0, 0)).2 ≤ s.to)))) = true) (hf : formF s = (s, 0)) : VB s = true := by
 have hg : givenB s = true := by
  unfold givenB
  rw [h1, h2]
  simpa only [Bool.true_and, Bool.and_assoc] using h3
 unfold VB
 rw [hg, hf]
 simp only [ak_pe h1, ak_pe h2]
 simp
def a7 : St := ⟨(7, aL), (7, aL), 0, 0, []⟩
def aB : St := ⟨(2, aL), (4, aL), 7, 7, []⟩
end Wk
end Go.Proofs.YtlbjfbpejomkmaaGreat
namespace Go.Proofs.YtlbjfbpejomkmaaGreat
namespace Wk

end Wk
end Go.Proofs.YtlbjfbpejomkmaaGreat
namespace Go.Proofs.YtlbjfbpejomkmaaGreat
namespace Wk

end Wk
end Go.Proofs.YtlbjfbpejomkmaaGreat
namespace Go.Proofs.YtlbjfbpejomkmaaGreat
namespace Wk

end Wk
end Go.Proofs.YtlbjfbpejomkmaaGreat
namespace Go.Proofs.YtlbjfbpejomkmaaGreat
namespace Wk

end Wk
end Go.Proofs.YtlbjfbpejomkmaaGreat
namespace Go.Proofs.YtlbjfbpejomkmaaGreat
namespace Wk
theorem form_pure {p : Per} (h : pvB p.1 p.2 = true) : formF (pureF p) = (pureF p, 0) := by
 have he : earlyB (pureF p) = true := by
  unfold earlyB pureF
  simp only [ak_pe h]
  rfl
 exact form_early (ak_pair h) he
theorem VB_pure {p : Per} (h : pvB p.1 p.2 = true) : VB (pureF p) = true := ak_VB h h rfl (form_pure h)
end Wk
end Go.Proofs.YtlbjfbpejomkmaaGreat
namespace Go.Proofs.YtlbjfbpejomkmaaGreat
namespace Wk
end Wk
end Go.Proofs.YtlbjfbpejomkmaaGreat
