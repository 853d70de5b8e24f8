/- Plain mathematics of runs, periodic sets and working time. No conditions. -/
namespace Go.Proofs.YtlbglinpgjlbkaaGreatDoor
namespace Wk

abbrev Sp := Int × Int

def meas : List Sp → Int
 | [] => 0
 | s :: r => (s.2 - s.1) + meas r
def rank : List Sp → Int → Int
 | [], _ => 0
 | s :: r, x => (if s.1 < x then min s.2 x - s.1 else 0) + rank r x
/-! A step function: it goes up by one exactly at members. -/
/-! ## periodic sets -/
abbrev Per := Int × List Sp
def rankP (p : Per) (x : Int) : Int := x / p.1 * meas p.2 + rank p.2 (x - x / p.1 * p.1)
/-! ## sets -/
structure St where
 lf : Per
 rt : Per
 fr : Int
 to : Int
 l : List Sp

def cnt (s : St) (a b : Int) : Int :=
 (if min a s.fr < min b s.fr then rankP s.lf (min b s.fr) - rankP s.lf (min a s.fr) else 0)
 + (if max a s.to < max b s.to then rankP s.rt (max b s.to) - rankP s.rt (max a s.to) else 0)
 + (if min (max a s.fr) s.to < min (max b s.fr) s.to then rank s.l (min (max b s.fr) s.to) - rank s.l (min (max a s.fr) s.to) else 0)

end Wk
end Go.Proofs.YtlbglinpgjlbkaaGreatDoor
