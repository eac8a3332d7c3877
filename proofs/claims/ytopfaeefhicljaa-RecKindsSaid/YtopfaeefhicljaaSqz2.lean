/- Short names for texts that squeeze2.py has shortened. No conditions. -/
import Derived.Test.YtopfaeefhicljaaSqz
namespace Go.Proofs.Ytopfaeefhicljaa.Q
open Go Go.RowKit Go.Proofs.YtopfaeefhicljaaW.PrintWords Go.Proofs.YtopfaeefhicljaaW.PrintLast Go.Proofs.YtopfaeefhicljaaW.PrintMore
abbrev rA := @Kd.R_alloc
abbrev rN := @Kd.R_drewN
abbrev rD := @Kd.R_drew
abbrev nA := @Kd.N_alloc
abbrev nN := @Kd.N_drewN
abbrev nD := @Kd.N_drew
theorem am {p : Prop} (h : p) : Aside0 p := Aside0.mk h
end Go.Proofs.Ytopfaeefhicljaa.Q
