/- The numbers of package api are those of the document: the closed statement Names returns true. No condition. -/
import Derived.Test.YtnkigdcicnhepaaPNamesx1
namespace Go.Proofs.Ytnkigdcicnhepaa.Pure
open Go.RowKit Go.Proofs.Ytnkigdcicnhepaa.PNames Go.Proofs.YtnkigdcicnhepaaW.PrintWords Go.Proofs.YtnkigdcicnhepaaW.PrintLast

theorem Names : lockfasttop_Names.Pure := rfl

end Go.Proofs.Ytnkigdcicnhepaa.Pure
