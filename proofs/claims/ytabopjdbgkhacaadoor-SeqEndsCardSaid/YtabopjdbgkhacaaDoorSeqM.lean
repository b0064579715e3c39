/-
  Sequences: each call answers as the document says.
-/
import Derived.Test.YtabopjdbgkhacaaDoorSeqL
namespace Go.Proofs.YtabopjdbgkhacaaDoor.SeqM
open Go.Proofs.YtabopjdbgkhacaaDoor.E Go.RowKit Go.Proofs.YtabopjdbgkhacaaDoor.NamA Go.Proofs.YtabopjdbgkhacaaDoor.NamB Go.Proofs.YtabopjdbgkhacaaDoor.NamC Go.Proofs.YtabopjdbgkhacaaDoor.NamD Go.Proofs.YtabopjdbgkhacaaDoor.SeqA Go.Proofs.YtabopjdbgkhacaaDoor.SeqB Go.Proofs.YtabopjdbgkhacaaDoor.SeqC Go.Proofs.YtabopjdbgkhacaaDoor.SeqD Go.Proofs.YtabopjdbgkhacaaDoor.SeqE Go.Proofs.YtabopjdbgkhacaaDoor.SeqF Go.Proofs.YtabopjdbgkhacaaDoor.SeqG Go.Proofs.YtabopjdbgkhacaaDoor.SeqH Go.Proofs.YtabopjdbgkhacaaDoor.SeqI Go.Proofs.YtabopjdbgkhacaaDoor.SeqJ Go.Proofs.YtabopjdbgkhacaaDoor.SeqK Go.Proofs.YtabopjdbgkhacaaDoor.SeqL Go.Proofs.YtabopjdbgkhacaaDoor.Num
set_option maxRecDepth 20000
set_option linter.unusedVariables false
set_option linter.unusedSimpArgs false
set_option linter.unusedSectionVars false
set_option maxRecDepth 100000 in
theorem inf24 : Inf Tryd.prog 24 29 33 40 := ⟨Tryd.underlying24, _, _, rfl, rfl, rfl, rfl, rfl⟩

theorem next_w {x : Sq} (h : SqW x) : (nextF x).1.i.length = 32 := by
  by_cases h0 : sqChk x = 0
  · have hi : x.dn.toNat < x.td.length := by obtain ⟨_, _, h1, h2, _⟩ := chk0 h0; omega
    have := h.ht x.td[x.dn.toNat] (List.getElem_mem hi)
    rw [next_ok h0 hi]; simp only; split <;> exact this
  · rw [next_no h0]; simp [zT]

end Go.Proofs.YtabopjdbgkhacaaDoor.SeqM
