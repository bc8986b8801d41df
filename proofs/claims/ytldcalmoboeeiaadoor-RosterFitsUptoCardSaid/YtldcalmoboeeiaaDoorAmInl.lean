import Derived.Test.YtldcalmoboeeiaaDoorAmUnr
import Derived.Test.YtldcalmoboeeiaaDoorAmTypes
import Derived.Test.YtldcalmoboeeiaaDoorProg
namespace Go.Proofs.YtldcalmoboeeiaaDoor
open Go Go.AM Go.RowKit
/-- The functions, by their numbers. -/
noncomputable def tabI : InlT := [(52, Tryd.f52, Tryd.b52), (105, Tryd.f105, Tryd.b105), (106, Tryd.f106, Tryd.b106), (107, Tryd.f107, Tryd.b107), (130, Tryd.f130, Tryd.b130), (136, Tryd.f136, Tryd.b136), (155, Tryd.f155, Tryd.b155)]
theorem tabI_52 : Tryd.prog.funcs[52]? = some Tryd.f52 ∧ Tryd.f52.body = some Tryd.b52 ∧ ∀ args w, (callFunc 52 args).run Tryd.prog w = .ok (.enter 52 args) w := ⟨Tryd.func52, rfl, Tryd.call52⟩
theorem tabI_105 : Tryd.prog.funcs[105]? = some Tryd.f105 ∧ Tryd.f105.body = some Tryd.b105 ∧ ∀ args w, (callFunc 105 args).run Tryd.prog w = .ok (.enter 105 args) w := ⟨Tryd.func105, rfl, Tryd.call105⟩
theorem tabI_106 : Tryd.prog.funcs[106]? = some Tryd.f106 ∧ Tryd.f106.body = some Tryd.b106 ∧ ∀ args w, (callFunc 106 args).run Tryd.prog w = .ok (.enter 106 args) w := ⟨Tryd.func106, rfl, Tryd.call106⟩
theorem tabI_107 : Tryd.prog.funcs[107]? = some Tryd.f107 ∧ Tryd.f107.body = some Tryd.b107 ∧ ∀ args w, (callFunc 107 args).run Tryd.prog w = .ok (.enter 107 args) w := ⟨Tryd.func107, rfl, Tryd.call107⟩
theorem tabI_130 : Tryd.prog.funcs[130]? = some Tryd.f130 ∧ Tryd.f130.body = some Tryd.b130 ∧ ∀ args w, (callFunc 130 args).run Tryd.prog w = .ok (.enter 130 args) w := ⟨Tryd.func130, rfl, Tryd.call130⟩
theorem tabI_136 : Tryd.prog.funcs[136]? = some Tryd.f136 ∧ Tryd.f136.body = some Tryd.b136 ∧ ∀ args w, (callFunc 136 args).run Tryd.prog w = .ok (.enter 136 args) w := ⟨Tryd.func136, rfl, Tryd.call136⟩
theorem tabI_155 : Tryd.prog.funcs[155]? = some Tryd.f155 ∧ Tryd.f155.body = some Tryd.b155 ∧ ∀ args w, (callFunc 155 args).run Tryd.prog w = .ok (.enter 155 args) w := ⟨Tryd.func155, rfl, Tryd.call155⟩
theorem tabI_ok : TabOK Tryd.prog tabI :=
  tabok_cons tabI_52.1 tabI_52.2.1 tabI_52.2.2 <| tabok_cons tabI_105.1 tabI_105.2.1 tabI_105.2.2 <| tabok_cons tabI_106.1 tabI_106.2.1 tabI_106.2.2 <| tabok_cons tabI_107.1 tabI_107.2.1 tabI_107.2.2 <| tabok_cons tabI_130.1 tabI_130.2.1 tabI_130.2.2 <| tabok_cons tabI_136.1 tabI_136.2.1 tabI_136.2.2 <| tabok_cons tabI_155.1 tabI_155.2.1 tabI_155.2.2 <| tabok_nil
end Go.Proofs.YtldcalmoboeeiaaDoor
