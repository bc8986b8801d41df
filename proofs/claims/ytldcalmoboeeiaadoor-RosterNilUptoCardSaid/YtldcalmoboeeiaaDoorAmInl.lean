import Derived.Test.YtldcalmoboeeiaaDoorAmUnr
import Derived.Test.YtldcalmoboeeiaaDoorAmTypes
import Derived.Test.YtldcalmoboeeiaaDoorProg
namespace Go.Proofs.YtldcalmoboeeiaaDoor
open Go Go.AM Go.RowKit
/-- The functions, by their numbers. -/
noncomputable def tabI : InlT := [(15, Tryd.f15, Tryd.b15), (16, Tryd.f16, Tryd.b16), (20, Tryd.f20, Tryd.b20), (21, Tryd.f21, Tryd.b21), (22, Tryd.f22, Tryd.b22), (23, Tryd.f23, Tryd.b23), (24, Tryd.f24, Tryd.b24), (25, Tryd.f25, Tryd.b25), (26, Tryd.f26, Tryd.b26), (42, Tryd.f42, Tryd.b42), (45, Tryd.f45, Tryd.b45), (49, Tryd.f49, Tryd.b49), (52, Tryd.f52, Tryd.b52), (54, Tryd.f54, Tryd.b54), (105, Tryd.f105, Tryd.b105), (106, Tryd.f106, Tryd.b106), (107, Tryd.f107, Tryd.b107), (130, Tryd.f130, Tryd.b130), (136, Tryd.f136, Tryd.b136), (155, Tryd.f155, Tryd.b155)]
theorem tabI_15 : Tryd.prog.funcs[15]? = some Tryd.f15 ∧ Tryd.f15.body = some Tryd.b15 ∧ ∀ args w, (callFunc 15 args).run Tryd.prog w = .ok (.enter 15 args) w := ⟨Tryd.func15, rfl, Tryd.call15⟩
theorem tabI_16 : Tryd.prog.funcs[16]? = some Tryd.f16 ∧ Tryd.f16.body = some Tryd.b16 ∧ ∀ args w, (callFunc 16 args).run Tryd.prog w = .ok (.enter 16 args) w := ⟨Tryd.func16, rfl, Tryd.call16⟩
theorem tabI_20 : Tryd.prog.funcs[20]? = some Tryd.f20 ∧ Tryd.f20.body = some Tryd.b20 ∧ ∀ args w, (callFunc 20 args).run Tryd.prog w = .ok (.enter 20 args) w := ⟨Tryd.func20, rfl, Tryd.call20⟩
theorem tabI_21 : Tryd.prog.funcs[21]? = some Tryd.f21 ∧ Tryd.f21.body = some Tryd.b21 ∧ ∀ args w, (callFunc 21 args).run Tryd.prog w = .ok (.enter 21 args) w := ⟨Tryd.func21, rfl, Tryd.call21⟩
theorem tabI_22 : Tryd.prog.funcs[22]? = some Tryd.f22 ∧ Tryd.f22.body = some Tryd.b22 ∧ ∀ args w, (callFunc 22 args).run Tryd.prog w = .ok (.enter 22 args) w := ⟨Tryd.func22, rfl, Tryd.call22⟩
theorem tabI_23 : Tryd.prog.funcs[23]? = some Tryd.f23 ∧ Tryd.f23.body = some Tryd.b23 ∧ ∀ args w, (callFunc 23 args).run Tryd.prog w = .ok (.enter 23 args) w := ⟨Tryd.func23, rfl, Tryd.call23⟩
theorem tabI_24 : Tryd.prog.funcs[24]? = some Tryd.f24 ∧ Tryd.f24.body = some Tryd.b24 ∧ ∀ args w, (callFunc 24 args).run Tryd.prog w = .ok (.enter 24 args) w := ⟨Tryd.func24, rfl, Tryd.call24⟩
theorem tabI_25 : Tryd.prog.funcs[25]? = some Tryd.f25 ∧ Tryd.f25.body = some Tryd.b25 ∧ ∀ args w, (callFunc 25 args).run Tryd.prog w = .ok (.enter 25 args) w := ⟨Tryd.func25, rfl, Tryd.call25⟩
theorem tabI_26 : Tryd.prog.funcs[26]? = some Tryd.f26 ∧ Tryd.f26.body = some Tryd.b26 ∧ ∀ args w, (callFunc 26 args).run Tryd.prog w = .ok (.enter 26 args) w := ⟨Tryd.func26, rfl, Tryd.call26⟩
theorem tabI_42 : Tryd.prog.funcs[42]? = some Tryd.f42 ∧ Tryd.f42.body = some Tryd.b42 ∧ ∀ args w, (callFunc 42 args).run Tryd.prog w = .ok (.enter 42 args) w := ⟨Tryd.func42, rfl, Tryd.call42⟩
theorem tabI_45 : Tryd.prog.funcs[45]? = some Tryd.f45 ∧ Tryd.f45.body = some Tryd.b45 ∧ ∀ args w, (callFunc 45 args).run Tryd.prog w = .ok (.enter 45 args) w := ⟨Tryd.func45, rfl, Tryd.call45⟩
theorem tabI_49 : Tryd.prog.funcs[49]? = some Tryd.f49 ∧ Tryd.f49.body = some Tryd.b49 ∧ ∀ args w, (callFunc 49 args).run Tryd.prog w = .ok (.enter 49 args) w := ⟨Tryd.func49, rfl, Tryd.call49⟩
theorem tabI_52 : Tryd.prog.funcs[52]? = some Tryd.f52 ∧ Tryd.f52.body = some Tryd.b52 ∧ ∀ args w, (callFunc 52 args).run Tryd.prog w = .ok (.enter 52 args) w := ⟨Tryd.func52, rfl, Tryd.call52⟩
theorem tabI_54 : Tryd.prog.funcs[54]? = some Tryd.f54 ∧ Tryd.f54.body = some Tryd.b54 ∧ ∀ args w, (callFunc 54 args).run Tryd.prog w = .ok (.enter 54 args) w := ⟨Tryd.func54, rfl, Tryd.call54⟩
theorem tabI_105 : Tryd.prog.funcs[105]? = some Tryd.f105 ∧ Tryd.f105.body = some Tryd.b105 ∧ ∀ args w, (callFunc 105 args).run Tryd.prog w = .ok (.enter 105 args) w := ⟨Tryd.func105, rfl, Tryd.call105⟩
theorem tabI_106 : Tryd.prog.funcs[106]? = some Tryd.f106 ∧ Tryd.f106.body = some Tryd.b106 ∧ ∀ args w, (callFunc 106 args).run Tryd.prog w = .ok (.enter 106 args) w := ⟨Tryd.func106, rfl, Tryd.call106⟩
theorem tabI_107 : Tryd.prog.funcs[107]? = some Tryd.f107 ∧ Tryd.f107.body = some Tryd.b107 ∧ ∀ args w, (callFunc 107 args).run Tryd.prog w = .ok (.enter 107 args) w := ⟨Tryd.func107, rfl, Tryd.call107⟩
theorem tabI_130 : Tryd.prog.funcs[130]? = some Tryd.f130 ∧ Tryd.f130.body = some Tryd.b130 ∧ ∀ args w, (callFunc 130 args).run Tryd.prog w = .ok (.enter 130 args) w := ⟨Tryd.func130, rfl, Tryd.call130⟩
theorem tabI_136 : Tryd.prog.funcs[136]? = some Tryd.f136 ∧ Tryd.f136.body = some Tryd.b136 ∧ ∀ args w, (callFunc 136 args).run Tryd.prog w = .ok (.enter 136 args) w := ⟨Tryd.func136, rfl, Tryd.call136⟩
theorem tabI_155 : Tryd.prog.funcs[155]? = some Tryd.f155 ∧ Tryd.f155.body = some Tryd.b155 ∧ ∀ args w, (callFunc 155 args).run Tryd.prog w = .ok (.enter 155 args) w := ⟨Tryd.func155, rfl, Tryd.call155⟩
theorem tabI_ok : TabOK Tryd.prog tabI :=
  tabok_cons tabI_15.1 tabI_15.2.1 tabI_15.2.2 <| tabok_cons tabI_16.1 tabI_16.2.1 tabI_16.2.2 <| tabok_cons tabI_20.1 tabI_20.2.1 tabI_20.2.2 <| tabok_cons tabI_21.1 tabI_21.2.1 tabI_21.2.2 <| tabok_cons tabI_22.1 tabI_22.2.1 tabI_22.2.2 <| tabok_cons tabI_23.1 tabI_23.2.1 tabI_23.2.2 <| tabok_cons tabI_24.1 tabI_24.2.1 tabI_24.2.2 <| tabok_cons tabI_25.1 tabI_25.2.1 tabI_25.2.2 <| tabok_cons tabI_26.1 tabI_26.2.1 tabI_26.2.2 <| tabok_cons tabI_42.1 tabI_42.2.1 tabI_42.2.2 <| tabok_cons tabI_45.1 tabI_45.2.1 tabI_45.2.2 <| tabok_cons tabI_49.1 tabI_49.2.1 tabI_49.2.2 <| tabok_cons tabI_52.1 tabI_52.2.1 tabI_52.2.2 <| tabok_cons tabI_54.1 tabI_54.2.1 tabI_54.2.2 <| tabok_cons tabI_105.1 tabI_105.2.1 tabI_105.2.2 <| tabok_cons tabI_106.1 tabI_106.2.1 tabI_106.2.2 <| tabok_cons tabI_107.1 tabI_107.2.1 tabI_107.2.2 <| tabok_cons tabI_130.1 tabI_130.2.1 tabI_130.2.2 <| tabok_cons tabI_136.1 tabI_136.2.1 tabI_136.2.2 <| tabok_cons tabI_155.1 tabI_155.2.1 tabI_155.2.2 <| tabok_nil
end Go.Proofs.YtldcalmoboeeiaaDoor
