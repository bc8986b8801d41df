import Derived.Test.YthbejheedpdioaaDoorAmUnr
import Derived.Test.YthbejheedpdioaaDoorAmTypes
import Derived.Test.YthbejheedpdioaaDoorProg
namespace Go.Proofs.YthbejheedpdioaaDoor
open Go Go.AM Go.RowKit
noncomputable def tabI : InlT := [(10, Tryd.f10, Tryd.b10), (11, Tryd.f11, Tryd.b11), (12, Tryd.f12, Tryd.b12), (13, Tryd.f13, Tryd.b13), (15, Tryd.f15, Tryd.b15), (17, Tryd.f17, Tryd.b17), (22, Tryd.f22, Tryd.b22), (27, Tryd.f27, Tryd.b27), (28, Tryd.f28, Tryd.b28)]
theorem tabI_10 : Tryd.prog.funcs[10]? = some Tryd.f10 ∧ Tryd.f10.body = some Tryd.b10 ∧ ∀ args w, (callFunc 10 args).run Tryd.prog w = .ok (.enter 10 args) w := ⟨Tryd.func10, rfl, Tryd.call10⟩
theorem tabI_11 : Tryd.prog.funcs[11]? = some Tryd.f11 ∧ Tryd.f11.body = some Tryd.b11 ∧ ∀ args w, (callFunc 11 args).run Tryd.prog w = .ok (.enter 11 args) w := ⟨Tryd.func11, rfl, Tryd.call11⟩
theorem tabI_12 : Tryd.prog.funcs[12]? = some Tryd.f12 ∧ Tryd.f12.body = some Tryd.b12 ∧ ∀ args w, (callFunc 12 args).run Tryd.prog w = .ok (.enter 12 args) w := ⟨Tryd.func12, rfl, Tryd.call12⟩
theorem tabI_13 : Tryd.prog.funcs[13]? = some Tryd.f13 ∧ Tryd.f13.body = some Tryd.b13 ∧ ∀ args w, (callFunc 13 args).run Tryd.prog w = .ok (.enter 13 args) w := ⟨Tryd.func13, rfl, Tryd.call13⟩
theorem tabI_15 : Tryd.prog.funcs[15]? = some Tryd.f15 ∧ Tryd.f15.body = some Tryd.b15 ∧ ∀ args w, (callFunc 15 args).run Tryd.prog w = .ok (.enter 15 args) w := ⟨Tryd.func15, rfl, Tryd.call15⟩
theorem tabI_17 : Tryd.prog.funcs[17]? = some Tryd.f17 ∧ Tryd.f17.body = some Tryd.b17 ∧ ∀ args w, (callFunc 17 args).run Tryd.prog w = .ok (.enter 17 args) w := ⟨Tryd.func17, rfl, Tryd.call17⟩
theorem tabI_22 : Tryd.prog.funcs[22]? = some Tryd.f22 ∧ Tryd.f22.body = some Tryd.b22 ∧ ∀ args w, (callFunc 22 args).run Tryd.prog w = .ok (.enter 22 args) w := ⟨Tryd.func22, rfl, Tryd.call22⟩
theorem tabI_27 : Tryd.prog.funcs[27]? = some Tryd.f27 ∧ Tryd.f27.body = some Tryd.b27 ∧ ∀ args w, (callFunc 27 args).run Tryd.prog w = .ok (.enter 27 args) w := ⟨Tryd.func27, rfl, Tryd.call27⟩
theorem tabI_28 : Tryd.prog.funcs[28]? = some Tryd.f28 ∧ Tryd.f28.body = some Tryd.b28 ∧ ∀ args w, (callFunc 28 args).run Tryd.prog w = .ok (.enter 28 args) w := ⟨Tryd.func28, rfl, Tryd.call28⟩
theorem tabI_ok : TabOK Tryd.prog tabI :=
  tabok_cons tabI_10.1 tabI_10.2.1 tabI_10.2.2 <| tabok_cons tabI_11.1 tabI_11.2.1 tabI_11.2.2 <| tabok_cons tabI_12.1 tabI_12.2.1 tabI_12.2.2 <| tabok_cons tabI_13.1 tabI_13.2.1 tabI_13.2.2 <| tabok_cons tabI_15.1 tabI_15.2.1 tabI_15.2.2 <| tabok_cons tabI_17.1 tabI_17.2.1 tabI_17.2.2 <| tabok_cons tabI_22.1 tabI_22.2.1 tabI_22.2.2 <| tabok_cons tabI_27.1 tabI_27.2.1 tabI_27.2.2 <| tabok_cons tabI_28.1 tabI_28.2.1 tabI_28.2.2 <| tabok_nil
end Go.Proofs.YthbejheedpdioaaDoor
