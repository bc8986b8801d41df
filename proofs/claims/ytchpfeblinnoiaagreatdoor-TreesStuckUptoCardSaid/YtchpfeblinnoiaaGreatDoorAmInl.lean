import Derived.Test.YtchpfeblinnoiaaGreatDoorAmUnr
import Derived.Test.YtchpfeblinnoiaaGreatDoorAmTypes
import Derived.Test.YtchpfeblinnoiaaGreatDoorProg
namespace Go.Proofs.YtchpfeblinnoiaaGreatDoor
open Go Go.AM Go.RowKit
noncomputable def tabI : InlT := [(8, Tryz.f8, Tryz.b8), (10, Tryz.f10, Tryz.b10), (11, Tryz.f11, Tryz.b11), (14, Tryz.f14, Tryz.b14), (15, Tryz.f15, Tryz.b15), (21, Tryz.f21, Tryz.b21), (24, Tryz.f24, Tryz.b24), (40, Tryz.f40, Tryz.b40), (41, Tryz.f41, Tryz.b41), (42, Tryz.f42, Tryz.b42), (43, Tryz.f43, Tryz.b43), (45, Tryz.f45, Tryz.b45), (46, Tryz.f46, Tryz.b46), (47, Tryz.f47, Tryz.b47), (48, Tryz.f48, Tryz.b48), (57, Tryz.f57, Tryz.b57), (60, Tryz.f60, Tryz.b60)]
theorem tabI_8 : Tryz.prog.funcs[8]? = some Tryz.f8 ∧ Tryz.f8.body = some Tryz.b8 ∧ ∀ args w, (callFunc 8 args).run Tryz.prog w = .ok (.enter 8 args) w := ⟨Tryz.func8, rfl, Tryz.call8⟩
theorem tabI_10 : Tryz.prog.funcs[10]? = some Tryz.f10 ∧ Tryz.f10.body = some Tryz.b10 ∧ ∀ args w, (callFunc 10 args).run Tryz.prog w = .ok (.enter 10 args) w := ⟨Tryz.func10, rfl, Tryz.call10⟩
theorem tabI_11 : Tryz.prog.funcs[11]? = some Tryz.f11 ∧ Tryz.f11.body = some Tryz.b11 ∧ ∀ args w, (callFunc 11 args).run Tryz.prog w = .ok (.enter 11 args) w := ⟨Tryz.func11, rfl, Tryz.call11⟩
theorem tabI_14 : Tryz.prog.funcs[14]? = some Tryz.f14 ∧ Tryz.f14.body = some Tryz.b14 ∧ ∀ args w, (callFunc 14 args).run Tryz.prog w = .ok (.enter 14 args) w := ⟨Tryz.func14, rfl, Tryz.call14⟩
theorem tabI_15 : Tryz.prog.funcs[15]? = some Tryz.f15 ∧ Tryz.f15.body = some Tryz.b15 ∧ ∀ args w, (callFunc 15 args).run Tryz.prog w = .ok (.enter 15 args) w := ⟨Tryz.func15, rfl, Tryz.call15⟩
theorem tabI_21 : Tryz.prog.funcs[21]? = some Tryz.f21 ∧ Tryz.f21.body = some Tryz.b21 ∧ ∀ args w, (callFunc 21 args).run Tryz.prog w = .ok (.enter 21 args) w := ⟨Tryz.func21, rfl, Tryz.call21⟩
theorem tabI_24 : Tryz.prog.funcs[24]? = some Tryz.f24 ∧ Tryz.f24.body = some Tryz.b24 ∧ ∀ args w, (callFunc 24 args).run Tryz.prog w = .ok (.enter 24 args) w := ⟨Tryz.func24, rfl, Tryz.call24⟩
theorem tabI_40 : Tryz.prog.funcs[40]? = some Tryz.f40 ∧ Tryz.f40.body = some Tryz.b40 ∧ ∀ args w, (callFunc 40 args).run Tryz.prog w = .ok (.enter 40 args) w := ⟨Tryz.func40, rfl, Tryz.call40⟩
theorem tabI_41 : Tryz.prog.funcs[41]? = some Tryz.f41 ∧ Tryz.f41.body = some Tryz.b41 ∧ ∀ args w, (callFunc 41 args).run Tryz.prog w = .ok (.enter 41 args) w := ⟨Tryz.func41, rfl, Tryz.call41⟩
theorem tabI_42 : Tryz.prog.funcs[42]? = some Tryz.f42 ∧ Tryz.f42.body = some Tryz.b42 ∧ ∀ args w, (callFunc 42 args).run Tryz.prog w = .ok (.enter 42 args) w := ⟨Tryz.func42, rfl, Tryz.call42⟩
theorem tabI_43 : Tryz.prog.funcs[43]? = some Tryz.f43 ∧ Tryz.f43.body = some Tryz.b43 ∧ ∀ args w, (callFunc 43 args).run Tryz.prog w = .ok (.enter 43 args) w := ⟨Tryz.func43, rfl, Tryz.call43⟩
theorem tabI_45 : Tryz.prog.funcs[45]? = some Tryz.f45 ∧ Tryz.f45.body = some Tryz.b45 ∧ ∀ args w, (callFunc 45 args).run Tryz.prog w = .ok (.enter 45 args) w := ⟨Tryz.func45, rfl, Tryz.call45⟩
theorem tabI_46 : Tryz.prog.funcs[46]? = some Tryz.f46 ∧ Tryz.f46.body = some Tryz.b46 ∧ ∀ args w, (callFunc 46 args).run Tryz.prog w = .ok (.enter 46 args) w := ⟨Tryz.func46, rfl, Tryz.call46⟩
theorem tabI_47 : Tryz.prog.funcs[47]? = some Tryz.f47 ∧ Tryz.f47.body = some Tryz.b47 ∧ ∀ args w, (callFunc 47 args).run Tryz.prog w = .ok (.enter 47 args) w := ⟨Tryz.func47, rfl, Tryz.call47⟩
theorem tabI_48 : Tryz.prog.funcs[48]? = some Tryz.f48 ∧ Tryz.f48.body = some Tryz.b48 ∧ ∀ args w, (callFunc 48 args).run Tryz.prog w = .ok (.enter 48 args) w := ⟨Tryz.func48, rfl, Tryz.call48⟩
theorem tabI_57 : Tryz.prog.funcs[57]? = some Tryz.f57 ∧ Tryz.f57.body = some Tryz.b57 ∧ ∀ args w, (callFunc 57 args).run Tryz.prog w = .ok (.enter 57 args) w := ⟨Tryz.func57, rfl, Tryz.call57⟩
theorem tabI_60 : Tryz.prog.funcs[60]? = some Tryz.f60 ∧ Tryz.f60.body = some Tryz.b60 ∧ ∀ args w, (callFunc 60 args).run Tryz.prog w = .ok (.enter 60 args) w := ⟨Tryz.func60, rfl, Tryz.call60⟩
theorem tabI_ok : TabOK Tryz.prog tabI :=
  tabok_cons tabI_8.1 tabI_8.2.1 tabI_8.2.2 <| tabok_cons tabI_10.1 tabI_10.2.1 tabI_10.2.2 <| tabok_cons tabI_11.1 tabI_11.2.1 tabI_11.2.2 <| tabok_cons tabI_14.1 tabI_14.2.1 tabI_14.2.2 <| tabok_cons tabI_15.1 tabI_15.2.1 tabI_15.2.2 <| tabok_cons tabI_21.1 tabI_21.2.1 tabI_21.2.2 <| tabok_cons tabI_24.1 tabI_24.2.1 tabI_24.2.2 <| tabok_cons tabI_40.1 tabI_40.2.1 tabI_40.2.2 <| tabok_cons tabI_41.1 tabI_41.2.1 tabI_41.2.2 <| tabok_cons tabI_42.1 tabI_42.2.1 tabI_42.2.2 <| tabok_cons tabI_43.1 tabI_43.2.1 tabI_43.2.2 <| tabok_cons tabI_45.1 tabI_45.2.1 tabI_45.2.2 <| tabok_cons tabI_46.1 tabI_46.2.1 tabI_46.2.2 <| tabok_cons tabI_47.1 tabI_47.2.1 tabI_47.2.2 <| tabok_cons tabI_48.1 tabI_48.2.1 tabI_48.2.2 <| tabok_cons tabI_57.1 tabI_57.2.1 tabI_57.2.2 <| tabok_cons tabI_60.1 tabI_60.2.1 tabI_60.2.2 <| tabok_nil
end Go.Proofs.YtchpfeblinnoiaaGreatDoor
