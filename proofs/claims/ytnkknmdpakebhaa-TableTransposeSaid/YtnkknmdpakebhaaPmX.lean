/- The seat's types and functions, for the abstract machine. -/
import Derived.Test.YtnkknmdpakebhaaPmM2
import Derived.Test.YtnkknmdpakebhaaChecked
set_option linter.unusedSimpArgs false
set_option linter.unusedVariables false
namespace Go.Proofs.Ytnkknmdpakebhaa
open Go Go.Pm
def tyRows : List (Nat × TyI) := [
  (2, ⟨.int .i64, 1, 8, .int .i64 0, false⟩),
  (3, ⟨.int .i64, 1, 8, .int .i64 0, false⟩),
  (4, ⟨.bool, 1, 1, .bool false, false⟩),
  (5, ⟨.int .u8, 1, 1, .int .u8 0, false⟩),
  (9, ⟨.str, 1, 16, .str ⟨#[]⟩, false⟩),
  (22, ⟨.slice 3, 1, 24, .nil, false⟩),
  (24, ⟨.slice 27, 1, 24, .nil, false⟩),
  (25, ⟨.slice 9, 1, 24, .nil, false⟩),
  (27, ⟨.struct [(0, 1), (1, 1), (2, 1), (3, 1), (4, 1)], 5, 80, .agg [.int .i64 0, .int .i64 0, .str ⟨#[]⟩, .nil, .nil], false⟩),
  (30, ⟨.int .i64, 1, 8, .int .i64 0, false⟩),
  (54, ⟨.struct [(0, 1), (1, 1)], 2, 16, .agg [.int .i64 0, .int .i64 0], false⟩),
  (57, ⟨.slice 22, 1, 24, .nil, false⟩),
  (78, ⟨.slice 5, 1, 24, .nil, false⟩),
  (85, ⟨.int .u64, 1, 8, .int .u64 0, false⟩)]
theorem tyRows_ok : chkTab Try.prog tyRows = true := by kernel_rfl
noncomputable def X0 : X := ⟨Try.prog, Go.Pm.look tyRows, chkTab_ok tyRows_ok, Try.checked.mixed, false⟩

theorem tab2 : X0.tab 2 = some ⟨.int .i64, 1, 8, .int .i64 0, false⟩ := rfl
theorem tab3 : X0.tab 3 = some ⟨.int .i64, 1, 8, .int .i64 0, false⟩ := rfl
theorem tab4 : X0.tab 4 = some ⟨.bool, 1, 1, .bool false, false⟩ := rfl
theorem tab5 : X0.tab 5 = some ⟨.int .u8, 1, 1, .int .u8 0, false⟩ := rfl
theorem tab9 : X0.tab 9 = some ⟨.str, 1, 16, .str ⟨#[]⟩, false⟩ := rfl
theorem tab22 : X0.tab 22 = some ⟨.slice 3, 1, 24, .nil, false⟩ := rfl
theorem tab24 : X0.tab 24 = some ⟨.slice 27, 1, 24, .nil, false⟩ := rfl
theorem tab25 : X0.tab 25 = some ⟨.slice 9, 1, 24, .nil, false⟩ := rfl
theorem tab27 : X0.tab 27 = some ⟨.struct [(0, 1), (1, 1), (2, 1), (3, 1), (4, 1)], 5, 80, .agg [.int .i64 0, .int .i64 0, .str ⟨#[]⟩, .nil, .nil], false⟩ := rfl
theorem tab30 : X0.tab 30 = some ⟨.int .i64, 1, 8, .int .i64 0, false⟩ := rfl
theorem tab54 : X0.tab 54 = some ⟨.struct [(0, 1), (1, 1)], 2, 16, .agg [.int .i64 0, .int .i64 0], false⟩ := rfl
theorem tab57 : X0.tab 57 = some ⟨.slice 22, 1, 24, .nil, false⟩ := rfl
theorem tab78 : X0.tab 78 = some ⟨.slice 5, 1, 24, .nil, false⟩ := rfl
theorem tab85 : X0.tab 85 = some ⟨.int .u64, 1, 8, .int .u64 0, false⟩ := rfl
noncomputable def X1 : X := ⟨Try.prog, Go.Pm.look tyRows, chkTab_ok tyRows_ok, Try.checked.mixed, true⟩
theorem tab1_2 : X1.tab 2 = some ⟨.int .i64, 1, 8, .int .i64 0, false⟩ := rfl
theorem tab1_3 : X1.tab 3 = some ⟨.int .i64, 1, 8, .int .i64 0, false⟩ := rfl
theorem tab1_4 : X1.tab 4 = some ⟨.bool, 1, 1, .bool false, false⟩ := rfl
theorem tab1_5 : X1.tab 5 = some ⟨.int .u8, 1, 1, .int .u8 0, false⟩ := rfl
theorem tab1_9 : X1.tab 9 = some ⟨.str, 1, 16, .str ⟨#[]⟩, false⟩ := rfl
theorem tab1_22 : X1.tab 22 = some ⟨.slice 3, 1, 24, .nil, false⟩ := rfl
theorem tab1_24 : X1.tab 24 = some ⟨.slice 27, 1, 24, .nil, false⟩ := rfl
theorem tab1_25 : X1.tab 25 = some ⟨.slice 9, 1, 24, .nil, false⟩ := rfl
theorem tab1_27 : X1.tab 27 = some ⟨.struct [(0, 1), (1, 1), (2, 1), (3, 1), (4, 1)], 5, 80, .agg [.int .i64 0, .int .i64 0, .str ⟨#[]⟩, .nil, .nil], false⟩ := rfl
theorem tab1_30 : X1.tab 30 = some ⟨.int .i64, 1, 8, .int .i64 0, false⟩ := rfl
theorem tab1_54 : X1.tab 54 = some ⟨.struct [(0, 1), (1, 1)], 2, 16, .agg [.int .i64 0, .int .i64 0], false⟩ := rfl
theorem tab1_57 : X1.tab 57 = some ⟨.slice 22, 1, 24, .nil, false⟩ := rfl
theorem tab1_78 : X1.tab 78 = some ⟨.slice 5, 1, 24, .nil, false⟩ := rfl
theorem tab1_85 : X1.tab 85 = some ⟨.int .u64, 1, 8, .int .u64 0, false⟩ := rfl
def tyRows2 : List (Nat × TyI) := [
  (2, ⟨.int .i64, 1, 8, .int .i64 0, false⟩),
  (3, ⟨.int .i64, 1, 8, .int .i64 0, false⟩),
  (4, ⟨.bool, 1, 1, .bool false, false⟩),
  (5, ⟨.int .u8, 1, 1, .int .u8 0, false⟩),
  (9, ⟨.str, 1, 16, .str ⟨#[]⟩, false⟩),
  (22, ⟨.slice 3, 1, 24, .nil, false⟩),
  (24, ⟨.slice 27, 1, 24, .nil, false⟩),
  (25, ⟨.slice 9, 1, 24, .nil, false⟩),
  (27, ⟨.struct [(0, 1), (1, 1), (2, 1), (3, 1), (4, 1)], 5, 80, .agg [.int .i64 0, .int .i64 0, .str ⟨#[]⟩, .nil, .nil], false⟩),
  (30, ⟨.int .i64, 1, 8, .int .i64 0, false⟩),
  (54, ⟨.struct [(0, 1), (1, 1)], 2, 16, .agg [.int .i64 0, .int .i64 0], false⟩),
  (57, ⟨.slice 22, 1, 24, .nil, true⟩),
  (78, ⟨.slice 5, 1, 24, .nil, false⟩),
  (85, ⟨.int .u64, 1, 8, .int .u64 0, false⟩)]
theorem tyRows2_ok : chkTab Try.prog tyRows2 = true := by kernel_rfl
noncomputable def X2 : X := ⟨Try.prog, Go.Pm.look tyRows2, chkTab_ok tyRows2_ok, Try.checked.mixed, false⟩
theorem tab2_2 : X2.tab 2 = some ⟨.int .i64, 1, 8, .int .i64 0, false⟩ := rfl
theorem tab2_3 : X2.tab 3 = some ⟨.int .i64, 1, 8, .int .i64 0, false⟩ := rfl
theorem tab2_4 : X2.tab 4 = some ⟨.bool, 1, 1, .bool false, false⟩ := rfl
theorem tab2_5 : X2.tab 5 = some ⟨.int .u8, 1, 1, .int .u8 0, false⟩ := rfl
theorem tab2_9 : X2.tab 9 = some ⟨.str, 1, 16, .str ⟨#[]⟩, false⟩ := rfl
theorem tab2_22 : X2.tab 22 = some ⟨.slice 3, 1, 24, .nil, false⟩ := rfl
theorem tab2_24 : X2.tab 24 = some ⟨.slice 27, 1, 24, .nil, false⟩ := rfl
theorem tab2_25 : X2.tab 25 = some ⟨.slice 9, 1, 24, .nil, false⟩ := rfl
theorem tab2_27 : X2.tab 27 = some ⟨.struct [(0, 1), (1, 1), (2, 1), (3, 1), (4, 1)], 5, 80, .agg [.int .i64 0, .int .i64 0, .str ⟨#[]⟩, .nil, .nil], false⟩ := rfl
theorem tab2_30 : X2.tab 30 = some ⟨.int .i64, 1, 8, .int .i64 0, false⟩ := rfl
theorem tab2_54 : X2.tab 54 = some ⟨.struct [(0, 1), (1, 1)], 2, 16, .agg [.int .i64 0, .int .i64 0], false⟩ := rfl
theorem tab2_57 : X2.tab 57 = some ⟨.slice 22, 1, 24, .nil, true⟩ := rfl
theorem tab2_78 : X2.tab 78 = some ⟨.slice 5, 1, 24, .nil, false⟩ := rfl
theorem tab2_85 : X2.tab 85 = some ⟨.int .u64, 1, 8, .int .u64 0, false⟩ := rfl
def tyRows3 : List (Nat × TyI) := [
  (2, ⟨.int .i64, 1, 8, .int .i64 0, false⟩),
  (3, ⟨.int .i64, 1, 8, .int .i64 0, false⟩),
  (4, ⟨.bool, 1, 1, .bool false, false⟩),
  (5, ⟨.int .u8, 1, 1, .int .u8 0, false⟩),
  (9, ⟨.str, 1, 16, .str ⟨#[]⟩, false⟩),
  (22, ⟨.slice 3, 1, 24, .nil, true⟩),
  (24, ⟨.slice 27, 1, 24, .nil, true⟩),
  (25, ⟨.slice 9, 1, 24, .nil, false⟩),
  (27, ⟨.struct [(0, 1), (1, 1), (2, 1), (3, 1), (4, 1)], 5, 80, .agg [.int .i64 0, .int .i64 0, .str ⟨#[]⟩, .nil, .nil], false⟩),
  (30, ⟨.int .i64, 1, 8, .int .i64 0, false⟩),
  (54, ⟨.struct [(0, 1), (1, 1)], 2, 16, .agg [.int .i64 0, .int .i64 0], false⟩),
  (57, ⟨.slice 22, 1, 24, .nil, true⟩),
  (78, ⟨.slice 5, 1, 24, .nil, false⟩),
  (85, ⟨.int .u64, 1, 8, .int .u64 0, false⟩)]
theorem tyRows3_ok : chkTab Try.prog tyRows3 = true := by kernel_rfl
noncomputable def X3 : X := ⟨Try.prog, Go.Pm.look tyRows3, chkTab_ok tyRows3_ok, Try.checked.mixed, false⟩
theorem tab3_2 : X3.tab 2 = some ⟨.int .i64, 1, 8, .int .i64 0, false⟩ := rfl
theorem tab3_3 : X3.tab 3 = some ⟨.int .i64, 1, 8, .int .i64 0, false⟩ := rfl
theorem tab3_4 : X3.tab 4 = some ⟨.bool, 1, 1, .bool false, false⟩ := rfl
theorem tab3_5 : X3.tab 5 = some ⟨.int .u8, 1, 1, .int .u8 0, false⟩ := rfl
theorem tab3_9 : X3.tab 9 = some ⟨.str, 1, 16, .str ⟨#[]⟩, false⟩ := rfl
theorem tab3_22 : X3.tab 22 = some ⟨.slice 3, 1, 24, .nil, true⟩ := rfl
theorem tab3_24 : X3.tab 24 = some ⟨.slice 27, 1, 24, .nil, true⟩ := rfl
theorem tab3_25 : X3.tab 25 = some ⟨.slice 9, 1, 24, .nil, false⟩ := rfl
theorem tab3_27 : X3.tab 27 = some ⟨.struct [(0, 1), (1, 1), (2, 1), (3, 1), (4, 1)], 5, 80, .agg [.int .i64 0, .int .i64 0, .str ⟨#[]⟩, .nil, .nil], false⟩ := rfl
theorem tab3_30 : X3.tab 30 = some ⟨.int .i64, 1, 8, .int .i64 0, false⟩ := rfl
theorem tab3_54 : X3.tab 54 = some ⟨.struct [(0, 1), (1, 1)], 2, 16, .agg [.int .i64 0, .int .i64 0], false⟩ := rfl
theorem tab3_57 : X3.tab 57 = some ⟨.slice 22, 1, 24, .nil, true⟩ := rfl
theorem tab3_78 : X3.tab 78 = some ⟨.slice 5, 1, 24, .nil, false⟩ := rfl
theorem tab3_85 : X3.tab 85 = some ⟨.int .u64, 1, 8, .int .u64 0, false⟩ := rfl
theorem fn3 : X0.P.funcs[3]? = some Try.f3 := Try.func3
theorem fn4 : X0.P.funcs[4]? = some Try.f4 := Try.func4
theorem fn5 : X0.P.funcs[5]? = some Try.f5 := Try.func5
theorem fn6 : X0.P.funcs[6]? = some Try.f6 := Try.func6
theorem fn7 : X0.P.funcs[7]? = some Try.f7 := Try.func7
theorem fn8 : X0.P.funcs[8]? = some Try.f8 := Try.func8
theorem fn9 : X0.P.funcs[9]? = some Try.f9 := Try.func9
theorem fn10 : X0.P.funcs[10]? = some Try.f10 := Try.func10
theorem fn11 : X0.P.funcs[11]? = some Try.f11 := Try.func11
theorem fn12 : X0.P.funcs[12]? = some Try.f12 := Try.func12
theorem fn13 : X0.P.funcs[13]? = some Try.f13 := Try.func13
theorem fn14 : X0.P.funcs[14]? = some Try.f14 := Try.func14
theorem fn15 : X0.P.funcs[15]? = some Try.f15 := Try.func15
theorem fn16 : X0.P.funcs[16]? = some Try.f16 := Try.func16
theorem fn17 : X0.P.funcs[17]? = some Try.f17 := Try.func17
theorem fn18 : X0.P.funcs[18]? = some Try.f18 := Try.func18
theorem fn19 : X0.P.funcs[19]? = some Try.f19 := Try.func19
theorem fn20 : X0.P.funcs[20]? = some Try.f20 := Try.func20
theorem fn21 : X0.P.funcs[21]? = some Try.f21 := Try.func21
theorem fn22 : X0.P.funcs[22]? = some Try.f22 := Try.func22
theorem fn23 : X0.P.funcs[23]? = some Try.f23 := Try.func23
theorem fn24 : X0.P.funcs[24]? = some Try.f24 := Try.func24
theorem fn25 : X0.P.funcs[25]? = some Try.f25 := Try.func25
theorem fn26 : X0.P.funcs[26]? = some Try.f26 := Try.func26
theorem fn27 : X0.P.funcs[27]? = some Try.f27 := Try.func27
theorem fn28 : X0.P.funcs[28]? = some Try.f28 := Try.func28
theorem fn29 : X0.P.funcs[29]? = some Try.f29 := Try.func29
theorem fn30 : X0.P.funcs[30]? = some Try.f30 := Try.func30
theorem fn31 : X0.P.funcs[31]? = some Try.f31 := Try.func31
theorem fn32 : X0.P.funcs[32]? = some Try.f32 := Try.func32
theorem fn33 : X0.P.funcs[33]? = some Try.f33 := Try.func33
theorem fn34 : X0.P.funcs[34]? = some Try.f34 := Try.func34
theorem fn35 : X0.P.funcs[35]? = some Try.f35 := Try.func35
theorem fn36 : X0.P.funcs[36]? = some Try.f36 := Try.func36
theorem fn37 : X0.P.funcs[37]? = some Try.f37 := Try.func37
theorem fn38 : X0.P.funcs[38]? = some Try.f38 := Try.func38
theorem fn39 : X0.P.funcs[39]? = some Try.f39 := Try.func39
theorem fn40 : X0.P.funcs[40]? = some Try.f40 := Try.func40
theorem fn41 : X0.P.funcs[41]? = some Try.f41 := Try.func41
theorem fn42 : X0.P.funcs[42]? = some Try.f42 := Try.func42
theorem fn43 : X0.P.funcs[43]? = some Try.f43 := Try.func43
theorem fn44 : X0.P.funcs[44]? = some Try.f44 := Try.func44
theorem fn45 : X0.P.funcs[45]? = some Try.f45 := Try.func45
theorem fn46 : X0.P.funcs[46]? = some Try.f46 := Try.func46
theorem fn47 : X0.P.funcs[47]? = some Try.f47 := Try.func47
theorem fn48 : X0.P.funcs[48]? = some Try.f48 := Try.func48
theorem fn49 : X0.P.funcs[49]? = some Try.f49 := Try.func49
theorem fn50 : X0.P.funcs[50]? = some Try.f50 := Try.func50
theorem fn51 : X0.P.funcs[51]? = some Try.f51 := Try.func51
theorem fn52 : X0.P.funcs[52]? = some Try.f52 := Try.func52
theorem fn53 : X0.P.funcs[53]? = some Try.f53 := Try.func53
theorem fn54 : X0.P.funcs[54]? = some Try.f54 := Try.func54
theorem fn55 : X0.P.funcs[55]? = some Try.f55 := Try.func55
theorem fn56 : X0.P.funcs[56]? = some Try.f56 := Try.func56
theorem fn57 : X0.P.funcs[57]? = some Try.f57 := Try.func57
theorem fn58 : X0.P.funcs[58]? = some Try.f58 := Try.func58
theorem fn59 : X0.P.funcs[59]? = some Try.f59 := Try.func59
theorem fn60 : X0.P.funcs[60]? = some Try.f60 := Try.func60
theorem fn61 : X0.P.funcs[61]? = some Try.f61 := Try.func61
theorem fn62 : X0.P.funcs[62]? = some Try.f62 := Try.func62
theorem fn63 : X0.P.funcs[63]? = some Try.f63 := Try.func63
theorem fn64 : X0.P.funcs[64]? = some Try.f64 := Try.func64
theorem fn65 : X0.P.funcs[65]? = some Try.f65 := Try.func65
theorem fn66 : X0.P.funcs[66]? = some Try.f66 := Try.func66
theorem fn67 : X0.P.funcs[67]? = some Try.f67 := Try.func67
theorem fn68 : X0.P.funcs[68]? = some Try.f68 := Try.func68
theorem fn69 : X0.P.funcs[69]? = some Try.f69 := Try.func69
theorem fn70 : X0.P.funcs[70]? = some Try.f70 := Try.func70
theorem fn71 : X0.P.funcs[71]? = some Try.f71 := Try.func71
theorem fn72 : X0.P.funcs[72]? = some Try.f72 := Try.func72
theorem fn73 : X0.P.funcs[73]? = some Try.f73 := Try.func73
theorem fn74 : X0.P.funcs[74]? = some Try.f74 := Try.func74
theorem fn75 : X0.P.funcs[75]? = some Try.f75 := Try.func75
theorem fn76 : X0.P.funcs[76]? = some Try.f76 := Try.func76
theorem fn77 : X0.P.funcs[77]? = some Try.f77 := Try.func77
theorem fn78 : X0.P.funcs[78]? = some Try.f78 := Try.func78
theorem fn79 : X0.P.funcs[79]? = some Try.f79 := Try.func79
theorem fn80 : X0.P.funcs[80]? = some Try.f80 := Try.func80
theorem fn81 : X0.P.funcs[81]? = some Try.f81 := Try.func81
theorem fn82 : X0.P.funcs[82]? = some Try.f82 := Try.func82
theorem fn83 : X0.P.funcs[83]? = some Try.f83 := Try.func83
theorem fn84 : X0.P.funcs[84]? = some Try.f84 := Try.func84
theorem fn85 : X0.P.funcs[85]? = some Try.f85 := Try.func85
theorem fn86 : X0.P.funcs[86]? = some Try.f86 := Try.func86
theorem fn87 : X0.P.funcs[87]? = some Try.f87 := Try.func87
theorem fn88 : X0.P.funcs[88]? = some Try.f88 := Try.func88
theorem fn89 : X0.P.funcs[89]? = some Try.f89 := Try.func89
theorem up1 {g : FuncId} {a r : List D} (h : Pm.Spec X0.P g a r) : Pm.Spec X1.P g a r := h
theorem upR1 {g : FuncId} {a : List A} {r : List R} {c c' : List (List D)} (h : Pm.SpecR X0.P g a c r c') : Pm.SpecR X1.P g a c r c' := h
theorem up2 {g : FuncId} {a r : List D} (h : Pm.Spec X0.P g a r) : Pm.Spec X2.P g a r := h
theorem upR2 {g : FuncId} {a : List A} {r : List R} {c c' : List (List D)} (h : Pm.SpecR X0.P g a c r c') : Pm.SpecR X2.P g a c r c' := h
theorem up3 {g : FuncId} {a r : List D} (h : Pm.Spec X0.P g a r) : Pm.Spec X3.P g a r := h
theorem upR3 {g : FuncId} {a : List A} {r : List R} {c c' : List (List D)} (h : Pm.SpecR X0.P g a c r c') : Pm.SpecR X3.P g a c r c' := h
end Go.Proofs.Ytnkknmdpakebhaa
