-- Closed facts on the program of the seat, printed by facts.py.
import Derived.Test.YtelnfdpbcbohdaaDoorD3
import Derived.Test.YtelnfdpbcbohdaaDoorD7
import Derived.Test.YtelnfdpbcbohdaaDoorProg
import Derived.KernelRfl
namespace Go.Proofs.YtelnfdpbcbohdaaDoor
open Go
set_option maxRecDepth 100000
theorem mixed : Tryd.prog.follows .mixedOrders = true := by kernel_rfl
theorem und2 : Tryd.prog.underlying 2 = some (.int .i64) := by kernel_rfl
theorem ag2 : aggB Tryd.prog 2 = some false := by kernel_rfl
theorem ti2 : TI Tryd.prog 2 [.int .i64 0] 1 8 := by unfold TI; kernel_rfl
theorem und3 : Tryd.prog.underlying 3 = some (.int .i64) := by kernel_rfl
theorem ag3 : aggB Tryd.prog 3 = some false := by kernel_rfl
theorem ti3 : TI Tryd.prog 3 [.int .i64 0] 1 8 := by unfold TI; kernel_rfl
theorem und4 : Tryd.prog.underlying 4 = some (.bool) := by kernel_rfl
theorem ag4 : aggB Tryd.prog 4 = some false := by kernel_rfl
theorem ti4 : TI Tryd.prog 4 [.bool false] 1 1 := by unfold TI; kernel_rfl
theorem und5 : Tryd.prog.underlying 5 = some (.int .u8) := by kernel_rfl
theorem ag5 : aggB Tryd.prog 5 = some false := by kernel_rfl
theorem ti5 : TI Tryd.prog 5 [.int .u8 0] 1 1 := by unfold TI; kernel_rfl
theorem und6 : Tryd.prog.underlying 6 = some (.int .u8) := by kernel_rfl
theorem ag6 : aggB Tryd.prog 6 = some false := by kernel_rfl
theorem ti6 : TI Tryd.prog 6 [.int .u8 0] 1 1 := by unfold TI; kernel_rfl
theorem ag7 : aggB Tryd.prog 7 = some true := by kernel_rfl
theorem ti7 : TI Tryd.prog 7 [.int .i64 0, .int .i64 0, .bool false, .int .u8 0] 4 24 := by unfold TI; kernel_rfl
theorem fo7_0 : fieldOff Tryd.prog 7 0 = some 0 := by kernel_rfl
theorem fo7_1 : fieldOff Tryd.prog 7 1 = some 1 := by kernel_rfl
theorem fo7_2 : fieldOff Tryd.prog 7 2 = some 2 := by kernel_rfl
theorem fo7_3 : fieldOff Tryd.prog 7 3 = some 3 := by kernel_rfl
theorem undS7 : Tryd.prog.underlying 7 = some (.struct (Tryd.prog.fieldsOf 7)) := by kernel_rfl
theorem flds7 : (Tryd.prog.fieldsOf 7).toList.map (fun f => (f.name, f.type, f.offset)) = [("x", 2, 0), ("y", 3, 1), ("signed", 4, 2), ("code", 6, 3)] := by kernel_rfl
theorem pl7 : allPlaces Tryd.prog 7 = some [(0, 1), (1, 1), (2, 1), (3, 1)] := by kernel_rfl
theorem ag8 : aggB Tryd.prog 8 = some true := by kernel_rfl
theorem ti8 : TI Tryd.prog 8 [.int .i64 0, .int .i64 0, .bool false, .int .u8 0] 4 24 := by unfold TI; kernel_rfl
theorem fo8_0 : fieldOff Tryd.prog 8 0 = some 0 := by kernel_rfl
theorem fo8_1 : fieldOff Tryd.prog 8 1 = some 1 := by kernel_rfl
theorem fo8_2 : fieldOff Tryd.prog 8 2 = some 2 := by kernel_rfl
theorem fo8_3 : fieldOff Tryd.prog 8 3 = some 3 := by kernel_rfl
theorem undS8 : Tryd.prog.underlying 8 = some (.struct (Tryd.prog.fieldsOf 8)) := by kernel_rfl
theorem flds8 : (Tryd.prog.fieldsOf 8).toList.map (fun f => (f.name, f.type, f.offset)) = [("x", 2, 0), ("y", 3, 1), ("signed", 4, 2), ("code", 6, 3)] := by kernel_rfl
theorem pl8 : allPlaces Tryd.prog 8 = some [(0, 1), (1, 1), (2, 1), (3, 1)] := by kernel_rfl
theorem und9 : Tryd.prog.underlying 9 = some (.string) := by kernel_rfl
theorem ag9 : aggB Tryd.prog 9 = some false := by kernel_rfl
theorem ti9 : TI Tryd.prog 9 [.string ⟨#[]⟩] 1 16 := by unfold TI; kernel_rfl
theorem und10 : Tryd.prog.underlying 10 = some (.string) := by kernel_rfl
theorem ag10 : aggB Tryd.prog 10 = some false := by kernel_rfl
theorem ti10 : TI Tryd.prog 10 [.string ⟨#[]⟩] 1 16 := by unfold TI; kernel_rfl
theorem und11 : Tryd.prog.underlying 11 = some (.string) := by kernel_rfl
theorem ag11 : aggB Tryd.prog 11 = some false := by kernel_rfl
theorem ti11 : TI Tryd.prog 11 [.string ⟨#[]⟩] 1 16 := by unfold TI; kernel_rfl
theorem und12 : Tryd.prog.underlying 12 = some (.int .u64) := by kernel_rfl
theorem ag12 : aggB Tryd.prog 12 = some false := by kernel_rfl
theorem ti12 : TI Tryd.prog 12 [.int .u64 0] 1 8 := by unfold TI; kernel_rfl
theorem ag13 : aggB Tryd.prog 13 = some true := by kernel_rfl
theorem ti13 : TI Tryd.prog 13 [.string ⟨#[]⟩, .int .u64 0] 2 24 := by unfold TI; kernel_rfl
theorem fo13_0 : fieldOff Tryd.prog 13 0 = some 0 := by kernel_rfl
theorem fo13_1 : fieldOff Tryd.prog 13 1 = some 1 := by kernel_rfl
theorem undS13 : Tryd.prog.underlying 13 = some (.struct (Tryd.prog.fieldsOf 13)) := by kernel_rfl
theorem flds13 : (Tryd.prog.fieldsOf 13).toList.map (fun f => (f.name, f.type, f.offset)) = [("msg", 9, 0), ("addr", 12, 1)] := by kernel_rfl
theorem pl13 : allPlaces Tryd.prog 13 = some [(0, 1), (1, 1)] := by kernel_rfl
theorem ag14 : aggB Tryd.prog 14 = some true := by kernel_rfl
theorem ti14 : TI Tryd.prog 14 [.string ⟨#[]⟩, .int .u64 0] 2 24 := by unfold TI; kernel_rfl
theorem fo14_0 : fieldOff Tryd.prog 14 0 = some 0 := by kernel_rfl
theorem fo14_1 : fieldOff Tryd.prog 14 1 = some 1 := by kernel_rfl
theorem undS14 : Tryd.prog.underlying 14 = some (.struct (Tryd.prog.fieldsOf 14)) := by kernel_rfl
theorem flds14 : (Tryd.prog.fieldsOf 14).toList.map (fun f => (f.name, f.type, f.offset)) = [("msg", 9, 0), ("addr", 12, 1)] := by kernel_rfl
theorem pl14 : allPlaces Tryd.prog 14 = some [(0, 1), (1, 1)] := by kernel_rfl
theorem und15 : Tryd.prog.underlying 15 = some (.pointer 121) := by kernel_rfl
theorem ag15 : aggB Tryd.prog 15 = some false := by kernel_rfl
theorem ti15 : TI Tryd.prog 15 [.pointer none] 1 8 := by unfold TI; kernel_rfl
theorem und16 : Tryd.prog.underlying 16 = some (.pointer 124) := by kernel_rfl
theorem ag16 : aggB Tryd.prog 16 = some false := by kernel_rfl
theorem ti16 : TI Tryd.prog 16 [.pointer none] 1 8 := by unfold TI; kernel_rfl
theorem und17 : Tryd.prog.underlying 17 = some (.pointer 131) := by kernel_rfl
theorem ag17 : aggB Tryd.prog 17 = some false := by kernel_rfl
theorem ti17 : TI Tryd.prog 17 [.pointer none] 1 8 := by unfold TI; kernel_rfl
theorem ag18 : aggB Tryd.prog 18 = some true := by kernel_rfl
theorem ti18 : TI Tryd.prog 18 [.pointer none] 1 8 := by unfold TI; kernel_rfl
theorem fo18_0 : fieldOff Tryd.prog 18 0 = some 0 := by kernel_rfl
theorem undS18 : Tryd.prog.underlying 18 = some (.struct (Tryd.prog.fieldsOf 18)) := by kernel_rfl
theorem flds18 : (Tryd.prog.fieldsOf 18).toList.map (fun f => (f.name, f.type, f.offset)) = [("typ", 17, 0)] := by kernel_rfl
theorem pl18 : allPlaces Tryd.prog 18 = some [(0, 1)] := by kernel_rfl
theorem ag19 : aggB Tryd.prog 19 = some true := by kernel_rfl
theorem ti19 : TI Tryd.prog 19 [.pointer none] 1 8 := by unfold TI; kernel_rfl
theorem fo19_0 : fieldOff Tryd.prog 19 0 = some 0 := by kernel_rfl
theorem undS19 : Tryd.prog.underlying 19 = some (.struct (Tryd.prog.fieldsOf 19)) := by kernel_rfl
theorem flds19 : (Tryd.prog.fieldsOf 19).toList.map (fun f => (f.name, f.type, f.offset)) = [("typ", 17, 0)] := by kernel_rfl
theorem pl19 : allPlaces Tryd.prog 19 = some [(0, 1)] := by kernel_rfl
theorem undI20 : ∃ ms, Tryd.prog.underlying 20 = some (.interface ms) := ⟨_, rfl⟩ -- undI
theorem und21 : Tryd.prog.underlying 21 = some (.int .i32) := by kernel_rfl
theorem ag21 : aggB Tryd.prog 21 = some false := by kernel_rfl
theorem ti21 : TI Tryd.prog 21 [.int .i32 0] 1 4 := by unfold TI; kernel_rfl
theorem und22 : Tryd.prog.underlying 22 = some (.array 2 3) := by kernel_rfl
theorem ag22 : aggB Tryd.prog 22 = some true := by kernel_rfl
theorem ti22 : TI Tryd.prog 22 [.int .i64 0, .int .i64 0] 2 16 := by unfold TI; kernel_rfl
theorem ag23 : aggB Tryd.prog 23 = some true := by kernel_rfl
theorem ti23 : TI Tryd.prog 23 [.int .i64 0, .int .i64 0, .int .i64 0, .string ⟨#[]⟩] 4 40 := by unfold TI; kernel_rfl
theorem fo23_0 : fieldOff Tryd.prog 23 0 = some 0 := by kernel_rfl
theorem fo23_1 : fieldOff Tryd.prog 23 1 = some 1 := by kernel_rfl
theorem fo23_2 : fieldOff Tryd.prog 23 2 = some 3 := by kernel_rfl
theorem undS23 : Tryd.prog.underlying 23 = some (.struct (Tryd.prog.fieldsOf 23)) := by kernel_rfl
theorem flds23 : (Tryd.prog.fieldsOf 23).toList.map (fun f => (f.name, f.type, f.offset)) = [("Kind", 3, 0), ("Numbers", 22, 1), ("Text", 9, 3)] := by kernel_rfl
theorem pl23 : allPlaces Tryd.prog 23 = some [(0, 1), (1, 2), (3, 1)] := by kernel_rfl
theorem ag24 : aggB Tryd.prog 24 = some true := by kernel_rfl
theorem ti24 : TI Tryd.prog 24 [.int .i64 0, .int .i64 0, .int .i64 0, .string ⟨#[]⟩] 4 40 := by unfold TI; kernel_rfl
theorem fo24_0 : fieldOff Tryd.prog 24 0 = some 0 := by kernel_rfl
theorem fo24_1 : fieldOff Tryd.prog 24 1 = some 1 := by kernel_rfl
theorem fo24_2 : fieldOff Tryd.prog 24 2 = some 3 := by kernel_rfl
theorem undS24 : Tryd.prog.underlying 24 = some (.struct (Tryd.prog.fieldsOf 24)) := by kernel_rfl
theorem flds24 : (Tryd.prog.fieldsOf 24).toList.map (fun f => (f.name, f.type, f.offset)) = [("Kind", 3, 0), ("Numbers", 22, 1), ("Text", 9, 3)] := by kernel_rfl
theorem pl24 : allPlaces Tryd.prog 24 = some [(0, 1), (1, 2), (3, 1)] := by kernel_rfl
theorem und25 : Tryd.prog.underlying 25 = some (.int .i64) := by kernel_rfl
theorem ag25 : aggB Tryd.prog 25 = some false := by kernel_rfl
theorem ti25 : TI Tryd.prog 25 [.int .i64 0] 1 8 := by unfold TI; kernel_rfl
theorem ag26 : aggB Tryd.prog 26 = some true := by kernel_rfl
theorem ti26 : TI Tryd.prog 26 [.int .i64 0, .int .i64 0, .int .i64 0, .string ⟨#[]⟩] 4 40 := by unfold TI; kernel_rfl
theorem fo26_0 : fieldOff Tryd.prog 26 0 = some 0 := by kernel_rfl
theorem fo26_1 : fieldOff Tryd.prog 26 1 = some 1 := by kernel_rfl
theorem fo26_2 : fieldOff Tryd.prog 26 2 = some 3 := by kernel_rfl
theorem undS26 : Tryd.prog.underlying 26 = some (.struct (Tryd.prog.fieldsOf 26)) := by kernel_rfl
theorem flds26 : (Tryd.prog.fieldsOf 26).toList.map (fun f => (f.name, f.type, f.offset)) = [("Kind", 25, 0), ("Numbers", 22, 1), ("Text", 9, 3)] := by kernel_rfl
theorem pl26 : allPlaces Tryd.prog 26 = some [(0, 1), (1, 2), (3, 1)] := by kernel_rfl
theorem ag27 : aggB Tryd.prog 27 = some true := by kernel_rfl
theorem ti27 : TI Tryd.prog 27 [.int .i64 0, .int .i64 0, .int .i64 0, .string ⟨#[]⟩] 4 40 := by unfold TI; kernel_rfl
theorem fo27_0 : fieldOff Tryd.prog 27 0 = some 0 := by kernel_rfl
theorem fo27_1 : fieldOff Tryd.prog 27 1 = some 1 := by kernel_rfl
theorem fo27_2 : fieldOff Tryd.prog 27 2 = some 3 := by kernel_rfl
theorem undS27 : Tryd.prog.underlying 27 = some (.struct (Tryd.prog.fieldsOf 27)) := by kernel_rfl
theorem flds27 : (Tryd.prog.fieldsOf 27).toList.map (fun f => (f.name, f.type, f.offset)) = [("Kind", 25, 0), ("Numbers", 22, 1), ("Text", 9, 3)] := by kernel_rfl
theorem pl27 : allPlaces Tryd.prog 27 = some [(0, 1), (1, 2), (3, 1)] := by kernel_rfl
theorem ag32 : aggB Tryd.prog 32 = some true := by kernel_rfl
theorem ti32 : TI Tryd.prog 32 [.int .i64 0, .int .i64 0, .int .i64 0, .string ⟨#[]⟩] 4 40 := by unfold TI; kernel_rfl
theorem fo32_0 : fieldOff Tryd.prog 32 0 = some 0 := by kernel_rfl
theorem fo32_1 : fieldOff Tryd.prog 32 1 = some 1 := by kernel_rfl
theorem fo32_2 : fieldOff Tryd.prog 32 2 = some 3 := by kernel_rfl
theorem undS32 : Tryd.prog.underlying 32 = some (.struct (Tryd.prog.fieldsOf 32)) := by kernel_rfl
theorem flds32 : (Tryd.prog.fieldsOf 32).toList.map (fun f => (f.name, f.type, f.offset)) = [("Kind", 3, 0), ("Numbers", 22, 1), ("Text", 9, 3)] := by kernel_rfl
theorem pl32 : allPlaces Tryd.prog 32 = some [(0, 1), (1, 2), (3, 1)] := by kernel_rfl
theorem und33 : Tryd.prog.underlying 33 = some (.int .i64) := by kernel_rfl
theorem ag33 : aggB Tryd.prog 33 = some false := by kernel_rfl
theorem ti33 : TI Tryd.prog 33 [.int .i64 0] 1 8 := by unfold TI; kernel_rfl
theorem und37 : Tryd.prog.underlying 37 = some (.slice 24) := by kernel_rfl
theorem ag37 : aggB Tryd.prog 37 = some false := by kernel_rfl
theorem ti37 : TI Tryd.prog 37 [.slice none 0 0] 1 24 := by unfold TI; kernel_rfl
theorem und38 : Tryd.prog.underlying 38 = some (.slice 27) := by kernel_rfl
theorem ag38 : aggB Tryd.prog 38 = some false := by kernel_rfl
theorem ti38 : TI Tryd.prog 38 [.slice none 0 0] 1 24 := by unfold TI; kernel_rfl
theorem ag42 : aggB Tryd.prog 42 = some true := by kernel_rfl
theorem ti42 : TI Tryd.prog 42 [.string ⟨#[]⟩, .int .i64 0, .bool false] 3 32 := by unfold TI; kernel_rfl
theorem fo42_0 : fieldOff Tryd.prog 42 0 = some 0 := by kernel_rfl
theorem fo42_1 : fieldOff Tryd.prog 42 1 = some 1 := by kernel_rfl
theorem fo42_2 : fieldOff Tryd.prog 42 2 = some 2 := by kernel_rfl
theorem undS42 : Tryd.prog.underlying 42 = some (.struct (Tryd.prog.fieldsOf 42)) := by kernel_rfl
theorem flds42 : (Tryd.prog.fieldsOf 42).toList.map (fun f => (f.name, f.type, f.offset)) = [("name", 9, 0), ("numbers", 3, 1), ("text", 4, 2)] := by kernel_rfl
theorem pl42 : allPlaces Tryd.prog 42 = some [(0, 1), (1, 1), (2, 1)] := by kernel_rfl
theorem ag43 : aggB Tryd.prog 43 = some true := by kernel_rfl
theorem ti43 : TI Tryd.prog 43 [.string ⟨#[]⟩, .int .i64 0, .bool false] 3 32 := by unfold TI; kernel_rfl
theorem fo43_0 : fieldOff Tryd.prog 43 0 = some 0 := by kernel_rfl
theorem fo43_1 : fieldOff Tryd.prog 43 1 = some 1 := by kernel_rfl
theorem fo43_2 : fieldOff Tryd.prog 43 2 = some 2 := by kernel_rfl
theorem undS43 : Tryd.prog.underlying 43 = some (.struct (Tryd.prog.fieldsOf 43)) := by kernel_rfl
theorem flds43 : (Tryd.prog.fieldsOf 43).toList.map (fun f => (f.name, f.type, f.offset)) = [("name", 9, 0), ("numbers", 3, 1), ("text", 4, 2)] := by kernel_rfl
theorem pl43 : allPlaces Tryd.prog 43 = some [(0, 1), (1, 1), (2, 1)] := by kernel_rfl
theorem und44 : Tryd.prog.underlying 44 = some (.array 20 43) := by kernel_rfl
theorem ag44 : aggB Tryd.prog 44 = some true := by kernel_rfl
theorem ti44 : TI Tryd.prog 44 [.string ⟨#[]⟩, .int .i64 0, .bool false, .string ⟨#[]⟩, .int .i64 0, .bool false, .string ⟨#[]⟩, .int .i64 0, .bool false, .string ⟨#[]⟩, .int .i64 0, .bool false, .string ⟨#[]⟩, .int .i64 0, .bool false, .string ⟨#[]⟩, .int .i64 0, .bool false, .string ⟨#[]⟩, .int .i64 0, .bool false, .string ⟨#[]⟩, .int .i64 0, .bool false, .string ⟨#[]⟩, .int .i64 0, .bool false, .string ⟨#[]⟩, .int .i64 0, .bool false, .string ⟨#[]⟩, .int .i64 0, .bool false, .string ⟨#[]⟩, .int .i64 0, .bool false, .string ⟨#[]⟩, .int .i64 0, .bool false, .string ⟨#[]⟩, .int .i64 0, .bool false, .string ⟨#[]⟩, .int .i64 0, .bool false, .string ⟨#[]⟩, .int .i64 0, .bool false, .string ⟨#[]⟩, .int .i64 0, .bool false, .string ⟨#[]⟩, .int .i64 0, .bool false, .string ⟨#[]⟩, .int .i64 0, .bool false, .string ⟨#[]⟩, .int .i64 0, .bool false] 60 640 := by unfold TI; kernel_rfl
theorem und45 : Tryd.prog.underlying 45 = some (.slice 3) := by kernel_rfl
theorem ag45 : aggB Tryd.prog 45 = some false := by kernel_rfl
theorem ti45 : TI Tryd.prog 45 [.slice none 0 0] 1 24 := by unfold TI; kernel_rfl
theorem und51 : Tryd.prog.underlying 51 = some (.slice 9) := by kernel_rfl
theorem ag51 : aggB Tryd.prog 51 = some false := by kernel_rfl
theorem ti51 : TI Tryd.prog 51 [.slice none 0 0] 1 24 := by unfold TI; kernel_rfl
theorem undI65 : ∃ ms, Tryd.prog.underlying 65 = some (.interface ms) := ⟨_, rfl⟩ -- undI
theorem undI66 : ∃ ms, Tryd.prog.underlying 66 = some (.interface ms) := ⟨_, rfl⟩ -- undI
theorem und75 : Tryd.prog.underlying 75 = some (.array 24 5) := by kernel_rfl
theorem ag75 : aggB Tryd.prog 75 = some true := by kernel_rfl
theorem ti75 : TI Tryd.prog 75 (List.replicate 24 (.int .u8 0)) 24 24 := by unfold TI; kernel_rfl
theorem und76 : Tryd.prog.underlying 76 = some (.int .u64) := by kernel_rfl
theorem ag76 : aggB Tryd.prog 76 = some false := by kernel_rfl
theorem ti76 : TI Tryd.prog 76 [.int .u64 0] 1 8 := by unfold TI; kernel_rfl
theorem und79 : Tryd.prog.underlying 79 = some (.slice 5) := by kernel_rfl
theorem ag79 : aggB Tryd.prog 79 = some false := by kernel_rfl
theorem ti79 : TI Tryd.prog 79 [.slice none 0 0] 1 24 := by unfold TI; kernel_rfl
theorem und83 : Tryd.prog.underlying 83 = some (.int .i64) := by kernel_rfl
theorem ag83 : aggB Tryd.prog 83 = some false := by kernel_rfl
theorem ti83 : TI Tryd.prog 83 [.int .i64 0] 1 8 := by unfold TI; kernel_rfl
theorem und86 : Tryd.prog.underlying 86 = some (.pointer 104) := by kernel_rfl
theorem ag86 : aggB Tryd.prog 86 = some false := by kernel_rfl
theorem ti86 : TI Tryd.prog 86 [.pointer none] 1 8 := by unfold TI; kernel_rfl
theorem und91 : Tryd.prog.underlying 91 = some (.int .u64) := by kernel_rfl
theorem ag91 : aggB Tryd.prog 91 = some false := by kernel_rfl
theorem ti91 : TI Tryd.prog 91 [.int .u64 0] 1 8 := by unfold TI; kernel_rfl
theorem und93 : Tryd.prog.underlying 93 = some (.array 20 76) := by kernel_rfl
theorem ag93 : aggB Tryd.prog 93 = some true := by kernel_rfl
theorem ti93 : TI Tryd.prog 93 (List.replicate 20 (.int .u64 0)) 20 160 := by unfold TI; kernel_rfl
theorem und94 : Tryd.prog.underlying 94 = some (.int .u32) := by kernel_rfl
theorem ag94 : aggB Tryd.prog 94 = some false := by kernel_rfl
theorem ti94 : TI Tryd.prog 94 [.int .u32 0] 1 4 := by unfold TI; kernel_rfl
theorem und95 : Tryd.prog.underlying 95 = some (.array 65 5) := by kernel_rfl
theorem ag95 : aggB Tryd.prog 95 = some true := by kernel_rfl
theorem ti95 : TI Tryd.prog 95 (List.replicate 65 (.int .u8 0)) 65 65 := by unfold TI; kernel_rfl
theorem ag103 : aggB Tryd.prog 103 = some true := by kernel_rfl
theorem ti103 : TI Tryd.prog 103 [.string ⟨#[]⟩, .string ⟨#[]⟩, .nilIface] 3 48 := by unfold TI; kernel_rfl
theorem fo103_0 : fieldOff Tryd.prog 103 0 = some 0 := by kernel_rfl
theorem fo103_1 : fieldOff Tryd.prog 103 1 = some 1 := by kernel_rfl
theorem fo103_2 : fieldOff Tryd.prog 103 2 = some 2 := by kernel_rfl
theorem undS103 : Tryd.prog.underlying 103 = some (.struct (Tryd.prog.fieldsOf 103)) := by kernel_rfl
theorem flds103 : (Tryd.prog.fieldsOf 103).toList.map (fun f => (f.name, f.type, f.offset)) = [("Func", 9, 0), ("Num", 9, 1), ("Err", 66, 2)] := by kernel_rfl
theorem pl103 : allPlaces Tryd.prog 103 = some [(0, 1), (1, 1), (2, 1)] := by kernel_rfl
theorem ag104 : aggB Tryd.prog 104 = some true := by kernel_rfl
theorem ti104 : TI Tryd.prog 104 [.string ⟨#[]⟩, .string ⟨#[]⟩, .nilIface] 3 48 := by unfold TI; kernel_rfl
theorem fo104_0 : fieldOff Tryd.prog 104 0 = some 0 := by kernel_rfl
theorem fo104_1 : fieldOff Tryd.prog 104 1 = some 1 := by kernel_rfl
theorem fo104_2 : fieldOff Tryd.prog 104 2 = some 2 := by kernel_rfl
theorem undS104 : Tryd.prog.underlying 104 = some (.struct (Tryd.prog.fieldsOf 104)) := by kernel_rfl
theorem flds104 : (Tryd.prog.fieldsOf 104).toList.map (fun f => (f.name, f.type, f.offset)) = [("Func", 9, 0), ("Num", 9, 1), ("Err", 66, 2)] := by kernel_rfl
theorem pl104 : allPlaces Tryd.prog 104 = some [(0, 1), (1, 1), (2, 1)] := by kernel_rfl
theorem und110 : Tryd.prog.underlying 110 = some (.pointer 5) := by kernel_rfl
theorem ag110 : aggB Tryd.prog 110 = some false := by kernel_rfl
theorem ti110 : TI Tryd.prog 110 [.pointer none] 1 8 := by unfold TI; kernel_rfl
theorem und111 : Tryd.prog.underlying 111 = some (.pointer 113) := by kernel_rfl
theorem ag111 : aggB Tryd.prog 111 = some false := by kernel_rfl
theorem ti111 : TI Tryd.prog 111 [.pointer none] 1 8 := by unfold TI; kernel_rfl
theorem ag112 : aggB Tryd.prog 112 = some true := by kernel_rfl
theorem ti112 : TI Tryd.prog 112 [.string ⟨#[]⟩] 1 16 := by unfold TI; kernel_rfl
theorem fo112_0 : fieldOff Tryd.prog 112 0 = some 0 := by kernel_rfl
theorem undS112 : Tryd.prog.underlying 112 = some (.struct (Tryd.prog.fieldsOf 112)) := by kernel_rfl
theorem flds112 : (Tryd.prog.fieldsOf 112).toList.map (fun f => (f.name, f.type, f.offset)) = [("s", 9, 0)] := by kernel_rfl
theorem pl112 : allPlaces Tryd.prog 112 = some [(0, 1)] := by kernel_rfl
theorem ag113 : aggB Tryd.prog 113 = some true := by kernel_rfl
theorem ti113 : TI Tryd.prog 113 [.string ⟨#[]⟩] 1 16 := by unfold TI; kernel_rfl
theorem fo113_0 : fieldOff Tryd.prog 113 0 = some 0 := by kernel_rfl
theorem undS113 : Tryd.prog.underlying 113 = some (.struct (Tryd.prog.fieldsOf 113)) := by kernel_rfl
theorem flds113 : (Tryd.prog.fieldsOf 113).toList.map (fun f => (f.name, f.type, f.offset)) = [("s", 9, 0)] := by kernel_rfl
theorem pl113 : allPlaces Tryd.prog 113 = some [(0, 1)] := by kernel_rfl
theorem und114 : Tryd.prog.underlying 114 = some (.array 32 5) := by kernel_rfl
theorem ag114 : aggB Tryd.prog 114 = some true := by kernel_rfl
theorem ti114 : TI Tryd.prog 114 (List.replicate 32 (.int .u8 0)) 32 32 := by unfold TI; kernel_rfl
theorem und115 : Tryd.prog.underlying 115 = some (.array 64 5) := by kernel_rfl
theorem ag115 : aggB Tryd.prog 115 = some true := by kernel_rfl
theorem ti115 : TI Tryd.prog 115 (List.replicate 64 (.int .u8 0)) 64 64 := by unfold TI; kernel_rfl
theorem und116 : Tryd.prog.underlying 116 = some (.array 256 5) := by kernel_rfl
theorem ag116 : aggB Tryd.prog 116 = some true := by kernel_rfl
theorem ti116 : TI Tryd.prog 116 (List.replicate 256 (.int .u8 0)) 256 256 := by unfold TI; kernel_rfl
theorem ag117 : aggB Tryd.prog 117 = some true := by kernel_rfl
theorem ti117 : TI Tryd.prog 117 [.int .u8 0, .int .u8 0] 2 2 := by unfold TI; kernel_rfl
theorem fo117_0 : fieldOff Tryd.prog 117 0 = some 0 := by kernel_rfl
theorem fo117_1 : fieldOff Tryd.prog 117 1 = some 1 := by kernel_rfl
theorem undS117 : Tryd.prog.underlying 117 = some (.struct (Tryd.prog.fieldsOf 117)) := by kernel_rfl
theorem flds117 : (Tryd.prog.fieldsOf 117).toList.map (fun f => (f.name, f.type, f.offset)) = [("lo", 5, 0), ("hi", 5, 1)] := by kernel_rfl
theorem pl117 : allPlaces Tryd.prog 117 = some [(0, 1), (1, 1)] := by kernel_rfl
theorem ag118 : aggB Tryd.prog 118 = some true := by kernel_rfl
theorem ti118 : TI Tryd.prog 118 [.int .u8 0, .int .u8 0] 2 2 := by unfold TI; kernel_rfl
theorem fo118_0 : fieldOff Tryd.prog 118 0 = some 0 := by kernel_rfl
theorem fo118_1 : fieldOff Tryd.prog 118 1 = some 1 := by kernel_rfl
theorem undS118 : Tryd.prog.underlying 118 = some (.struct (Tryd.prog.fieldsOf 118)) := by kernel_rfl
theorem flds118 : (Tryd.prog.fieldsOf 118).toList.map (fun f => (f.name, f.type, f.offset)) = [("lo", 5, 0), ("hi", 5, 1)] := by kernel_rfl
theorem pl118 : allPlaces Tryd.prog 118 = some [(0, 1), (1, 1)] := by kernel_rfl
theorem und119 : Tryd.prog.underlying 119 = some (.array 16 118) := by kernel_rfl
theorem ag119 : aggB Tryd.prog 119 = some true := by kernel_rfl
theorem ti119 : TI Tryd.prog 119 (List.replicate 32 (.int .u8 0)) 32 32 := by unfold TI; kernel_rfl
theorem ag120 : aggB Tryd.prog 120 = some true := by kernel_rfl
theorem ti120 : TI Tryd.prog 120 [.pointer none, .pointer none, .pointer none, .string ⟨#[]⟩] 4 40 := by unfold TI; kernel_rfl
theorem fo120_0 : fieldOff Tryd.prog 120 0 = some 0 := by kernel_rfl
theorem fo120_1 : fieldOff Tryd.prog 120 1 = some 1 := by kernel_rfl
theorem fo120_2 : fieldOff Tryd.prog 120 2 = some 2 := by kernel_rfl
theorem fo120_3 : fieldOff Tryd.prog 120 3 = some 3 := by kernel_rfl
theorem undS120 : Tryd.prog.underlying 120 = some (.struct (Tryd.prog.fieldsOf 120)) := by kernel_rfl
theorem flds120 : (Tryd.prog.fieldsOf 120).toList.map (fun f => (f.name, f.type, f.offset)) = [("_interface", 17, 0), ("concrete", 17, 1), ("asserted", 17, 2), ("missingMethod", 9, 3)] := by kernel_rfl
theorem pl120 : allPlaces Tryd.prog 120 = some [(0, 1), (1, 1), (2, 1), (3, 1)] := by kernel_rfl
theorem ag121 : aggB Tryd.prog 121 = some true := by kernel_rfl
theorem ti121 : TI Tryd.prog 121 [.pointer none, .pointer none, .pointer none, .string ⟨#[]⟩] 4 40 := by unfold TI; kernel_rfl
theorem fo121_0 : fieldOff Tryd.prog 121 0 = some 0 := by kernel_rfl
theorem fo121_1 : fieldOff Tryd.prog 121 1 = some 1 := by kernel_rfl
theorem fo121_2 : fieldOff Tryd.prog 121 2 = some 2 := by kernel_rfl
theorem fo121_3 : fieldOff Tryd.prog 121 3 = some 3 := by kernel_rfl
theorem undS121 : Tryd.prog.underlying 121 = some (.struct (Tryd.prog.fieldsOf 121)) := by kernel_rfl
theorem flds121 : (Tryd.prog.fieldsOf 121).toList.map (fun f => (f.name, f.type, f.offset)) = [("_interface", 17, 0), ("concrete", 17, 1), ("asserted", 17, 2), ("missingMethod", 9, 3)] := by kernel_rfl
theorem pl121 : allPlaces Tryd.prog 121 = some [(0, 1), (1, 1), (2, 1), (3, 1)] := by kernel_rfl
theorem und122 : Tryd.prog.underlying 122 = some (.array 0 16) := by kernel_rfl
theorem ag122 : aggB Tryd.prog 122 = some true := by kernel_rfl
theorem ti122 : TI Tryd.prog 122 [] 0 0 := by unfold TI; kernel_rfl
theorem ag123 : aggB Tryd.prog 123 = some true := by kernel_rfl
theorem ti123 : TI Tryd.prog 123 [] 0 0 := by unfold TI; kernel_rfl
theorem undS123 : Tryd.prog.underlying 123 = some (.struct (Tryd.prog.fieldsOf 123)) := by kernel_rfl
theorem flds123 : (Tryd.prog.fieldsOf 123).toList.map (fun f => (f.name, f.type, f.offset)) = [("_", 122, 0)] := by kernel_rfl
theorem pl123 : allPlaces Tryd.prog 123 = some [(0, 0)] := by kernel_rfl
theorem ag124 : aggB Tryd.prog 124 = some true := by kernel_rfl
theorem ti124 : TI Tryd.prog 124 [] 0 0 := by unfold TI; kernel_rfl
theorem undS124 : Tryd.prog.underlying 124 = some (.struct (Tryd.prog.fieldsOf 124)) := by kernel_rfl
theorem flds124 : (Tryd.prog.fieldsOf 124).toList.map (fun f => (f.name, f.type, f.offset)) = [("_", 122, 0)] := by kernel_rfl
theorem pl124 : allPlaces Tryd.prog 124 = some [(0, 0)] := by kernel_rfl
theorem und125 : Tryd.prog.underlying 125 = some (.int .u8) := by kernel_rfl
theorem ag125 : aggB Tryd.prog 125 = some false := by kernel_rfl
theorem ti125 : TI Tryd.prog 125 [.int .u8 0] 1 1 := by unfold TI; kernel_rfl
theorem und126 : Tryd.prog.underlying 126 = some (.int .u8) := by kernel_rfl
theorem ag126 : aggB Tryd.prog 126 = some false := by kernel_rfl
theorem ti126 : TI Tryd.prog 126 [.int .u8 0] 1 1 := by unfold TI; kernel_rfl
theorem und128 : Tryd.prog.underlying 128 = some (.int .i32) := by kernel_rfl
theorem ag128 : aggB Tryd.prog 128 = some false := by kernel_rfl
theorem ti128 : TI Tryd.prog 128 [.int .i32 0] 1 4 := by unfold TI; kernel_rfl
theorem und129 : Tryd.prog.underlying 129 = some (.int .i32) := by kernel_rfl
theorem ag129 : aggB Tryd.prog 129 = some false := by kernel_rfl
theorem ti129 : TI Tryd.prog 129 [.int .i32 0] 1 4 := by unfold TI; kernel_rfl
theorem ag130 : aggB Tryd.prog 130 = some true := by kernel_rfl
theorem ti130 : TI Tryd.prog 130 [.int .u64 0, .int .u64 0, .int .u32 0, .int .u8 0, .int .u8 0, .int .u8 0, .int .u8 0, .nilFunc, .pointer none, .int .i32 0, .int .i32 0] 11 48 := by unfold TI; kernel_rfl
theorem fo130_0 : fieldOff Tryd.prog 130 0 = some 0 := by kernel_rfl
theorem fo130_1 : fieldOff Tryd.prog 130 1 = some 1 := by kernel_rfl
theorem fo130_2 : fieldOff Tryd.prog 130 2 = some 2 := by kernel_rfl
theorem fo130_3 : fieldOff Tryd.prog 130 3 = some 3 := by kernel_rfl
theorem fo130_4 : fieldOff Tryd.prog 130 4 = some 4 := by kernel_rfl
theorem fo130_5 : fieldOff Tryd.prog 130 5 = some 5 := by kernel_rfl
theorem fo130_6 : fieldOff Tryd.prog 130 6 = some 6 := by kernel_rfl
theorem fo130_7 : fieldOff Tryd.prog 130 7 = some 7 := by kernel_rfl
theorem fo130_8 : fieldOff Tryd.prog 130 8 = some 8 := by kernel_rfl
theorem fo130_9 : fieldOff Tryd.prog 130 9 = some 9 := by kernel_rfl
theorem fo130_10 : fieldOff Tryd.prog 130 10 = some 10 := by kernel_rfl
theorem undS130 : Tryd.prog.underlying 130 = some (.struct (Tryd.prog.fieldsOf 130)) := by kernel_rfl
theorem flds130 : (Tryd.prog.fieldsOf 130).toList.map (fun f => (f.name, f.type, f.offset)) = [("Size_", 12, 0), ("PtrBytes", 12, 1), ("Hash", 94, 2), ("TFlag", 125, 3), ("Align_", 5, 4), ("FieldAlign_", 5, 5), ("Kind_", 126, 6), ("Equal", 127, 7), ("GCData", 110, 8), ("Str", 128, 9), ("PtrToThis", 129, 10)] := by kernel_rfl
theorem pl130 : allPlaces Tryd.prog 130 = some [(0, 1), (1, 1), (2, 1), (3, 1), (4, 1), (5, 1), (6, 1), (7, 1), (8, 1), (9, 1), (10, 1)] := by kernel_rfl
theorem ag131 : aggB Tryd.prog 131 = some true := by kernel_rfl
theorem ti131 : TI Tryd.prog 131 [.int .u64 0, .int .u64 0, .int .u32 0, .int .u8 0, .int .u8 0, .int .u8 0, .int .u8 0, .nilFunc, .pointer none, .int .i32 0, .int .i32 0] 11 48 := by unfold TI; kernel_rfl
theorem fo131_0 : fieldOff Tryd.prog 131 0 = some 0 := by kernel_rfl
theorem fo131_1 : fieldOff Tryd.prog 131 1 = some 1 := by kernel_rfl
theorem fo131_2 : fieldOff Tryd.prog 131 2 = some 2 := by kernel_rfl
theorem fo131_3 : fieldOff Tryd.prog 131 3 = some 3 := by kernel_rfl
theorem fo131_4 : fieldOff Tryd.prog 131 4 = some 4 := by kernel_rfl
theorem fo131_5 : fieldOff Tryd.prog 131 5 = some 5 := by kernel_rfl
theorem fo131_6 : fieldOff Tryd.prog 131 6 = some 6 := by kernel_rfl
theorem fo131_7 : fieldOff Tryd.prog 131 7 = some 7 := by kernel_rfl
theorem fo131_8 : fieldOff Tryd.prog 131 8 = some 8 := by kernel_rfl
theorem fo131_9 : fieldOff Tryd.prog 131 9 = some 9 := by kernel_rfl
theorem fo131_10 : fieldOff Tryd.prog 131 10 = some 10 := by kernel_rfl
theorem undS131 : Tryd.prog.underlying 131 = some (.struct (Tryd.prog.fieldsOf 131)) := by kernel_rfl
theorem flds131 : (Tryd.prog.fieldsOf 131).toList.map (fun f => (f.name, f.type, f.offset)) = [("Size_", 12, 0), ("PtrBytes", 12, 1), ("Hash", 94, 2), ("TFlag", 125, 3), ("Align_", 5, 4), ("FieldAlign_", 5, 5), ("Kind_", 126, 6), ("Equal", 127, 7), ("GCData", 110, 8), ("Str", 128, 9), ("PtrToThis", 129, 10)] := by kernel_rfl
theorem pl131 : allPlaces Tryd.prog 131 = some [(0, 1), (1, 1), (2, 1), (3, 1), (4, 1), (5, 1), (6, 1), (7, 1), (8, 1), (9, 1), (10, 1)] := by kernel_rfl
theorem ca2 : callable Tryd.prog 2 = true := by kernel_rfl
theorem ca3 : callable Tryd.prog 3 = true := by kernel_rfl
theorem ca4 : callable Tryd.prog 4 = true := by kernel_rfl
theorem ca5 : callable Tryd.prog 5 = true := by kernel_rfl
theorem ca6 : callable Tryd.prog 6 = true := by kernel_rfl
theorem ca7 : callable Tryd.prog 7 = true := by kernel_rfl
theorem ca8 : callable Tryd.prog 8 = true := by kernel_rfl
theorem ca9 : callable Tryd.prog 9 = true := by kernel_rfl
theorem ca10 : callable Tryd.prog 10 = true := by kernel_rfl
theorem ca11 : callable Tryd.prog 11 = true := by kernel_rfl
theorem ca12 : callable Tryd.prog 12 = true := by kernel_rfl
theorem ca13 : callable Tryd.prog 13 = true := by kernel_rfl
theorem ca14 : callable Tryd.prog 14 = true := by kernel_rfl
theorem ca15 : callable Tryd.prog 15 = true := by kernel_rfl
theorem ca16 : callable Tryd.prog 16 = true := by kernel_rfl
theorem ca17 : callable Tryd.prog 17 = true := by kernel_rfl
theorem ca18 : callable Tryd.prog 18 = true := by kernel_rfl
theorem ca19 : callable Tryd.prog 19 = true := by kernel_rfl
theorem ca20 : callable Tryd.prog 20 = true := by kernel_rfl
theorem ca21 : callable Tryd.prog 21 = true := by kernel_rfl
theorem ca22 : callable Tryd.prog 22 = true := by kernel_rfl
theorem ca23 : callable Tryd.prog 23 = true := by kernel_rfl
theorem ca24 : callable Tryd.prog 24 = true := by kernel_rfl
theorem ca25 : callable Tryd.prog 25 = true := by kernel_rfl
theorem ca26 : callable Tryd.prog 26 = true := by kernel_rfl
theorem ca27 : callable Tryd.prog 27 = true := by kernel_rfl
theorem ca28 : callable Tryd.prog 28 = true := by kernel_rfl
theorem ca29 : callable Tryd.prog 29 = true := by kernel_rfl
theorem ca30 : callable Tryd.prog 30 = true := by kernel_rfl
theorem ca31 : callable Tryd.prog 31 = true := by kernel_rfl
theorem ca32 : callable Tryd.prog 32 = true := by kernel_rfl
theorem ca33 : callable Tryd.prog 33 = true := by kernel_rfl
theorem ca34 : callable Tryd.prog 34 = true := by kernel_rfl
theorem ca35 : callable Tryd.prog 35 = true := by kernel_rfl
theorem ca36 : callable Tryd.prog 36 = true := by kernel_rfl
theorem ca37 : callable Tryd.prog 37 = true := by kernel_rfl
theorem ca38 : callable Tryd.prog 38 = true := by kernel_rfl
theorem ca39 : callable Tryd.prog 39 = true := by kernel_rfl
theorem ca40 : callable Tryd.prog 40 = true := by kernel_rfl
theorem ca41 : callable Tryd.prog 41 = true := by kernel_rfl
theorem ca42 : callable Tryd.prog 42 = true := by kernel_rfl
theorem ca43 : callable Tryd.prog 43 = true := by kernel_rfl
theorem ca44 : callable Tryd.prog 44 = true := by kernel_rfl
theorem ca45 : callable Tryd.prog 45 = true := by kernel_rfl
theorem ca46 : callable Tryd.prog 46 = true := by kernel_rfl
theorem ca47 : callable Tryd.prog 47 = true := by kernel_rfl
theorem ca48 : callable Tryd.prog 48 = true := by kernel_rfl
theorem ca49 : callable Tryd.prog 49 = true := by kernel_rfl
theorem ca50 : callable Tryd.prog 50 = true := by kernel_rfl
theorem ca51 : callable Tryd.prog 51 = true := by kernel_rfl
theorem ca53 : callable Tryd.prog 53 = true := by kernel_rfl
theorem ca54 : callable Tryd.prog 54 = true := by kernel_rfl
theorem ca55 : callable Tryd.prog 55 = true := by kernel_rfl
theorem ca56 : callable Tryd.prog 56 = true := by kernel_rfl
theorem ca57 : callable Tryd.prog 57 = true := by kernel_rfl
theorem ca58 : callable Tryd.prog 58 = true := by kernel_rfl
theorem ca59 : callable Tryd.prog 59 = true := by kernel_rfl
theorem ca60 : callable Tryd.prog 60 = true := by kernel_rfl
theorem ca61 : callable Tryd.prog 61 = true := by kernel_rfl
theorem ca63 : callable Tryd.prog 63 = true := by kernel_rfl
theorem ca64 : callable Tryd.prog 64 = true := by kernel_rfl
theorem ca65 : callable Tryd.prog 65 = true := by kernel_rfl
theorem ca67 : callable Tryd.prog 67 = true := by kernel_rfl
theorem ca68 : callable Tryd.prog 68 = true := by kernel_rfl
theorem ca69 : callable Tryd.prog 69 = true := by kernel_rfl
theorem ca70 : callable Tryd.prog 70 = true := by kernel_rfl
theorem ca71 : callable Tryd.prog 71 = true := by kernel_rfl
theorem ca72 : callable Tryd.prog 72 = true := by kernel_rfl
theorem ca104 : callable Tryd.prog 104 = true := by kernel_rfl
end Go.Proofs.YtelnfdpbcbohdaaDoor
