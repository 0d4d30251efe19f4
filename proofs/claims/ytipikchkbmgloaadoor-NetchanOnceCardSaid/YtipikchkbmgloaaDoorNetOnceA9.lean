/- What NetOnce needs, part 9 of 12: E8 LawO LawP.  Conditions: as each part says. -/
import Derived.Test.YtipikchkbmgloaaDoorNetOnceA8
namespace Go.Proofs.YtipikchkbmgloaaDoor
set_option linter.unusedSimpArgs false
set_option linter.unusedVariables false
open Go VC
theorem vc5 (ap : Option Addr) (an : Nat) (ac : Nat) (bp : Option Addr) (bn : Nat) (bc : Nat) (cp : Option Addr) (cn : Nat) (cc : Nat) (w : World) (R : Value → World → Prop)
  (h : callV Tryd.prog (8 : Nat) [] w fun v0 w1 => isB v0 fun t2 => callV Tryd.prog (15 : Nat) [] w1 fun v3 w4 => isP v3 fun o5 => callV Tryd.prog (15 : Nat) [] w4 fun v6 w7 => isP v6 fun o8 => br (Option.isNone o5) (R (Value.bool false) w7) (br (Option.isNone o8) (R (Value.bool false) w7) (cutC (fun u9 => loopC (alist [((10 : Nat), Value.slice none (0 : Nat) (0 : Nat)), ((11 : Nat), Value.slice none (0 : Nat) (0 : Nat)), ((12 : Nat), Value.int IntKind.i64 (0 : Int))]) w7 fun u10 u11 => ∀ (u12 : Nat → Value) (w13 : World), u10 (alist [((10 : Nat), u12 (10 : Nat)), ((11 : Nat), u12 (11 : Nat)), ((12 : Nat), u12 (12 : Nat))]) w13 → isK IntKind.i64 (u12 (12 : Nat)) fun i15 => br (decide (i15 < (↑an : Int))) (isK IntKind.i64 (u12 (12 : Nat)) fun i16 => br (decide (i16 < (10 : Int))) (cutC (fun u17 => cutC (fun u18 => isK IntKind.i64 (u12 (12 : Nat)) fun i19 => rd ap fun a20 => ((0 : Int) ≤ i19 ∧ i19 < (↑an : Int)) ∧ rd (cellsAt w13 (Addr.add a20 (Int.toNat i19 * (23 : Nat))) (23 : Nat)) fun l21 => callV Tryd.prog (16 : Nat) [Value.agg (List.toArray l21)] w13 fun v22 w23 => isB v22 fun t24 => br (!t24) (u17 (alist [((10 : Nat), u12 (10 : Nat)), ((11 : Nat), u12 (11 : Nat))]) w23) (isK IntKind.i64 (u12 (12 : Nat)) fun i25 => rd ap fun a26 => ((0 : Int) ≤ i25 ∧ i25 < (↑an : Int)) ∧ rd (World.cell? w23 (Addr.add (Addr.add a26 (Int.toNat i25 * (23 : Nat))) (22 : Nat))) fun v27 => isSl v27 fun o28 n29 n30 => br (decide ((900 : Int) < (↑n29 : Int))) (u17 (alist [((10 : Nat), u12 (10 : Nat)), ((11 : Nat), u12 (11 : Nat))]) w23) (u18 (alist []) w23))) fun u31 => ∀ (u32 : Nat → Value) (w33 : World), u31 (alist []) w33 → isK IntKind.i64 (u12 (12 : Nat)) fun i35 => rd ap fun a36 => ((0 : Int) ≤ i35 ∧ i35 < (↑an : Int)) ∧ rd (cellsAt w33 (Addr.add a36 (Int.toNat i35 * (23 : Nat))) (23 : Nat)) fun l37 => runs Tryd.prog (Instr.buildSlice (24 : Nat) (1 : Nat) #[((0 : Nat), Value.agg (List.toArray l37))]) w33 fun v38 w39 => isSl v38 fun o40 n41 n42 => callV Tryd.prog (17 : Nat) [Value.pointer o5, Value.slice o40 n41 n42, Value.int IntKind.u32 (0 : Int)] w39 fun v43 w44 => isTup v43 fun l45 => rd l45[(0 : Nat)]? fun v46 => isSl v46 fun o47 n48 n49 => isTup v43 fun l50 => rd l50[(1 : Nat)]? fun v51 => isK IntKind.i64 v51 fun i52 => br (!decide (i52 = (0 : Int))) (R (Value.bool false) w44) (isSl (u12 (10 : Nat)) fun o53 n54 n55 => runs Tryd.prog (Instr.buildSlice (45 : Nat) (1 : Nat) #[((0 : Nat), Value.slice o47 n48 n49)]) w44 fun v56 w57 => isSl v56 fun o58 n59 n60 => runs Tryd.prog (Builtin.append_ #[(45 : Nat), (45 : Nat)] (45 : Nat) #[Value.slice o53 n54 n55, Value.slice o58 n59 n60]) w57 fun v61 w62 => isSl v61 fun o63 n64 n65 => isSl (u12 (11 : Nat)) fun o66 n67 n68 => isK IntKind.i64 (u12 (12 : Nat)) fun i69 => rd ap fun a70 => ((0 : Int) ≤ i69 ∧ i69 < (↑an : Int)) ∧ rd (cellsAt w62 (Addr.add a70 (Int.toNat i69 * (23 : Nat))) (23 : Nat)) fun l71 => runs Tryd.prog (Instr.buildSlice (24 : Nat) (1 : Nat) #[((0 : Nat), Value.agg (List.toArray l71))]) w62 fun v72 w73 => isSl v72 fun o74 n75 n76 => runs Tryd.prog (Builtin.append_ #[(24 : Nat), (24 : Nat)] (24 : Nat) #[Value.slice o66 n67 n68, Value.slice o74 n75 n76]) w73 fun v77 w78 => isSl v77 fun o79 n80 n81 => u17 (alist [((10 : Nat), Value.slice o63 n64 n65), ((11 : Nat), Value.slice o79 n80 n81)]) w78)) fun u82 => ∀ (u83 : Nat → Value) (w84 : World), u82 (alist [((10 : Nat), u83 (10 : Nat)), ((11 : Nat), u83 (11 : Nat))]) w84 → isK IntKind.i64 (u12 (12 : Nat)) fun i86 => again u10 u11 (alist [((10 : Nat), u83 (10 : Nat)), ((11 : Nat), u83 (11 : Nat)), ((12 : Nat), Value.int IntKind.i64 (IntKind.wrap IntKind.i64 (i86 + (1 : Int))))]) w84 (alist [((10 : Nat), u12 (10 : Nat)), ((11 : Nat), u12 (11 : Nat)), ((12 : Nat), u12 (12 : Nat))]) w13) (u9 (alist [((10 : Nat), u12 (10 : Nat)), ((11 : Nat), u12 (11 : Nat))]) w13)) (u9 (alist [((10 : Nat), u12 (10 : Nat)), ((11 : Nat), u12 (11 : Nat))]) w13)) fun u87 => ∀ (u88 : Nat → Value) (w89 : World), u87 (alist [((10 : Nat), u88 (10 : Nat)), ((11 : Nat), u88 (11 : Nat))]) w89 → cutC (fun u91 => isSl (u88 (10 : Nat)) fun o92 n93 n94 => br (decide ((↑n93 : Int) = (0 : Int))) (R (Value.bool t2) w89) (u91 (alist []) w89)) fun u95 => ∀ (u96 : Nat → Value) (w97 : World), u95 (alist []) w97 → isSl (u88 (10 : Nat)) fun o99 n100 n101 => runs Tryd.prog (Instr.makeSlice (55 : Nat) (Value.int IntKind.i64 (↑n100 : Int)) (Value.int IntKind.i64 (↑n100 : Int))) w97 fun v102 w103 => isSl v102 fun o104 n105 n106 => cutC (fun u107 => loopC (alist [((16 : Nat), Value.int IntKind.i64 (0 : Int))]) w103 fun u108 u109 => ∀ (u110 : Nat → Value) (w111 : World), u108 (alist [((16 : Nat), u110 (16 : Nat))]) w111 → isK IntKind.i64 (u110 (16 : Nat)) fun i113 => br (decide (i113 < (↑bn : Int))) (isK IntKind.i64 (u110 (16 : Nat)) fun i114 => br (decide (i114 < (40 : Int))) (cutC (fun u115 => isK IntKind.i64 (u110 (16 : Nat)) fun i116 => rd bp fun a117 => ((0 : Int) ≤ i116 ∧ i116 < (↑bn : Int)) ∧ rd (World.cell? w111 (Addr.add a117 (Int.toNat i116 * (1 : Nat)))) fun v118 => isK IntKind.i64 v118 fun i119 => isSl (u88 (10 : Nat)) fun o120 n121 n122 => rd (orO (binV BinOp.rem (Value.int IntKind.i64 (andI IntKind.i64 i119 (65535 : Int))) (Value.int IntKind.i64 (↑n121 : Int))) none) fun v123 => isK IntKind.i64 v123 fun i124 => cutC (fun u125 => isK IntKind.i64 (u110 (16 : Nat)) fun i126 => br (decide (i126 < (↑cn : Int))) (isK IntKind.i64 (u110 (16 : Nat)) fun i127 => rd cp fun a128 => ((0 : Int) ≤ i127 ∧ i127 < (↑cn : Int)) ∧ rd (World.cell? w111 (Addr.add a128 (Int.toNat i127 * (1 : Nat)))) fun v129 => isK IntKind.u8 v129 fun i130 => br (!decide (i130 = (0 : Int))) (cutC (fun u131 => runs Tryd.prog (Instr.buildSlice (25 : Nat) (0 : Nat) #[]) w111 fun v132 w133 => isSl v132 fun o134 n135 n136 => isSl (u88 (10 : Nat)) fun o137 n138 n139 => rd o137 fun a140 => ((0 : Int) ≤ i124 ∧ i124 < (↑n138 : Int)) ∧ rd (World.cell? w133 (Addr.add a140 (Int.toNat i124 * (1 : Nat)))) fun v141 => isSl v141 fun o142 n143 n144 => runs Tryd.prog (Builtin.append_ #[(25 : Nat), (25 : Nat)] (25 : Nat) #[Value.slice o134 n135 n136, Value.slice o142 n143 n144]) w133 fun v145 w146 => isSl v145 fun o147 n148 n149 => u131 (alist [((18 : Nat), Value.slice o147 n148 n149)]) w146) fun u150 => ∀ (u151 : Nat → Value) (w152 : World), u150 (alist [((18 : Nat), u151 (18 : Nat))]) w152 → heldC (World.drew w152) fun u154 => (∀ (w155 : World), u154 w155 → u151 (18 : Nat) = u151 (18 : Nat) ∧ w155 = w155) ∧ isSl (u151 (18 : Nat)) fun o157 n158 n159 => (∀ (w160 : World), u154 w160 → u110 (16 : Nat) = u110 (16 : Nat) ∧ w160 = w160) ∧ isK IntKind.i64 (u110 (16 : Nat)) fun i162 => (∀ (w163 : World), u154 w163 → u151 (18 : Nat) = u151 (18 : Nat) ∧ w163 = w163) ∧ isSl (u151 (18 : Nat)) fun o165 n166 n167 => (∀ (w168 : World), u154 w168 → Value.int IntKind.i64 (↑n166 : Int) = Value.int IntKind.i64 (↑n166 : Int) ∧ w168 = w168) ∧ rd (orO (binV BinOp.rem (Value.int IntKind.i64 i162) (Value.int IntKind.i64 (↑n166 : Int))) none) fun v170 => (∀ (w171 : World), u154 w171 → rd (orO (binV BinOp.rem (Value.int IntKind.i64 i162) (Value.int IntKind.i64 (↑n166 : Int))) none) fun v173 => v173 = v170 ∧ w171 = w171) ∧ isK IntKind.i64 v170 fun i174 => (∀ (w175 : World), u154 w175 → u151 (18 : Nat) = u151 (18 : Nat) ∧ w175 = w175) ∧ isSl (u151 (18 : Nat)) fun o177 n178 n179 => (∀ (w180 : World), u154 w180 → u110 (16 : Nat) = u110 (16 : Nat) ∧ w180 = w180) ∧ isK IntKind.i64 (u110 (16 : Nat)) fun i182 => (∀ (w183 : World), u154 w183 → u151 (18 : Nat) = u151 (18 : Nat) ∧ w183 = w183) ∧ isSl (u151 (18 : Nat)) fun o185 n186 n187 => (∀ (w188 : World), u154 w188 → Value.int IntKind.i64 (↑n186 : Int) = Value.int IntKind.i64 (↑n186 : Int) ∧ w188 = w188) ∧ rd (orO (binV BinOp.rem (Value.int IntKind.i64 i182) (Value.int IntKind.i64 (↑n186 : Int))) none) fun v190 => (∀ (w191 : World), u154 w191 → rd (orO (binV BinOp.rem (Value.int IntKind.i64 i182) (Value.int IntKind.i64 (↑n186 : Int))) none) fun v193 => v193 = v190 ∧ w191 = w191) ∧ isK IntKind.i64 v190 fun i194 => rd o177 fun a195 => ((0 : Int) ≤ i194 ∧ i194 < (↑n178 : Int)) ∧ (∀ (w196 : World), u154 w196 → rd o177 fun a198 => ((0 : Int) ≤ i194 ∧ i194 < (↑n178 : Int)) ∧ Value.pointer (some (Addr.add a198 (Int.toNat i194 * (1 : Nat)))) = Value.pointer (some (Addr.add a195 (Int.toNat i194 * (1 : Nat)))) ∧ w196 = w196) ∧ rd (World.cell? (World.drew w152) (Addr.add a195 (Int.toNat i194 * (1 : Nat)))) fun v199 => (∀ (w200 : World), u154 w200 → rd (World.cell? w200 (Addr.add a195 (Int.toNat i194 * (1 : Nat)))) fun v202 => v202 = v199 ∧ w200 = w200) ∧ isK IntKind.u8 v199 fun i203 => (∀ (w204 : World), u154 w204 → Value.slice cp cn cc = Value.slice cp cn cc ∧ w204 = w204) ∧ (∀ (w206 : World), u154 w206 → u110 (16 : Nat) = u110 (16 : Nat) ∧ w206 = w206) ∧ isK IntKind.i64 (u110 (16 : Nat)) fun i208 => rd cp fun a209 => ((0 : Int) ≤ i208 ∧ i208 < (↑cn : Int)) ∧ (∀ (w210 : World), u154 w210 → rd cp fun a212 => ((0 : Int) ≤ i208 ∧ i208 < (↑cn : Int)) ∧ Value.pointer (some (Addr.add a212 (Int.toNat i208 * (1 : Nat)))) = Value.pointer (some (Addr.add a209 (Int.toNat i208 * (1 : Nat)))) ∧ w210 = w210) ∧ rd (World.cell? (World.drew w152) (Addr.add a209 (Int.toNat i208 * (1 : Nat)))) fun v213 => (∀ (w214 : World), u154 w214 → rd (World.cell? w214 (Addr.add a209 (Int.toNat i208 * (1 : Nat)))) fun v216 => v216 = v213 ∧ w214 = w214) ∧ isK IntKind.u8 v213 fun i217 => (∀ (w218 : World), u154 w218 → Value.int IntKind.u8 (xorI IntKind.u8 i203 i217) = Value.int IntKind.u8 (xorI IntKind.u8 i203 i217) ∧ w218 = w218) ∧ rd o157 fun a220 => ((0 : Int) ≤ i174 ∧ i174 < (↑n158 : Int)) ∧ stC (World.drew w152) (Addr.add a220 (Int.toNat i174 * (1 : Nat))) [Value.int IntKind.u8 (xorI IntKind.u8 i203 i217)] fun w221 => isSl (u151 (18 : Nat)) fun o222 n223 n224 => callV Tryd.prog (18 : Nat) [Value.pointer o8, Value.slice o222 n223 n224, Value.int IntKind.u32 (9 : Int)] w221 fun v225 w226 => isTup v225 fun l227 => rd l227[(0 : Nat)]? fun v228 => isSl v228 fun o229 n230 n231 => isTup v225 fun l232 => rd l232[(1 : Nat)]? fun v233 => isK IntKind.i64 v233 fun i234 => br (!decide (i234 = (4 : Int))) (R (Value.bool false) w226) (u125 (alist []) w226)) (u125 (alist []) w111)) (u125 (alist []) w111)) fun u235 => ∀ (u236 : Nat → Value) (w237 : World), u235 (alist []) w237 → cutC (fun u239 => isSl (u88 (10 : Nat)) fun o240 n241 n242 => rd o240 fun a243 => ((0 : Int) ≤ i124 ∧ i124 < (↑n241 : Int)) ∧ rd (World.cell? w237 (Addr.add a243 (Int.toNat i124 * (1 : Nat)))) fun v244 => isSl v244 fun o245 n246 n247 => isK IntKind.i64 (u110 (16 : Nat)) fun i248 => callV Tryd.prog (18 : Nat) [Value.pointer o8, Value.slice o245 n246 n247, Value.int IntKind.u32 (IntKind.wrap IntKind.u32 i248)] w237 fun v249 w250 => isTup v249 fun l251 => rd l251[(0 : Nat)]? fun v252 => isSl v252 fun o253 n254 n255 => isTup v249 fun l256 => rd l256[(1 : Nat)]? fun v257 => isK IntKind.i64 v257 fun i258 => u239 (alist [((21 : Nat), Value.slice o253 n254 n255), ((22 : Nat), Value.int IntKind.i64 i258)]) w250) fun u259 => ∀ (u260 : Nat → Value) (w261 : World), u259 (alist [((21 : Nat), u260 (21 : Nat)), ((22 : Nat), u260 (22 : Nat))]) w261 → cutC (fun u263 => isK IntKind.i64 (u260 (22 : Nat)) fun i264 => rd o104 fun a265 => ((0 : Int) ≤ i124 ∧ i124 < (↑n105 : Int)) ∧ rd (World.cell? w261 (Addr.add a265 (Int.toNat i124 * (1 : Nat)))) fun v266 => isB v266 fun t267 => br (decide (decide (i264 = (0 : Int)) = t267)) (R (Value.bool false) w261) (isK IntKind.i64 (u260 (22 : Nat)) fun i268 => br (decide (i268 = (0 : Int))) (isSl (u260 (21 : Nat)) fun o269 n270 n271 => br (!decide ((↑n270 : Int) = (1 : Int))) (R (Value.bool false) w261) (isSl (u260 (21 : Nat)) fun o272 n273 n274 => isSl (u88 (11 : Nat)) fun o275 n276 n277 => runs Tryd.prog (Instr.sliceAt (24 : Nat) (Value.slice o275 n276 n277) (some (Value.int IntKind.i64 i124)) (some (Value.int IntKind.i64 (IntKind.wrap IntKind.i64 (i124 + (1 : Int))))) none) w261 fun v278 w279 => isSl v278 fun o280 n281 n282 => callV Tryd.prog (14 : Nat) [Value.slice o272 n273 n274, Value.slice o280 n281 n282] w279 fun v283 w284 => isB v283 fun t285 => br (!t285) (R (Value.bool false) w284) (isK IntKind.i64 (u260 (22 : Nat)) fun i286 => br (!decide (i286 = (0 : Int))) (isK IntKind.i64 (u260 (22 : Nat)) fun i287 => br (!decide (i287 = (7 : Int))) (R (Value.bool false) w284) (u263 (alist []) w284)) (u263 (alist []) w284)))) (isK IntKind.i64 (u260 (22 : Nat)) fun i288 => br (!decide (i288 = (0 : Int))) (isK IntKind.i64 (u260 (22 : Nat)) fun i289 => br (!decide (i289 = (7 : Int))) (R (Value.bool false) w261) (u263 (alist []) w261)) (u263 (alist []) w261)))) fun u290 => ∀ (u291 : Nat → Value) (w292 : World), u290 (alist []) w292 → rd o104 fun a294 => ((0 : Int) ≤ i124 ∧ i124 < (↑n105 : Int)) ∧ stC w292 (Addr.add a294 (Int.toNat i124 * (1 : Nat))) [Value.bool true] fun w295 => u115 (alist []) w295) fun u296 => ∀ (u297 : Nat → Value) (w298 : World), u296 (alist []) w298 → isK IntKind.i64 (u110 (16 : Nat)) fun i300 => again u108 u109 (alist [((16 : Nat), Value.int IntKind.i64 (IntKind.wrap IntKind.i64 (i300 + (1 : Int))))]) w298 (alist [((16 : Nat), u110 (16 : Nat))]) w111) (u107 (alist []) w111)) (u107 (alist []) w111)) fun u301 => ∀ (u302 : Nat → Value) (w303 : World), u301 (alist []) w303 → R (Value.bool t2) w303))) :
  callV Tryd.prog 5 [Value.slice ap an ac, Value.slice bp bn bc, Value.slice cp cn cc] w R :=
  vc_of hm ⟨fun n => match n with | 10 => true | 12 => true | 17 => true | 19 => true | 22 => true | 26 => true | 30 => true | 31 => true | 33 => true | 34 => true | _ => false, fun n => match n with | 26 => .take 0 (.take 1 (.take 2 (.take 3 (.take 4 (.take 5 (.take 6 (.take 7 (.take 8 (.take 9 (.take 10 (.take 11 (.take 12 (.take 13 (.take 14 (.take 15 (.take 16 (.last 17 (.last 18 (.done))))))))))))))))))) | _ => .done, fun n => match n with | 17 => [10, 11] | 9 => [10, 11, 12] | 10 => [10, 11] | 12 => [] | 19 => [] | 34 => [] | 21 => [16] | 22 => [] | 30 => [] | 26 => [18] | 31 => [21, 22] | 33 => [] | _ => []⟩ Tryd.func5 ent5 (by kernel_rfl) h

end Go.Proofs.YtipikchkbmgloaaDoor
namespace Go.Proofs.YtipikchkbmgloaaDoor
set_option linter.unusedSimpArgs false
set_option linter.unusedVariables false
open Go Go.RowKit VC
variable {w : World}
def SentR (w : World) (base : Nat) (G : Nat → Prop) (v : Value) (yss : List (List Int)) : Prop :=
  ∃ qs : List (Option Addr × Nat), qs.length = yss.length ∧ w.ownsRow base 25 1 v yss.length ((yss.zip qs).map fun x => .slice x.2.1 x.1.length x.2.2) ∧ (∀ i, v.ownBlock = some i → ¬ G i) ∧
    ∀ (j : Nat) (ys : List Int) (q : Option Addr × Nat), yss[j]? = some ys → qs[j]? = some q → w.ownsRow base 5 1 (.slice q.1 ys.length q.2) ys.length (ys.map (Value.int .u8)) ∧ ∀ i, (Value.slice q.1 ys.length q.2).ownBlock = some i → ¬ G i
theorem SentR.nil (w : World) (base : Nat) (G : Nat → Prop) : SentR w base G (.slice none 0 0) [] := ⟨[], rfl, World.ownsRow_nil _ _ _ _, fun i hi => (by cases hi), fun j m q h => by simp at h⟩
theorem SentR.step {w' : World} {base : Nat} {G G' S : Nat → Prop} {v : Value} {yss : List (List Int)} (h : SentR w base G v yss) (hG : ∀ i, G' i → G i ∨ w.heap.size ≤ i) (f : Fm S w w') (hS : ∀ i C t, w.heap[i]? = some (.cells C t (0, 0)) → t = 25 ∨ t = 5 → ¬ G i → base ≤ i → ¬ S i) : SentR w' base G' v yss := by
  obtain ⟨qs, h1, h2, h3, h4⟩ := h
  refine ⟨qs, h1, f.owns h2 fun i hi => ?_, fun i hi hg => ?_, fun j m q hj hq => ⟨f.owns (h4 j m q hj hq).1 fun i hi => ?_, fun i hi hg => ?_⟩⟩
  · obtain ⟨hb, cur, hc⟩ := own_block h2 hi
    exact hS i _ _ hc (.inl rfl) (h3 i hi) hb
  · rcases hG i hg with h | h
    · exact h3 i hi h
    · obtain ⟨_, cur, hc⟩ := own_block h2 hi
      have := lt_of_blk hc; omega
  · obtain ⟨hb, cur, hc⟩ := own_block (h4 j m q hj hq).1 hi
    exact hS i _ _ hc (.inr rfl) ((h4 j m q hj hq).2 i hi) hb
  · rcases hG i hg with h | h
    · exact (h4 j m q hj hq).2 i hi h
    · obtain ⟨_, cur, hc⟩ := own_block (h4 j m q hj hq).1 hi
      have := lt_of_blk hc; omega
theorem SentR.keep {w' : World} {base : Nat} {G : Nat → Prop} {v : Value} {yss : List (List Int)} (h : SentR w base G v yss) (f : Fm none' w w') : SentR w' base G v yss := h.step (fun i hi => .inl hi) f fun _ _ _ _ _ _ _ => id
theorem SentR.sl {base : Nat} {G : Nat → Prop} {v : Value} {yss : List (List Int)} (h : SentR w base G v yss) : ∃ p c, v = .slice p yss.length c := by
  obtain ⟨qs, h1, h2, h3, h4⟩ := h
  obtain ⟨p, c, rfl, -⟩ := own_read h2
  exact ⟨p, c, rfl⟩
theorem SentR.at {base c n : Nat} {G : Nat → Prop} {p : Option Addr} {yss : List (List Int)} (h : SentR w base G (.slice p n c) yss) {k : Nat} {ys : List Int} (hk : yss[k]? = some ys) :
    ∃ ad q e, p = some ad ∧ w.cell? (ad.add k) = some (.slice q ys.length e) ∧ w.ownsRow base 5 1 (.slice q ys.length e) ys.length (ys.map (Value.int .u8)) ∧ ∀ i, (Value.slice q ys.length e).ownBlock = some i → ¬ G i := by
  obtain ⟨qs, h1, h2, h3, h4⟩ := h
  have hkl := (List.getElem?_eq_some_iff.1 hk).1
  obtain ⟨r, hr⟩ : ∃ r, qs[k]? = some r := ⟨qs[k]'(by omega), by simp⟩
  obtain ⟨p', c', e', hread⟩ := own_read h2
  cases e'
  obtain ⟨g, rfl, -, -, hc⟩ := hread k (.slice r.1 ys.length r.2) (by rw [List.getElem?_map, (List.getElem?_zip_eq_some (z := (ys, r))).2 ⟨hk, hr⟩]; rfl)
  exact ⟨_, r.1, r.2, rfl, hc, (h4 k ys r hk hr).1, (h4 k ys r hk hr).2⟩
theorem app_sent {base : Nat} {G : Nat → Prop} {p q : Option Addr} {c e : Nat} {yss : List (List Int)} {ys : List Int} {K : Value → World → Prop} (h : SentR w base G (.slice p yss.length c) yss) (hy : w.ownsRow base 5 1 (.slice q ys.length e) ys.length (ys.map (Value.int .u8))) (hyG : ∀ i, (Value.slice q ys.length e).ownBlock = some i → ¬ G i)
    (hG : ∀ i, G i → i < w.heap.size) (hb : base ≤ w.heap.size) (hl : yss.length ≤ 1000)
    (kk : ∀ p' c' w', SentR w' base G (.slice p' (yss ++ [ys]).length c') (yss ++ [ys]) → Fm (fun i => (Value.slice p yss.length c).ownBlock = some i) w w' → (∀ i, (Value.slice p yss.length c).ownBlock = some i → base ≤ i ∧ ¬ G i ∧ ∃ C, w.heap[i]? = some (.cells C 25 (0, 0))) → K (.slice p' (yss ++ [ys]).length c') w') :
    runs Tryd.prog (Instr.buildSlice 45 1 #[(0, .slice q ys.length e)]) w fun v1 w1 => isSl v1 fun o n c1 => runs Tryd.prog (Builtin.append_ #[45, 45] 45 #[.slice p yss.length c, .slice o n c1]) w1 K := by
  obtain ⟨qs, a1, a2, a3, a4⟩ := h
  refine append_1g (by rw [row45]) row25 rfl rfl a2 hb (by simp only [maxLen]; omega) (by omega) fun p' c' w' ho hf hblk => ?_
  have hlen : (yss ++ [ys]).length = yss.length + 1 := by simp
  have hpb : ∀ i, (Value.slice p yss.length c).ownBlock = some i → base ≤ i ∧ ¬ G i ∧ ∃ C, w.heap[i]? = some (.cells C 25 (0, 0)) := fun i hi => by
    obtain ⟨hbi, cur, hc⟩ := own_block a2 hi
    exact ⟨hbi, a3 i hi, cur, hc⟩
  have e1 : ((yss ++ [ys]).zip (qs ++ [(q, e)])).map (fun x => Value.slice x.2.1 x.1.length x.2.2) = (yss.zip qs).map (fun x => Value.slice x.2.1 x.1.length x.2.2) ++ [.slice q ys.length e] := by
    rw [List.zip_append a1.symm, List.map_append]; rfl
  have no5 : ∀ {i t : Nat} {C : Array Value}, w.heap[i]? = some (.cells C t (0, 0)) → t ≠ 25 → ¬ (Value.slice p yss.length c).ownBlock = some i := fun hi ht hs => by
    obtain ⟨_, _, C', hc'⟩ := hpb _ hs
    rw [hi] at hc'; cases hc'; exact ht rfl
  have := kk p' c' w' ⟨qs ++ [(q, e)], by simp [a1], by rw [hlen, e1]; exact ho, fun i hi hg => ?_, fun j y r hj hr => ?_⟩ hf hpb
  · rw [hlen] at this; exact this
  · rw [hlen] at hi
    rcases hblk with h | ⟨g, h, h'⟩
    · rw [h] at hi; exact a3 i hi hg
    · rw [h] at hi; cases hi
      have := hG _ hg; omega
  · by_cases hjl : j < yss.length
    · rw [List.getElem?_append_left hjl] at hj
      rw [List.getElem?_append_left (by omega)] at hr
      obtain ⟨k1, k2⟩ := a4 j y r hj hr
      refine ⟨hf.owns k1 fun i hi => ?_, k2⟩
      obtain ⟨_, cur, hc⟩ := own_block k1 hi
      exact no5 hc (by decide)
    · have hjl2 := (List.getElem?_eq_some_iff.1 hj).1
      rw [hlen] at hjl2
      have hje : j = yss.length := by omega
      subst hje
      rw [List.getElem?_append_right (by omega)] at hj
      rw [List.getElem?_append_right (by omega), a1] at hr
      simp at hj hr
      subst hj hr
      refine ⟨hf.owns hy fun i hi => ?_, hyG⟩
      obtain ⟨_, cur, hc⟩ := own_block hy hi
      exact no5 hc (by decide)
def GoodS (yss : List (List Int)) (own : List Msg) : Prop :=
  yss.length = own.length ∧ ∀ (k : Nat) (ys : List Int) (m : Msg), yss[k]? = some ys → own[k]? = some m → ∃ x, ys = sealB x ∧ 9 ≤ x.length ∧ (∀ y ∈ x, 0 ≤ y ∧ y < 256) ∧ ys.length ≤ 1024 ∧ decD ys = (⟨k, false, 0, 0, [m]⟩, 0)
def onceA (j : Nat) : Ch := { newC with next := j, sent := (List.range j).map fun k => ⟨k, 0, []⟩ }
theorem once_pack {j : Nat} {m : Msg} (hj : j < 60000) (hm : Rok m) (hl : m.bytes.length ≤ 900) : ∃ ys, packC (onceA j) [m] 0 = ((ys, 0), onceA (j + 1)) ∧ ∃ x, ys = sealB x ∧ 9 ≤ x.length ∧ (∀ y ∈ x, 0 ≤ y ∧ y < 256) ∧ ys.length ≤ 1024 ∧ decD ys = (⟨j, false, 0, 0, [m]⟩, 0) := by
  have hd : packDg (onceA j) [m] = ⟨j, false, 0, 0, [m]⟩ := rfl
  have h0 : (encD ⟨j, false, 0, 0, [m]⟩).2 = 0 := by rw [encD_snd (d := ⟨j, false, 0, 0, [m]⟩) (by unfold HeadOk; simp)]; exact encE_one hm hl
  have hok : Msok [m] := ⟨fun x hx => by rw [List.mem_singleton.1 hx]; exact hm.ok, fun x hx => by rw [List.mem_singleton.1 hx]; omega, by simp⟩
  have hdec := dec_encD (d := ⟨j, false, 0, 0, [m]⟩) ⟨by show j < 65536; omega, by show 0 < 65536; omega, by show 0 < 4294967296; omega⟩ hok h0
  obtain ⟨-, h2, h3, h4⟩ := encD_ok h0
  refine ⟨(encD ⟨j, false, 0, 0, [m]⟩).1, ?_, headB ⟨j, false, 0, 0, [m]⟩ ++ (encodeM [m]).1, h4, by rw [List.length_append, headB_length]; omega, fun y hy => ?_, (encD_r _).2, hdec⟩
  · unfold packC
    rw [hd, if_neg (by rw [h0]; simp)]
    have e : ((j : Nat) + 1) % 65536 = j + 1 := by omega
    simp only [onceA, newC, List.map_nil, List.take_nil, List.append_nil, List.range_succ, List.map_append, List.map_cons, e]
  · exact (List.mem_append.1 hy).elim (headB_r _ y) (enc_range _ y)
end Go.Proofs.YtipikchkbmgloaaDoor
namespace Go.Proofs.YtipikchkbmgloaaDoor
set_option linter.unusedSimpArgs false
set_option linter.unusedVariables false
open Go Go.RowKit VC
variable {w : World}
theorem one_msg {m : Msg} {q : Option Addr} {cq g : Nat} (hb : w.heap[g]? = some (.cells (msgC m q cq).toArray 53 (0, 0))) (hby : BytesAt w q m.bytes) (hq : ∀ ad, q = some ad → m.bytes ≠ [] → ad.block < w.heap.size) : MsgsAt w w.heap.size (some ⟨g, 0, none⟩) [m] := by
  intro j x hj
  match j, hj with
  | 0, hj =>
    simp at hj; subst hj
    exact ⟨_, q, cq, rfl, lt_of_blk hb, by rw [addr_add]; exact cells_all hb rfl, hby, hq⟩
theorem good_snoc {yss : List (List Int)} {own : List Msg} {ys : List Int} {m : Msg} (h : GoodS yss own) (hx : ∃ x, ys = sealB x ∧ 9 ≤ x.length ∧ (∀ y ∈ x, 0 ≤ y ∧ y < 256) ∧ ys.length ≤ 1024 ∧ decD ys = (⟨own.length, false, 0, 0, [m]⟩, 0)) : GoodS (yss ++ [ys]) (own ++ [m]) := by
  obtain ⟨h1, h2⟩ := h
  refine ⟨by simp [h1], fun k y x hy hm => ?_⟩
  by_cases hk : k < own.length
  · rw [List.getElem?_append_left (by omega)] at hy
    rw [List.getElem?_append_left hk] at hm
    exact h2 k y x hy hm
  · have hkl := (List.getElem?_eq_some_iff.1 hm).1
    rw [List.length_append] at hkl
    have hke : k = own.length := by simp at hkl; omega
    subst hke
    rw [List.getElem?_append_right (by omega), h1] at hy
    rw [List.getElem?_append_right (by omega)] at hm
    simp at hy hm
    subst hy hm
    exact hx
structure Comes (w0 w : World) (FA FB : Nat → Prop) (A B : Nat) (b a : Ch) (S : List Bool) (sv ov : Value) (g : Nat) (yss : List (List Int)) (own : List Msg) : Prop where
  duo : Duo w0 w FB FA B A b a
  wait : b.wait = []
  sent : b.sent = []
  rows : SentR w w0.heap.size (Both FB FA) sv yss
  held : Held w0 w (Both FB FA) ov own
  seen : w.ownsRow w0.heap.size 4 1 (.slice (some ⟨g, 0, none⟩) S.length S.length) S.length (S.map Value.bool)
  gno : ¬ Both FB FA g
theorem Comes.keep {w0 w' : World} {FA FB : Nat → Prop} {A B : Nat} {b a : Ch} {S : List Bool} {sv ov : Value} {g : Nat} {yss : List (List Int)} {own : List Msg} (h : Comes w0 w FA FB A B b a S sv ov g yss own) (f : Fm none' w w') : Comes w0 w' FA FB A B b a S sv ov g yss own :=
  ⟨h.duo.keep f, h.wait, h.sent, h.rows.keep f, h.held.keep f, f.owns h.seen fun _ _ => id, h.gno⟩
theorem Comes.step {w0 w' : World} {FA FB : Nat → Prop} {A B : Nat} {b b' a : Ch} {S : List Bool} {sv ov : Value} {g : Nat} {yss : List (List Int)} {own : List Msg} (h : Comes w0 w FA FB A B b a S sv ov g yss own) (hD : Duo w0 w' FB FA B A b' a) (f : Fm FB w w') (h1 : b'.wait = []) (h2 : b'.sent = []) :
    Comes w0 w' FA FB A B b' a S sv ov g yss own := by
  refine ⟨hD, h1, h2, h.rows.step (fun i hi => .inl hi) f fun i C t _ _ hn _ hs => hn (.inl hs), h.held.stepA h.duo (fun i hi => .inl hi) f, f.owns h.seen fun i hi hs => ?_, h.gno⟩
  cases hi
  exact h.gno (.inl hs)
theorem Comes.mark {w0 : World} {FA FB : Nat → Prop} {A B : Nat} {b a : Ch} {S : List Bool} {sv ov : Value} {g k : Nat} {yss : List (List Int)} {own : List Msg} {K : World → Prop} (h : Comes w0 w FA FB A B b a S sv ov g yss own) (hk : k < S.length) (kk : ∀ w', Comes w0 w' FA FB A B b a (S.set k true) sv ov g yss own → K w') :
    stC w ((⟨g, 0, none⟩ : Addr).add k) [.bool true] K := by
  obtain ⟨g', c', e, hst⟩ := own_set (KK := K) (x := .bool true) h.seen hk rfl
  cases e
  have hg := h.seen
  obtain ⟨hgb, cur, hgc⟩ := own_block hg (i := g) rfl
  refine hst fun w' h' f => kk w' ⟨h.duo.keepS f fun i e => e ▸ ⟨hgb, h.gno⟩, h.wait, h.sent, h.rows.step (fun i hi => .inl hi) f fun i C t hi ht _ _ e => ?_, ⟨h.held.rows.keepS f (fun i hi e => ?_) fun i hi e => by omega, h.held.no⟩, ?_, h.gno⟩
  · rw [e, hgc] at hi; cases hi
    rcases ht with h | h <;> cases h
  · obtain ⟨_, _, C, hC⟩ := h.held.rows.blk hi
    rw [e, hgc] at hC; cases hC
  · rw [List.length_set, List.map_set]
    exact h'
theorem sliceAt_lhS {P : Program} {w : World} {t e : TypeId} {k : K} {size b : Nat} {z : Value} {a : Option Addr} {n c : Nat} {kl kh : IntKind} {l h : Int} {KK : Value → World → Prop} (ht : (row P t).k = .slice e) (he : row P e = ⟨k, size, b, some z⟩) (h0 : 0 ≤ l) (h1 : l ≤ h) (h2 : h ≤ c)
    (kk : KK (.slice (if c = l.toNat then a else a.map (·.add (l.toNat * size))) (h.toNat - l.toNat) (c - l.toNat)) w) : runs P (Instr.sliceAt t (.slice a n c) (some (.int kl l)) (some (.int kh h)) none) w KK := by
  obtain ⟨hu, h3⟩ := elem_of_row ht
  obtain ⟨i, hi, hz, hsz, hbt⟩ := info_of_row he
  refine ⟨_, _, ?_, kk⟩
  rw [run_sliceAt_slice _ _ _ _ _ _ hu, run_slice_lh _ _ _ _ _ hu _ _ _ _ h0 h1 h2, h3, run_size hi, hsz]
  simp [Result.andThen, sliced]
theorem MsgsAt.one {N : Nat} {p : Option Addr} {ms : List Msg} {k c : Nat} {m : Msg} (h : MsgsAt w N p ms) (hk : ms[k]? = some m) (hc : k < c) : MsgsAt w N (if c = k then p else p.map (·.add (k * 23))) [m] := by
  intro j x hj
  match j, hj with
  | 0, hj =>
    simp at hj; subst hj
    obtain ⟨ad, q, cq, rfl, hb, hcs, hq, hqb⟩ := h k m hk
    rw [if_neg (by omega)]
    exact ⟨ad.add (k * 23), q, cq, rfl, by rw [add_block]; exact hb, by rw [Nat.zero_mul, add_add, Nat.add_zero]; exact hcs, hq, hqb⟩
theorem xor_ne {a b : Nat} (hb : b ≠ 0) : a ^^^ b ≠ a := fun h => by
  have := congrArg (a ^^^ ·) h
  simp only [← Nat.xor_assoc, Nat.xor_self, Nat.zero_xor] at this
  exact hb this
set_option maxRecDepth 20000 in
set_option maxHeartbeats 2000000 in
theorem once5_c {ms : List Msg} {p q r : Option Addr} {c e f : Nat} {os ts : List Int} (hH : Halves w) (hin : In w p ms) (hsz : ∀ m ∈ ms, m.bytes.length ≤ 140737488351232)
    (ho : ∀ j x, os[j]? = some x → (∃ ad, q = some ad ∧ w.cell? (ad.add j) = some (.int .i64 x)) ∧ I64 x) (ht : BytesAt w r ts) (htr : ∀ y ∈ ts, 0 ≤ y ∧ y < 256) :
    callV Tryd.prog 5 [.slice p ms.length c, .slice q os.length e, .slice r ts.length f] w fun v w' => v = .bool true ∧ Fm none' w w' := by
  refine vc5 p ms.length c q os.length e r ts.length f w _ ?_
  refine (shown8_c hH).mono ?_
  rintro _ w1 ⟨rfl, hf1⟩
  simp only [vcs, eqV, nilV, Option.map_some, Nat.mul_one, implies_true, true_and, and_true, and_self]
  refine (duo_new (w := w1)).mono ?_
  rintro _ w4 ⟨A, rfl, hnew⟩
  simp only [vcs, eqV, nilV, Option.map_some, Nat.mul_one, implies_true, true_and, and_true, and_self]
  refine hnew.mono ?_
  rintro _ w7 ⟨FA0, FB0, B, rfl, hD0⟩
  simp only [Option.isNone_some, vcs, eqV, nilV, Option.map_some, Nat.mul_one, implies_true, true_and, and_true, and_self]
  have hD0 : Duo w w7 FA0 FB0 A B newC newC := ⟨hD0.a, hD0.b, hD0.dis, fun i hi => Nat.le_trans hf1.size (hD0.hiA i hi), fun i hi => Nat.le_trans hf1.size (hD0.hiB i hi), hf1.trans hD0.fm⟩
  -- the messages are packed, one by one
  refine ⟨fun u W => ∃ (so own : Option Addr × Nat) (FA FB : Nat → Prop) (yss : List (List Int)), u 10 = .slice so.1 yss.length so.2 ∧ u 11 = .slice own.1 (ownM ms 10).length own.2 ∧ Duo w W FA FB A B (onceA (ownM ms 10).length) newC ∧ Held w W (Both FA FB) (u 11) (ownM ms 10) ∧
    SentR W w.heap.size (Both FA FB) (u 10) yss ∧ GoodS yss (ownM ms 10), ?_, ?_⟩
  · refine ⟨fun u W => ∃ (i : Nat) (so own : Option Addr × Nat) (FA FB : Nat → Prop) (yss : List (List Int)), i ≤ ms.length ∧ i ≤ 10 ∧ u 12 = .int .i64 i ∧ u 10 = .slice so.1 yss.length so.2 ∧ u 11 = .slice own.1 (ownM ms i).length own.2 ∧ Duo w W FA FB A B (onceA (ownM ms i).length) newC ∧
        Held w W (Both FA FB) (u 11) (ownM ms i) ∧ SentR W w.heap.size (Both FA FB) (u 10) yss ∧ GoodS yss (ownM ms i),
      fun u _ => 10 - (intOf (u 12)).toNat, ⟨0, (none, 0), (none, 0), FA0, FB0, [], by omega, by omega, rfl, rfl, rfl, hD0, Held.nil _ _ _, SentR.nil _ _ _, rfl, fun k y m h => by simp at h⟩, ?_⟩
    rintro u w13 ⟨i, ⟨ps, cs⟩, ⟨po, co⟩, FA, FB, yss, hi, hi10, h12, h10, h11, hD, hh, hS, hG⟩
    change u 12 = _ at h12
    change u 10 = .slice ps yss.length cs at h10
    change u 11 = .slice po (ownM ms i).length co at h11
    change Held w w13 (Both FA FB) (u 11) (ownM ms i) at hh
    change SentR w13 w.heap.size (Both FA FB) (u 10) yss at hS
    simp only [h10, h11, h12, vcs, eqV, nilV, Option.map_some, Nat.mul_one, implies_true, true_and, and_true, and_self] at hh hS ⊢
    have fin : (i = ms.length ∨ i = 10) → ∃ (so own : Option Addr × Nat) (FA FB : Nat → Prop) (yss' : List (List Int)), alist [(10, .slice ps yss.length cs), (11, .slice po (ownM ms i).length co)] 10 = .slice so.1 yss'.length so.2 ∧
        alist [(10, .slice ps yss.length cs), (11, .slice po (ownM ms i).length co)] 11 = .slice own.1 (ownM ms 10).length own.2 ∧ Duo w w13 FA FB A B (onceA (ownM ms 10).length) newC ∧
        Held w w13 (Both FA FB) (alist [(10, .slice ps yss.length cs), (11, .slice po (ownM ms i).length co)] 11) (ownM ms 10) ∧ SentR w13 w.heap.size (Both FA FB) (alist [(10, .slice ps yss.length cs), (11, .slice po (ownM ms i).length co)] 10) yss' ∧ GoodS yss' (ownM ms 10) := by
      intro h
      have e : ownM ms 10 = ownM ms i := by
        rcases h with rfl | rfl
        · unfold ownM; rw [List.take_of_length_le (by omega), List.take_of_length_le (Nat.le_refl _)]
        · rfl
      rw [e]
      exact ⟨(ps, cs), (po, co), FA, FB, yss, rfl, rfl, hD, hh, hS, hG⟩
    refine br_dec (fun hlt => ?_) (fun hge => fin (.inl (by omega)))
    refine br_dec (fun hlt10 => ?_) (fun hge => fin (.inr (by omega)))
    obtain ⟨m, hm⟩ : ∃ m, ms[i]? = some m := ⟨ms[i]'(by omega), by simp⟩
    refine ⟨fun u W => ∃ (so own : Option Addr × Nat) (FA FB : Nat → Prop) (yss : List (List Int)), u 10 = .slice so.1 yss.length so.2 ∧ u 11 = .slice own.1 (ownM ms (i + 1)).length own.2 ∧ Duo w W FA FB A B (onceA (ownM ms (i + 1)).length) newC ∧
        Held w W (Both FA FB) (u 11) (ownM ms (i + 1)) ∧ SentR W w.heap.size (Both FA FB) (u 10) yss ∧ GoodS yss (ownM ms (i + 1)), ?_, ?_⟩
    · obtain ⟨ad, qm, cq, rfl, hcs, hc22, hby, hqb⟩ := arg_msg hin hD.fm hm
      have hmok := hin.ok m (List.mem_of_getElem? hm)
      have hsame : okM m = false → ∀ w', Fm none' w13 w' → ∃ (so own : Option Addr × Nat) (FA FB : Nat → Prop) (yss' : List (List Int)), alist [(10, .slice ps yss.length cs), (11, .slice po (ownM ms i).length co)] 10 = .slice so.1 yss'.length so.2 ∧
          alist [(10, .slice ps yss.length cs), (11, .slice po (ownM ms i).length co)] 11 = .slice own.1 (ownM ms (i + 1)).length own.2 ∧ Duo w w' FA FB A B (onceA (ownM ms (i + 1)).length) newC ∧
          Held w w' (Both FA FB) (alist [(10, .slice ps yss.length cs), (11, .slice po (ownM ms i).length co)] 11) (ownM ms (i + 1)) ∧ SentR w' w.heap.size (Both FA FB) (alist [(10, .slice ps yss.length cs), (11, .slice po (ownM ms i).length co)] 10) yss' ∧ GoodS yss' (ownM ms (i + 1)) := by
        intro ho w' hf
        rw [ownM_snoc hm, ho, if_neg (by simp), List.append_nil]
        exact ⟨(ps, cs), (po, co), FA, FB, yss, rfl, rfl, hD.keep hf, hh.keep hf, hS.keep hf, hG⟩
      refine ⟨fun _ W => okM m = true ∧ Fm none' w13 W, ?_, ?_⟩
      · simp only [Int.toNat_natCast, hcs, vcs, eqV, nilV, Option.map_some, Nat.mul_one, implies_true, true_and, and_true, and_self]
        refine ⟨by omega, ?_⟩
        refine (right16_c hmok hby (fun ad' e hne => Nat.lt_of_lt_of_le (hqb ad' e hne) hD.fm.size) (hsz m (List.mem_of_getElem? hm))).mono ?_
        rintro _ w23 ⟨rfl, hf23⟩
        simp only [vcs, eqV, nilV, Option.map_some, Nat.mul_one, implies_true, true_and, and_true, and_self]
        cases hr : rightM m with
        | false =>
          simp only [Bool.not_false, vcs, eqV, nilV, Option.map_some, Nat.mul_one, implies_true, true_and, and_true, and_self]
          exact hsame (by unfold okM; rw [hr]; rfl) w23 hf23
        | true =>
          have hc22' := hf23.cell hc22 (by exact id)
          simp only [Bool.not_true, hc22', vcs, eqV, nilV, Option.map_some, Nat.mul_one, implies_true, true_and, and_true, and_self]
          refine ⟨by omega, ?_⟩
          refine br_dec (fun h900 => ?_) (fun h900 => ?_)
          · exact hsame (by unfold okM; rw [hr, decide_eq_false (by omega)]; rfl) w23 hf23
          · exact ⟨by unfold okM; rw [hr, decide_eq_true (by omega)]; rfl, hf23⟩
      rintro u3 w33 ⟨hok, hf33⟩
      have hrm : rightM m = true ∧ m.bytes.length ≤ 900 := by
        unfold okM at hok
        rw [Bool.and_eq_true, decide_eq_true_eq] at hok
        exact hok
      have hrok : Rok m := rok_of hmok (by omega) hrm.1
      have hol := ownM_le ms i
      have hD33 := hD.keep hf33
      obtain ⟨ad2, q2, cq2, e2, hcs33, -, hby33, hqb33⟩ := arg_msg hin hD33.fm hm
      cases e2
      simp only [Int.toNat_natCast, hcs33, vcs, eqV, nilV, Option.map_some, Nat.mul_one, implies_true, true_and, and_true, and_self]
      refine ⟨by omega, ?_⟩
      refine build_Sg (cs := msgC m q2 cq2) (by rw [row24]) row53 rfl (by omega) (by omega) rfl fun w39 hb39 hs39 hf39 => ?_
      simp only [vcs, eqV, nilV, Option.map_some, Nat.mul_one, implies_true, true_and, and_true, and_self]
      have hD39 := hD33.keep hf39
      obtain ⟨ys, hp, hx⟩ := once_pack (j := (ownM ms i).length) (m := m) (by omega) hrok hrm.2
      have hokm : Msok [m] := ⟨fun x hx => by rw [List.mem_singleton.1 hx]; exact hmok, fun x hx => by rw [List.mem_singleton.1 hx]; omega, by simp⟩
      have hm39 := one_msg hb39 (hby33.keep hf39 fun _ _ => id) fun ad' e hne => Nat.lt_of_lt_of_le (hqb33 ad' e hne) hD39.fm.size
      refine (duo_pack (l := [m]) (p := some ⟨w33.heap.size, 0, none⟩) (cp := 1) (now := 0) (N := w39.heap.size) hH hD39 hm39 (Nat.le_refl _) hokm (by simp) (by omega) (by simp [onceA]; omega)).mono ?_
      rintro _ w44 ⟨qx, ex, F', rfl, hxl, hD44, hF', hf44⟩
      rw [hp] at hxl hD44 ⊢
      simp only [vcs, eqV, nilV, Option.map_some, Nat.mul_one, implies_true, true_and, and_true, and_self, List.getElem?_toArray, List.getElem?_cons_zero, List.getElem?_cons_succ]
      change Loose w44 F' FB w39.heap.size qx ex ys at hxl
      change Duo w w44 F' FB A B (onceA ((ownM ms i).length + 1)) newC at hD44
      refine br_ndec (fun h => absurd trivial h) (fun _ => ?_)
      have hh44 : Held w w44 (Both F' FB) (.slice po (ownM ms i).length co) (ownM ms i) := ((hh.keep hf33).keep hf39).stepA hD39 hF' hf44
      have hS44 : SentR w44 w.heap.size (Both F' FB) (.slice ps yss.length cs) yss := ((hS.keep hf33).keep hf39).step (fun i hi => hi.elim (fun h => (hF' i h).imp .inl id) fun h => .inl (.inr h)) hf44 fun i C t _ _ hn _ hs => hn (.inl hs)
      have hyl : yss.length ≤ 1000 := by have := hG.1; omega
      refine app_sent hS44 (own_base hxl.own hD39.fm.size) (fun i hi h => h.elim (hxl.no i hi).1 (hxl.no i hi).2) hD44.lt hD44.fm.size hyl fun p' c' w62 hS62 hf62 hb62 => ?_
      simp only [vcs, eqV, nilV, Option.map_some, Nat.mul_one, implies_true, true_and, and_true, and_self]
      have hD62 := hD44.keepS hf62 fun i h => ⟨(hb62 i h).1, (hb62 i h).2.1⟩
      have hh62 : Held w w62 (Both F' FB) (.slice po (ownM ms i).length co) (ownM ms i) := ⟨hh44.rows.keepS hf62 (fun i hi hs => by
        obtain ⟨_, _, C, hC⟩ := hb62 i hs
        obtain ⟨_, _, C', hC'⟩ := hh44.rows.blk hi
        rw [hC] at hC'; cases hC') fun i hi hs => by have := (hb62 i hs).1; omega, hh44.no⟩
      obtain ⟨ad3, q3, cq3, e3, hcs62, -, hby62, hqb62⟩ := arg_msg hin hD62.fm hm
      cases e3
      simp only [hcs62, vcs, eqV, nilV, Option.map_some, Nat.mul_one, implies_true, true_and, and_true, and_self]
      refine ⟨by omega, ?_⟩
      refine app_msg hh62 hD62.lt hby62 hqb62 hD62.fm.size (by omega) fun p2 c2 w78 hh78 hf78 => ?_
      have e1 : ownM ms (i + 1) = ownM ms i ++ [m] := by rw [ownM_snoc hm, hok, if_pos rfl]
      rw [e1]
      simp only [vcs, eqV, nilV, Option.map_some, Nat.mul_one, implies_true, true_and, and_true, and_self]
      refine ⟨(p', c'), (p2, c2), F', FB, yss ++ [ys], rfl, rfl, ?_, hh78, ?_, good_snoc hG hx⟩
      · rw [List.length_append]
        exact hD62.keepS hf78 fun i h => hh62.blk h
      · refine hS62.step (fun i hi => .inl hi) hf78 fun i C t hi ht _ _ hs => ?_
        obtain ⟨_, _, C', hC'⟩ := hh62.rows.blk hs
        rw [hi] at hC'; cases hC'
        rcases ht with h | h <;> cases h
    · rintro u' w51 ⟨⟨ps', cs'⟩, ⟨po', co'⟩, FA', FB', yss', h10', h11', hD', hh', hS', hG'⟩
      change u' 10 = .slice ps' yss'.length cs' at h10'
      change u' 11 = .slice po' (ownM ms (i + 1)).length co' at h11'
      rw [show IntKind.i64.wrap ((i : Int) + 1) = ((i + 1 : Nat) : Int) from (w64 (by omega)).trans (by omega)]
      refine ⟨⟨i + 1, (ps', cs'), (po', co'), FA', FB', yss', by omega, by omega, rfl, h10', h11', hD', hh', hS', hG'⟩, ?_⟩
      show 10 - ((i + 1 : Nat) : Int).toNat < 10 - (i : Int).toNat
      omega
  rintro u w89 ⟨⟨ps, cs⟩, ⟨po, co⟩, FA, FB, yss, h10, h11, hD, hh, hS, hG⟩
  change u 10 = .slice ps yss.length cs at h10
  change u 11 = .slice po (ownM ms 10).length co at h11
  change Held w w89 (Both FA FB) (u 11) (ownM ms 10) at hh
  change SentR w89 w.heap.size (Both FA FB) (u 10) yss at hS
  rw [h11] at hh
  rw [h10] at hS
  have hOk := ownM_rok (ms := ms) hin.ok (i := 10)
  have hOl := ownM_le ms 10
  obtain ⟨O, hO⟩ : ∃ O, O = ownM ms 10 := ⟨_, rfl⟩
  rw [← hO] at h11 hD hh hG hOk hOl
  have hS' : SentR w89 w.heap.size (Both FB FA) (.slice ps yss.length cs) yss := by
    have e : Both FB FA = Both FA FB := by funext i; exact propext Or.comm
    rw [e]; exact hS
  refine ⟨fun _ W => W = w89 ∧ 0 < yss.length, ?_, ?_⟩
  · simp only [h10, vcs, eqV, nilV, Option.map_some, Nat.mul_one, implies_true, true_and, and_true, and_self]
    refine br_dec (fun _ => hD.fm) (fun h => by omega)
  rintro u2 w97 ⟨rfl, hpos⟩
  simp only [h10, h11, vcs, eqV, nilV, Option.map_some, Nat.mul_one, implies_true, true_and, and_true, and_self]
  have hyO : yss.length = O.length := hG.1
  refine make_g (by rw [row55]) row4 rfl (by omega) (by simp only [maxLen]; omega) (base := w.heap.size) hD.fm.size fun w103 hsn hf103 => ?_
  simp only [vcs, eqV, nilV, Option.map_some, Nat.mul_one, implies_true, true_and, and_true, and_self]
  obtain ⟨g, hg⟩ : ∃ g, g = w97.heap.size := ⟨_, rfl⟩
  rw [← hg] at hsn ⊢
  obtain ⟨a, ha⟩ : ∃ a, a = onceA O.length := ⟨_, rfl⟩
  rw [← ha] at hD
  have hC0 : Comes w w103 FA FB A B newC a (List.replicate yss.length false) (.slice ps yss.length cs) (.slice po O.length co) g yss O :=
    ⟨hD.swap.keep hf103, rfl, rfl, hS'.keep hf103, hh.swap.keep hf103, by rw [List.length_replicate, List.map_replicate]; exact hsn, fun h => by have := hD.swap.lt g h; omega⟩
  refine ⟨fun _ W => Fm none' w W, ?_, ?_⟩
  · refine ⟨fun u W => ∃ (i : Nat) (S : List Bool) (b : Ch), i ≤ os.length ∧ i ≤ 40 ∧ u 16 = .int .i64 i ∧ S.length = yss.length ∧ WinSet b.win S ∧ Comes w W FA FB A B b a S (.slice ps yss.length cs) (.slice po O.length co) g yss O,
      fun u _ => 40 - (intOf (u 16)).toNat, ⟨0, _, newC, by omega, by omega, rfl, List.length_replicate, WinSet.start _, hC0⟩, ?_⟩
    rintro u3 w111 ⟨i, S, b, hi, hi40, h16, hSl, hwin, hC⟩
    change u3 16 = _ at h16
    simp only [h16, vcs, eqV, nilV, Option.map_some, Nat.mul_one, implies_true, true_and, and_true, and_self]
    refine br_dec (fun hlt => ?_) (fun _ => hC.duo.fm)
    refine br_dec (fun hlt40 => ?_) (fun _ => hC.duo.fm)
    obtain ⟨x, hx⟩ : ∃ x, os[i]? = some x := ⟨os[i]'(by omega), by simp⟩
    obtain ⟨⟨ad, rfl, hcx⟩, hxr⟩ := ho i x hx
    have hcx' := hC.duo.fm.cell hcx (by exact id)
    obtain ⟨y, hy⟩ : ∃ y : Nat, andI .i64 x 65535 = y := ⟨(andI .i64 x 65535).toNat, by have h : 0 ≤ andI .i64 x 65535 ∧ andI .i64 x 65535 ≤ 65535 := andI_le x 65535 (by omega); omega⟩
    obtain ⟨k, hk⟩ : ∃ k, k = y % yss.length := ⟨_, rfl⟩
    have hkl : k < yss.length := by rw [hk]; exact Nat.mod_lt _ hpos
    have hrem : Int.tmod (y : Int) (yss.length : Int) = (k : Int) := by rw [Int.tmod_eq_emod_of_nonneg (by omega), hk]; omega
    obtain ⟨ys, hys⟩ : ∃ ys, yss[k]? = some ys := ⟨yss[k]'hkl, by simp⟩
    obtain ⟨m, hm⟩ : ∃ m, O[k]? = some m := ⟨O[k]'(by omega), by simp⟩
    obtain ⟨xs, hseal, hxl, hxsr, hyl, hdec⟩ := hG.2 k ys m hys hm
    have hyr : ∀ y ∈ ys, 0 ≤ y ∧ y < 256 := by rw [hseal]; exact sealB_r hxsr
    have hyl11 : 11 ≤ ys.length := by rw [hseal, sealB_length]; omega
    refine ⟨fun _ W => ∃ (S : List Bool) (b : Ch), S.length = yss.length ∧ WinSet b.win S ∧ Comes w W FA FB A B b a S (.slice ps yss.length cs) (.slice po O.length co) g yss O, ?_, ?_⟩
    · simp only [Int.toNat_natCast, hcx', hy, vcs, eqV, nilV, Option.map_some, Nat.mul_one, implies_true, true_and, and_true, and_self]
      refine ⟨by omega, ?_⟩
      rw [dv_ne _ (by omega), hrem]
      simp only [vcs, eqV, nilV, Option.map_some, Nat.mul_one, implies_true, true_and, and_true, and_self]
      refine ⟨fun _ W => Comes w W FA FB A B b a S (.slice ps yss.length cs) (.slice po O.length co) g yss O, ?_, ?_⟩
      · -- a byte turned
        have skip : Comes w w111 FA FB A B b a S (.slice ps yss.length cs) (.slice po O.length co) g yss O := hC
        refine br_dec (fun hlt3 => ?_) (fun _ => skip)
        obtain ⟨tv, htv⟩ : ∃ t, ts[i]? = some t := ⟨ts[i]'(by omega), by simp⟩
        obtain ⟨ad3, rfl, hct⟩ := ht i tv htv
        have htvr := htr tv (List.mem_of_getElem? htv)
        have hct' := hC.duo.fm.cell hct (by exact id)
        simp only [Int.toNat_natCast, hct', vcs, eqV, nilV, Option.map_some, Nat.mul_one, implies_true, true_and, and_true, and_self]
        refine ⟨by omega, ?_⟩
        refine br_ndec (fun hne => ?_) (fun _ => skip)
        refine ⟨fun u W => ∃ (qb : Option Addr) (eb : Nat), u 18 = .slice qb ys.length eb ∧ W.ownsRow w111.heap.size 5 1 (.slice qb ys.length eb) ys.length (ys.map (Value.int .u8)) ∧ Fm none' w111 W, ?_, ?_⟩
        · refine build_none (by rw [row25]) row5 fun s w133 hs hs133 hf133 => ?_
          obtain ⟨p9, c9, rfl, -⟩ := own_read hs
          simp only [vcs, eqV, nilV, Option.map_some, Nat.mul_one, implies_true, true_and, and_true, and_self]
          obtain ⟨ad4, q4, e4, rfl, hc4, ho4, -⟩ := (hC.rows.keep hf133).at hys
          simp only [Int.toNat_natCast, hc4, vcs, eqV, nilV, Option.map_some, Nat.mul_one, implies_true, true_and, and_true, and_self]
          refine ⟨by omega, ?_⟩
          have hb4 := BytesAt.of_own ho4
          refine append_b (ys := ys) (by rw [row25]) row5 rfl hs rfl (fun j v hj => hb4 j v hj) hf133.size (by simp only [maxLen]; omega) (by omega) fun v w146 hv hf hblk => ?_
          obtain ⟨qb, eb, rfl, -⟩ := own_read hv
          simp only [Nat.zero_add, List.nil_append, vcs, eqV, nilV, Option.map_some, Nat.mul_one, implies_true, true_and, and_true, and_self] at hv ⊢
          exact ⟨qb, eb, rfl, hv, hf133.trans' hf fun i hi e => by have := (own_block hs e).1; omega⟩
        rintro u5 w152 ⟨qb, eb, h18, hob, hf152⟩
        change u5 18 = _ at h18
        refine ⟨fun W => W = w152.drew, rfl, ?_⟩
        obtain ⟨ix, hix⟩ : ∃ ix, ix = i % ys.length := ⟨_, rfl⟩
        have hixl : ix < ys.length := by rw [hix]; exact Nat.mod_lt _ (by omega)
        have hrem2 : Int.tmod (i : Int) (ys.length : Int) = (ix : Int) := by rw [Int.tmod_eq_emod_of_nonneg (by omega), hix]; omega
        obtain ⟨y0, hy0⟩ : ∃ y, ys[ix]? = some y := ⟨ys[ix]'hixl, by simp⟩
        have hy0r := hyr y0 (List.mem_of_getElem? hy0)
        have hob' : w152.drew.ownsRow w111.heap.size 5 1 (.slice qb ys.length eb) ys.length (ys.map (Value.int .u8)) := hob
        obtain ⟨ad5, hq5, hc5⟩ := (BytesAt.of_own hob') ix y0 hy0
        have hct2 : w152.drew.cell? (ad3.add i) = some (.int .u8 tv) := hf152.cell hct' (by exact id)
        have hdv : dvN ((ys.length : Nat) : Int) (Value.int .i64 ((i : Int).tmod (ys.length : Int))) = some (.int .i64 (ix : Int)) := by rw [dv_ne _ (by omega), hrem2]
        simp only [h18, forall_eq, hdv, Int.toNat_natCast, hq5, hc5, hct2, vcs, eqV, nilV, Option.map_some, Nat.mul_one, implies_true, true_and, and_true, and_self]
        refine ⟨by omega, by omega, ?_⟩
        obtain ⟨n0, hn0⟩ : ∃ n : Nat, y0 = n := ⟨y0.toNat, by omega⟩
        obtain ⟨t0, ht0⟩ : ∃ n : Nat, tv = n := ⟨tv.toNat, by omega⟩
        have hxor : xorI .u8 y0 tv = ((n0 ^^^ t0 : Nat) : Int) := by rw [hn0, ht0]; exact xor8 (by omega) (by omega)
        have hxlt : n0 ^^^ t0 < 256 := Nat.xor_lt_two_pow (n := 8) (by omega) (by omega)
        rw [hxor]
        obtain ⟨zv, hzv⟩ : ∃ z : Int, z = ((n0 ^^^ t0 : Nat) : Int) := ⟨_, rfl⟩
        have hzne : zv ≠ y0 := by
          rw [hzv, hn0]
          intro h
          exact xor_ne (a := n0) (b := t0) (by omega) (by omega)
        rw [← hzv]
        have hzr : 0 ≤ zv ∧ zv < 256 := by omega
        obtain ⟨g5, c5, e5, hst⟩ := own_set (x := .int .u8 zv) hob' hixl rfl
        simp only [Value.slice.injEq] at e5
        have eq5 : ad5 = ⟨g5, 0, none⟩ := by rw [hq5] at e5; exact Option.some.inj e5.1
        rw [← eq5] at hst
        refine ⟨by omega, by omega, by omega, ?_⟩
        refine hst fun w221 ho221 hf221 => ?_
        have hgb : w111.heap.size ≤ g5 := (own_block hob' (by rw [e5.1]; rfl)).1
        have hF221 : Fm none' w111 w221 := (hf152.trans (Fm.drew w152)).trans' hf221 fun j hj e => by omega
        have hC221 := hC.keep hF221
        have hset : (ys.map (Value.int .u8)).set ix (.int .u8 zv) = (ys.set ix zv).map (Value.int .u8) := by rw [List.map_set]
        rw [hset] at ho221
        have hbl : (ys.set ix zv).length = ys.length := List.length_set
        rw [← hbl] at ho221
        have hbr : ∀ v ∈ ys.set ix zv, 0 ≤ v ∧ v < 256 := by
          intro v hv
          rcases List.mem_or_eq_of_mem_set hv with h | rfl
          · exact hyr v h
          · exact hzr
        have hbad : decD (ys.set ix zv) = (dgZ, 4) := by rw [hseal]; exact dec_bad hxsr hxl (by rw [← hseal]; exact hy0) hzr hzne
        have hun : unpackC b (ys.set ix zv) 9 = (([], 4), b) := by unfold unpackC; rw [hbad, if_pos (by simp)]
        rw [hq5] at ho221
        rw [← hbl]
        refine (duo_unpack (ys := ys.set ix zv) (cp := eb) (now := 9) hH hC221.duo (BytesAt.of_own ho221) hbr (by omega) (own_cap' ho221) (by omega) (by rw [hC.sent]; simp) (by rw [hC.sent]; simp)).mono ?_
        rintro _ w226 ⟨q6, e6, rfl, ho6, hD6, hf6⟩
        rw [hun] at hD6 ⊢
        simp only [decide_true, Bool.not_true, vcs, eqV, nilV, Option.map_some, Nat.mul_one, implies_true, true_and, and_true, and_self, List.getElem?_toArray, List.getElem?_cons_zero, List.getElem?_cons_succ]
        exact hC221.step hD6 hf6 hC.wait hC.sent
      rintro u4 w237 hC2
      -- the datagram itself
      have hC2 : Comes w w237 FA FB A B b a S (.slice ps yss.length cs) (.slice po O.length co) g yss O := hC2
      obtain ⟨hacc, hwin2, hsame⟩ := accW_set hwin (by omega) (show k < S.length by omega)
      obtain ⟨sk, hsk⟩ : ∃ sk, S[k]? = some sk := ⟨S[k]'(by omega), by simp⟩
      refine ⟨fun u W => ∃ (b' : Ch) (q' : Option Addr) (c' : Nat) (l : List Msg), u 21 = .slice q' l.length c' ∧ WinSet b'.win (S.set k true) ∧ Comes w W FA FB A B b' a S (.slice ps yss.length cs) (.slice po O.length co) g yss O ∧ MsgsAt W W.heap.size q' l ∧ (sk = false ∧ u 22 = .int .i64 0 ∧ l = [m] ∨ sk = true ∧ u 22 = .int .i64 7), ?_, ?_⟩
      · obtain ⟨ad4, q4, e4, rfl, hc4, ho4, -⟩ := hC2.rows.at hys
        simp only [Int.toNat_natCast, hc4, vcs, eqV, nilV, Option.map_some, Nat.mul_one, implies_true, true_and, and_true, and_self]
        refine ⟨by omega, ?_⟩
        rw [show IntKind.u32.wrap (i : Int) = (i : Int) from w32 (by omega)]
        refine (duo_unpack (ys := ys) (cp := e4) (now := i) hH hC2.duo (BytesAt.of_own ho4) hyr (by omega) (own_cap' ho4) (by omega) (by rw [hC.sent]; simp) (by rw [hC.sent]; simp)).mono ?_
        rintro _ w250 ⟨q6, e6, rfl, ho6, hD6, hf6⟩
        cases sk with
        | false =>
          have hac : (accW b.win k).1 = true := hacc.2 (by rw [hsk]; simp)
          have hun := unpackC_ok (c := b) (now := i) hdec hac
          rw [hun] at ho6 hD6 ⊢
          simp only [vcs, eqV, nilV, Option.map_some, Nat.mul_one, implies_true, true_and, and_true, and_self, List.getElem?_toArray, List.getElem?_cons_zero, List.getElem?_cons_succ]
          have h1 : (openC b ⟨k, false, 0, 0, [m]⟩ i).wait = [] := by show b.wait.filter _ = []; rw [hC.wait]; rfl
          have h2 : (openC b ⟨k, false, 0, 0, [m]⟩ i).sent = [] := by show b.sent.filter _ = []; rw [hC.sent]; rfl
          obtain ⟨_, _, e1, m1⟩ := ho6.at
          cases e1
          exact ⟨openC b ⟨k, false, 0, 0, [m]⟩ i, q6, e6, [m], rfl, hwin2, hC2.step hD6 hf6 h1 h2, m1, .inl (by simp; rfl)⟩
        | true =>
          have hac : (accW b.win k).1 = false := by
            cases h : (accW b.win k).1 with
            | false => rfl
            | true => exact absurd hsk (hacc.1 h)
          have hun : unpackC b ys i = (([], 7), b) := by unfold unpackC; rw [hdec, if_neg (by simp), if_pos hac]
          rw [hun] at ho6 hD6 ⊢
          simp only [vcs, eqV, nilV, Option.map_some, Nat.mul_one, implies_true, true_and, and_true, and_self, List.getElem?_toArray, List.getElem?_cons_zero, List.getElem?_cons_succ]
          have hw' : WinSet b.win (S.set k true) := by have := hwin2; rw [hsame hsk] at this; exact this
          exact ⟨b, q6, e6, [], rfl, hw', hC2.step hD6 hf6 hC.wait hC.sent, msgs_nil _ _ _, .inr (by simp; rfl)⟩
      rintro u5 w261 ⟨b', q', c', l, h21, hwin3, hC3, hml, hcase⟩
      change u5 21 = _ at h21
      change sk = false ∧ u5 22 = .int .i64 0 ∧ l = [m] ∨ sk = true ∧ u5 22 = .int .i64 7 at hcase
      refine ⟨fun _ W => Comes w W FA FB A B b' a S (.slice ps yss.length cs) (.slice po O.length co) g yss O, ?_, ?_⟩
      · obtain ⟨_, _, e7, hread7⟩ := own_read hC3.seen
        cases e7
        obtain ⟨g7, e8, -, -, hc7⟩ := hread7 k (.bool sk) (by rw [List.getElem?_map, hsk]; rfl)
        cases e8
        rcases hcase with ⟨rfl, h22, rfl⟩ | ⟨rfl, h22⟩
        · simp only [h21, h22, Int.toNat_natCast, hc7, vcs, eqV, nilV, Option.map_some, Nat.mul_one, implies_true, true_and, and_true, and_self]
          refine ⟨by omega, ?_⟩
          refine br_dec (fun h => absurd h (by simp)) (fun _ => ?_)
          refine br_dec (fun _ => ?_) (fun h => absurd trivial h)
          refine br_ndec (fun h => absurd (by simp) h) (fun _ => ?_)
          rw [show IntKind.i64.wrap ((k : Int) + 1) = ((k + 1 : Nat) : Int) from (w64 (by omega)).trans (by omega)]
          have hco : O.length ≤ co := by
            obtain ⟨qs, _, ho, _⟩ := hC3.held.rows
            exact own_cap' ho
          refine sliceAt_lhS (by rw [row24]) row53 (by omega) (by omega) (by omega) ?_
          have mO := (hC3.held.at hC3.duo.fm.size).one hm (show k < co by omega)
          have hmr : ∀ x ∈ [m], ∀ y ∈ x.bytes, 0 ≤ y ∧ y < 256 := fun x hx => by
            rw [List.mem_singleton.1 hx]; exact (hOk m (List.mem_of_getElem? hm)).1.ok.bytes
          have e1 : ((k + 1 : Nat) : Int).toNat - ((k : Nat) : Int).toNat = [m].length := by simp
          rw [e1]
          simp only [Int.toNat_natCast, vcs, eqV, nilV, Option.map_some, Nat.mul_one, implies_true, true_and, and_true, and_self]
          refine (same14_c (cp := c') (cq := co - k) hml mO hmr hmr (by simp)).mono ?_
          rintro _ w284 ⟨rfl, hf284⟩
          simp only [vcs, eqV, nilV, Option.map_some, Nat.mul_one, implies_true, true_and, and_true, and_self]
          refine br_ndec (fun h => absurd trivial h) (fun _ => ?_)
          refine br_ndec (fun h => absurd trivial h) (fun _ => ?_)
          exact hC3.keep hf284
        · simp only [h21, h22, Int.toNat_natCast, hc7, vcs, eqV, nilV, Option.map_some, Nat.mul_one, implies_true, true_and, and_true, and_self]
          refine ⟨by omega, ?_⟩
          refine br_dec (fun h => absurd h (by simp)) (fun _ => ?_)
          refine br_dec (fun h => absurd h (by simp)) (fun _ => ?_)
          refine br_ndec (fun _ => ?_) (fun h => absurd h (by simp))
          refine br_ndec (fun h => absurd trivial h) (fun _ => ?_)
          exact hC3
      rintro u6 w292 hC4
      have hC4 : Comes w w292 FA FB A B b' a S (.slice ps yss.length cs) (.slice po O.length co) g yss O := hC4
      refine ⟨by omega, ?_⟩
      refine hC4.mark (by omega) fun w295 hC5 => ?_
      exact ⟨S.set k true, b', by rw [List.length_set]; exact hSl, hwin3, hC5⟩
    · rintro u4 w298 ⟨S', b', hSl', hwin', hC'⟩
      rw [show IntKind.i64.wrap ((i : Int) + 1) = ((i + 1 : Nat) : Int) from (w64 (by omega)).trans (by omega)]
      refine ⟨⟨i + 1, S', b', by omega, by omega, rfl, hSl', hwin', hC'⟩, ?_⟩
      show 40 - ((i + 1 : Nat) : Int).toNat < 40 - (i : Int).toNat
      omega
  · rintro u3 w303 hf
    exact hf
end Go.Proofs.YtipikchkbmgloaaDoor
