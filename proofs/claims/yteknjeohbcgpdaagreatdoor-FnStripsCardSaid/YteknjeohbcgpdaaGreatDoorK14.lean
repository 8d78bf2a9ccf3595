/-
  DERIVED: THE SHELF's CONTRACTS AT THIS DUMP, IN PLAIN WORDS (tools/lay-plain.mjs out of 'TryzShelfA.lean', which tools/lay-shelf.mjs wrote): THE SAME DECLARATIONS UNDER THE SAME NAMES: 'import', 'namespace', 'open', 'def', 'theorem' AND NOTHING ELSE: no command of the shelf's: FOR A HAND-IN. Each laying: the table of numbers ('.._ren') and one theorem, a field a fact of the dump's own or the kernel's comparison; each contract: ONE APPLICATION.
-/
import Derived.Test.YteknjeohbcgpdaaGreatDoorK0
import Derived.Shelf.Strings.SlTrimAscii
import Derived.Shelf.Strings.OnBuilder
import Derived.Shelf.Small.Wraps
import Derived.Shelf.Utf8.RuneCount
import Derived.Shelf.Strings.Shaped
import Derived.Shelf.Sort.Plain
import Derived.Shelf.Strconv.AppendUint10
import Derived.Shelf.Strings.SplitShaped
import Derived.Shelf.Strings.Explode
import Derived.Shelf.Unicode.DecodeLast
import Derived.Shelf.Slices.Clone
import Derived.Shelf.Slices.SearchI
import Derived.Shelf.Slices.Cells
import Derived.Shelf.Slices.In.SortNone
import Derived.Shelf.SlicesE.Clone
import Derived.Shelf.SlSortCmp.NoneTotal
import Derived.Test.YteknjeohbcgpdaaGreatDoorProg
namespace Go.Proofs
open Go.Shelf
def Tryz.Je:Go.Shelf.Ren:=⟨fun | 160=>81 | 232=>140 | 231=>139 | 227=>141 | 234=>143 | 233=>142 | 236=>145 | 235=>144 | 228=>183 | 271=>186 | 151=>185 | 197=>184 | 120=>212 | 152=>211 | 260=>210 | 137=>239 | 119=>240 | 224=>189 | 225=>188 | 217=>187 | 266=>213|n=>n,fun | 9=>9 | 4=>4 | 3=>3 | 5=>5 | 117=>165 | 116=>164 | 0=>0 | 124=>168 | 21=>21 | 105=>205 | 46=>208 | 119=>245 | 139=>248 | 138=>247|n=>n,fun | 3=>1 | 4=>2|n=>n⟩
theorem Tryz.VO:Go.Proofs.Lays.n160 Tryz.prog Tryz.Je:={
 mixed:=by kernel_rfl
 f119:=Tryz.func240.trans (congrArg some (by kernel_rfl))
 f120:=Tryz.func212.trans (congrArg some (by kernel_rfl))
 f137:=Tryz.func239.trans (congrArg some (by kernel_rfl))
 f151:=Tryz.func185.trans (congrArg some (by kernel_rfl))
 f152:=Tryz.func211.trans (congrArg some (by kernel_rfl))
 f160:=Tryz.func81.trans (congrArg some (by kernel_rfl))
 f197:=Tryz.func184.trans (congrArg some (by kernel_rfl))
 f217:=Tryz.func187.trans (congrArg some (by kernel_rfl))
 f224:=Tryz.func189.trans (congrArg some (by kernel_rfl))
 f225:=Tryz.func188.trans (congrArg some (by kernel_rfl))
 f227:=Tryz.func141.trans (congrArg some (by kernel_rfl))
 f228:=Tryz.func183.trans (congrArg some (by kernel_rfl))
 f231:=Tryz.func139.trans (congrArg some (by kernel_rfl))
 f232:=Tryz.func140.trans (congrArg some (by kernel_rfl))
 f233:=Tryz.func142.trans (congrArg some (by kernel_rfl))
 f234:=Tryz.func143.trans (congrArg some (by kernel_rfl))
 f235:=Tryz.func144.trans (congrArg some (by kernel_rfl))
 f236:=Tryz.func145.trans (congrArg some (by kernel_rfl))
 f260:=Tryz.func210.trans (congrArg some (by kernel_rfl))
 f266:=Tryz.func213.trans (congrArg some (by kernel_rfl))
 f271:=Tryz.func186.trans (congrArg some (by kernel_rfl))
 t0:=Tryz.underlying0
 a0:=Tryz.isAgg0
 z0:=Tryz.sizeOf0
 v0:=Tryz.zeroValue0
 t3:=Tryz.underlying3
 a3:=Tryz.isAgg3
 z3:=Tryz.sizeOf3
 v3:=Tryz.zeroValue3
 t4:=Tryz.underlying4
 a4:=Tryz.isAgg4
 z4:=Tryz.sizeOf4
 v4:=Tryz.zeroValue4
 t5:=Tryz.underlying5
 a5:=Tryz.isAgg5
 z5:=Tryz.sizeOf5
 v5:=Tryz.zeroValue5
 t9:=Tryz.underlying9
 a9:=Tryz.isAgg9
 z9:=Tryz.sizeOf9
 v9:=Tryz.zeroValue9
 t21:=Tryz.underlying21
 a21:=Tryz.isAgg21
 z21:=Tryz.sizeOf21
 v21:=Tryz.zeroValue21
 t46:=Tryz.underlying208
 a46:=Tryz.isAgg208
 z46:=Tryz.sizeOf208
 v46:=Tryz.zeroValue208
 t105:=Tryz.underlying205
 a105:=Tryz.isAgg205
 z105:=Tryz.sizeOf205
 v105:=Tryz.zeroValue205
 t116:=Tryz.underlying164
 a116:=Tryz.isAgg164
 z116:=Tryz.sizeOf164
 t117:=Tryz.underlying165
 a117:=Tryz.isAgg165
 z117:=Tryz.sizeOf165
 v117:=Tryz.zeroValue165
 t119:=Tryz.underlying245
 a119:=Tryz.isAgg245
 z119:=Tryz.sizeOf245
 t124:=Tryz.underlying168
 a124:=Tryz.isAgg168
 z124:=Tryz.sizeOf168
 v124:=Tryz.zeroValue168
 t138:=Tryz.underlying247
 a138:=Tryz.isAgg247
 z138:=Tryz.sizeOf247
 v138:=Tryz.zeroValue247
 t139:=Tryz.underlying248
 a139:=Tryz.isAgg248
 z139:=Tryz.sizeOf248
 v139:=Tryz.zeroValue248
 g3:=by kernel_rfl
 g4:=by kernel_rfl }
def Tryz.Jg:Go.Shelf.Ren:=⟨fun | 122=>113 | 215=>161|n=>n,fun | 3=>3 | 4=>4|n=>n,fun|n=>n⟩
theorem Tryz.VQ:Go.Proofs.Lays.n122 Tryz.prog Tryz.Jg:={
 mixed:=by kernel_rfl
 f122:=Tryz.func113.trans (congrArg some (by kernel_rfl))
 f215:=Tryz.func161.trans (congrArg some (by kernel_rfl))
 t3:=Tryz.underlying3
 a3:=Tryz.isAgg3
 z3:=Tryz.sizeOf3
 v3:=Tryz.zeroValue3
 t4:=Tryz.underlying4
 a4:=Tryz.isAgg4
 z4:=Tryz.sizeOf4
 v4:=Tryz.zeroValue4 }
open Go.RowKit in
theorem Tryz.cmp_Compare_int(x y:Int)(w:World):
 Calls Tryz.prog 113 #[.int .i64 x,.int .i64 y] w λe w'=>e=.returned (.int .i64 (Lib.compareInt x y))/\w'=w:=Any.cmp_Compare_int Tryz.VQ x y w
def Tryz.Jd:Go.Shelf.Ren:=⟨fun | 189=>201 | 125=>200 | 257=>228 | 128=>226 | 129=>227 | 294=>246 | 295=>247 | 296=>248 | 297=>249 | 298=>250 | 299=>251 | 216=>252 | 300=>253 | 301=>254 | 328=>263 | 329=>242 | 330=>243 | 331=>264 | 332=>265 | 215=>161 | 343=>271|n=>n,fun | 28=>80 | 3=>3 | 46=>208 | 0=>0 | 51=>223 | 53=>75 | 4=>4 | 183=>231 | 182=>230 | 131=>143 | 5=>5 | 9=>9 | 218=>251 | 222=>255 | 228=>267 | 229=>268|n=>n,fun|n=>n⟩
theorem Tryz.Nq:Go.Proofs.Lays.n189 Tryz.prog Tryz.Jd:={
 mixed:=by kernel_rfl
 f125:=Tryz.func200.trans (congrArg some (by kernel_rfl))
 f128:=Tryz.func226.trans (congrArg some (by kernel_rfl))
 f129:=Tryz.func227.trans (congrArg some (by kernel_rfl))
 f189:=Tryz.func201.trans (congrArg some (by kernel_rfl))
 f215:=Tryz.func161.trans (congrArg some (by kernel_rfl))
 f216:=Tryz.func252.trans (congrArg some (by kernel_rfl))
 f257:=Tryz.func228.trans (congrArg some (by kernel_rfl))
 f294:=Tryz.func246.trans (congrArg some (by kernel_rfl))
 f295:=Tryz.func247.trans (congrArg some (by kernel_rfl))
 f296:=Tryz.func248.trans (congrArg some (by kernel_rfl))
 f297:=Tryz.func249.trans (congrArg some (by kernel_rfl))
 f298:=Tryz.func250.trans (congrArg some (by kernel_rfl))
 f299:=Tryz.func251.trans (congrArg some (by kernel_rfl))
 f300:=Tryz.func253.trans (congrArg some (by kernel_rfl))
 f301:=Tryz.func254.trans (congrArg some (by kernel_rfl))
 f328:=Tryz.func263.trans (congrArg some (by kernel_rfl))
 f329:=Tryz.func242.trans (congrArg some (by kernel_rfl))
 f330:=Tryz.func243.trans (congrArg some (by kernel_rfl))
 f331:=Tryz.func264.trans (congrArg some (by kernel_rfl))
 f332:=Tryz.func265.trans (congrArg some (by kernel_rfl))
 f343:=Tryz.func271.trans (congrArg some (by kernel_rfl))
 t0:=Tryz.underlying0
 a0:=Tryz.isAgg0
 z0:=Tryz.sizeOf0
 v0:=Tryz.zeroValue0
 t3:=Tryz.underlying3
 a3:=Tryz.isAgg3
 z3:=Tryz.sizeOf3
 v3:=Tryz.zeroValue3
 t4:=Tryz.underlying4
 a4:=Tryz.isAgg4
 z4:=Tryz.sizeOf4
 v4:=Tryz.zeroValue4
 t5:=Tryz.underlying5
 a5:=Tryz.isAgg5
 z5:=Tryz.sizeOf5
 v5:=Tryz.zeroValue5
 t9:=Tryz.underlying9
 a9:=Tryz.isAgg9
 z9:=Tryz.sizeOf9
 v9:=Tryz.zeroValue9
 t28:=Tryz.underlying80
 a28:=Tryz.isAgg80
 z28:=Tryz.sizeOf80
 v28:=Tryz.zeroValue80
 t46:=Tryz.underlying208
 a46:=Tryz.isAgg208
 z46:=Tryz.sizeOf208
 v46:=Tryz.zeroValue208
 t51:=Tryz.underlying223
 a51:=Tryz.isAgg223
 z51:=Tryz.sizeOf223
 v51:=Tryz.zeroValue223
 t53:=Tryz.underlying75
 a53:=Tryz.isAgg75
 z53:=Tryz.sizeOf75
 v53:=Tryz.zeroValue75
 t131:=Tryz.underlying143
 a131:=Tryz.isAgg143
 z131:=Tryz.sizeOf143
 v131:=Tryz.zeroValue143
 t182:=Tryz.underlying230
 a182:=Tryz.isAgg230
 z182:=Tryz.sizeOf230
 v182:=Tryz.zeroValue230
 t183:=Tryz.underlying231
 a183:=Tryz.isAgg231
 z183:=Tryz.sizeOf231
 v183:=Tryz.zeroValue231
 t218:=Tryz.underlying251
 a218:=Tryz.isAgg251
 z218:=Tryz.sizeOf251
 v218:=Tryz.zeroValue251
 t222:=Tryz.underlying255
 a222:=Tryz.isAgg255
 z222:=Tryz.sizeOf255
 v222:=Tryz.zeroValue255
 t228:=Tryz.underlying267
 a228:=Tryz.isAgg267
 z228:=Tryz.sizeOf267
 v228:=Tryz.zeroValue267
 t229:=Tryz.underlying268
 a229:=Tryz.isAgg268
 z229:=Tryz.sizeOf268
 v229:=Tryz.zeroValue268 }
open Go.Sort Go.RowKit in
theorem Tryz.slices_Sort_int(blk off cap:Nat)(zs:List Int)(w:World)(hH:Holds (Value.int .i64) w blk off zs.toArray)(hblk:blk<w.heap.size)(hsz:zs.length<4611686018427387904):
 Calls Tryz.prog 201 #[.slice (some ⟨blk,off,none⟩) zs.length cap] w λe w'=>
  e=.returned (.tuple #[])/\∃n os,w'=grow (putRow (Value.int .i64) (Sort.ahead w n) blk off (zs.mergeSort λx y=>decide (x<=y)).toArray) os:=Any.slices_Sort_int Tryz.Nq blk off cap zs w hH hblk hsz
def Tryz.Jf:Go.Shelf.Ren:=⟨fun | 146=>72 | 221=>121 | 268=>171 | 138=>42 | 143=>84 | 195=>82 | 197=>184 | 218=>83 | 219=>146 | 260=>210 | 217=>187 | 225=>188 | 224=>189 | 267=>190 | 266=>213 | 314=>214|n=>n,fun | 9=>9 | 31=>22 | 3=>3 | 4=>4 | 0=>0 | 105=>205 | 21=>21 | 5=>5 | 46=>208 | 119=>245 | 139=>248 | 138=>247 | 146=>224 | 51=>223|n=>n,fun | 1=>0 | 3=>1 | 4=>2|n=>n⟩
theorem Tryz.VP:Go.Proofs.Lays.n146 Tryz.prog Tryz.Jf:={
 mixed:=by kernel_rfl
 f138:=Tryz.func42.trans (congrArg some (by kernel_rfl))
 f143:=Tryz.func84.trans (congrArg some (by kernel_rfl))
 f146:=Tryz.func72.trans (congrArg some (by kernel_rfl))
 f195:=Tryz.func82.trans (congrArg some (by kernel_rfl))
 f197:=Tryz.func184.trans (congrArg some (by kernel_rfl))
 f217:=Tryz.func187.trans (congrArg some (by kernel_rfl))
 f218:=Tryz.func83.trans (congrArg some (by kernel_rfl))
 f219:=Tryz.func146.trans (congrArg some (by kernel_rfl))
 f221:=Tryz.func121.trans (congrArg some (by kernel_rfl))
 f224:=Tryz.func189.trans (congrArg some (by kernel_rfl))
 f225:=Tryz.func188.trans (congrArg some (by kernel_rfl))
 f260:=Tryz.func210.trans (congrArg some (by kernel_rfl))
 f266:=Tryz.func213.trans (congrArg some (by kernel_rfl))
 f267:=Tryz.func190.trans (congrArg some (by kernel_rfl))
 f268:=Tryz.func171.trans (congrArg some (by kernel_rfl))
 f314:=Tryz.func214.trans (congrArg some (by kernel_rfl))
 t0:=Tryz.underlying0
 a0:=Tryz.isAgg0
 z0:=Tryz.sizeOf0
 v0:=Tryz.zeroValue0
 t3:=Tryz.underlying3
 a3:=Tryz.isAgg3
 z3:=Tryz.sizeOf3
 v3:=Tryz.zeroValue3
 t4:=Tryz.underlying4
 a4:=Tryz.isAgg4
 z4:=Tryz.sizeOf4
 v4:=Tryz.zeroValue4
 t5:=Tryz.underlying5
 a5:=Tryz.isAgg5
 z5:=Tryz.sizeOf5
 v5:=Tryz.zeroValue5
 t9:=Tryz.underlying9
 a9:=Tryz.isAgg9
 z9:=Tryz.sizeOf9
 v9:=Tryz.zeroValue9
 t21:=Tryz.underlying21
 a21:=Tryz.isAgg21
 z21:=Tryz.sizeOf21
 v21:=Tryz.zeroValue21
 t31:=Tryz.underlying22
 a31:=Tryz.isAgg22
 z31:=Tryz.sizeOf22
 v31:=Tryz.zeroValue22
 t46:=Tryz.underlying208
 a46:=Tryz.isAgg208
 z46:=Tryz.sizeOf208
 v46:=Tryz.zeroValue208
 t51:=Tryz.underlying223
 a51:=Tryz.isAgg223
 z51:=Tryz.sizeOf223
 v51:=Tryz.zeroValue223
 t105:=Tryz.underlying205
 a105:=Tryz.isAgg205
 z105:=Tryz.sizeOf205
 v105:=Tryz.zeroValue205
 t119:=Tryz.underlying245
 a119:=Tryz.isAgg245
 z119:=Tryz.sizeOf245
 t138:=Tryz.underlying247
 a138:=Tryz.isAgg247
 z138:=Tryz.sizeOf247
 v138:=Tryz.zeroValue247
 t139:=Tryz.underlying248
 a139:=Tryz.isAgg248
 z139:=Tryz.sizeOf248
 v139:=Tryz.zeroValue248
 t146:=Tryz.underlying224
 a146:=Tryz.isAgg224
 z146:=Tryz.sizeOf224
 v146:=Tryz.zeroValue224
 g1:=by kernel_rfl
 g3:=by kernel_rfl
 g4:=by kernel_rfl }
open Go.RowKit Go.Lib in
theorem Tryz.strings_Split(s sep:ByteArray)(m:Int)(w:World)(hs:s.size<4294967281)(hm:w.cell? ⟨0,0,none⟩=some (.int .i64 m))(h1:1<=sep.size):
 Calls Tryz.prog 72 #[.string s,.string sep] w λe w'=>
  e=.returned (.slice (some ⟨w.heap.size,0,none⟩) (Lib.countB s sep+1) (Lib.countB s sep+1))/\w'=w.alloc (.cells ((Lib.splitB sep 0 (Lib.countB s sep) s).map Value.string).toArray 9):=Any.strings_Split Tryz.VP (by kernel_rfl) s sep m w hs hm h1
def Tryz.Ga:Go.Shelf.Ren:=⟨fun | 146=>72 | 221=>121 | 268=>171 | 138=>42 | 143=>84 | 195=>82 | 197=>184 | 218=>83 | 219=>146 | 260=>210 | 217=>187 | 225=>188 | 224=>189 | 267=>190 | 266=>213 | 314=>214|n=>n,fun | 9=>9 | 31=>22 | 3=>3 | 4=>4 | 0=>0 | 105=>205 | 21=>21 | 5=>5 | 46=>208 | 119=>245 | 139=>248 | 138=>247 | 146=>224 | 51=>223|n=>n,fun | 1=>0 | 3=>1 | 4=>2|n=>n⟩
theorem Tryz.RX:Go.Proofs.LaysM.n146 Tryz.prog Tryz.Ga:={
 mixed:=by kernel_rfl
 f138:=Tryz.func42.trans (congrArg some (by kernel_rfl))
 f143:=Tryz.func84.trans (congrArg some (by kernel_rfl))
 f146:=Tryz.func72.trans (congrArg some (by kernel_rfl))
 f195:=Tryz.func82.trans (congrArg some (by kernel_rfl))
 f197:=Tryz.func184.trans (congrArg some (by kernel_rfl))
 f217:=Tryz.func187.trans (congrArg some (by kernel_rfl))
 f218:=Tryz.func83.trans (congrArg some (by kernel_rfl))
 f219:=Tryz.func146.trans (congrArg some (by kernel_rfl))
 f221:=Tryz.func121.trans (congrArg some (by kernel_rfl))
 f224:=Tryz.func189.trans (congrArg some (by kernel_rfl))
 f225:=Tryz.func188.trans (congrArg some (by kernel_rfl))
 f260:=Tryz.func210.trans (congrArg some (by kernel_rfl))
 f266:=Tryz.func213.trans (congrArg some (by kernel_rfl))
 f267:=Tryz.func190.trans (congrArg some (by kernel_rfl))
 f268:=Tryz.func171.trans (congrArg some (by kernel_rfl))
 f314:=Tryz.func214.trans (congrArg some (by kernel_rfl))
 t0:=Tryz.underlying0
 a0:=Tryz.isAgg0
 z0:=Tryz.sizeOf0
 v0:=Tryz.zeroValue0
 t3:=Tryz.underlying3
 a3:=Tryz.isAgg3
 z3:=Tryz.sizeOf3
 v3:=Tryz.zeroValue3
 t4:=Tryz.underlying4
 a4:=Tryz.isAgg4
 z4:=Tryz.sizeOf4
 v4:=Tryz.zeroValue4
 t5:=Tryz.underlying5
 a5:=Tryz.isAgg5
 z5:=Tryz.sizeOf5
 v5:=Tryz.zeroValue5
 t9:=Tryz.underlying9
 a9:=Tryz.isAgg9
 z9:=Tryz.sizeOf9
 v9:=Tryz.zeroValue9
 t21:=Tryz.underlying21
 a21:=Tryz.isAgg21
 z21:=Tryz.sizeOf21
 v21:=Tryz.zeroValue21
 t31:=Tryz.underlying22
 a31:=Tryz.isAgg22
 z31:=Tryz.sizeOf22
 v31:=Tryz.zeroValue22
 t46:=Tryz.underlying208
 a46:=Tryz.isAgg208
 z46:=Tryz.sizeOf208
 v46:=Tryz.zeroValue208
 t51:=Tryz.underlying223
 a51:=Tryz.isAgg223
 z51:=Tryz.sizeOf223
 v51:=Tryz.zeroValue223
 t105:=Tryz.underlying205
 a105:=Tryz.isAgg205
 z105:=Tryz.sizeOf205
 v105:=Tryz.zeroValue205
 t119:=Tryz.underlying245
 a119:=Tryz.isAgg245
 z119:=Tryz.sizeOf245
 t138:=Tryz.underlying247
 a138:=Tryz.isAgg247
 z138:=Tryz.sizeOf247
 v138:=Tryz.zeroValue247
 t139:=Tryz.underlying248
 a139:=Tryz.isAgg248
 z139:=Tryz.sizeOf248
 v139:=Tryz.zeroValue248
 t146:=Tryz.underlying224
 a146:=Tryz.isAgg224
 z146:=Tryz.sizeOf224
 v146:=Tryz.zeroValue224
 g1:=by kernel_rfl
 g3:=by kernel_rfl
 g4:=by kernel_rfl
 i0:=by kernel_rfl
 i3:=by kernel_rfl
 i4:=by kernel_rfl
 i5:=by kernel_rfl
 i9:=by kernel_rfl
 i21:=by kernel_rfl
 i31:=by kernel_rfl
 i46:=by kernel_rfl
 i51:=by kernel_rfl
 i105:=by kernel_rfl
 i138:=by kernel_rfl
 i139:=by kernel_rfl
 i146:=by kernel_rfl
 m1:=by kernel_rfl
 s1_3:=λw h=>Go.Proofs.cell_of_shapedOpen_int (zero:=#[.int .i64 0]) (t:=3) h (of_decide_eq_true (by kernel_rfl)) (by kernel_rfl) rfl (by kernel_rfl) (by kernel_rfl) Tryz.underlying3
 m3:=by kernel_rfl
 m4:=by kernel_rfl }
def Tryz.D6:Go.Shelf.Ren:=⟨fun | 15=>203|n=>n,fun | 22=>80 | 3=>3 | 4=>4|n=>n,fun|n=>n⟩
theorem Tryz.zS:Go.Proofs.Lays2.n15 Tryz.prog Tryz.D6:={
 mixed:=by kernel_rfl
 f15:=Tryz.func203.trans (congrArg some (by kernel_rfl))
 t3:=Tryz.underlying3
 a3:=Tryz.isAgg3
 z3:=Tryz.sizeOf3
 v3:=Tryz.zeroValue3
 t4:=Tryz.underlying4
 a4:=Tryz.isAgg4
 z4:=Tryz.sizeOf4
 v4:=Tryz.zeroValue4
 t22:=Tryz.underlying80
 a22:=Tryz.isAgg80
 z22:=Tryz.sizeOf80
 v22:=Tryz.zeroValue80
 i3:=by kernel_rfl }
open Go.RowKit Go.Lib in
theorem Tryz.slices_Clone_int(b off n c:Nat)(zs:List Int)(w:World)(hz:n<=zs.length)(hbig:n*8<=140737488355328)(hc:∀j,j<zs.length->w.cell? ⟨b,off+j,none⟩=some (.int .i64 (zs.getD j 0))):
 Calls Tryz.prog 203 #[.slice (some ⟨b,off,none⟩) n c] w λe w'=>∃v',e=.returned v'/\w'.ownsRow w.heap.size 3 1 v' n ((zs.take n).map (Value.int .i64))/\v'≠.slice none 0 0/\Below w.heap.size w w':=Any.slices_Clone_int Tryz.zS b off n c zs w hz hbig hc
open Go.RowKit Go.Lib in
theorem Tryz.slices_Clone_int_nil(n c:Nat)(w:World):
 Calls Tryz.prog 203 #[.slice none n c] w λe w'=>e=.returned (.slice none 0 0)/\w'=w:=Any.slices_Clone_int_nil Tryz.zS n c w
open Go.RowKit Go.Lib in
theorem Tryz.slices_Clone_int_zero(a:Addr)(c:Nat)(w:World):
 Calls Tryz.prog 203 #[.slice (some a) 0 c] w λe w'=>∃v',e=.returned v'/\w'.ownsRow w.heap.size 3 1 v' 0 []/\v'≠.slice none 0 0/\Below w.heap.size w w':=Any.slices_Clone_int_zero Tryz.zS a c w
def Tryz.D5:Go.Shelf.Ren:=⟨fun | 20=>204|n=>n,fun | 22=>80 | 3=>3 | 4=>4 | 0=>0|n=>n,fun|n=>n⟩
theorem Tryz.EW:Go.Proofs.Lays2.n20 Tryz.prog Tryz.D5:={
 mixed:=by kernel_rfl
 f20:=Tryz.func204.trans (congrArg some (by kernel_rfl))
 t0:=Tryz.underlying0
 a0:=Tryz.isAgg0
 z0:=Tryz.sizeOf0
 v0:=Tryz.zeroValue0
 t3:=Tryz.underlying3
 a3:=Tryz.isAgg3
 z3:=Tryz.sizeOf3
 v3:=Tryz.zeroValue3
 t4:=Tryz.underlying4
 a4:=Tryz.isAgg4
 z4:=Tryz.sizeOf4
 v4:=Tryz.zeroValue4
 t22:=Tryz.underlying80
 a22:=Tryz.isAgg80
 z22:=Tryz.sizeOf80
 v22:=Tryz.zeroValue80
 i3:=by kernel_rfl }
open Go.RowKit Go.Lib Go.Sort in
theorem Tryz.slices_Compact_int(blk off cap:Nat)(zs:List Int)(w:World)(hH:Holds (Value.int .i64) w blk off zs.toArray)(hsz:zs.length<=9223372036854775807)(hcap:zs.length<=cap):
 Calls Tryz.prog 204 #[.slice (some ⟨blk,off,none⟩) zs.length cap] w λe w'=>e=.returned (.slice (some ⟨blk,off,none⟩) (Lib.compact zs).length cap)/\∃q,w'=putRow (Value.int .i64) (Sort.ahead w q) blk off (Lib.compact zs++List.replicate (zs.length-(Lib.compact zs).length) 0).toArray:=Any.slices_Compact_int Tryz.EW blk off cap zs w hH hsz hcap
open Go.RowKit Go.Lib Go.Sort in
theorem Tryz.slices_Compact_int_empty(a:Option Addr)(cap:Nat)(w:World):
 Calls Tryz.prog 204 #[.slice a 0 cap] w λe w'=>e=.returned (.slice a 0 cap)/\w'=w:=Any.slices_Compact_int_empty Tryz.EW a cap w
open Go.RowKit Go.Sort in
theorem Tryz.slices_Sort_int_none(p:Option Addr)(cap:Nat)(w:World):
 Calls Tryz.prog 201 #[.slice p 0 cap] w λe w'=>e=.returned (.tuple #[])/\w'=w:=Any.slices_Sort_int_none Tryz.Nq p cap w
def Tryz.xN:Go.Shelf.Ren:=⟨fun | 6=>166 | 15=>200 | 14=>202 | 28=>226 | 29=>227 | 20=>229 | 21=>230 | 22=>231 | 23=>232 | 24=>233 | 25=>234 | 26=>235 | 27=>236 | 46=>255 | 47=>242 | 48=>243 | 49=>256 | 50=>257 | 57=>266|n=>n,fun | 22=>189 | 24=>192 | 25=>194 | 3=>3 | 39=>208 | 0=>0 | 53=>223 | 55=>75 | 4=>4 | 46=>231 | 45=>230 | 50=>143 | 5=>5 | 9=>9 | 66=>251 | 70=>255 | 76=>267 | 77=>268|n=>n,fun|n=>n⟩
theorem Tryz.CL:Go.Proofs.SlLaysF0.n6 Tryz.prog Tryz.xN:={
 mixed:=by kernel_rfl
 f6:=⟨Tryz.f166.name,by decide,Tryz.func166.trans (congrArg some (by kernel_rfl))⟩
 f14:=⟨Tryz.f202.name,by decide,Tryz.func202.trans (congrArg some (by kernel_rfl))⟩
 f15:=Tryz.func200.trans (congrArg some (by kernel_rfl))
 f20:=⟨Tryz.f229.name,by decide,Tryz.func229.trans (congrArg some (by kernel_rfl))⟩
 f21:=⟨Tryz.f230.name,by decide,Tryz.func230.trans (congrArg some (by kernel_rfl))⟩
 f22:=⟨Tryz.f231.name,by decide,Tryz.func231.trans (congrArg some (by kernel_rfl))⟩
 f23:=⟨Tryz.f232.name,by decide,Tryz.func232.trans (congrArg some (by kernel_rfl))⟩
 f24:=⟨Tryz.f233.name,by decide,Tryz.func233.trans (congrArg some (by kernel_rfl))⟩
 f25:=⟨Tryz.f234.name,by decide,Tryz.func234.trans (congrArg some (by kernel_rfl))⟩
 f26:=⟨Tryz.f235.name,by decide,Tryz.func235.trans (congrArg some (by kernel_rfl))⟩
 f27:=⟨Tryz.f236.name,by decide,Tryz.func236.trans (congrArg some (by kernel_rfl))⟩
 f28:=Tryz.func226.trans (congrArg some (by kernel_rfl))
 f29:=Tryz.func227.trans (congrArg some (by kernel_rfl))
 f46:=⟨Tryz.f255.name,by decide,Tryz.func255.trans (congrArg some (by kernel_rfl))⟩
 f47:=Tryz.func242.trans (congrArg some (by kernel_rfl))
 f48:=Tryz.func243.trans (congrArg some (by kernel_rfl))
 f49:=⟨Tryz.f256.name,by decide,Tryz.func256.trans (congrArg some (by kernel_rfl))⟩
 f50:=⟨Tryz.f257.name,by decide,Tryz.func257.trans (congrArg some (by kernel_rfl))⟩
 f57:=⟨Tryz.f266.name,by decide,Tryz.func266.trans (congrArg some (by kernel_rfl))⟩
 t0:=Tryz.underlying0
 a0:=Tryz.isAgg0
 z0:=Tryz.sizeOf0
 v0:=Tryz.zeroValue0
 t3:=Tryz.underlying3
 a3:=Tryz.isAgg3
 z3:=Tryz.sizeOf3
 v3:=Tryz.zeroValue3
 t4:=Tryz.underlying4
 a4:=Tryz.isAgg4
 z4:=Tryz.sizeOf4
 v4:=Tryz.zeroValue4
 t5:=Tryz.underlying5
 a5:=Tryz.isAgg5
 z5:=Tryz.sizeOf5
 v5:=Tryz.zeroValue5
 t9:=Tryz.underlying9
 a9:=Tryz.isAgg9
 z9:=Tryz.sizeOf9
 v9:=Tryz.zeroValue9
 t22:=Tryz.underlying189
 a22:=Tryz.isAgg189
 z22:=Tryz.sizeOf189
 v22:=Tryz.zeroValue189
 t25:=Tryz.underlying194
 a25:=Tryz.isAgg194
 z25:=Tryz.sizeOf194
 v25:=Tryz.zeroValue194
 t39:=Tryz.underlying208
 a39:=Tryz.isAgg208
 z39:=Tryz.sizeOf208
 v39:=Tryz.zeroValue208
 t45:=Tryz.underlying230
 a45:=Tryz.isAgg230
 z45:=Tryz.sizeOf230
 v45:=Tryz.zeroValue230
 t46:=Tryz.underlying231
 a46:=Tryz.isAgg231
 z46:=Tryz.sizeOf231
 v46:=Tryz.zeroValue231
 t50:=Tryz.underlying143
 a50:=Tryz.isAgg143
 z50:=Tryz.sizeOf143
 v50:=Tryz.zeroValue143
 t53:=Tryz.underlying223
 a53:=Tryz.isAgg223
 z53:=Tryz.sizeOf223
 v53:=Tryz.zeroValue223
 t55:=Tryz.underlying75
 a55:=Tryz.isAgg75
 z55:=Tryz.sizeOf75
 v55:=Tryz.zeroValue75
 t66:=Tryz.underlying251
 a66:=Tryz.isAgg251
 z66:=Tryz.sizeOf251
 v66:=Tryz.zeroValue251
 t70:=Tryz.underlying255
 a70:=Tryz.isAgg255
 z70:=Tryz.sizeOf255
 v70:=Tryz.zeroValue255
 t76:=Tryz.underlying267
 a76:=Tryz.isAgg267
 z76:=Tryz.sizeOf267
 v76:=Tryz.zeroValue267
 t77:=Tryz.underlying268
 a77:=Tryz.isAgg268
 z77:=Tryz.sizeOf268
 v77:=Tryz.zeroValue268 }
open Go.RowKit Go.Lib Go.Sort in
theorem Tryz.slices_SortFunc{α:Type}[Inhabited α](k:Nat)(aE:∀w,(isAgg 192).run Tryz.prog w=.ok true w)(zE:∀w,(Go.sizeOf 192).run Tryz.prog w=.ok k w)(enc:α->List Value)(hk:∀x,(enc x).length=k)(h1:∀x,∀v∈enc x,v.oneCell'=true)(cf:α->α->Int)(hO:SWO (ltOf cf))(g:Nat)(cb:Array Value)(blk off cap:Nat)(d:Array α)(w:World)(eg:∀args w,(callFunc g args).run Tryz.prog w=.ok (.enter g args) w)(hcmp:CmpLays Tryz.prog g cb enc k cf blk off d.size w)(hH:HoldsK enc k w blk off d)(hblk:blk<w.heap.size)(hsz:d.size<4611686018427387904):
 Calls Tryz.prog 166 #[.slice (some ⟨blk,off,none⟩) d.size cap,.func (.func g) #[] cb] w λe w'=>
  e=.returned (.tuple #[])/\∃d' n os,PermIn 0 d.size d d'/\SortedIn (ltOf cf) 0 d.size d'/\w'=sortWorldK enc k w blk off n d' os:=AnyQ.slices_SortFunc Tryz.CL k aE zE enc hk h1 cf hO g cb blk off cap d w eg hcmp hH hblk hsz
def Tryz.yL:Go.Shelf.Ren:=⟨fun | 6=>163 | 15=>200 | 14=>199 | 28=>226 | 29=>227 | 20=>218 | 21=>219 | 22=>220 | 23=>221 | 24=>222 | 25=>223 | 26=>224 | 27=>225 | 46=>241 | 47=>242 | 48=>243 | 49=>244 | 50=>245 | 57=>262|n=>n,fun | 22=>80 | 24=>3 | 25=>126 | 3=>3 | 39=>208 | 0=>0 | 53=>223 | 55=>75 | 4=>4 | 46=>231 | 45=>230 | 50=>143 | 5=>5 | 9=>9 | 66=>251 | 70=>255 | 76=>267 | 77=>268|n=>n,fun|n=>n⟩
theorem Tryz.DZ:Go.Proofs.SlLaysF.n6 Tryz.prog Tryz.yL:={
 mixed:=by kernel_rfl
 f6:=⟨Tryz.f163.name,by decide,Tryz.func163.trans (congrArg some (by kernel_rfl))⟩
 f14:=⟨Tryz.f199.name,by decide,Tryz.func199.trans (congrArg some (by kernel_rfl))⟩
 f15:=Tryz.func200.trans (congrArg some (by kernel_rfl))
 f20:=⟨Tryz.f218.name,by decide,Tryz.func218.trans (congrArg some (by kernel_rfl))⟩
 f21:=⟨Tryz.f219.name,by decide,Tryz.func219.trans (congrArg some (by kernel_rfl))⟩
 f22:=⟨Tryz.f220.name,by decide,Tryz.func220.trans (congrArg some (by kernel_rfl))⟩
 f23:=⟨Tryz.f221.name,by decide,Tryz.func221.trans (congrArg some (by kernel_rfl))⟩
 f24:=⟨Tryz.f222.name,by decide,Tryz.func222.trans (congrArg some (by kernel_rfl))⟩
 f25:=⟨Tryz.f223.name,by decide,Tryz.func223.trans (congrArg some (by kernel_rfl))⟩
 f26:=⟨Tryz.f224.name,by decide,Tryz.func224.trans (congrArg some (by kernel_rfl))⟩
 f27:=⟨Tryz.f225.name,by decide,Tryz.func225.trans (congrArg some (by kernel_rfl))⟩
 f28:=Tryz.func226.trans (congrArg some (by kernel_rfl))
 f29:=Tryz.func227.trans (congrArg some (by kernel_rfl))
 f46:=⟨Tryz.f241.name,by decide,Tryz.func241.trans (congrArg some (by kernel_rfl))⟩
 f47:=Tryz.func242.trans (congrArg some (by kernel_rfl))
 f48:=Tryz.func243.trans (congrArg some (by kernel_rfl))
 f49:=⟨Tryz.f244.name,by decide,Tryz.func244.trans (congrArg some (by kernel_rfl))⟩
 f50:=⟨Tryz.f245.name,by decide,Tryz.func245.trans (congrArg some (by kernel_rfl))⟩
 f57:=⟨Tryz.f262.name,by decide,Tryz.func262.trans (congrArg some (by kernel_rfl))⟩
 t0:=Tryz.underlying0
 a0:=Tryz.isAgg0
 z0:=Tryz.sizeOf0
 v0:=Tryz.zeroValue0
 t3:=Tryz.underlying3
 a3:=Tryz.isAgg3
 z3:=Tryz.sizeOf3
 v3:=Tryz.zeroValue3
 t4:=Tryz.underlying4
 a4:=Tryz.isAgg4
 z4:=Tryz.sizeOf4
 v4:=Tryz.zeroValue4
 t5:=Tryz.underlying5
 a5:=Tryz.isAgg5
 z5:=Tryz.sizeOf5
 v5:=Tryz.zeroValue5
 t9:=Tryz.underlying9
 a9:=Tryz.isAgg9
 z9:=Tryz.sizeOf9
 v9:=Tryz.zeroValue9
 t22:=Tryz.underlying80
 a22:=Tryz.isAgg80
 z22:=Tryz.sizeOf80
 v22:=Tryz.zeroValue80
 a24:=Tryz.isAgg3
 z24:=Tryz.sizeOf3
 t25:=Tryz.underlying126
 a25:=Tryz.isAgg126
 z25:=Tryz.sizeOf126
 v25:=Tryz.zeroValue126
 t39:=Tryz.underlying208
 a39:=Tryz.isAgg208
 z39:=Tryz.sizeOf208
 v39:=Tryz.zeroValue208
 t45:=Tryz.underlying230
 a45:=Tryz.isAgg230
 z45:=Tryz.sizeOf230
 v45:=Tryz.zeroValue230
 t46:=Tryz.underlying231
 a46:=Tryz.isAgg231
 z46:=Tryz.sizeOf231
 v46:=Tryz.zeroValue231
 t50:=Tryz.underlying143
 a50:=Tryz.isAgg143
 z50:=Tryz.sizeOf143
 v50:=Tryz.zeroValue143
 t53:=Tryz.underlying223
 a53:=Tryz.isAgg223
 z53:=Tryz.sizeOf223
 v53:=Tryz.zeroValue223
 t55:=Tryz.underlying75
 a55:=Tryz.isAgg75
 z55:=Tryz.sizeOf75
 v55:=Tryz.zeroValue75
 t66:=Tryz.underlying251
 a66:=Tryz.isAgg251
 z66:=Tryz.sizeOf251
 v66:=Tryz.zeroValue251
 t70:=Tryz.underlying255
 a70:=Tryz.isAgg255
 z70:=Tryz.sizeOf255
 v70:=Tryz.zeroValue255
 t76:=Tryz.underlying267
 a76:=Tryz.isAgg267
 z76:=Tryz.sizeOf267
 v76:=Tryz.zeroValue267
 t77:=Tryz.underlying268
 a77:=Tryz.isAgg268
 z77:=Tryz.sizeOf268
 v77:=Tryz.zeroValue268 }
open Go.RowKit Go.Lib Go.Sort in
theorem Tryz.uB{α:Type}[Inhabited α](enc:α->Value)(h1:OneCell enc)(cf:α->α->Int)(hO:SWO (ltOf cf))(g:Nat)(cb:Array Value)(blk off cap:Nat)(d:Array α)(w:World)(eg:∀args w,(callFunc g args).run Tryz.prog w=.ok (.enter g args) w)(hcmp:CmpLays1 Tryz.prog g cb enc cf blk off d.size w)(hH:Holds enc w blk off d)(hblk:blk<w.heap.size)(hsz:d.size<4611686018427387904):
 Calls Tryz.prog 163 #[.slice (some ⟨blk,off,none⟩) d.size cap,.func (.func g) #[] cb] w λe w'=>
  e=.returned (.tuple #[])/\∃d' n os,PermIn 0 d.size d d'/\SortedIn (ltOf cf) 0 d.size d'/\w'=sortWorld enc w blk off n d' os:=Any.slices_SortFunc Tryz.DZ enc h1 cf hO g cb blk off cap d w eg hcmp hH hblk hsz
open Go.RowKit Go.Lib in
theorem Tryz.strings_Trim_laid(s cutset:ByteArray)(w:World)(h116:(Tryz.prog.info? 164).map (λi=>(i.zero,i.size))=some (some (.agg (Array.replicate 256 (.bool false))),256))(hs:s.size<=9223372036854775807)(hcs:cutset.size<4294967281)(hascii:∀(j:Nat) b,cutset.data.toList[j]?=some b->b.toNat<128):
 Calls Tryz.prog 81 #[.string s,.string cutset] w λe w'=>e=.returned (.string ⟨(Lib.trimS s.data.toList cutset.data.toList).toArray⟩)/\Below w.heap.size w w':=Any.strings_Trim_laid Tryz.VO h116 s cutset w hs hcs hascii
end Go.Proofs