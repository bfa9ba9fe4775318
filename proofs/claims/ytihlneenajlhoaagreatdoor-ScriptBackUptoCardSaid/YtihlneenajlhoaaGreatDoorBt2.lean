/-
 What the functions of the program name, from number 380 on: tables, by the kernel.
-/
import Derived.Test.YtihlneenajlhoaaGreatDoorProg
import Derived.Test.YtihlneenajlhoaaGreatDoorBt0
import Derived.KernelRfl
set_option linter.unusedVariables false
set_option maxRecDepth 1000000
namespace Go.Proofs.YtihlneenajlhoaaGreatDoor
open Go Go.Proofs.YtihlneenajlhoaaGreatDoor.big Go.Proofs.YtihlneenajlhoaaGreatDoor.ae
def tl2:List (List Nat):=[[],[466,466,467,468,471,385,471,385],[472,370,407],[280,281,440,363],[473,475,474],[477,478],[479],[],[316,316],[240],[],[392],[480,480,480],[],[481],[482],[483,442],[81,484],[],[],[119],[485,121],[155],[486,487,488],[490,489],[491,492,493],[369,494,495],[288,136,369,496,497,498,499,500,160,501],[495],[408],[495,502],[411],[503,503,503],[504],[505,505,505],[506],[507,508,415,418],[418],[510,509],[511],[364,512],[],[],[286],[286],[],[],[426],[426],[426],[418],[463,432],[513],[378,358,441,420,435],[514,283],[420,435,436,434],[439,514,515,437,516,437,514],[514,517],[111,438],[],[359,518],[441,283,519,420,346,516,515,516,515],[],[],[],[446],[520],[],[],[521,449,449],[],[522],[454,452],[],[],[],[523],[524,373,524,373,373,373],[],[525,459,459],[176,526,176],[264,527,269],[231,171,231,229],[532],[464],[533,534,535,536,537,538,539,540,465,465],[136],[471,385,469],[469,470],[370,369,541],[370,369,543,370,369],[544],[466,470],[],[545],[476],[546,546,547,549,549,548],[550],[240,551],[],[316],[],[],[],[552],[553,120],[554,454,454],[555,556,557,558],[555,557,558,559],[560,561,562],[563],[369,497,564,565,567,566],[568,569],[369,497,570,568,571],[565,572],[573],[574,497,575,496],[577,576],[],[578,579],[454],[580,378],[581],[],[],[],[],[582],[583],[],[],[],[108,147,108,147,108,108,442,442,447],[513],[439],[584],[584],[111],[585,420,518,515,516,283],[106],[207],[586,586,586],[587,588],[524,160,371,371,589,590,590,171,591,591],[176,372,592,171,176],[593,593,593],[218,594],[528,529,367,530,531],[595,363,361,353],[595,530],[],[137,530],[111,532],[],[596,596],[389,390],[597,597,597,598],[],[],[],[],[542],[499,497,136,497],[599,499,600,543],[],[601,601,602,602],[473],[549],[],[393,393],[],[603,604,605,606,607,608,609,610,611,551,551],[],[],[],[557],[],[454],[370,577],[555,557,555,612],[613,561,613,561],[],[561,614,615,616,617,617,618,619,620,613,613,561,621,622,623,624,623,624,623,625,627,626],[481],[628],[497,497],[629,630,629,631,564],[632],[369,633],[634,497,406,635,578,636,500,637,638,635]]
def ti2:List (Option String):=aq [none,none,none,none,none,none,none,some "sync/atomic.StorePointer"] (rl 55 none (aq [some "math/bits.Add64",some "math/bits.Sub64"] (rl 59 none (aq [some "internal/bytealg.abigen_runtime_cmpstring",none,some "sync/atomic.LoadUint32",none,none,some "sync/atomic.StoreUint32",none,some "sync/atomic.AddInt64"] (rl 40 none (aq [some "internal/bytealg.MakeNoZero"] (rl 17 none [])))))))
def tg2:List (List Nat):=rl 66 [] (aq [[7,8],[],[],[],[],[9]] (rl 118 [] []))
def te2:List (Option String):=rl 190 none []
theorem hl2:((Tryz.prog.funcs.toList.drop 380).take 190).map Tryz.prog.leadsTo=tl2:=by kernel_rfl
theorem hi2:((Tryz.prog.funcs.toList.drop 380).take 190).map kIn=ti2:=by kernel_rfl
theorem hg2:((Tryz.prog.funcs.toList.drop 380).take 190).map kGl=tg2:=by kernel_rfl
theorem he2:((Tryz.prog.funcs.toList.drop 380).take 190).map kEn=te2:=by kernel_rfl
theorem hf2:((Tryz.prog.funcs.toList.drop 380).take 190).all (fun f=>f.params.all fun t=>decide (t<Tryz.prog.types.size))=true:=by kernel_rfl
end Go.Proofs.YtihlneenajlhoaaGreatDoor
/-
 What the functions of the program name, from number 570 on: tables, by the kernel.
-/
set_option linter.unusedVariables false
set_option maxRecDepth 1000000
namespace Go.Proofs.YtihlneenajlhoaaGreatDoor
open Go Go.Proofs.YtihlneenajlhoaaGreatDoor.big Go.Proofs.YtihlneenajlhoaaGreatDoor.ae
def tl3:List (List Nat):=aq [[],[639,570,497,136,497,497,500,137],[640,641,642,643,643,643,642],[644],[498],[136,497],[576],[645,645],[646],[574,499],[369,497,647],[502,648],[649,650,651,652,653],[654,649,655,656,651],[106,367],[283,283,420],[],[],[],[657,657,658,160,186,186,659,24],[661,660],[],[260],[],[],[346],[],[598],[662,662,662],[],[542,497,543],[],[663,602,602],[609],[664,664],[389,390],[665,665,665,666],[],[609,609,609],[667,667],[609,609],[609,609,609,609],[186,556,555,558,556,645,577,576],[561],[],[561,614],[627,561,626,626,561,561,668,627],[],[],[561,561,618,561,561,618],[561,669,613,561,618,561,561,561,618,670,623,624,613],[671,618],[561,561],[561,561,671,561,622,671,622],[561,621,627,622,627,668,626],[624,613,672,561,614,561,614,561,614,561,673],[],[561],[],[630,628,630,630,631],[674],[568,675],[],[676,677],[678,679],[],[],[486,559],[407],[369,497,681,680,628,682,683],[684,684,643,685],[],[684],[684,24],[686,686,687,573,688,688],[],[],[689,690,689,690,691,692,565,692],[298],[],[],[],[],[693,650,694,695,650,696,697,696,695,655,651,652],[],[],[698,650,699,699],[],[450,700],[701],[702],[295],[],[703,703,703],[609,609],[666],[704,704,704],[],[561,705,561,627,561,705,627,705,561,614,627],[561,618],[706,45,331,707],[],[678,708],[709,615,561,614,615,561,710,711,710,622,710,668,627],[],[639],[],[712,713,713,712,712,713],[120,714,397,40,328,715,41,328,42],[],[716,161],[567,674],[646,717,681,92,92,680,716,718,628,681,628,161,160],[719,681,680,720,681,680,721,720,681,680,721,720,720],[],[684,643,684,684,497,722,723],[687],[394,24],[],[111],[724,691],[],[497,725],[],[],[],[],[],[],[],[],[],[],[],[609],[618],[156,156,156],[447],[],[613,626],[561,613,622,668],[],[726],[727,633],[],[],[],[],[728,646,729,728,728,728,567,728],[730,730,730,730,730,730],[716,718,628],[],[684,684,641,642,643,643,642,684,641,642,684,731,641],[732,731,494,497,733,641],[],[734,735,734,736],[],[500,370,737],[580,378],[730],[24],[],[],[684,731,738,738,92,186,92,739,641,740],[741,735,741,736],[742],[],[737,279],[111],[],[642,684,738,643,643,642,684,738],[692,647]] (rl 18 [] [])
def ti3:List (Option String):=rl 12 none (aq [some "(*internal/sync.Mutex).Lock",some "(*internal/sync.Mutex).Unlock"] (rl 65 none (aq [some "internal/race.Disable",some "sync/atomic.CompareAndSwapInt32",some "internal/race.Enable",some "internal/race.Acquire",some "(*internal/sync.Mutex).lockSlow",some "internal/race.ReleaseMerge",some "sync/atomic.AddInt32",some "(*internal/sync.Mutex).unlockSlow"] (rl 36 none (aq [some "internal/sync.runtime_canSpin",some "internal/sync.runtime_doSpin",some "internal/sync.throw",some "internal/sync.runtime_nanotime",some "internal/sync.runtime_SemacquireMutex",some "internal/sync.fatal",some "internal/sync.runtime_Semrelease"] (rl 43 none [some "(runtime.boundsError).Error",some "(runtime.boundsError).RuntimeError",some "(runtime.errorString).Error",some "(runtime.errorString).RuntimeError",some "(runtime.plainError).Error",some "(runtime.plainError).RuntimeError",some "(runtime.errorAddressString).Error",some "(runtime.errorAddressString).RuntimeError",some "(*runtime.TypeAssertionError).Error",some "(*runtime.TypeAssertionError).RuntimeError",some "(*runtime.PanicNilError).Error",some "(*runtime.PanicNilError).RuntimeError",some "(*internal/abi.Type).Align",some "(internal/runtime/maps.unhashableTypeError).Error",some "(internal/runtime/maps.unhashableTypeError).RuntimeError",some "(*strings.Builder).Reset",some "(*jalousie/inc.Session).Flips"]))))))
def tg3:List (List Nat):=rl 190 [] []
def te3:List (Option String):=rl 190 none []
theorem hl3:((Tryz.prog.funcs.toList.drop 570).take 190).map Tryz.prog.leadsTo=tl3:=by kernel_rfl
theorem hi3:((Tryz.prog.funcs.toList.drop 570).take 190).map kIn=ti3:=by kernel_rfl
theorem hg3:((Tryz.prog.funcs.toList.drop 570).take 190).map kGl=tg3:=by kernel_rfl
theorem he3:((Tryz.prog.funcs.toList.drop 570).take 190).map kEn=te3:=by kernel_rfl
theorem hf3:((Tryz.prog.funcs.toList.drop 570).take 190).all (fun f=>f.params.all fun t=>decide (t<Tryz.prog.types.size))=true:=by kernel_rfl
end Go.Proofs.YtihlneenajlhoaaGreatDoor
/-
 What the functions of the program name, from number 760 on: tables, by the kernel.
-/
set_option linter.unusedVariables false
set_option maxRecDepth 1000000
namespace Go.Proofs.YtihlneenajlhoaaGreatDoor
open Go Go.Proofs.YtihlneenajlhoaaGreatDoor.big Go.Proofs.YtihlneenajlhoaaGreatDoor.ae
def tl4:List (List Nat):=rl 21 [] []
def ti4:List (Option String):=[some "(*jalousie/dom.Tree).Len",some "(*jalousie/full.Sheet).Len",some "(*jalousie/point.Index).Asked",some "(*jalousie/memo.Count).Value",some "(*jalousie/match.Table).Asked",some "(*sync/atomic.Pointer[[]jalousie/api.Told]).Load",some "(*errors.errorString).Error",some "(internal/abi.Kind).String",some "var's door: unicode.White_Space holds what its initialiser lays, and nothing in the loaded text writes it or what it leads to (look 11-elder)",some "var's door: unicode._White_Space holds what its initialiser lays, and nothing in the loaded text writes it or what it leads to (look 11-elder)",some "var's door: gosem.cut.vars holds initialisers alone; see the manifest's row cutvarsword (look 11, test files too)",some "var's door: internal/strconv.uint64pow10 is laid by its own initialiser, plain data (look 11)",some "var's door: math/bits.deBruijn32tab is laid by its own initialiser, plain data (look 11)",some "var's door: math/bits.deBruijn64tab is laid by its own initialiser, plain data (look 11)",some "var's door: strings.asciiSpace is laid by its own initialiser, plain data (look 11)",some "var's door: the look of gosem.cut.vars went over the folder that the caller named as the repository's root (look 11)",some "var's door: unicode.White_Space is laid by its own initialiser, on the list of Go's own tables (list 10)",some "var's door: unicode._White_Space is laid by its own initialiser, on the list of Go's own tables (list 10)",some "var's door: unicode/utf8.acceptRanges is laid by its own initialiser, plain data (look 11)",some "var's door: unicode/utf8.first is laid by its text alone (pinned 1)",none]
def XL:List (List Nat):=rl 20 [] [[4,5,1,3,10,10,9,6]]
def XN:List (Option String):=rl 21 none []
theorem hl4:((Tryz.prog.funcs.toList.drop 760).take 21).map Tryz.prog.leadsTo=tl4:=by kernel_rfl
theorem hi4:((Tryz.prog.funcs.toList.drop 760).take 21).map kIn=ti4:=by kernel_rfl
theorem hg4:((Tryz.prog.funcs.toList.drop 760).take 21).map kGl=XL:=by kernel_rfl
theorem he4:((Tryz.prog.funcs.toList.drop 760).take 21).map kEn=XN:=by kernel_rfl
theorem hf4:((Tryz.prog.funcs.toList.drop 760).take 21).all (fun f=>f.params.all fun t=>decide (t<Tryz.prog.types.size))=true:=by kernel_rfl
end Go.Proofs.YtihlneenajlhoaaGreatDoor
