/-
 The types' rows are laid out, part by part, by the kernel.
-/
import Derived.Test.YtihlneenajlhoaaGreatDoorProg
import Derived.Test.YtihlneenajlhoaaGreatDoorBt0
import Derived.KernelRfl
import Derived.Test.YtihlneenajlhoaaGreatDoorBt2
import Derived.Test.YtihlneenajlhoaaGreatDoorRows
import Derived.JoinedOf
import Derived.Test.YtihlneenajlhoaaGreatDoorJ0
import Derived.Test.YtihlneenajlhoaaGreatDoorJ1
import Derived.Test.YtihlneenajlhoaaGreatDoorJ5
import Derived.Test.YtihlneenajlhoaaGreatDoorJ6
import Derived.Test.YtihlneenajlhoaaGreatDoorJ9
set_option linter.unusedVariables false
set_option maxRecDepth 1000000
namespace Go.Proofs.YtihlneenajlhoaaGreatDoor
open Go Go.Proofs.YtihlneenajlhoaaGreatDoor.big Go.Proofs.YtihlneenajlhoaaGreatDoor.ae
theorem ho0:(((List.range Tryz.prog.types.size).drop 0).take 300).all (rowFine Tryz.prog)=true:=by kernel_rfl
theorem ho1:(((List.range Tryz.prog.types.size).drop 300).take 300).all (rowFine Tryz.prog)=true:=by kernel_rfl
theorem ho2:(((List.range Tryz.prog.types.size).drop 600).take 283).all (rowFine Tryz.prog)=true:=by kernel_rfl
theorem kR:Tryz.prog.globals.all (fun g=>decide (g.type<Tryz.prog.types.size))=true:=by kernel_rfl
def tl:=(tl0++(tl1++(tl2++(tl3++(tl4++([]:List (List Nat)))))))
theorem hl:Tryz.prog.funcs.toList.map Tryz.prog.leadsTo=tl:=(Eo _ _ 0 190 hl0 (Eo _ _ 190 190 hl1 (Eo _ _ 380 190 hl2 (Eo _ _ 570 190 hl3 (Eo _ _ 760 21 hl4 (by kernel_rfl:(Tryz.prog.funcs.toList.drop 781).map Tryz.prog.leadsTo = []))))))
theorem sl:tl.length+1<2 ^ 24:=of_decide_eq_true (by kernel_rfl)
def ti:=(ti0++(ti1++(ti2++(ti3++(ti4++([]:List (Option String)))))))
theorem hi:Tryz.prog.funcs.toList.map kIn=ti:=(Eo _ _ 0 190 hi0 (Eo _ _ 190 190 hi1 (Eo _ _ 380 190 hi2 (Eo _ _ 570 190 hi3 (Eo _ _ 760 21 hi4 (by kernel_rfl:(Tryz.prog.funcs.toList.drop 781).map kIn = []))))))
theorem si:ti.length+1<2 ^ 24:=of_decide_eq_true (by kernel_rfl)
def tg:=(tg0++(tg1++(tg2++(tg3++(XL++([]:List (List Nat)))))))
theorem hg:Tryz.prog.funcs.toList.map kGl=tg:=(Eo _ _ 0 190 hg0 (Eo _ _ 190 190 hg1 (Eo _ _ 380 190 hg2 (Eo _ _ 570 190 hg3 (Eo _ _ 760 21 hg4 (by kernel_rfl:(Tryz.prog.funcs.toList.drop 781).map kGl = []))))))
theorem sg:tg.length+1<2 ^ 24:=of_decide_eq_true (by kernel_rfl)
def te:=(te0++(XM++(te2++(te3++(XN++([]:List (Option String)))))))
theorem he:Tryz.prog.funcs.toList.map kEn=te:=(Eo _ _ 0 190 he0 (Eo _ _ 190 190 he1 (Eo _ _ 380 190 he2 (Eo _ _ 570 190 he3 (Eo _ _ 760 21 he4 (by kernel_rfl:(Tryz.prog.funcs.toList.drop 781).map kEn = []))))))
theorem se:te.length+1<2 ^ 24:=of_decide_eq_true (by kernel_rfl)
theorem bl:tl.all (fun l=>l.all fun x=>Nat.blt (x+1) 16777216)=true:=by kernel_rfl
def clo:List Nat:=[8,18,39,75,27,49,50,92,123,155,23,51,28,52,53,93,124,156,106,108,147,73,107,54,55,56,57,58,59,60,61,94,62,40,81,113,76,34,72,105,143,144,207,206,208,145,146,209,210,272,273,77,41,36,42,78,111,79,112,148,154,212,115,151,213,117,116,211,87,119,80,12,31,69,99,127,128,101,134,100,129,158,159,161,162,160,214,130,163,131,164,215,274,355,430,418,510,509,419,511,344,415,506,416,507,582,649,650,651,652,653,693,694,695,696,697,655,508,583,654,656,698,699,216,275,166,218,277,356,431,463,532,432,513,278,279,217,276,219,220,280,357,378,464,358,433,441,283,364,365,442,443,444,445,446,520,447,519,420,512,346,516,584,367,515,435,436,439,514,437,517,434,281,359,438,360,221,266,282,362,361,440,518,585,363,222,284,366,448,449,521,586,285,286,165,133,170,135,185,241,171,172,173,225,287,288,368,450,451,522,587,588,289,136,186,290,370,453,454,369,452,174,226,291,175,227,292,293,176,294,371,261,338,339,340,413,504,372,455,132,167,223,168,169,224,295,373,456,523,524,592,260,589,657,658,700,659,701,24,44,85,118,152,590,661,660,702,591,457,296,374,458,459,525,593,297,298,300,301,299,228,302,201,270,271,351,352,354,353,269,350,426,427,428,429,375,303,376,460,526,594,462,231,229,461,264,343,527,528,595,529,530,531,137,187,242,320,394,481,321,324,322,323,246,329,396,483,397,484,552,398,330,331,399,400,401,485,553,120,153,121,243,325,244,326,327,328,395,482,245,247,332,402,248,188,178,177,179,180,181,230,304,233,308,384,473,475,476,546,547,549,393,548,474,545,601,602,663,703,386,479,385,477,550,478,240,319,551,603,609,667,604,664,605,389,390,606,665,666,704,607,608,610,611,232,305,377,306,379,465,533,534,596,535,536,597,598,662,537,538,539,540,380,381,466,467,471,544,469,541,542,499,578,646,579,574,498,497,577,645,576,468,470,543,599,600,307,382,472,407,496,575,500,501,580,647,689,690,724,691,692,725,734,741,735,742,736,565,383,182,234,235,236,237,183,238,309,387,184,239,310,316,311,388,312,313,391,392,480,314,315,317,318,13,32,71,104,141,204,142,205,9,22,25,45,86,88,89,26,46,47,90,91,122,48,70,102,103,138,189,250,333,404,490,563,489,560,613,561,562,614,615,616,627,626,668,705,618,617,619,620,669,670,706,707,623,671,622,624,621,625,672,678,714,715,708,673,709,710,711,403,486,554,487,555,557,556,558,488,559,612,334,405,491,564,628,567,632,566,629,630,674,631,568,633,676,677,712,726,713,727,737,675,639,681,680,716,682,717,718,728,729,730,683,719,720,721,492,569,634,679,406,494,572,640,684,643,685,722,641,642,731,723,732,733,738,739,740,495,573,644,686,687,688,635,636,637,638,493,570,571,335,408,409,410,502,581,648,411,249,190,252,251,191,253,192,254,193,255,194,256,195,257,258,336,337,412,503,196,259,197,262,341,342,414,505,198,263,199,139,200,265,345,417,267,348,347,421,423,422,424,349,268,425,140,203,202,16,35,21,43,82,83,38,84,74,109,114,150,149,110,10,29,63,95,30,64,96,65,97,66,67,98,125,126,157,68,11,15]
theorem Tt:Tryz.prog.closure 8=clo:=(kS hl sl bl 8 (by decide)).trans (by kernel_rfl)
theorem XO:Tryz.prog.unfollowed 8=true:=kT (g:=101) Tt (by kernel_rfl) Tryz.func101 rfl (by kernel_rfl)
theorem jj1:laidOutB Tryz.prog=true:=by
 unfold laidOutB
 have h1:(List.range Tryz.prog.types.size).all (rowFine Tryz.prog)=true:=(JS _ _ 0 300 ho0 (JS _ _ 300 300 ho1 (JS _ _ 600 283 ho2 (by kernel_rfl:((List.range Tryz.prog.types.size).drop 883).all (rowFine Tryz.prog)=true))))
 have h2:Tryz.prog.funcs.all (fun f=>f.params.all fun t=>decide (t<Tryz.prog.types.size))=true:=by
  rw [←Array.all_toList]
  exact (JS _ _ 0 190 hf0 (JS _ _ 190 190 hf1 (JS _ _ 380 190 hf2 (JS _ _ 570 190 hf3 (JS _ _ 760 21 hf4 (by kernel_rfl:(Tryz.prog.funcs.toList.drop 781).all (fun f=>f.params.all fun t=>decide (t<Tryz.prog.types.size))=true))))))
 rw [h1,kR,h2]
 rfl
theorem jj9:(Rows.scriptBackUptoRow.inPlace==Tryz.prog.inPlace 8)=true:=by rw [inPlace_eq hi si Tt];kernel_rfl
theorem kU:(Rows.scriptBackUptoRow.unfollowed==Tryz.prog.unfollowed 8)=true:=by rw [XO];kernel_rfl
theorem kV:(Rows.scriptBackUptoRow.recurses==Tryz.prog.recurses 8)=true:=by rw [kW XO];kernel_rfl
theorem kX:(Rows.scriptBackUptoRow.named==Tryz.prog.varsNamed 8)=true:=by rw [kY hg sg he se Tt];kernel_rfl
end Go.Proofs.YtihlneenajlhoaaGreatDoor
set_option linter.unusedVariables false
namespace Go.Proofs.YtihlneenajlhoaaGreatDoor
open Go
set_option maxRecDepth 100000 in
theorem closed:joinedFacts Tryz.prog 8 Tryz.f8 (Rows.OpenSpec.upto Rows.scriptBackSpec).bare Rows.scriptBackUptoRow=true:=by
 unfold joinedFacts
 simp only [Bool.and_eq_true]
 exact ⟨⟨⟨⟨⟨⟨⟨⟨⟨⟨⟨⟨⟨⟨⟨⟨⟨⟨⟨⟨⟨⟨⟨⟨⟨⟨⟨⟨⟨⟨⟨j0,jj1⟩,j2⟩,j3⟩,j4⟩,j5⟩,j6⟩,j7⟩,j8⟩,jj9⟩,kU⟩,kV⟩,kX⟩,j13⟩,j14⟩,j15⟩,j16⟩,j17⟩,j18⟩,j19⟩,j20⟩,j21⟩,j22⟩,j23⟩,j24⟩,j25⟩,j26⟩,j27⟩,j28⟩,j29⟩,j30⟩,j31⟩
end Go.Proofs.YtihlneenajlhoaaGreatDoor
