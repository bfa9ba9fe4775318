/-
 jalousielaw27.ScriptBack returns true where what it reads is of bulk at most 1048576: the row, the listed tables tied to the program's text. No condition beside the row's own.
-/
import Derived.Test.YtihlneenajlhoaaGreatDoorBj
import Derived.Test.YtihlneenajlhoaaGreatDoorAwOk
import Derived.Test.YtihlneenajlhoaaGreatDoorT
import Derived.Test.YtihlneenajlhoaaGreatDoorL
import Derived.Test.YtihlneenajlhoaaGreatDoorW3
import Derived.Test.YtihlneenajlhoaaGreatDoorW4
import Derived.Test.YtihlneenajlhoaaGreatDoorS10
import Derived.Test.YtihlneenajlhoaaGreatDoorS3
import Derived.Carry
import Derived.ProofKit
import Derived.OpenShut
import Derived.Lib.LaidU8
import Derived.SevenTiedAt
import Derived.Deep.DeepHandedRow
set_option linter.unusedVariables false
namespace Go.Proofs.YtihlneenajlhoaaGreatDoor
open Go Go.ChangeShapes Go.WideShapes Go.ChangeAt Go.RowKit Go.Proofs.YtihlneenajlhoaaGreatDoor.ae
def Tv (v:Value):DataW Unit:=match v with | .int .u8 n=>.lit (.int .u8 n) | _=>.nil
theorem lH:(Rows.laid_strings_asciiSpace:DataW Unit)=.agg (ascii.map Tv):=by kernel_rfl
theorem lI:ascii.all (fun v=>match v with | .int .u8 _=>true | _=>false)=true:=by kernel_rfl
theorem lJ:(Tryz.prog.globals[6]?).map (·.type)=some 314:=by kernel_rfl
theorem QE:ascii.length=256:=by kernel_rfl
theorem of_laid {W:World} (hsh:W.ShapedOpen Tryz.prog) (h:laidMetH Tryz.prog Gs W):∃c fz,W.heap[6]?=some (.cells c 314 fz)∧c.toList=ascii:=by
 rw [MakeChecks.laidMetH_plain _ _ _ Tz] at h
 obtain ⟨g,t,cs,fuel,p,hg,ht,hv,hd⟩:=Lib.laidMet.reads h (n := "strings.asciiSpace") (d:=Rows.laid_strings_asciiSpace) (by simp [Gs])
 obtain rfl:=Option.some.inj (XR.symm.trans hg)
 obtain rfl:=Option.some.inj (lJ.symm.trans ht)
 have hb:∃e fz,W.heap[6]?=some (.cells cs e fz):=by
  simp only [World.var?,XR,Option.bind_some] at hv
  split at hv
  ·rename_i c e fz hc
   cases hv
   exact ⟨e,fz,hc⟩
  ·cases hv
 obtain ⟨e,fz,hb⟩:=hb
 have he:e=314:=by
  obtain ⟨⟨zero,t⟩,h1,h2⟩:=Option.map_eq_some_iff.1 lK
  have h3:t=314:=h2
  subst h3
  obtain ⟨cs',h4,_⟩:=hsh.1 6 zero 314 (of_decide_eq_true (by kernel_rfl)) h1
  rw [hb] at h4
  cases h4
  rfl
 subst he
 refine ⟨cs,fz,hb,?_⟩
 rw [lH] at hd
 obtain ⟨xs,m,rfl,hx,hlen,hxl,hel⟩:=DataW.trod_array Tryz.underlying314 hd
 rw [cells5] at hel
 simp only [Prod.mk.injEq,DataW.agg.injEq] at hx
 have hcl:cs.toList.length=256:=by rw [hlen];kernel_rfl
 apply List.ext_getElem?
 intro i
 by_cases hi:i<256
 ·have h1:=hel i hi
  have h2:xs[i]?=some (xs[i]'(by omega)):=List.getElem?_eq_getElem (by omega)
  have h3:(ascii.map Tv)[i]?=some (xs[i]'(by omega)).1:=by rw [hx.1,List.getElem?_map,h2];rfl
  rw [h2] at h1
  simp only [Nat.mul_one] at h1
  obtain ⟨k,e1,e2,_⟩:=DataW.trod_int Tryz.underlying5 h1
  have h4:cs.toList[i]?=some (.int .u8 k):=by
   have:=congrArg (·[0]?) e1
   simpa [List.getElem?_take,List.getElem?_drop] using this
  rw [h4]
  have h5:ascii[i]?=some (ascii[i]'(by rw [QE];omega)):=List.getElem?_eq_getElem _
  rw [List.getElem?_map,h5] at h3
  rw [h5]
  have h6:=List.all_eq_true.1 lI _ (List.getElem_mem (by rw [QE];omega:i<ascii.length))
  generalize ascii[i]'(by rw [QE];omega)=v at h3 h6
  cases v<;>first | exact absurd (show false=true from h6) (by decide) | skip
  rename_i q n
  cases q<;>first | exact absurd (show false=true from h6) (by decide) | skip
  simp only [Option.map_some,Tv,Option.some.injEq] at h3
  rw [e2] at h3
  cases h3
  rfl
 ·rw [List.getElem?_eq_none (by omega),List.getElem?_eq_none (by rw [QE];omega)]
theorem lL:Tryz.prog.globalNamed "internal/strconv.uint64pow10" = some 1:=by kernel_rfl
theorem lM:(Tryz.prog.globals[1]?).map (·.type)=some 311:=by kernel_rfl
theorem lN:Tryz.prog.cellsOf 191=1:=by kernel_rfl
theorem lQ:Tryz.prog.cellsOf 311=20:=by kernel_rfl
theorem lS:(Rows.laid_internal_strconv_uint64pow10:DataW Unit)=Lib.tabData .u64 Lib.pow10Tab:=by kernel_rfl
theorem lT {W:World} (h:laidMetH Tryz.prog Gs W):Pow W:=by
 rw [MakeChecks.laidMetH_plain _ _ _ Tz] at h
 obtain ⟨g,t,cs,fuel,p,hg,ht,hv,hd⟩:=Lib.laidMet.reads h (n := "internal/strconv.uint64pow10") (d:=Rows.laid_internal_strconv_uint64pow10) (by simp [Gs])
 obtain rfl:=Option.some.inj (lL.symm.trans hg)
 obtain rfl:=Option.some.inj (lM.symm.trans ht)
 rw [lS] at hd
 refine Lib.tabBelow_of_tabIs ?_
 unfold Lib.TabIs
 rw [hv,←Lib.cells_of_tab Tryz.underlying311 Tryz.underlying191 lN lQ hd]
set_option maxRecDepth 100000 in
theorem lifted (os:Os) (started:os.Started) (H:Type) (enc:TypeId×Value→H) (F0:Stop.Interp) :
  ReturnsInHanded {} Tryz.checked os 8 .any ((Rows.OpenSpec.upto Rows.scriptBackSpec).preRow enc Tryz.checked.prog Tryz.f8 [] false Gs) (((Rows.OpenSpec.upto Rows.scriptBackSpec).at F0).post enc Tryz.checked.prog Tryz.f8 false true false false):=by
 refine returnsInHanded_of_row (C:=Tryz.checked) (s:=(Rows.OpenSpec.upto Rows.scriptBackSpec)) own started noInit Tryz.func8 ?_ ?_
 ·obtain ⟨⟨x1,x2,x3⟩,hx,hx1⟩:=Option.map_eq_some_iff.1 (wpre os H enc)
  simp only [Prod.mk.injEq] at hx1
  obtain ⟨rfl,rfl⟩:=hx1
  refine ⟨World.laidAll Tryz.prog os Gs,fun _ _=>0,⟨#[],KD,[]⟩,World.laidAll_os _ _ _,World.shaped_of_ZipB (wz1 os) (wz2 os),(Input.okWide_of_okWideB (base:=0) (XT os)).1,(Input.okWide_of_okWideB (XT os)).2,?_,?_⟩
  ·exact OpenSpec.preRow_of_cond 8 hx rfl (fun k hk=>by cases hk;kernel_rfl) (lU os H enc) (by rw [MakeChecks.laidMetH_plain _ _ _ Tz];exact laidMet_laidAll _ (wf1 os) (wf2 os))
  ·simp only [Assume.holds]
   exact ⟨by simp,by simp,fun h=>(by cases h),by simp,by simp⟩
 intro W base args ds gs before hval0 hW _ hk hsz hL hsh _
 have hW':=hW
 obtain ⟨p,q,hA0,hV,rfl,hfz,hnd⟩:=hW
 have hA:DataW.TrodAll enc Tryz.prog W 0 (fun _=>true) true [35] args.toList ds p:=by
  have:Tryz.f8.params.toList = [35]:=by rw [Tryz.params8]
  rw [←this]
  exact hA0
 obtain ⟨v0,d0,rfl,rfl,h0⟩:=trodAll_one hA
 obtain ⟨rfl,rfl⟩:=trodVars_none hV
 have hsm:Rows.uptoSmall H ([d0]++[])=true:=hk _ rfl
 have hbk:Rows.uptoBulk d0+0≤1048576:=of_decide_eq_true hsm
 have b0:Bk 1048576 d0:=by unfold Bk;omega
 have w0:Value.okWide Tryz.prog W .any base 35 v0:=hval0 0 35 v0 (by rw [Tryz.params8];rfl) rfl
 clear hval0
 obtain ⟨aa,ll,cc,rfl⟩:=okWide_slice Tryz.underlying35 w0
 have hlt:∀x∈p,x.block<W.heap.size:=fun x hx=>by
  have:=hW'.lt x (by simpa using hx)
  exact this
 have h0k:=h0
 obtain ⟨n0,t0⟩:=h0
 obtain ⟨v,l,ev,hrow,hall,hlen⟩:=lV t0 b0
 obtain rfl:(Value.slice aa ll cc)=v:=by simpa [Value.cells] using ev
 obtain ⟨c,fz,hb,hc⟩:=of_laid hsh hL
 have hp:=lT hL
 have hm:Gt W:=Tryz.laysSplit.s1_3 W hsh
 have aw:∀wx,Below W.heap.size W wx→Calls Tryz.prog 12 #[] wx fun e w'=>e=.returned (.bool true)∧Below wx.heap.size wx w':=fun wx hwx=>(kH (w:=wx) (by rw [hwx.block 6 (Array.getElem?_eq_some_iff.1 hb).1];exact hb) hc).mono fun e W' ⟨he,hk⟩=>⟨he,⟨hk.os,hk.tape,hk.output,hk.size,hk.block⟩⟩
 have hops:=lW hrow hall hlen
 have HC:Calls Tryz.prog 8 #[.slice aa ll cc] W fun e w'=>e=.returned (.bool true)∧Below W.heap.size W w':=by
  exact lX W aa ll cc _ hops hp hm aw
 refine HC.mono fun e W' ⟨he,bel⟩ => ?_
 subst he
 have e1:(((Rows.OpenSpec.upto Rows.scriptBackSpec)).at F0).fn H ([d0]++[])={ results:=[.lit (.bool true)],args:=[d0] }:=rfl
 refine ⟨_,rfl,_,_,_,[],p,[],hW',?_,?_,?_,bel.frame _,fun h=>by cases h⟩
 ·rw [e1];exact trodAll_mk1 (shut_bool Tryz.underlying4 _)
 ·have hT:DataW.TrodAll enc Tryz.prog W' 0 (fun b=>decide (b<W.heap.size)) true [35] [.slice aa ll cc] [d0] p :=
   trodAll_mk1 (Below.trod jj1 (by kernel_rfl) (of_decide_eq_true (by kernel_rfl)) h0k bel fun x hx=>hlt x hx)
  have e:Tryz.f8.params.toList = [35]:=by rw [Tryz.params8]
  rw [←e] at hT
  rw [e1]
  exact hT
 ·rw [e1];rfl
theorem row:Rows.ScriptBackUptoSaid :=
 OpenClaim.holds_of_cond 8 Tryz.f8 rfl rfl rfl rfl rfl rfl rfl ⟨rfl,rfl,rfl,rfl,rfl⟩ rfl rfl rfl rfl rfl (by kernel_rfl) Tryz.func8 closed
  (of_decide_eq_true (by kernel_rfl)) (by unfold Func.isWrapper;first | (rw [if_pos (by decide +kernel)];kernel_rfl) | (rw [if_neg (by decide +kernel)];exact ⟨rfl,rfl⟩))
  (fun os started H enc _ F0=>by rw [OpenClaim.pre_eq_preRow];exact lifted os started H enc F0)
end Go.Proofs.YtihlneenajlhoaaGreatDoor
