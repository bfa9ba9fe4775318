/-
 jalousielaw27.ScriptSpaces returns true where what it reads is of bulk at most 1048576: the row, the listed tables tied to the program's text. No condition beside the row's own.
-/
import Derived.Test.YtihlneenajlhoaaGreatDoorBj
import Derived.Test.YtihlneenajlhoaaGreatDoorAwOk
import Derived.Test.YtihlneenajlhoaaGreatDoorT
import Derived.Test.YtihlneenajlhoaaGreatDoorL
import Derived.Test.YtihlneenajlhoaaGreatDoorW3
import Derived.Test.YtihlneenajlhoaaGreatDoorW4
import Derived.Test.YtihlneenajlhoaaGreatDoorS8
import Derived.Test.YtihlneenajlhoaaGreatDoorS3
import Derived.Carry
import Derived.ProofKit
import Derived.OpenShut
import Derived.Lib.LaidU8
import Derived.SevenTiedAt
import Derived.Deep.DeepHandedRow
set_option linter.unusedVariables false
namespace Go.Proofs.YtihlneenajlhoaaGreatDoor
open Go Go.ChangeShapes Go.WideShapes Go.ChangeAt Go.RowKit Go.Proofs.YtihlneenajlhoaaGreatDoor.ae
def lit8 (v:Value):DataW Unit:=match v with | .int .u8 n=>.lit (.int .u8 n) | _=>.nil
theorem ascii_lits:(Rows.laid_strings_asciiSpace:DataW Unit)=.agg (ascii.map lit8):=by kernel_rfl
theorem ascii_u8:ascii.all (fun v=>match v with | .int .u8 _=>true | _=>false)=true:=by kernel_rfl
theorem typeAscii:(Tryz.prog.globals[6]?).map (·.type)=some 314:=by kernel_rfl
theorem size_ascii:ascii.length=256:=by kernel_rfl
theorem of_laid {W:World} (hsh:W.ShapedOpen Tryz.prog) (h:laidMetH Tryz.prog laidL W):∃c fz,W.heap[6]?=some (.cells c 314 fz)∧c.toList=ascii:=by
 rw [MakeChecks.laidMetH_plain _ _ _ plainL] at h
 obtain ⟨g,t,cs,fuel,p,hg,ht,hv,hd⟩:=Lib.laidMet.reads h (n := "strings.asciiSpace") (d:=Rows.laid_strings_asciiSpace) (by simp [laidL])
 obtain rfl:=Option.some.inj (gAscii.symm.trans hg)
 obtain rfl:=Option.some.inj (typeAscii.symm.trans ht)
 have hb:∃e fz,W.heap[6]?=some (.cells cs e fz):=by
  simp only [World.var?,gAscii,Option.bind_some] at hv
  split at hv
  ·rename_i c e fz hc
   cases hv
   exact ⟨e,fz,hc⟩
  ·cases hv
 obtain ⟨e,fz,hb⟩:=hb
 have he:e=314:=by
  obtain ⟨⟨zero,t⟩,h1,h2⟩:=Option.map_eq_some_iff.1 rowAscii
  have h3:t=314:=h2
  subst h3
  obtain ⟨cs',h4,_⟩:=hsh.1 6 zero 314 (of_decide_eq_true (by kernel_rfl)) h1
  rw [hb] at h4
  cases h4
  rfl
 subst he
 refine ⟨cs,fz,hb,?_⟩
 rw [ascii_lits] at hd
 obtain ⟨xs,m,rfl,hx,hlen,hxl,hel⟩:=DataW.trod_array Tryz.underlying314 hd
 rw [cells5] at hel
 simp only [Prod.mk.injEq,DataW.agg.injEq] at hx
 have hcl:cs.toList.length=256:=by rw [hlen];kernel_rfl
 apply List.ext_getElem?
 intro i
 by_cases hi:i<256
 ·have h1:=hel i hi
  have h2:xs[i]?=some (xs[i]'(by omega)):=List.getElem?_eq_getElem (by omega)
  have h3:(ascii.map lit8)[i]?=some (xs[i]'(by omega)).1:=by rw [hx.1,List.getElem?_map,h2];rfl
  rw [h2] at h1
  simp only [Nat.mul_one] at h1
  obtain ⟨k,e1,e2,_⟩:=DataW.trod_int Tryz.underlying5 h1
  have h4:cs.toList[i]?=some (.int .u8 k):=by
   have:=congrArg (·[0]?) e1
   simpa [List.getElem?_take,List.getElem?_drop] using this
  rw [h4]
  have h5:ascii[i]?=some (ascii[i]'(by rw [size_ascii];omega)):=List.getElem?_eq_getElem _
  rw [List.getElem?_map,h5] at h3
  rw [h5]
  have h6:=List.all_eq_true.1 ascii_u8 _ (List.getElem_mem (by rw [size_ascii];omega:i<ascii.length))
  generalize ascii[i]'(by rw [size_ascii];omega)=v at h3 h6
  cases v<;>first | exact absurd (show false=true from h6) (by decide) | skip
  rename_i q n
  cases q<;>first | exact absurd (show false=true from h6) (by decide) | skip
  simp only [Option.map_some,lit8,Option.some.injEq] at h3
  rw [e2] at h3
  cases h3
  rfl
 ·rw [List.getElem?_eq_none (by omega),List.getElem?_eq_none (by rw [size_ascii];omega)]
theorem gPow:Tryz.prog.globalNamed "internal/strconv.uint64pow10" = some 1:=by kernel_rfl
theorem typePow:(Tryz.prog.globals[1]?).map (·.type)=some 311:=by kernel_rfl
theorem cells191:Tryz.prog.cellsOf 191=1:=by kernel_rfl
theorem cells311:Tryz.prog.cellsOf 311=20:=by kernel_rfl
theorem powLits:(Rows.laid_internal_strconv_uint64pow10:DataW Unit)=Lib.tabData .u64 Lib.pow10Tab:=by kernel_rfl
theorem pow_of_laid {W:World} (h:laidMetH Tryz.prog laidL W):Pow W:=by
 rw [MakeChecks.laidMetH_plain _ _ _ plainL] at h
 obtain ⟨g,t,cs,fuel,p,hg,ht,hv,hd⟩:=Lib.laidMet.reads h (n := "internal/strconv.uint64pow10") (d:=Rows.laid_internal_strconv_uint64pow10) (by simp [laidL])
 obtain rfl:=Option.some.inj (gPow.symm.trans hg)
 obtain rfl:=Option.some.inj (typePow.symm.trans ht)
 rw [powLits] at hd
 refine Lib.tabBelow_of_tabIs ?_
 unfold Lib.TabIs
 rw [hv,←Lib.cells_of_tab Tryz.underlying311 Tryz.underlying191 cells191 cells311 hd]
set_option maxRecDepth 100000 in
theorem lifted (os:Os) (started:os.Started) (H:Type) (enc:TypeId×Value→H) (F0:Stop.Interp) :
  ReturnsInHanded {} Tryz.checked os 6 .any ((Rows.OpenSpec.upto Rows.scriptSpacesSpec).preRow enc Tryz.checked.prog Tryz.f6 [] false laidL) (((Rows.OpenSpec.upto Rows.scriptSpacesSpec).at F0).post enc Tryz.checked.prog Tryz.f6 false true false false):=by
 refine returnsInHanded_of_row (C:=Tryz.checked) (s:=(Rows.OpenSpec.upto Rows.scriptSpacesSpec)) own started noInit Tryz.func6 ?_ ?_
 ·obtain ⟨⟨x1,x2,x3⟩,hx,hx1⟩:=Option.map_eq_some_iff.1 (wpre os H enc)
  simp only [Prod.mk.injEq] at hx1
  obtain ⟨rfl,rfl⟩:=hx1
  refine ⟨World.laidAll Tryz.prog os laidL,fun _ _=>0,⟨#[],nilArgs,[]⟩,World.laidAll_os _ _ _,World.shaped_of_ZipB (wz1 os) (wz2 os),(Input.okWide_of_okWideB (base:=0) (wok os)).1,(Input.okWide_of_okWideB (wok os)).2,?_,?_⟩
  ·exact OpenSpec.preRow_of_cond 8 hx rfl (fun k hk=>by cases hk;kernel_rfl) (wsz os H enc) (by rw [MakeChecks.laidMetH_plain _ _ _ plainL];exact laidMet_laidAll _ (wf1 os) (wf2 os))
  ·simp only [Assume.holds]
   exact ⟨by simp,by simp,fun h=>(by cases h),by simp,by simp⟩
 intro W base args ds gs before hval0 hW _ hk hsz hL hsh _
 have hW':=hW
 obtain ⟨p,q,hA0,hV,rfl,hfz,hnd⟩:=hW
 have hA:DataW.TrodAll enc Tryz.prog W 0 (fun _=>true) true [35,3] args.toList ds p:=by
  have:Tryz.f6.params.toList = [35,3]:=by rw [Tryz.params6]
  rw [←this]
  exact hA0
 obtain ⟨v0,v1,d0,d1,p0,p1,rfl,rfl,rfl,h0,h1⟩:=trodAll_two hA
 obtain ⟨rfl,rfl⟩:=trodVars_none hV
 have hsm:Rows.uptoSmall H ([d0,d1]++[])=true:=hk _ rfl
 have hbk:Rows.uptoBulk d0+(Rows.uptoBulk d1+0)≤1048576:=of_decide_eq_true hsm
 have b0:Bk 1048576 d0:=by unfold Bk;omega
 have b1:Bk 1048576 d1:=by unfold Bk;omega
 have hval:∀(j:Nat) t v,Tryz.f6.params[j]?=some t→(#[v0,v1]:Array Value)[j]?=some v→Value.okWide Tryz.prog W .any base t v:=hval0
 clear hval0
 have w0:Value.okWide Tryz.prog W .any base 35 v0:=hval 0 35 v0 (by rw [Tryz.params6];rfl) rfl
 have w1:Value.okWide Tryz.prog W .any base 3 v1:=hval 1 3 v1 (by rw [Tryz.params6];rfl) rfl
 clear hval
 obtain ⟨aa,ll,cc,rfl⟩:=okWide_slice Tryz.underlying35 w0
 obtain ⟨k,rfl⟩:=okWide_int Tryz.underlying3 w1
 have hlt:∀x∈p0++p1,x.block<W.heap.size:=fun x hx=>by
  have:=hW'.lt x (by simpa using hx)
  exact this
 have h0k:=h0
 have h1k:=h1
 obtain ⟨n0,t0⟩:=h0
 obtain ⟨n1,t1⟩:=h1
 obtain ⟨v,l,ev,hrow,hall,hlen⟩:=read_ops t0 b0
 obtain rfl:(Value.slice aa ll cc)=v:=by simpa [Value.cells] using ev
 obtain ⟨k',ek,hk64⟩:=one_i64 Tryz.underlying3 t1
 obtain rfl:k=k':=by simpa [Value.cells] using ek
 obtain ⟨c,fz,hb,hc⟩:=of_laid hsh hL
 have hp:=pow_of_laid hL
 have hm:MaxAt W:=Tryz.laysSplit.s1_3 W hsh
 have aw:∀wx,Below W.heap.size W wx→Calls Tryz.prog 12 #[] wx fun e w'=>e=.returned (.bool true)∧Below wx.heap.size wx w':=fun wx hwx=>(awake_calls (w:=wx) (by rw [hwx.block 6 (Array.getElem?_eq_some_iff.1 hb).1];exact hb) hc).mono fun e W' ⟨he,hk⟩=>⟨he,⟨hk.os,hk.tape,hk.output,hk.size,hk.block⟩⟩
 have hops:=opsIn_of hrow hall hlen
 have HC:Calls Tryz.prog 6 #[.slice aa ll cc,.int .i64 k] W fun e w'=>e=.returned (.bool true)∧Below W.heap.size W w':=by
  exact scriptSpaces_any W aa ll cc k hk64 _ hops hp hm aw
 refine HC.mono fun e W' ⟨he,bel⟩ => ?_
 subst he
 have e1:(((Rows.OpenSpec.upto Rows.scriptSpacesSpec)).at F0).fn H ([d0,d1]++[])={ results:=[.lit (.bool true)],args:=[d0,d1] }:=rfl
 refine ⟨_,rfl,_,_,_,[],p0++p1,[],hW',?_,?_,?_,bel.frame _,fun h=>by cases h⟩
 ·rw [e1];exact trodAll_mk1 (shut_bool Tryz.underlying4 _)
 ·have hT:DataW.TrodAll enc Tryz.prog W' 0 (fun b=>decide (b<W.heap.size)) true [35,3] [.slice aa ll cc,.int .i64 k] [d0,d1] (p0++p1) :=
   trodAll_mk2 (Below.trod jj1 (by kernel_rfl) (of_decide_eq_true (by kernel_rfl)) h0k bel fun x hx=>hlt x (List.mem_append.2 (Or.inl hx)))
    (Below.trod jj1 (by kernel_rfl) (of_decide_eq_true (by kernel_rfl)) h1k bel fun x hx=>hlt x (List.mem_append.2 (Or.inr hx)))
  have e:Tryz.f6.params.toList = [35,3]:=by rw [Tryz.params6]
  rw [←e] at hT
  rw [e1]
  exact hT
 ·rw [e1];rfl
theorem row:Rows.ScriptSpacesUptoSaid :=
 OpenClaim.holds_of_cond 6 Tryz.f6 rfl rfl rfl rfl rfl rfl rfl ⟨rfl,rfl,rfl,rfl,rfl⟩ rfl rfl rfl rfl rfl (by kernel_rfl) Tryz.func6 closed
  (of_decide_eq_true (by kernel_rfl)) (by unfold Func.isWrapper;first | (rw [if_pos (by decide +kernel)];kernel_rfl) | (rw [if_neg (by decide +kernel)];exact ⟨rfl,rfl⟩))
  (fun os started H enc _ F0=>by rw [OpenClaim.pre_eq_preRow];exact lifted os started H enc F0)
end Go.Proofs.YtihlneenajlhoaaGreatDoor
