/-
 jalousieref27.one. Condition: sizes that fit; strconv's table stands.
-/
import Derived.Test.YtihlneenajlhoaaGreatDoorS6
import Derived.Test.YtihlneenajlhoaaGreatDoorS4
import Derived.Test.YtihlneenajlhoaaGreatDoorS2
import Derived.Test.YtihlneenajlhoaaGreatDoorS5
import Derived.Test.YtihlneenajlhoaaGreatDoorS3
set_option linter.unusedSimpArgs false
set_option linter.unusedVariables false
namespace Go.Proofs.YtihlneenajlhoaaGreatDoor
open Go Go.RowKit
section
variable {o:sp.Op} {tv:Value} {w:World}
theorem ZU (s:List UInt8) (hs:s.length≤1048576) (w:World):Calls Tryz.prog 38 #[.string (AA s)] w fun e w'=>e=.returned (.string (AA (sp.DJ s)))∧Below w.heap.size w w' :=
 (uF (AA s) w (by rw [Aa];omega)).mono fun e w' q=>⟨by have:=q.1;rwa [MM] at this,q.2⟩
set_option maxRecDepth 100000 in
set_option maxHeartbeats 16000000 in
theorem v1 (h:CQ w.heap.size w o tv) (hp:Pow w) (hk:o.kind=1∧Hid True∨o.kind=7∧Hid True):Calls Tryz.prog 43 #[.agg (AQ o tv)] w (FO w o):=by
 rcases hk with ⟨hk,m1⟩ | ⟨hk,m7⟩
 all_goals
  have H:=Lib.hid (CG.new h hp)
  have HK:=Lib.hid hk;have HO:=Lib.hid h
  have c0:=H.out.st.cell 0 _ (kd hk)
  obtain ⟨c1,c2,c3,c4,c5,c6,c7,c8,c9,c10,c17,cv⟩:=H.out.cs
  obtain ⟨z1,z2,z3,z4,z5,z6,z7,z8⟩:=H.out.sz
  clear h hp hk
  try rw [mt.out] at c17
  try rw [mf.out] at c17
  cases hsm:CB o.node
  all_goals
   have HSM:=Lib.hid hsm
   clear hsm
   go_enter Tryz.func43,Tryz.ntmps43
   go_wp2_with (first
    | (go_at_call 34;refine (Hl _ _ HO.out.node H.out.pow).mono ?_;rintro e v ⟨rfl,hb⟩;have N:=Lib.hid (H.out.below hb);clear c0 c1 c2 c3 c4 c5 c6 c7 c8 c9 c10 c17 cv;clear H hb;have H:=N;clear N;have c0:=H.out.st.cell 0 _ (kd HK.out);obtain ⟨c1,c2,c3,c4,c5,c6,c7,c8,c9,c10,c17,cv⟩:=H.out.cs;(try rw [mt.out] at c17);(try rw [mf.out] at c17))
    | (go_at_call 83;refine (Hz _ _ (by rw [Aa];exact HO.out.name)).mono ?_;rintro e v ⟨rfl,hb⟩;have N:=Lib.hid (H.out.below hb);clear c0 c1 c2 c3 c4 c5 c6 c7 c8 c9 c10 c17 cv;clear H hb;have H:=N;clear N;have c0:=H.out.st.cell 0 _ (kd HK.out);obtain ⟨c1,c2,c3,c4,c5,c6,c7,c8,c9,c10,c17,cv⟩:=H.out.cs;(try rw [mt.out] at c17);(try rw [mf.out] at c17))
    | (go_at_call 82;refine (Ic _ _).mono ?_;rintro e v ⟨rfl,hw⟩;first | rw [hw,HSM.out] | rw [hw];clear hw)
    | (have gd:=mr;clear gd;go_at_call 84;refine (NH _ o.w HO.out.fw H.out.pow).mono ?_;rintro e v ⟨rfl,hb⟩;have z9:=NG (r:=o.w) HO.out.fw;have N:=Lib.hid (H.out.below hb);clear c0 c1 c2 c3 c4 c5 c6 c7 c8 c9 c10 c17 cv;clear H hb;have H:=N;clear N;have c0:=H.out.st.cell 0 _ (kd HK.out);obtain ⟨c1,c2,c3,c4,c5,c6,c7,c8,c9,c10,c17,cv⟩:=H.out.cs;(try rw [mt.out] at c17);(try rw [mf.out] at c17))
    | (have gd:=mR;clear gd;go_at_call 84;refine (LG _ o.w o.h HO.out.fw HO.out.fh H.out.pow).mono ?_;rintro e v ⟨rfl,hb⟩;have z9:=LD (r:=o.w) (q:=o.h) HO.out.fw HO.out.fh;have N:=Lib.hid (H.out.below hb);clear c0 c1 c2 c3 c4 c5 c6 c7 c8 c9 c10 c17 cv;clear H hb;have H:=N;clear N;have c0:=H.out.st.cell 0 _ (kd HK.out);obtain ⟨c1,c2,c3,c4,c5,c6,c7,c8,c9,c10,c17,cv⟩:=H.out.cs;(try rw [mt.out] at c17);(try rw [mf.out] at c17)))
   clear c0 c1 c2 c3 c4 c5 c6 c7 c8 c9 c10 c17 cv
   refine wp_region_held_drew (S:=CG w o tv) (by kernel_rfl) H.out.drew (fun hHeld => ?_)
   first
    | (have gd:=m1;clear gd;refine tkU 0 (.pointer (some ⟨w.heap.size,3,none⟩)) hHeld ?_;refine tkU 1 (.int .i64 o.origin) hHeld ?_;refine tkU 5 (.pointer (some ⟨w.heap.size,6,none⟩)) hHeld ?_;refine tkU 6 tv hHeld ?_;refine tkU 7 (.string (AA o.text)) hHeld ?_;refine tkU 10 (.pointer (some ⟨w.heap.size,3,none⟩)) hHeld ?_;refine tkU 11 (.int .i64 o.origin) hHeld ?_;refine AY 2 rfl fun K hK => ?_;go_simp;refine (Hl _ _ HO.out.origin H.out.drew.pow).mono ?_;rintro e v ⟨rfl,hb⟩;have N:=Lib.hid (H.out.drew.below hb);clear H hb;have H:=N;clear N;refine hK.out _ _ H.out (fun hHeld => ?_);clear hK;refine tkU 3 (.string (⟨#[115,104,101,101,116,32]⟩++AA (Lib.itoa o.origin))) hHeld ?_;refine tkU 4 (.string ((⟨#[115,104,101,101,116,32]⟩++AA (Lib.itoa o.origin))++⟨#[32]⟩)) hHeld ?_;refine AY 8 rfl fun K hK => ?_;go_simp;refine (ZU o.text HO.out.text _).mono ?_;rintro e v ⟨rfl,hb⟩;have N:=Lib.hid (H.out.below hb);clear H hb;have H:=N;clear N;refine hK.out _ _ H.out (fun hHeld => ?_);clear hK;refine tkU 9 (.string (((⟨#[115,104,101,101,116,32]⟩++AA (Lib.itoa o.origin))++⟨#[32]⟩)++AA (sp.DJ o.text))) hHeld ?_;refine AY 12 rfl fun K hK => ?_;go_simp;refine (Ic _ _).mono ?_;rintro e w' ⟨rfl,hw⟩;rw [hw];clear hw;refine hK.out _ _ H.out (fun hHeld => ?_);clear hK;refine tkU 13 (.string (((⟨#[115,104,101,101,116,32]⟩++AA (Lib.itoa o.origin))++⟨#[32]⟩)++AA (sp.DJ o.text))) hHeld ?_;refine tkU 14 (.bool (CB o.origin)) hHeld ?_)
    | (refine tkU 0 (.string (AA (Lib.itoa o.node))) hHeld ?_;refine tkU 1 (.string (⟨#[115,101,116,32]⟩++AA (Lib.itoa o.node))) hHeld ?_;refine tkU 2 (.string ((⟨#[115,101,116,32]⟩++AA (Lib.itoa o.node))++⟨#[32]⟩)) hHeld ?_;refine tkU 3 (.pointer (some ⟨w.heap.size,4,none⟩)) hHeld ?_;refine tkU 4 (.string (AA o.name)) hHeld ?_;refine tkU 5 (.string (((⟨#[115,101,116,32]⟩++AA (Lib.itoa o.node))++⟨#[32]⟩)++AA o.name)) hHeld ?_;refine tkU 6 (.string ((((⟨#[115,101,116,32]⟩++AA (Lib.itoa o.node))++⟨#[32]⟩)++AA o.name)++⟨#[32]⟩)) hHeld ?_;refine tkU 7 (.pointer (some ⟨w.heap.size,5,none⟩)) hHeld ?_;refine tkU 8 (.string (AA o.word)) hHeld ?_;(first | refine tkU 11 (.bool false) hHeld ?_ | refine tkU 11 (.bool (CZ (AA o.name))) hHeld ?_);refine AY 9 rfl fun K hK => ?_;go_simp;refine (ZU o.word HO.out.word _).mono ?_;rintro e v ⟨rfl,hb⟩;have N:=Lib.hid (H.out.drew.below hb);clear H hb;have H:=N;clear N;refine hK.out _ _ H.out (fun hHeld => ?_);clear hK;refine tkU 10 (.string (((((⟨#[115,101,116,32]⟩++AA (Lib.itoa o.node))++⟨#[32]⟩)++AA o.name)++⟨#[32]⟩)++AA (sp.DJ o.word))) hHeld ?_;refine tkU 12 (.string (((((⟨#[115,101,116,32]⟩++AA (Lib.itoa o.node))++⟨#[32]⟩)++AA o.name)++⟨#[32]⟩)++AA (sp.DJ o.word))) hHeld ?_;(first | refine tkU 13 (.bool false) hHeld ?_ | refine tkU 13 (.bool (CZ (AA o.name))) hHeld ?_))
   refine wpAnyH_done (by kernel_rfl) ?_ _
   clear hHeld
   go_simp
   go_wp2
   go_ret2
   have I1:=GM HO.out.node
   have I2:=GM HO.out.at_
   have I3:=GM HO.out.origin
   have I4:=HO.out.name
   have I5:=HO.out.word
   have I6:=MN HO.out.text
   have I7:=MN HO.out.word
   first
    | exact ⟨sp.BX++32 :: Lib.itoa o.origin++32 :: sp.DJ o.text,(CB o.origin),Fp (by first | rfl | (apply ByteArray.ext;simp [AA])) (by first | rfl | simp [HSM.out,Fh]),DN (P:=sp.BN o.origin) (by unfold sp.AU;rw [HK.out];rfl) (by simp [Cm,DZ]),by simp only [List.length_append,List.length_cons,sp.BX,sp.Bc,sp.BZ,sp.Ba,List.length_nil];omega,H.out.st.1⟩
    | exact ⟨sp.Bc++32 :: Lib.itoa o.node++32 :: o.name++32 :: sp.DJ o.word,(CB o.node&&sp.BP o.name),Fp (by first | rfl | (apply ByteArray.ext;simp [AA])) (by first | rfl | simp [HSM.out,Fh]),DN (P:=sp.BN o.node∧sp.BP o.name) (by unfold sp.AU;rw [HK.out];rfl) (by simp [Cm,DZ]),by simp only [List.length_append,List.length_cons,sp.BX,sp.Bc,sp.BZ,sp.Ba,List.length_nil];omega,H.out.st.1⟩
set_option maxRecDepth 100000 in
set_option maxHeartbeats 16000000 in
theorem v4 (h:CQ w.heap.size w o tv) (hp:Pow w) (hk:o.kind=5∧Hid True∨o.kind=4∧Hid True):Calls Tryz.prog 43 #[.agg (AQ o tv)] w (FO w o):=by
 rcases hk with ⟨hk,m5⟩ | ⟨hk,m4⟩
 all_goals
  have H:=Lib.hid (CG.new h hp)
  have HK:=Lib.hid hk;have HO:=Lib.hid h
  have c0:=H.out.st.cell 0 _ (kd hk)
  obtain ⟨c1,c2,c3,c4,c5,c6,c7,c8,c9,c10,c17,cv⟩:=H.out.cs
  obtain ⟨z1,z2,z3,z4,z5,z6,z7,z8⟩:=H.out.sz
  clear h hp hk
  try rw [mt.out] at c17
  try rw [mf.out] at c17
  cases hsm:CB o.node<;>cases hpl:CZ (AA o.name)
  all_goals
   have HSM:=Lib.hid hsm
   have HPL:=Lib.hid hpl
   clear hsm hpl
   go_enter Tryz.func43,Tryz.ntmps43
   go_wp2_with (first
    | (go_at_call 34;refine (Hl _ _ HO.out.node H.out.pow).mono ?_;rintro e v ⟨rfl,hb⟩;have N:=Lib.hid (H.out.below hb);clear c0 c1 c2 c3 c4 c5 c6 c7 c8 c9 c10 c17 cv;clear H hb;have H:=N;clear N;have c0:=H.out.st.cell 0 _ (kd HK.out);obtain ⟨c1,c2,c3,c4,c5,c6,c7,c8,c9,c10,c17,cv⟩:=H.out.cs;(try rw [mt.out] at c17);(try rw [mf.out] at c17))
    | (go_at_call 83;refine (Hz _ _ (by rw [Aa];exact HO.out.name)).mono ?_;rintro e v ⟨rfl,hb⟩;rw [HPL.out];have N:=Lib.hid (H.out.below hb);clear c0 c1 c2 c3 c4 c5 c6 c7 c8 c9 c10 c17 cv;clear H hb;have H:=N;clear N;have c0:=H.out.st.cell 0 _ (kd HK.out);obtain ⟨c1,c2,c3,c4,c5,c6,c7,c8,c9,c10,c17,cv⟩:=H.out.cs;(try rw [mt.out] at c17);(try rw [mf.out] at c17))
    | (go_at_call 82;refine (Ic _ _).mono ?_;rintro e v ⟨rfl,hw⟩;first | rw [hw,HSM.out] | rw [hw];clear hw)
    | (have gd:=mr;clear gd;go_at_call 84;refine (NH _ o.w HO.out.fw H.out.pow).mono ?_;rintro e v ⟨rfl,hb⟩;have z9:=NG (r:=o.w) HO.out.fw;have N:=Lib.hid (H.out.below hb);clear c0 c1 c2 c3 c4 c5 c6 c7 c8 c9 c10 c17 cv;clear H hb;have H:=N;clear N;have c0:=H.out.st.cell 0 _ (kd HK.out);obtain ⟨c1,c2,c3,c4,c5,c6,c7,c8,c9,c10,c17,cv⟩:=H.out.cs;(try rw [mt.out] at c17);(try rw [mf.out] at c17))
    | (have gd:=mR;clear gd;go_at_call 84;refine (LG _ o.w o.h HO.out.fw HO.out.fh H.out.pow).mono ?_;rintro e v ⟨rfl,hb⟩;have z9:=LD (r:=o.w) (q:=o.h) HO.out.fw HO.out.fh;have N:=Lib.hid (H.out.below hb);clear c0 c1 c2 c3 c4 c5 c6 c7 c8 c9 c10 c17 cv;clear H hb;have H:=N;clear N;have c0:=H.out.st.cell 0 _ (kd HK.out);obtain ⟨c1,c2,c3,c4,c5,c6,c7,c8,c9,c10,c17,cv⟩:=H.out.cs;(try rw [mt.out] at c17);(try rw [mf.out] at c17)))
   clear c0 c1 c2 c3 c4 c5 c6 c7 c8 c9 c10 c17 cv
   refine wp_region_held_drew (S:=CG w o tv) (by kernel_rfl) H.out.drew (fun hHeld => ?_)
   first
    | (have gd:=m5;clear gd;refine tkU 0 (.string (AA (Lib.itoa o.node))) hHeld ?_;refine tkU 1 (.string (⟨#[105,110,115,101,114,116,32]⟩++AA (Lib.itoa o.node))) hHeld ?_;refine tkU 2 (.string ((⟨#[105,110,115,101,114,116,32]⟩++AA (Lib.itoa o.node))++⟨#[32]⟩)) hHeld ?_;refine tkU 3 (.pointer (some ⟨w.heap.size,2,none⟩)) hHeld ?_;refine tkU 4 (.int .i64 o.at_) hHeld ?_;refine tkU 8 (.pointer (some ⟨w.heap.size,4,none⟩)) hHeld ?_;refine tkU 9 (.string (AA o.name)) hHeld ?_;(first | refine tkU 11 (.bool true) hHeld ?_ | refine tkU 11 (.bool false) hHeld ?_);refine AY 5 rfl fun K hK => ?_;go_simp;refine (Hl _ _ HO.out.at_ H.out.drew.pow).mono ?_;rintro e v ⟨rfl,hb⟩;have N:=Lib.hid (H.out.drew.below hb);clear H hb;have H:=N;clear N;refine hK.out _ _ H.out (fun hHeld => ?_);clear hK;refine tkU 6 (.string (((⟨#[105,110,115,101,114,116,32]⟩++AA (Lib.itoa o.node))++⟨#[32]⟩)++AA (Lib.itoa o.at_))) hHeld ?_;refine tkU 7 (.string ((((⟨#[105,110,115,101,114,116,32]⟩++AA (Lib.itoa o.node))++⟨#[32]⟩)++AA (Lib.itoa o.at_))++⟨#[32]⟩)) hHeld ?_;refine tkU 10 (.string (((((⟨#[105,110,115,101,114,116,32]⟩++AA (Lib.itoa o.node))++⟨#[32]⟩)++AA (Lib.itoa o.at_))++⟨#[32]⟩)++AA o.name)) hHeld ?_;first | (refine tkU 12 (.bool true) hHeld ?_;refine tkU 13 (.pointer (some ⟨w.heap.size,2,none⟩)) hHeld ?_;refine tkU 14 (.int .i64 o.at_) hHeld ?_;refine AY 15 rfl fun K hK => ?_;go_simp;refine (Ic _ _).mono ?_;rintro e w' ⟨rfl,hw⟩;rw [hw];clear hw;refine hK.out _ _ H.out (fun hHeld => ?_);clear hK;refine tkU 16 (.bool (CB o.at_)) hHeld ?_;refine tkU 17 (.string (((((⟨#[105,110,115,101,114,116,32]⟩++AA (Lib.itoa o.node))++⟨#[32]⟩)++AA (Lib.itoa o.at_))++⟨#[32]⟩)++AA o.name)) hHeld ?_;refine tkU 18 (.bool (CB o.at_)) hHeld ?_) | (refine tkU 12 (.bool false) hHeld ?_;refine NI 13 hHeld ?_;refine NI 14 hHeld ?_;refine NI 15 hHeld ?_;refine tkU 16 (.bool false) hHeld ?_;refine tkU 17 (.string (((((⟨#[105,110,115,101,114,116,32]⟩++AA (Lib.itoa o.node))++⟨#[32]⟩)++AA (Lib.itoa o.at_))++⟨#[32]⟩)++AA o.name)) hHeld ?_;refine tkU 18 (.bool false) hHeld ?_))
    | (refine tkU 0 (.pointer (some ⟨w.heap.size,4,none⟩)) hHeld ?_;refine tkU 1 (.string (AA o.name)) hHeld ?_;refine tkU 2 (.string (⟨#[119,111,114,100,32]⟩++AA o.name)) hHeld ?_;refine tkU 3 (.string ((⟨#[119,111,114,100,32]⟩++AA o.name)++⟨#[32]⟩)) hHeld ?_;refine tkU 4 (.pointer (some ⟨w.heap.size,5,none⟩)) hHeld ?_;refine tkU 5 (.string (AA o.word)) hHeld ?_;refine tkU 6 (.string (((⟨#[119,111,114,100,32]⟩++AA o.name)++⟨#[32]⟩)++AA o.word)) hHeld ?_;refine tkU 7 (.pointer (some ⟨w.heap.size,4,none⟩)) hHeld ?_;refine tkU 8 (.string (AA o.name)) hHeld ?_;refine AY 9 rfl fun K hK => ?_;go_simp;refine (Hz _ _ (by rw [Aa];exact HO.out.name)).mono ?_;rintro e v ⟨rfl,hb⟩;rw [HPL.out];have N:=Lib.hid (H.out.drew.below hb);clear H hb;have H:=N;clear N;refine hK.out _ _ H.out (fun hHeld => ?_);clear hK;first | (refine tkU 10 (.bool true) hHeld ?_;refine tkU 11 (.pointer (some ⟨w.heap.size,5,none⟩)) hHeld ?_;refine tkU 12 (.string (AA o.word)) hHeld ?_;refine AY 13 rfl fun K hK => ?_;go_simp;refine (Hz _ _ (by rw [Aa];exact HO.out.word)).mono ?_;rintro e v ⟨rfl,hb⟩;have N:=Lib.hid (H.out.below hb);clear H hb;have H:=N;clear N;refine hK.out _ _ H.out (fun hHeld => ?_);clear hK;refine tkU 14 (.bool (CZ (AA o.word))) hHeld ?_;refine tkU 15 (.string (((⟨#[119,111,114,100,32]⟩++AA o.name)++⟨#[32]⟩)++AA o.word)) hHeld ?_;refine tkU 16 (.bool (CZ (AA o.word))) hHeld ?_) | (refine tkU 10 (.bool false) hHeld ?_;refine NI 11 hHeld ?_;refine NI 12 hHeld ?_;refine NI 13 hHeld ?_;refine tkU 14 (.bool false) hHeld ?_;refine tkU 15 (.string (((⟨#[119,111,114,100,32]⟩++AA o.name)++⟨#[32]⟩)++AA o.word)) hHeld ?_;refine tkU 16 (.bool false) hHeld ?_))
   refine wpAnyH_done (by kernel_rfl) ?_ _
   clear hHeld
   go_simp
   go_wp2
   go_ret2
   have I1:=GM HO.out.node
   have I2:=GM HO.out.at_
   have I3:=GM HO.out.origin
   have I4:=HO.out.name
   have I5:=HO.out.word
   have I6:=MN HO.out.text
   have I7:=MN HO.out.word
   first
    | exact ⟨sp.Ba++32 :: Lib.itoa o.node++32 :: Lib.itoa o.at_++32 :: o.name,(CB o.node&&CZ (AA o.name)&&CB o.at_),Fp (by first | rfl | (apply ByteArray.ext;simp [AA])) (by first | rfl | simp [HSM.out,HPL.out]),DN (P:=sp.BN o.node∧sp.BN o.at_∧sp.BP o.name) (by unfold sp.AU;rw [HK.out];rfl) (by simp [Fh,Cm,and_assoc];try exact fun _=>and_comm),by simp only [List.length_append,List.length_cons,sp.BX,sp.Bc,sp.BZ,sp.Ba,List.length_nil];omega,H.out.st.1⟩
    | exact ⟨sp.BZ++32 :: o.name++32 :: o.word,(CZ (AA o.name)&&CZ (AA o.word)),Fp (by first | rfl | (apply ByteArray.ext;simp [AA])) (by first | rfl | simp [HSM.out,HPL.out]),DN (P:=sp.BP o.name∧sp.BP o.word) (by unfold sp.AU;rw [HK.out];rfl) (by simp [Fh,Cm,and_assoc];try exact fun _=>and_comm),by simp only [List.length_append,List.length_cons,sp.BX,sp.Bc,sp.BZ,sp.Ba,List.length_nil];omega,H.out.st.1⟩
end
section
variable {o:sp.Op} {tv:Value} {w:World}
theorem CG.cb {W:World} (h:CG w o tv W):W.cell? ⟨w.heap.size,1,none⟩=some (.int .i64 o.node)∧W.cell? ⟨w.heap.size,4,none⟩=some (.string (AA o.name))∧W.cell? ⟨w.heap.size,11,none⟩=some (.int .i64 o.bt)∧W.cell? ⟨w.heap.size,12,none⟩=some (.string (AA o.bn))∧W.cell? ⟨w.heap.size,13,none⟩=some (.int .i64 o.bw.1)∧W.cell? ⟨w.heap.size,14,none⟩=some (.int .i64 o.bw.2)∧W.cell? ⟨w.heap.size,15,none⟩=some (.int .i64 o.bh.1)∧W.cell? ⟨w.heap.size,16,none⟩=some (.int .i64 o.bh.2) :=
 ⟨h.st.cell 1 _ rfl,h.st.cell 4 _ rfl,h.st.cell 11 _ rfl,h.st.cell 12 _ rfl,h.st.cell 13 _ rfl,h.st.cell 14 _ rfl,h.st.cell 15 _ rfl,h.st.cell 16 _ rfl⟩
theorem ZV {e:Ending} {w':World} (hk:o.kind=9) (h:∃s ok',e=.returned (.tuple #[.string (AA s),.bool ok'])∧ok'=Ep o.node o.bt (AA o.bn) o.bw o.bh∧(Ep o.node o.bt (AA o.bn) o.bw o.bh=true→s=sp.kBox++boxS o.node o.bt (AA o.bn) o.bw o.bh)∧s.length≤10000000∧Below w.heap.size w w'):FO w o e w':=by
 have hq:=Ye o
 obtain ⟨s,ok,rfl,h1,h2,h3,hb⟩:=h
 refine ⟨_,ok,rfl,?_,by omega,hb⟩
 by_cases hB:Ep o.node o.bt (AA o.bn) o.bw o.bh=true
 ·obtain rfl:ok=true:=h1.trans hB
  refine ⟨fun _ => ?_,fun e=>(by cases e)⟩
  unfold sp.AU
  rw [hk]
  refine (if_pos (hq.1 hB)).trans ?_
  rw [h2 hB]
  unfold boxS
  rw [Og]
  simp
 ·obtain rfl:ok=false:=h1.trans (Bool.eq_false_iff.2 hB)
  refine ⟨fun e=>(by cases e),fun _ => ?_⟩
  unfold sp.AU
  rw [hk]
  exact if_neg (fun hP=>hB (hq.2 hP))
theorem AAm (a b c d m n:Bool) (t:Int):((d&&(decide (0≤t)&&decide (t≤2)) && !a&&(b||c)&&m&&n)=false∧((d=false∨d=true)∧(a=true∨a=false∧b=false∧c=false∨a=false∧(b=true∨b=false∧c=true)∧(decide (t<0)=true∨decide (t<0)=false∧decide (2<t)=true))∨d=false∧a=false∧(b=true∨b=false∧c=true)∧decide (t<0)=false∧decide (2<t)=false))∨d=true∧a=false∧(b=true∨b=false∧c=true)∧(t=0∨t=1∨t=2):=by
 cases a<;>cases b<;>cases c<;>cases d<;>simp<;>omega
set_option maxRecDepth 100000 in
set_option maxHeartbeats 16000000 in
theorem AAn (h:CQ w.heap.size w o tv) (hp:Pow w) (hk:o.kind=9):Calls Tryz.prog 43 #[.agg (AQ o tv)] w (FO w o):=by
 rcases AAm ((AA o.bn).toList==[45]) (AA o.bn).toList.isEmpty (CZ (AA o.bn)) (CB o.node) (CP o.bw) (CP o.bh) o.bt with ⟨HF,⟨hsm | hsm,t3 | ⟨t3,t4,hpb⟩ | ⟨t3,t4 | ⟨t4,hpb⟩,t1 | ⟨t1,t2⟩⟩⟩ | ⟨hsm,t3,t4 | ⟨t4,hpb⟩,t1,t2⟩⟩ | ⟨hsm,t3,t4 | ⟨t4,hpb⟩,hbt | hbt | hbt⟩
 all_goals
  try (have HG:=Lib.hid (show Ep o.node o.bt (AA o.bn) o.bw o.bh=false from HF);clear HF;have HF:=HG;clear HG)
  have H:=Lib.hid (CG.new h hp)
  have HK:=Lib.hid hk;have HO:=Lib.hid h
  have c0:=H.out.st.cell 0 _ (kd hk)
  obtain ⟨c1,c4,c11,c12,c13,c14,c15,c16⟩:=H.out.cb
  have z1:=H.out.sz.1
  have z4:=H.out.sz.2.2.2.1
  have z10:(AA o.bn).size≤1048576:=by rw [Aa];exact h.bn
  have z11:=LD (r:=o.bw) (q:=o.bh) h.bw h.bh
  clear h hp hk
  try (have HPB:=Lib.hid hpb;clear hpb)
  try (have HBT:=Lib.hid hbt;clear hbt;rw [HBT.out] at c11)
  have hix:=AAl
  try (have G83:CB o.node=true:=hsm)
  have HSM:=Lib.hid hsm
  clear hsm
  go_enter Tryz.func43,Tryz.ntmps43
  go_wp2_with (first
   | (go_at_call 34;refine (Hl _ _ HO.out.node H.out.pow).mono ?_;rintro e v ⟨rfl,hb⟩;have N:=Lib.hid (H.out.below hb);clear c0 c1 c4 c11 c12 c13 c14 c15 c16;clear H hb;have H:=N;clear N;have c0:=H.out.st.cell 0 _ (kd HK.out);obtain ⟨c1,c4,c11,c12,c13,c14,c15,c16⟩:=H.out.cb;(try rw [HBT.out] at c11))
   | (have gd:=G83;clear G83 gd;go_at_call 83;refine (Hz _ _ (by rw [Aa];exact HO.out.name)).mono ?_;rintro e v ⟨rfl,hb⟩;have N:=Lib.hid (H.out.below hb);clear c0 c1 c4 c11 c12 c13 c14 c15 c16;clear H hb;have H:=N;clear N;have c0:=H.out.st.cell 0 _ (kd HK.out);obtain ⟨c1,c4,c11,c12,c13,c14,c15,c16⟩:=H.out.cb;(try rw [HBT.out] at c11))
   | (go_at_call 83;refine (Hz _ _ (by rw [Aa];exact HO.out.bn)).mono ?_;rintro e v ⟨rfl,hb⟩;rw [HPB.out];have N:=Lib.hid (H.out.below hb);clear c0 c1 c4 c11 c12 c13 c14 c15 c16;clear H hb;have H:=N;clear N;have c0:=H.out.st.cell 0 _ (kd HK.out);obtain ⟨c1,c4,c11,c12,c13,c14,c15,c16⟩:=H.out.cb;(try rw [HBT.out] at c11))
   | (go_at_call 82;refine (Ic _ _).mono ?_;rintro e v ⟨rfl,hw⟩;rw [hw,HSM.out];clear hw)
   | (go_at_call 84;refine (LG _ o.bw o.bh HO.out.bw HO.out.bh H.out.pow).mono ?_;rintro e v ⟨rfl,hb⟩;have N:=Lib.hid (H.out.below hb);clear c0 c1 c4 c11 c12 c13 c14 c15 c16;clear H hb;have H:=N;clear N;have c0:=H.out.st.cell 0 _ (kd HK.out);obtain ⟨c1,c4,c11,c12,c13,c14,c15,c16⟩:=H.out.cb;(try rw [HBT.out] at c11)))
  go_ret2
  try exact ZV HK.out ⟨[],false,rfl,HF.out.symm,(fun e=>(by rw [HF.out] at e;cases e)),Nat.zero_le _,H.out.st.1⟩
 all_goals
  refine ZV HK.out ⟨sp.kBox++boxS o.node o.bt (AA o.bn) o.bw o.bh,CP o.bw&&CP o.bh,Fp ?_ ?_,?_,fun _=>rfl,?_,H.out.st.1⟩
  ·unfold boxS
   rw [HBT.out]
   first
    | rw [OX t4]
    | rw [OY t4]
   apply ByteArray.ext
   simp [AA,sp.FI,sp.kBox,sp.Gv,sp.Gw,sp.Gx]
  ·first
    | rfl
    | simp
  ·unfold Ep
   first
    | rw [HSM.out,HBT.out,t3,t4,HPB.out]
    | rw [HSM.out,HBT.out,t3,t4]
   simp
  ·have:=GM HO.out.node
   have r1:=ET HO.out.bw
   have r2:=ET HO.out.bh
   have:=HO.out.bn
   unfold boxS
   first
    | rw [OX t4]
    | rw [OY t4]
   rw [HBT.out]
   simp only [List.length_append,List.length_cons,List.length_nil,sp.FI,sp.kBox,sp.Gv,sp.Gw,sp.Gx,Og] at *
   first
    | omega
    | (simp at *; omega)
set_option maxRecDepth 100000 in
set_option maxHeartbeats 16000000 in
theorem AAo (h:CQ w.heap.size w o tv) (hp:Pow w) (FQ:∀k∈[1,2,3,13,14,4,5,6,12,7,8,10,11,9,15],o.kind≠k):Calls Tryz.prog 43 #[.agg (AQ o tv)] w (FO w o):=by
 have HN:=Lib.hid FQ
 have H:=Lib.hid (CG.new h hp)
 have HO:=Lib.hid h
 have y1:(o.kind==1)=false:=by simpa using FQ 1 (by simp)
 have y2:(o.kind==2)=false:=by simpa using FQ 2 (by simp)
 have y3:(o.kind==3)=false:=by simpa using FQ 3 (by simp)
 have y13:(o.kind==13)=false:=by simpa using FQ 13 (by simp)
 have y14:(o.kind==14)=false:=by simpa using FQ 14 (by simp)
 have y4:(o.kind==4)=false:=by simpa using FQ 4 (by simp)
 have y5:(o.kind==5)=false:=by simpa using FQ 5 (by simp)
 have y6:(o.kind==6)=false:=by simpa using FQ 6 (by simp)
 have y12:(o.kind==12)=false:=by simpa using FQ 12 (by simp)
 have y7:(o.kind==7)=false:=by simpa using FQ 7 (by simp)
 have y8:(o.kind==8)=false:=by simpa using FQ 8 (by simp)
 have y10:(o.kind==10)=false:=by simpa using FQ 10 (by simp)
 have y11:(o.kind==11)=false:=by simpa using FQ 11 (by simp)
 have y9:(o.kind==9)=false:=by simpa using FQ 9 (by simp)
 have y15:(o.kind==15)=false:=by simpa using FQ 15 (by simp)
 have c0:=H.out.st.cell 0 (.int .i64 o.kind) rfl
 have c1:=H.out.st.cell 1 (.int .i64 o.node) rfl
 have c4:=H.out.st.cell 4 (.string (AA o.name)) rfl
 have z1:=H.out.sz.1
 have z4:=H.out.sz.2.2.2.1
 clear h hp FQ
 cases hsm:CB o.node
 all_goals
  have HSM:=Lib.hid hsm
  clear hsm
  go_enter Tryz.func43,Tryz.ntmps43
  go_wp2_with (first
   | (go_at_call 34;refine (Hl _ _ HO.out.node H.out.pow).mono ?_;rintro e v ⟨rfl,hb⟩;have N:=Lib.hid (H.out.below hb);clear c0 c1 c4;clear H hb;have H:=N;clear N;have c0:=H.out.st.cell 0 (.int .i64 o.kind) rfl;have c1:=H.out.st.cell 1 (.int .i64 o.node) rfl;have c4:=H.out.st.cell 4 (.string (AA o.name)) rfl)
   | (go_at_call 83;refine (Hz _ _ (by rw [Aa];exact HO.out.name)).mono ?_;rintro e v ⟨rfl,hb⟩;have N:=Lib.hid (H.out.below hb);clear c0 c1 c4;clear H hb;have H:=N;clear N;have c0:=H.out.st.cell 0 (.int .i64 o.kind) rfl;have c1:=H.out.st.cell 1 (.int .i64 o.node) rfl;have c4:=H.out.st.cell 4 (.string (AA o.name)) rfl)
   | (go_at_call 82;refine (Ic _ _).mono ?_;rintro e v ⟨rfl,hw⟩;rw [hw,HSM.out];clear hw))
  go_ret2
  refine ⟨[],false,rfl,⟨fun e=>(by cases e),fun _ => ?_⟩,Nat.zero_le _,H.out.st.1⟩
  have z:=HN.out
  simp only [List.mem_cons,List.not_mem_nil,or_false] at z
  unfold sp.AU
  repeat rw [if_neg (z _ (by simp))]
end
section
variable {o:sp.Op} {tv:Value} {w:World}
theorem sS (h:CQ w.heap.size w o tv) (hp:Pow w):Calls Tryz.prog 43 #[.agg (AQ o tv)] w (FO w o):=by
 by_cases hn:∀k∈[1,2,3,13,14,4,5,6,12,7,8,10,11,9,15],o.kind≠k
 ·exact AAo h hp hn
 ·simp only [List.mem_cons,List.not_mem_nil,or_false,Classical.not_forall,Classical.not_not] at hn
  obtain ⟨k,hk,e⟩:=hn
  have T:=Lib.hid trivial
  rcases hk with rfl | rfl | rfl | rfl | rfl | rfl | rfl | rfl | rfl | rfl | rfl | rfl | rfl | rfl | rfl
  ·exact v1 h hp (.inl ⟨e,T⟩)
  ·exact u2 h hp (.inr (.inr ⟨e,T⟩))
  ·exact u2 h hp (.inl ⟨e,T⟩)
  ·exact u2 h hp (.inr (.inl ⟨e,T⟩))
  ·cases ho:o.on
   ·exact u3 h hp (.inr ⟨e,Lib.hid ho⟩)
   ·exact u3 h hp (.inl ⟨e,Lib.hid ho⟩)
  ·exact v4 h hp (.inr ⟨e,T⟩)
  ·exact v4 h hp (.inl ⟨e,T⟩)
  ·exact u0 h hp (.inl ⟨e,T⟩)
  ·exact u0 h hp (.inr (.inl ⟨e,T⟩))
  ·exact v1 h hp (.inr ⟨e,T⟩)
  ·exact u0 h hp (.inr (.inr ⟨e,T⟩))
  ·exact u1 h hp (.inl ⟨e,T⟩)
  ·exact u1 h hp (.inr (.inl ⟨e,T⟩))
  ·exact AAn h hp e
  ·exact u1 h hp (.inr (.inr ⟨e,T⟩))
end
def FT (c:UInt8):Value:=match sp.Bz c with
 | some k=>.tuple #[.int .u8 k,.bool true]
 | none=>.tuple #[.int .u8 0,.bool false]
set_option maxRecDepth 100000 in
set_option maxHeartbeats 1000000 in
theorem ZW (c:UInt8) (w:World):Calls Tryz.prog 95 #[.int .u8 c.toNat] w fun e w'=>e=.returned (FT c)∧w'=w:=by
 have hc:=c.toNat_lt
 by_cases h1:48≤c.toNat∧c.toNat≤57
 ·have t1:decide ((c.toNat:Int)≥48)=true:=by simp;omega
  have t2:decide ((c.toNat:Int)≤57)=true:=by simp;omega
  have HX:=Lib.hid (Yk h1)
  have hv:((c.toNat:Int)-48)=((c.toNat-48:Nat):Int):=by omega
  clear h1
  go_enter Tryz.func95,Tryz.ntmps95
  go_wp2
  go_ret2
  exact ⟨by unfold FT;rw [HX.out];rfl,rfl⟩
 ·by_cases h2:97≤c.toNat∧c.toNat≤102
  ·have t1:decide ((c.toNat:Int)≥48)=true:=by simp;omega
   have t2:decide ((c.toNat:Int)≤57)=false:=by simp;omega
   have t3:decide ((c.toNat:Int)≥97)=true:=by simp;omega
   have t4:decide ((c.toNat:Int)≤102)=true:=by simp;omega
   have HX:=Lib.hid (Yl h1 h2)
   have hv:((c.toNat:Int)-97)=((c.toNat-97:Nat):Int):=by omega
   have hv2:(((c.toNat-97:Nat):Int)+10)=((c.toNat-87:Nat):Int):=by omega
   clear h1 h2
   go_enter Tryz.func95,Tryz.ntmps95
   go_wp2
   go_ret2
   exact ⟨by unfold FT;rw [HX.out];rfl,rfl⟩
  ·have HX:=Lib.hid (Ym h1 h2)
   have fin:Ending.returned (.tuple #[.int .u8 0,.bool false])=.returned (FT c):=by unfold FT;rw [HX.out]
   have FIN:=Lib.hid fin
   clear fin
   by_cases q1:48≤c.toNat
   ·have t1:decide ((c.toNat:Int)≥48)=true:=by simp;omega
    have t2:decide ((c.toNat:Int)≤57)=false:=by simp;omega
    by_cases q2:97≤c.toNat
    ·have t3:decide ((c.toNat:Int)≥97)=true:=by simp;omega
     have t4:decide ((c.toNat:Int)≤102)=false:=by simp;omega
     clear h1 h2 q1 q2
     go_enter Tryz.func95,Tryz.ntmps95
     go_wp2
     go_ret2
     exact ⟨FIN.out,rfl⟩
    ·have t3:decide ((c.toNat:Int)≥97)=false:=by simp;omega
     clear h1 h2 q1 q2
     go_enter Tryz.func95,Tryz.ntmps95
     go_wp2
     go_ret2
     exact ⟨FIN.out,rfl⟩
   ·have t1:decide ((c.toNat:Int)≥48)=false:=by simp;omega
    have t3:decide ((c.toNat:Int)≥97)=false:=by simp;omega
    clear h1 h2 q1
    go_enter Tryz.func95,Tryz.ntmps95
    go_wp2
    go_ret2
    exact ⟨FIN.out,rfl⟩
def Eg (n:Nat) (r:List UInt8):Value:=match sp.Aj r with
 | some (t,u)=>.tuple #[.string (AA t),.int .i64 (n-u.length:Nat),.bool true]
 | none=>.tuple #[.string ⟨#[]⟩,.int .i64 0,.bool false]
structure Oz (w:World) (t:List UInt8) (d:Value) (wr:World):Prop where
 own:wr.ownsRow w.heap.size 5 1 d t.length (Lib.byteCells t)
 bel:Below w.heap.size w wr
theorem Oz.app {w wr w':World} {t:List UInt8} {d v':Value} {c:UInt8} {o:Obj} (h:Oz w t d wr) (hown:w'.ownsRow w.heap.size 5 1 v' (t++[c]).length (Lib.byteCells (t++[c]))) (hg:(wr.alloc o).grownBy w' d.ownBlock):Oz w (t++[c]) v' w' :=
 ⟨hown,(h.bel.alloc h.bel.size o).grown hg (by have:=h.bel.size;simp;omega) fun k hk=>by have:=h.own.lt k hk;omega⟩
theorem I8 {S p r:List UInt8} {c:UInt8} (h:S=p++c :: r):∀q,(AA S)[p.length]'q=c:=fun q=>by
 have:(AA S).data.toList=p++c :: r:=by rw [CY,h]
 exact Yj this q
set_option maxRecDepth 100000 in
set_option maxHeartbeats 8000000 in
theorem AAp (S p r:List UInt8) (w:World) (hS:S=p++34 :: r) (hn:S.length≤1099511627776):Calls Tryz.prog 63 #[.string (AA S),.int .i64 p.length] w fun e w'=>e=.returned (Eg S.length r)∧Below w.heap.size w w':=by
 have HO:Hid (Oz w [] (.slice none 0 0) w):=Lib.hid ⟨World.ownsRow_nil _ _ _ _,Below.refl _ _⟩
 have hlen:=congrArg List.length hS
 simp only [List.length_append,List.length_cons] at hlen
 have hp:(p.length:Int)≤1099511627776:=by omega
 have HS:=Lib.hid hS;have HN:=Lib.hid hn;have HLEN:=Lib.hid hlen
 have hsz:=Aa S
 clear hS hlen hn
 go_enter Tryz.func63,Tryz.ntmps63
 go_wp2
 go_loopw [1,7] (fun i d wr=>∃p1 r1 t1,S=p1++r1∧i=.int .i64 (p1.length:Nat)∧Oz w t1 d wr∧(sp.Aj r=(sp.Aj r1).map fun q=>(t1++q.1,q.2))∧t1.length+r1.length≤S.length) (fun i _ _=>S.length-(intOf i).toNat)
 case atStart=>exact ⟨p++[34],r,[],by rw [HS.out];simp,by simp,HO.out,by cases sp.Aj r<;>simp,by have:=HLEN.out;simp;omega⟩
 case round =>
  obtain ⟨p1,r1,t1,hS1,rfl,ho,hq,htl⟩:=hrel
  have HTL:=Lib.hid htl
  clear htl
  have HO1:=Lib.hid ho;have HQ:=Lib.hid hq;have HS1:=Lib.hid hS1
  have hl1:=congrArg List.length hS1
  rw [List.length_append] at hl1
  have hp1:(p1.length:Int)≤1099511627776:=by have:=HN.out;omega
  clear ho hq hS1 HO
  match r1 with
  | [] =>
   have t0:decide ((p1.length:Int)<(S.length:Int))=false:=by simp at hl1;simp;omega
   have HF:Hid (Eg S.length r=.tuple #[.string ⟨#[]⟩,.int .i64 0,.bool false]):=Lib.hid (by unfold Eg;rw [HQ.out,sp.MB];rfl)
   go_wp2
   go_ret3
   exact ⟨by rw [HF.out];rfl,HO1.out.bel⟩
  | c :: r2 =>
   have t0:decide ((p1.length:Int)<(S.length:Int))=true:=by simp at hl1;simp;omega
   have hlt:p1.length<S.length:=by simp at hl1;omega
   have ei:=I8 HS1.out
   by_cases e34:c=34
   ·subst e34
    have hcv:=Yc HO1.out.own
    have HF:Hid (Eg S.length r=.tuple #[.string (AA t1),.int .i64 ((p1.length:Int)+1),.bool true]):=Lib.hid (by
     unfold Eg
     rw [HQ.out,sp.OJ]
     simp only [List.length_cons] at hl1
     simp
     omega)
    go_wp2
    go_ret3
    exact ⟨by rw [HF.out];rfl,HO1.out.bel⟩
   ·have t34:((c.toNat:Int)==34)=false:=Bo c 34 e34
    by_cases e92:c=92
    ·subst e92
     match r2 with
     | [] =>
      have HE:Hid (CS []=none):=Lib.hid rfl
      have t1':decide ((S.length:Int)≤(p1.length:Int)+1)=true:=by simp at hl1;simp;omega
      have HF:Hid (Eg S.length r=.tuple #[.string ⟨#[]⟩,.int .i64 0,.bool false]):=Lib.hid (by unfold Eg;rw [HQ.out,Gi,HE.out];rfl)
      go_wp2
      go_ret3
      exact ⟨by rw [HF.out];rfl,HO1.out.bel⟩
     | d :: r3 =>
      have HS2:Hid (S=(p1++[92])++d :: r3):=Lib.hid (by rw [HS1.out];simp)
      have ei2:∀q,(AA S)[p1.length+1]'q=d:=by have:=I8 HS2.out;simpa using this
      have t1':decide ((S.length:Int)≤(p1.length:Int)+1)=false:=by simp at hl1;simp;omega
      have hlt2:p1.length+1<S.length:=by simp at hl1;omega
      by_cases h1:d=92∨d=34
      ·have HE:Hid (CS (d :: r3)=some (d,r3)):=Lib.hid (by simp only [CS,if_pos h1])
       have HQ2:Hid (sp.Aj r=(sp.Aj r3).map fun q=>((t1++[d])++q.1,q.2)):=Lib.hid (by
        rw [HQ.out,Gi,HE.out]
        show Option.map _ (Option.map _ (sp.Aj r3))=_
        rw [Option.map_map]
        congr 1
        funext q
        simp)
       rcases h1 with rfl | rfl
       ·go_wp2_with (at_builtin;refine Hg rfl _ _ rfl w.heap.size t1 _ rfl (HO1.out.own.alloc _) wr.heap.size 1 [92] _ (0,0) rfl rfl rfl (AX _ _) (by have:=HTL.out;have:=HN.out;omega) (by have:=HO1.out.bel.size;simp;omega) ?_;intro v' w4 hown hg _ _;have HO2:=Lib.hid (HO1.out.app hown hg);clear hown hg)
        refine ⟨⟨p1++[92,92],r3,t1++[92],by rw [HS1.out,List.append_assoc];rfl,by simp<;>omega,HO2.out,HQ2.out,by have:=HTL.out;simp at this ⊢; omega⟩,?_⟩
        simp [intOf]
        omega
       ·go_wp2_with (at_builtin;refine Hg rfl _ _ rfl w.heap.size t1 _ rfl (HO1.out.own.alloc _) wr.heap.size 1 [34] _ (0,0) rfl rfl rfl (AX _ _) (by have:=HTL.out;have:=HN.out;omega) (by have:=HO1.out.bel.size;simp;omega) ?_;intro v' w4 hown hg _ _;have HO2:=Lib.hid (HO1.out.app hown hg);clear hown hg)
        refine ⟨⟨p1++[92,34],r3,t1++[34],by rw [HS1.out,List.append_assoc];rfl,by simp<;>omega,HO2.out,HQ2.out,by have:=HTL.out;simp at this ⊢; omega⟩,?_⟩
        simp [intOf]
        omega
      ·have u1:((d.toNat:Int)==92)=false:=Bo d 92 (fun e=>h1 (Or.inl e))
       have u2:((d.toNat:Int)==34)=false:=Bo d 34 (fun e=>h1 (Or.inr e))
       by_cases h2:d=110
       ·have HE:Hid (CS (d :: r3)=some (10,r3)):=Lib.hid (by simp only [CS,if_neg h1,if_pos h2])
        have HQ2:Hid (sp.Aj r=(sp.Aj r3).map fun q=>((t1++[10])++q.1,q.2)):=Lib.hid (by
         rw [HQ.out,Gi,HE.out]
         show Option.map _ (Option.map _ (sp.Aj r3))=_
         rw [Option.map_map]
         congr 1
         funext q
         simp)
        subst h2
        go_wp2_with (at_builtin;refine Hg rfl _ _ rfl w.heap.size t1 _ rfl (HO1.out.own.alloc _) wr.heap.size 1 [10] _ (0,0) rfl rfl rfl (AX _ _) (by have:=HTL.out;have:=HN.out;omega) (by have:=HO1.out.bel.size;simp;omega) ?_;intro v' w4 hown hg _ _;have HO2:=Lib.hid (HO1.out.app hown hg);clear hown hg)
        refine ⟨⟨p1++[92,110],r3,t1++[10],by rw [HS1.out,List.append_assoc];rfl,by simp<;>omega,HO2.out,HQ2.out,by have:=HTL.out;simp at this ⊢; omega⟩,?_⟩
        simp [intOf]
        omega
       ·have u3:((d.toNat:Int)==110)=false:=Bo d 110 h2
        by_cases h3:d=120
        ·have HX0:Hid (CS (d :: r3)=MO r3):=Lib.hid (by simp only [CS,if_neg h1,if_neg h2,if_pos h3])
         subst h3
         match r3 with
         | [] =>
          have HE:Hid (CS [120]=none):=Lib.hid rfl
          have t2':decide ((S.length:Int)≤(p1.length:Int)+1+2)=true:=by simp at hl1;simp;omega
          have HF:Hid (Eg S.length r=.tuple #[.string ⟨#[]⟩,.int .i64 0,.bool false]):=Lib.hid (by unfold Eg;rw [HQ.out,Gi,HE.out];rfl)
          go_wp2
          go_ret3
          exact ⟨by rw [HF.out];rfl,HO1.out.bel⟩
         | [a] =>
          have HE:Hid (CS [120,a]=none):=Lib.hid rfl
          have t2':decide ((S.length:Int)≤(p1.length:Int)+1+2)=true:=by simp at hl1;simp;omega
          have HF:Hid (Eg S.length r=.tuple #[.string ⟨#[]⟩,.int .i64 0,.bool false]):=Lib.hid (by unfold Eg;rw [HQ.out,Gi,HE.out];rfl)
          go_wp2
          go_ret3
          exact ⟨by rw [HF.out];rfl,HO1.out.bel⟩
         | a :: b :: r4 =>
          have HX1:Hid (CS (120 :: a :: b :: r4)=(sp.Bz a).bind fun x=>(sp.Bz b).map fun y=>(UInt8.ofNat (16*x+y),r4)):=HX0
          clear HX0
          have HS3:Hid (S=(p1++[92,120])++a :: (b :: r4)):=Lib.hid (by rw [HS1.out];simp)
          have HS4:Hid (S=(p1++[92,120,a])++b :: r4):=Lib.hid (by rw [HS1.out];simp)
          have ei3:∀q,(AA S)[p1.length+1+1]'q=a:=by have:=I8 HS3.out;simpa using this
          have ei4:∀q,(AA S)[p1.length+1+2]'q=b:=by have:=I8 HS4.out;simpa using this
          have t2':decide ((S.length:Int)≤(p1.length:Int)+1+2)=false:=by simp at hl1;simp;omega
          have hlt3:p1.length+1+1<S.length:=by simp at hl1;omega
          have hlt4:p1.length+1+2<S.length:=by simp at hl1;omega
          have hxa:∀W,Calls Tryz.prog 95 #[.int .u8 a.toNat] W fun e w'=>e=.returned (FT a)∧w'=W:=fun W=>ZW a W
          have hxb:∀W,Calls Tryz.prog 95 #[.int .u8 b.toNat] W fun e w'=>e=.returned (FT b)∧w'=W:=fun W=>ZW b W
          cases ha:sp.Bz a with
          | none =>
           have HE:Hid (CS (120 :: a :: b :: r4)=none):=Lib.hid (by rw [HX1.out,ha];rfl)
           have va:FT a=.tuple #[.int .u8 0,.bool false]:=by unfold FT;rw [ha]
           rw [va] at hxa
           obtain ⟨kb,ob,vb⟩:∃(k:Int) (o:Bool),FT b=.tuple #[.int .u8 k,.bool o]:=by unfold FT;cases sp.Bz b<;>exact ⟨_,_,rfl⟩
           rw [vb] at hxb
           have HXA:=Lib.hid hxa;have HXB:=Lib.hid hxb
           clear hxa hxb va vb ha
           have HF:Hid (Eg S.length r=.tuple #[.string ⟨#[]⟩,.int .i64 0,.bool false]):=Lib.hid (by unfold Eg;rw [HQ.out,Gi,HE.out];rfl)
           go_wp2_with (first
            | (have hgd:=HXA;clear hgd;go_at_call 95;refine (HXA.out _).mono ?_;rintro e w2 ⟨rfl,rfl⟩;clear HXA)
            | (go_at_call 95;refine (HXB.out _).mono ?_;rintro e w2 ⟨rfl,rfl⟩))
           go_ret3
           exact ⟨by rw [HF.out];rfl,HO1.out.bel⟩
          | some ka =>
           have va:FT a=.tuple #[.int .u8 ka,.bool true]:=by unfold FT;rw [ha]
           rw [va] at hxa
           cases hb:sp.Bz b with
           | none =>
            have HE:Hid (CS (120 :: a :: b :: r4)=none):=Lib.hid (by rw [HX1.out,ha,hb];rfl)
            have vb:FT b=.tuple #[.int .u8 0,.bool false]:=by unfold FT;rw [hb]
            rw [vb] at hxb
            have HXA:=Lib.hid hxa;have HXB:=Lib.hid hxb
            clear hxa hxb va vb ha hb
            have HF:Hid (Eg S.length r=.tuple #[.string ⟨#[]⟩,.int .i64 0,.bool false]):=Lib.hid (by unfold Eg;rw [HQ.out,Gi,HE.out];rfl)
            go_wp2_with (first
             | (have hgd:=HXA;clear hgd;go_at_call 95;refine (HXA.out _).mono ?_;rintro e w2 ⟨rfl,rfl⟩;clear HXA)
             | (go_at_call 95;refine (HXB.out _).mono ?_;rintro e w2 ⟨rfl,rfl⟩))
            go_ret3
            exact ⟨by rw [HF.out];rfl,HO1.out.bel⟩
           | some kb =>
            have HE:Hid (CS (120 :: a :: b :: r4)=some (UInt8.ofNat (16*ka+kb),r4)):=Lib.hid (by rw [HX1.out,ha,hb];rfl)
            have vb:FT b=.tuple #[.int .u8 kb,.bool true]:=by unfold FT;rw [hb]
            rw [vb] at hxb
            have HXA:=Lib.hid hxa;have HXB:=Lib.hid hxb
            have hor:=Yo ha hb
            have HQ2:Hid (sp.Aj r=(sp.Aj r4).map fun q=>((t1++[UInt8.ofNat (16*ka+kb)])++q.1,q.2)):=Lib.hid (by
             rw [HQ.out,Gi,HE.out]
             show Option.map _ (Option.map _ (sp.Aj r4))=_
             rw [Option.map_map]
             congr 1
             funext q
             simp)
            generalize UInt8.ofNat (16*ka+kb)=D at hor HQ2
            clear hxa hxb va vb ha hb HX1 HE
            go_wp2_with (first
             | (have hgd:=HXA;clear hgd;go_at_call 95;refine (HXA.out _).mono ?_;rintro e w2 ⟨rfl,rfl⟩;clear HXA)
             | (go_at_call 95;refine (HXB.out _).mono ?_;rintro e w2 ⟨rfl,rfl⟩)
             | (at_builtin;refine Hg rfl _ _ rfl w.heap.size t1 _ rfl (HO1.out.own.alloc _) _ 1 [D] _ (0,0) rfl rfl rfl (AX _ _) (by have:=HTL.out;have:=HN.out;omega) (by have:=HO1.out.bel.size;simp;omega) ?_;intro v' w4 hown hg _ _;have HO2:=Lib.hid (HO1.out.app hown hg);clear hown hg))
            refine ⟨⟨p1++[92,120,a,b],r4,t1++[D],by rw [HS1.out,List.append_assoc];rfl,by simp<;>omega,HO2.out,HQ2.out,by have:=HTL.out;simp at this ⊢; omega⟩,?_⟩
            simp [intOf]
            omega
        ·have u4:((d.toNat:Int)==120)=false:=Bo d 120 h3
         have HE:Hid (CS (d :: r3)=none):=Lib.hid (by simp only [CS,if_neg h1,if_neg h2,if_neg h3])
         clear h1 h2 h3
         have HF:Hid (Eg S.length r=.tuple #[.string ⟨#[]⟩,.int .i64 0,.bool false]):=Lib.hid (by unfold Eg;rw [HQ.out,Gi,HE.out];rfl)
         go_wp2
         go_ret3
         exact ⟨by rw [HF.out];rfl,HO1.out.bel⟩
    ·have t92:((c.toNat:Int)==92)=false:=Bo c 92 e92
     have HQ2:Hid (sp.Aj r=(sp.Aj r2).map fun q=>((t1++[c])++q.1,q.2)):=Lib.hid (by
      rw [HQ.out,sp.OL e34 e92,Option.map_map]
      congr 1
      funext q
      simp)
     clear e34 e92
     go_wp2_with (at_builtin;refine Hg rfl _ _ rfl w.heap.size t1 _ rfl (HO1.out.own.alloc _) wr.heap.size 1 [c] _ (0,0) rfl rfl rfl (AX _ _) (by have:=HTL.out;have:=HN.out;omega) (by have:=HO1.out.bel.size;simp;omega) ?_;intro v' w4 hown hg _ _;have HO2:=Lib.hid (HO1.out.app hown hg);clear hown hg)
     refine ⟨⟨p1++[c],r2,t1++[c],by rw [HS1.out,List.append_assoc];rfl,by simp,HO2.out,HQ2.out,by have:=HTL.out;simp at this ⊢; omega⟩,?_⟩
     simp [intOf]
     omega
def IQ (w w':World) (S:List UInt8) (e:Ending):Prop:=match sp.words S with
 | some l=>∃v,e=.returned (.tuple #[v,.bool true])∧w'.ownsRow w.heap.size 110 2 v l.length (Dc l)
 | none=>e=.returned (.tuple #[.slice none 0 0,.bool false])
theorem ZX {w w':World} {base:Nat} {e:TypeId} {k n:Nat} {v:Value} {xs:List Value} (h:w.ownsRow base e k v n xs) (hb:Below w.heap.size w w'):w'.ownsRow base e k v n xs:=by
 obtain ⟨hl,h5⟩:=h
 refine ⟨hl,h5.imp id fun ⟨g,cap,cur,y1,y2,y3,y4⟩=>⟨g,cap,cur,y1,y2,(hb.block g (lt_of_block y3)).trans y3,y4⟩⟩
structure RW (w:World) (S:List UInt8) (l:List (List UInt8×Bool)) (v:Value) (p r:List UInt8) (wr:World):Prop where
 text:S=p++r
 own:wr.ownsRow w.heap.size 110 2 v l.length (Dc l)
 bel:Below w.heap.size w wr
 eq:sp.words S=(sp.words r).map fun m=>l++m
 len:l.length+r.length≤S.length
section
variable {w wr w':World} {S p r p' r':List UInt8} {l:List (List UInt8×Bool)} {v v':Value} {x:List UInt8×Bool} {o:Obj}
theorem RW.lay (h:RW w S l v p r wr) (hown:w'.ownsRow w.heap.size 110 2 v' (l++[x]).length (Dc (l++[x]))) (hg:(wr.alloc o).grownBy w' v.ownBlock) (ht:S=p'++r') (he:sp.words r=(sp.words r').map fun m=>x :: m) (hn:r'.length<r.length):RW w S (l++[x]) v' p' r' w' :=
 ⟨ht,hown,(h.bel.alloc h.bel.size o).grown hg (by have:=h.bel.size;simp;omega) fun k hk=>by have:=h.own.lt k hk;omega,by rw [h.eq,he,Option.map_map];congr 1;funext m;simp,by have:=h.len;rw [List.length_append];simp only [List.length_cons,List.length_nil];omega⟩
end
set_option maxRecDepth 100000 in
set_option maxHeartbeats 8000000 in
theorem rY (S:List UInt8) (w:World) (hn:S.length≤1099511627776):Calls Tryz.prog 29 #[.string (AA S)] w fun e w'=>IQ w w' S e∧Below w.heap.size w w':=by
 have HR:Hid (RW w S [] (.slice none 0 0) [] S w):=Lib.hid ⟨rfl,World.ownsRow_nil _ _ _ _,Below.refl _ _,by cases sp.words S<;>simp,by simp⟩
 have HN:=Lib.hid hn
 have hsz:=Aa S
 clear hn
 go_enter Tryz.func29,Tryz.ntmps29
 go_wp2
 go_loopw [4,5] (fun v i wr=>∃l p r,RW w S l v p r wr∧i=.int .i64 (p.length:Nat)) (fun _ i _=>S.length-(intOf i).toNat)
 case atStart=>exact ⟨[],[],S,HR.out,rfl⟩
 case round =>
  obtain ⟨l,p,r,hr,rfl⟩:=hrel
  have HR1:=Lib.hid hr
  have hl1:=congrArg List.length hr.text
  rw [List.length_append] at hl1
  have hp1:(p.length:Int)≤1099511627776:=by have:=HN.out;omega
  have HL1:=Lib.hid hl1
  clear hr HR hl1
  match r with
  | [] =>
   have t0:decide ((p.length:Int)<(S.length:Int))=false:=by have hl1:=HL1.out;simp at hl1;simp;omega
   have hnlt:¬p.length<S.length:=by have hl1:=HL1.out;simp at hl1;omega
   have HF:Hid (sp.words S=some l):=Lib.hid (by rw [HR1.out.eq,sp.MC];simp)
   go_wp2
   go_ret2
   exact ⟨by unfold IQ;rw [HF.out];exact ⟨_,rfl,HR1.out.own⟩,HR1.out.bel⟩
  | c :: r2 =>
   have t0:decide ((p.length:Int)<(S.length:Int))=true:=by have hl1:=HL1.out;simp at hl1;simp;omega
   have hlt:p.length<S.length:=by have hl1:=HL1.out;simp at hl1;omega
   have ei:=I8 HR1.out.text
   by_cases e32:c=32
   ·subst e32
    go_wp2
    refine ⟨⟨l,p++[32],r2,⟨by rw [HR1.out.text,List.append_assoc];rfl,HR1.out.own,HR1.out.bel,by rw [HR1.out.eq,sp.OW],by have:=HR1.out.len;simp at this ⊢; omega⟩,by simp⟩,?_⟩
    simp [intOf]
    omega
   ·have t32:((c.toNat:Int)==32)=false:=Bo c 32 e32
    by_cases e34:c=34
    ·subst e34
     have HQ:=Lib.hid (fun W=>AAp S p r2 W HR1.out.text HN.out)
     cases hq:sp.Aj r2 with
     | none =>
      have hv:Eg S.length r2=.tuple #[.string ⟨#[]⟩,.int .i64 0,.bool false]:=by unfold Eg;rw [hq]
      rw [hv] at HQ
      have HF:Hid (sp.words S=none):=Lib.hid (by rw [HR1.out.eq,U0 hq];rfl)
      clear hv hq
      go_wp2_with (go_at_call 63;refine (HQ.out _).mono ?_;rintro e w2 ⟨rfl,hb2⟩)
      go_ret2
      exact ⟨by unfold IQ;rw [HF.out];rfl,HR1.out.bel.trans (hb2.mono HR1.out.bel.size)⟩
     | some q =>
      obtain ⟨t,u⟩:=q
      obtain ⟨pre,hpre⟩:=AAH _ r2 (Nat.le_refl _) t u hq
      have hql:=ZF _ r2 (Nat.le_refl _) t u hq
      have hlu:u.length≤S.length:=by have hl1:=HL1.out;simp at hl1;omega
      have hv:Eg S.length r2=.tuple #[.string (AA t),.int .i64 (S.length-u.length:Nat),.bool true]:=by unfold Eg;rw [hq]
      rw [hv] at HQ
      have HQL:=Lib.hid hql
      have HT:Hid (S=(p++34 :: pre)++u):=Lib.hid (by rw [HR1.out.text,hpre];simp)
      have hpl:(p++34 :: pre).length=S.length-u.length:=by have:=congrArg List.length HT.out;rw [List.length_append] at this;omega
      have HPL:=Lib.hid hpl
      obtain ⟨E,hE⟩:∃E,E=S.length-u.length:=⟨_,rfl⟩
      rw [←hE] at HQ HPL
      have HE:=Lib.hid hE
      have HEQ:=Lib.hid (U1 hq)
      have HLU:=Lib.hid hlu
      clear hv hq hpre hql hpl hE hlu
      match u with
      | [] =>
       have hnE:¬E<S.length:=by have hE:=HE.out;simp at hE;omega
       have t1':decide ((E:Int)<(S.length:Int))=false:=by have hE:=HE.out;simp at hE;simp;omega
       have HW:Hid (sp.words (34 :: r2)=(sp.words []).map fun m=>(t,true) :: m):=Lib.hid (by rw [HEQ.out];simp)
       go_wp2_with (first
        | (go_at_call 63;refine (HQ.out _).mono ?_;rintro e w2 ⟨rfl,hb2⟩;have HR2:Hid (RW w S l u4 p (34 :: r2) w2):=Lib.hid ⟨HR1.out.text,ZX HR1.out.own hb2,HR1.out.bel.trans (hb2.mono HR1.out.bel.size),HR1.out.eq,HR1.out.len⟩;clear hb2)
        | (at_builtin;refine MQ Qj rfl _ _ rfl w.heap.size l _ rfl (HR2.out.own.alloc _) _ (t,true) (0,0) rfl (AX _ _) (by have:=HR1.out.len;have:=HN.out;omega) (by have:=HR2.out.bel.size;simp;omega) ?_;intro v' w4 hown hg _;have HO:=Lib.hid hown;have HG:=Lib.hid hg;clear hown hg))
       refine ⟨⟨_,p++34 :: pre,[],HR2.out.lay HO.out HG.out HT.out HW.out (by simp),by rw [HPL.out]⟩,?_⟩
       simp [intOf]
       have:=HPL.out
       simp at this
       omega
      | c4 :: u2 =>
       have hEl:E<S.length:=by have hE:=HE.out;have hlu:=HLU.out;simp at hE;simp at hlu;omega
       have t1':decide ((E:Int)<(S.length:Int))=true:=by simp;omega
       have ei2:∀q,(AA S)[E]'q=c4:=by have:=I8 HT.out;rw [HPL.out] at this;exact this
       by_cases e4:c4=32
       ·subst e4
        have HW:Hid (sp.words (34 :: r2)=(sp.words (32 :: u2)).map fun m=>(t,true) :: m):=Lib.hid (by rw [HEQ.out];simp)
        go_wp2_with (first
         | (go_at_call 63;refine (HQ.out _).mono ?_;rintro e w2 ⟨rfl,hb2⟩;have HR2:Hid (RW w S l u4 p (34 :: r2) w2):=Lib.hid ⟨HR1.out.text,ZX HR1.out.own hb2,HR1.out.bel.trans (hb2.mono HR1.out.bel.size),HR1.out.eq,HR1.out.len⟩;clear hb2)
         | (at_builtin;refine MQ Qj rfl _ _ rfl w.heap.size l _ rfl (HR2.out.own.alloc _) _ (t,true) (0,0) rfl (AX _ _) (by have:=HR1.out.len;have:=HN.out;omega) (by have:=HR2.out.bel.size;simp;omega) ?_;intro v' w4 hown hg _;have HO:=Lib.hid hown;have HG:=Lib.hid hg;clear hown hg))
        refine ⟨⟨_,p++34 :: pre,32 :: u2,HR2.out.lay HO.out HG.out HT.out HW.out (by have:=HQL.out;simp at this ⊢; omega),by rw [HPL.out]⟩,?_⟩
        simp [intOf]
        have:=HPL.out
        simp at this
        omega
       ·have t4:((c4.toNat:Int)==32)=false:=Bo c4 32 e4
        have HF:Hid (sp.words S=none):=Lib.hid (by rw [HR1.out.eq,HEQ.out,if_neg (by simp [e4])];rfl)
        clear e4
        go_wp2_with (go_at_call 63;refine (HQ.out _).mono ?_;rintro e w2 ⟨rfl,hb2⟩)
        go_ret2
        exact ⟨by unfold IQ;rw [HF.out];rfl,HR1.out.bel.trans (hb2.mono HR1.out.bel.size)⟩
    ·have t34:((c.toNat:Int)==34)=false:=Bo c 34 e34
     have HC:=Lib.hid (And.intro e32 e34)
     clear e32 e34
     have HPX:Hid (S=p++(c :: r2)):=Lib.hid HR1.out.text
     have hE:∀t1 r1:List UInt8,c :: r2=t1++r1→p.length+t1.length+r1.length=S.length:=fun t1 r1 h=>by
      have e1:=congrArg List.length HPX.out
      have e2:=congrArg List.length h
      rw [List.length_append] at e1 e2
      omega
     have HEE:=Lib.hid hE
     clear hE
     go_wp2
     obtain ⟨wo,hwo⟩:∃wo,wo=wr:=⟨_,rfl⟩
     subst hwo
     go_loopw [9] (fun i w2=>∃t1 r1,c :: r2=t1++r1∧(∀x∈t1,sp.Aw x=true)∧i=.int .i64 (p.length+t1.length:Nat)∧w2=wo) (fun i _=>S.length-(intOf i).toNat)
     case atStart=>exact ⟨[],c :: r2,rfl,fun _ h=>(by cases h),rfl,rfl⟩
     case round =>
      obtain ⟨t1,r1,ht,hall,rfl,rfl⟩:=hrel
      have HT:=Lib.hid ht;have GR:=Lib.hid hall
      have Ie:=Lib.hid (HEE.out t1 r1 ht)
      have HPT:Hid (S=(p++t1)++r1):=Lib.hid (by rw [HPX.out,ht,List.append_assoc])
      have hkb:(p.length:Int)+(t1.length:Int)≤1099511627776:=by have:=HN.out;have:=Ie.out;omega
      clear ht hall
      have HWP:=Lib.hid (U2 (r:=r2) HC.out.1 HC.out.2)
      match r1 with
      | [] =>
       have hnk:¬p.length+t1.length<S.length:=by have hsum:=Ie.out;simp at hsum;omega
       have AAq:(p.length:Int)+(t1.length:Int)≤(S.length:Int):=by have hsum:=Ie.out;simp at hsum;omega
       have k0:decide ((p.length:Int)+(t1.length:Int)<(S.length:Int))=false:=by have hsum:=Ie.out;simp at hsum;simp;omega
       have hex:(AA S).extract p.length (p.length+t1.length)=AA t1:=Om (r:=[]) (by rw [CY,HPX.out,HT.out])
       have hwl:=MP (f:=sp.Aw) (t:=t1) (r:=[]) GR.out (fun _ h=>by cases h)
       rw [←HT.out] at hwl
       have HW:Hid (sp.words (c :: r2)=(sp.words []).map fun m=>(t1,false) :: m):=Lib.hid (by rw [HWP.out,hwl.1,hwl.2,if_neg (by simp)])
       clear hwl
       go_wp2_with (at_builtin;refine MQ Qj rfl _ _ rfl w.heap.size l _ rfl (HR1.out.own.alloc _) _ (t1,false) (0,0) rfl (AX _ _) (by have:=HR1.out.len;have:=HN.out;omega) (by have:=HR1.out.bel.size;simp;omega) ?_;intro v' w4 hown hg _;have HO:=Lib.hid hown;have HG:=Lib.hid hg;clear hown hg)
       refine ⟨⟨_,p++t1,[],HR1.out.lay HO.out HG.out HPT.out HW.out (by simp),by simp⟩,?_⟩
       simp [intOf]
       have hsum:=Ie.out
       simp at hsum
       omega
      | c4 :: r4 =>
       have k0:decide ((p.length:Int)+(t1.length:Int)<(S.length:Int))=true:=by have hsum:=Ie.out;simp at hsum;simp;omega
       have AAq:(p.length:Int)+(t1.length:Int)≤(S.length:Int):=by have hsum:=Ie.out;simp at hsum;omega
       have ACP:p.length+t1.length<S.length:=by have hsum:=Ie.out;simp at hsum;omega
       have ei2:∀q,(AA S)[p.length+t1.length]'q=c4:=by have:=I8 HPT.out;simpa using this
       by_cases e4:c4=32
       ·subst e4
        have hex:(AA S).extract p.length (p.length+t1.length)=AA t1:=Om (r:=32 :: r4) (by rw [CY,HPX.out,HT.out])
        have hwl:=MP (f:=sp.Aw) (t:=t1) (r:=32 :: r4) GR.out (fun _ h=>by cases h;rfl)
        rw [←HT.out] at hwl
        have HW:Hid (sp.words (c :: r2)=(sp.words (32 :: r4)).map fun m=>(t1,false) :: m):=Lib.hid (by rw [HWP.out,hwl.1,hwl.2,if_neg (by simp)])
        clear hwl
        have hlt3:(32 :: r4).length<(c :: r2).length:=by
         have h1:=congrArg List.length HT.out
         rw [List.length_append] at h1
         have h0:t1≠[]:=fun e=>by
          have:=HT.out
          rw [e] at this
          cases this
          exact HC.out.1 rfl
         have:=List.length_pos_iff.2 h0
         omega
        have HL3:=Lib.hid hlt3
        clear hlt3
        go_wp2_with (at_builtin;refine MQ Qj rfl _ _ rfl w.heap.size l _ rfl (HR1.out.own.alloc _) _ (t1,false) (0,0) rfl (AX _ _) (by have:=HR1.out.len;have:=HN.out;omega) (by have:=HR1.out.bel.size;simp;omega) ?_;intro v' w4 hown hg _;have HO:=Lib.hid hown;have HG:=Lib.hid hg;clear hown hg)
        refine ⟨⟨_,p++t1,32 :: r4,HR1.out.lay HO.out HG.out HPT.out HW.out HL3.out,by simp⟩,?_⟩
        simp [intOf]
        have:=HL3.out
        have hl1:=HL1.out
        have hsum:=Ie.out
        simp at hsum this hl1
        omega
       ·have k32:((c4.toNat:Int)==32)=false:=Bo c4 32 e4
        have ACQ:((c4.toNat:Int) != 32)=true:=by rw [bne,k32];rfl
        by_cases e5:c4=34
        ·subst e5
         have hwl:=MP (f:=sp.Aw) (t:=t1) (r:=34 :: r4) GR.out (fun _ h=>by cases h;rfl)
         rw [←HT.out] at hwl
         have HF:Hid (sp.words S=none):=Lib.hid (by rw [HR1.out.eq,HWP.out,hwl.2];simp)
         clear hwl
         go_wp2
         go_ret2
         exact ⟨by unfold IQ;rw [HF.out];rfl,HR1.out.bel⟩
        ·have k34:((c4.toNat:Int)==34)=false:=Bo c4 34 e5
         have hcw:sp.Aw c4=true:=by simp [sp.Aw,e4,e5]
         have HA2:Hid (∀x∈t1++[c4],sp.Aw x=true):=Lib.hid fun x hx=>by
          rcases List.mem_append.1 hx with h | h
          ·exact GR.out x h
          ·rw [List.mem_singleton] at h;rw [h];exact hcw
         have HT2:Hid (c :: r2=(t1++[c4])++r4):=Lib.hid (by rw [HT.out];simp)
         clear hcw e4 e5
         go_wp2
         refine ⟨⟨t1++[c4],r4,HT2.out,HA2.out,by simp;omega,trivial⟩,?_⟩
         simp [intOf]
         have hsum:=Ie.out
         simp at hsum
         omega
def FU (t:List UInt8):Value:=match sp.num t with
 | some n=>.tuple #[.int .i64 n,.bool true]
 | none=>.tuple #[.int .i64 0,.bool false]
theorem NJ {t:List UInt8} (h:Ad t = []∨9<(Ad t).length∨((Ad t).head?=some 48∧t≠[48])):FU t=.tuple #[.int .i64 0,.bool false]:=by unfold FU;rw [Oo,if_pos h]
theorem VK {t:List UInt8} (h:¬(Ad t).all sp.Ac=true):FU t=.tuple #[.int .i64 0,.bool false]:=by
 unfold FU
 rw [Oo]
 split
 ·rename_i h2;split at h2
  ·cases h2
  ·first | (rw [if_neg h] at h2;cases h2) | cases h2
 ·rfl
theorem VM {t:List UInt8} (h:¬(Ad t = []∨9<(Ad t).length∨((Ad t).head?=some 48∧t≠[48]))) (ha:(Ad t).all sp.Ac=true):FU t=.tuple #[.int .i64 (if t.head?=some 45 then -(sp.val 0 (Ad t):Int) else (sp.val 0 (Ad t):Int)),.bool true]:=by
 unfold FU
 rw [Oo,if_neg h,if_pos ha]
set_option maxRecDepth 100000 in
set_option maxHeartbeats 8000000 in
theorem AAr (t:List UInt8) (w:World) (hn:t.length≤1099511627776):Calls Tryz.prog 97 #[.string (AA t)] w fun e w'=>e=.returned (FU t)∧Below w.heap.size w w':=by
 match t with
 | [] =>
  have e1:(AA []).toList.isEmpty=true:=by rw [Lib.toList_data];rfl
  have HF:=Lib.hid (NJ (t:=[]) (Or.inl rfl))
  go_enter Tryz.func97,Tryz.ntmps97
  go_wp2
  go_ret2
  exact ⟨by rw [HF.out];rfl,Below.refl _ _⟩
 | c :: r =>
  have e1:(AA (c :: r)).toList.isEmpty=false:=by rw [Lib.toList_data,CY];rfl
  have e0:0<(AA (c :: r)).size:=by rw [Aa];simp
  have ei:∀p,(AA (c :: r))[0]'p=c:=fun p=>rfl
  have es1:(1:Int)≤(AA (c :: r)).size:=by rw [Aa];simp;omega
  have ex:(AA (c :: r)).extract 1 (AA (c :: r)).size=AA r:=Je (c :: r) 1 _ (by simp) (Aa _)
  by_cases h45:c=45
  ·subst h45
   match r with
   | [] =>
    have e2:(AA []).toList.isEmpty=true:=by rw [Lib.toList_data];rfl
    have HF:=Lib.hid (NJ (t:=[45]) (Or.inl rfl))
    go_enter Tryz.func97,Tryz.ntmps97
    go_wp2
    go_ret2
    exact ⟨by rw [HF.out];rfl,Below.refl _ _⟩
   | d :: r2 =>
    have e2:(AA (d :: r2)).toList.isEmpty=false:=by rw [Lib.toList_data,CY];rfl
    have g0:0<(AA (d :: r2)).size:=by rw [Aa];simp
    have gi:∀p,(AA (d :: r2))[0]'p=d:=fun p=>rfl
    have hsz:(AA (d :: r2)).size=((d :: r2):List UInt8).length:=Aa _
    have hbo:Ad (45 :: d :: r2)=(d :: r2):=rfl
    by_cases h9:9<((d :: r2):List UInt8).length
    ·have HF:=Lib.hid (NJ (t:=(45 :: d :: r2)) (Or.inr (Or.inl (by rw [hbo];exact h9))))
     have t9:decide ((9:Int)<(AA (d :: r2)).size)=true:=by rw [Aa];simp at h9 ⊢; omega
     have t9n:(9:Int)<(((d :: r2):List UInt8).length:Int):=by omega
     clear h9 hbo
     go_enter Tryz.func97,Tryz.ntmps97
     go_wp2
     go_ret2
     exact ⟨by rw [HF.out];rfl,Below.refl _ _⟩
    ·have t9:decide ((9:Int)<(AA (d :: r2)).size)=false:=by rw [Aa];simp at h9 ⊢; omega
     have t9n:¬(9:Int)<(((d :: r2):List UInt8).length:Int):=by omega
     by_cases h48:d=48
     ·subst h48
      have HF:=Lib.hid (NJ (t:=(45 :: 48 :: r2)) (Or.inr (Or.inr ⟨rfl,by simp⟩)))
      have q0:((AA (45 :: 48 :: r2)).toList==[48])=false:=AL (by simp)
      clear h9 hbo
      go_enter Tryz.func97,Tryz.ntmps97
      go_wp2
      go_ret2
      exact ⟨by rw [HF.out];rfl,Below.refl _ _⟩
     ·have t48:((d.toNat:Int)==48)=false:=Bo d 48 h48
      have q1:((AA (d :: r2)).toList==(AA (45 :: d :: r2)).toList)=false:=by rw [Lib.toList_data (AA (45 :: d :: r2)),CY];exact AL (fun e=>by have:=congrArg List.length e;simp at this)
      have HN9:Hid (((d :: r2):List UInt8).length≤9):=Lib.hid (by omega)
      have HBAD:=Lib.hid (fun h=>VK (t:=(45 :: d :: r2)) (by rw [hbo];exact h))
      have IA:Hid (((d :: r2):List UInt8).all sp.Ac=true→FU (45 :: d :: r2)=.tuple #[.int .i64 (-(sp.val 0 (d :: r2):Int)),.bool true]):=Lib.hid (fun h=>by rw [VM (t:=(45 :: d :: r2)) (by rw [hbo];exact fun h=>h.elim (fun h=>by cases h) (fun h=>h.elim (fun h=>by omega) (fun h=>h48 (by simpa using h.1)))) (by rw [hbo];exact h),hbo];rfl)
      clear h9 hbo h48
      generalize hRV:FU (45 :: d :: r2)=RV at HBAD IA ⊢
      obtain ⟨W2,cp,q,hcv,hbw,hrow⟩:=MS w (d :: r2)
      have HB:=Lib.hid hbw;have Et:=Lib.hid hrow
      generalize hS:AA (45 :: d :: r2)=S at e1 e0 ei es1 ex q1 ⊢
      clear hS hRV
      obtain ⟨X,hX⟩:∃X:List UInt8,X=(d :: r2):=⟨_,rfl⟩
      rw [←hX] at hcv Et HBAD IA HN9 hsz e2 g0 gi ex q1 t9 t9n
      clear hbw hrow hX
      go_enter Tryz.func97,Tryz.ntmps97
      go_wp2
      go_loopw [5,37] (fun n i wr=>∃k:Nat,k≤X.length∧i=.int .i64 k∧n=.int .i64 (sp.val 0 (X.take k):Nat)∧(∀x∈X.take k,sp.Ac x=true)∧wr=W2) (fun _ i _=>X.length-(intOf i).toNat)
      case atStart=>exact ⟨0,Nat.zero_le _,rfl,rfl,fun _ h=>(by cases h),rfl⟩
      case round =>
       obtain ⟨k,hk,rfl,rfl,hd,rfl⟩:=hrel
       have HD:=Lib.hid hd
       clear hd
       by_cases hlt:k<X.length
       ·have hcell:=Et.out k hlt
        have hv:=Jc hlt
        have hs:sp.val 0 (X.take k)<1000000000:=IZ HD.out (by rw [List.length_take];have:=HN9.out;omega)
        have hmem:X.getD k 0∈X:=by rw [Ef hlt];exact List.getElem_mem _
        have EK:=Lib.hid (MV hlt)
        have hX9:(X.length:Int)≤9:=by have:=HN9.out;omega
        have HV:=Lib.hid hv;have HM:=Lib.hid hmem
        clear hv hmem
        generalize X.getD k 0=K at hcell HV HM EK
        have hK:=K.toNat_lt
        by_cases hdg:48≤K.toNat∧K.toNat≤57
        ·have t1:decide ((K.toNat:Int)<48)=false:=by simp;omega
         have t2:decide ((57:Int)<K.toNat)=false:=by simp;omega
         have hsub:((K.toNat:Int)-48)=((K.toNat-48:Nat):Int):=by omega
         have hb1:((K.toNat-48:Nat):Int)≤9:=by omega
         have HKD:=Lib.hid ((Gm K).2 hdg)
         have hn1:¬(K.toNat:Int)<48:=by omega
         have hn2:¬(57:Int)<K.toNat:=by omega
         generalize K.toNat-48=D at hsub hb1 HV
         generalize sp.val 0 (X.take k)=V at hs HV
         clear hdg
         go_wp2
         refine ⟨⟨k+1,by omega,by go_num,?_,fun x hx => ?_,trivial⟩,by simp [intOf];omega⟩
         ·rw [HV.out];simp
         ·rcases EK.out x hx with h | h
          ·exact HD.out x h
          ·rw [h];exact HKD.out
        ·have HF:Hid (RV=.tuple #[.int .i64 0,.bool false]):=Lib.hid (HBAD.out (fun hall=>by
          have:=List.all_eq_true.1 hall K HM.out
          exact hdg ((Gm K).1 this)))
         by_cases q1:48≤K.toNat
         ·have t1:decide ((K.toNat:Int)<48)=false:=by simp;omega
          have t2:decide ((57:Int)<K.toNat)=true:=by simp;omega
          have hn1:¬(K.toNat:Int)<48:=by omega
          clear hdg q1
          go_wp2
          go_ret2
          exact ⟨by rw [HF.out];rfl,HB.out⟩
         ·have t1:decide ((K.toNat:Int)<48)=true:=by simp;omega
          clear hdg q1
          go_wp2
          go_ret2
          exact ⟨by rw [HF.out];rfl,HB.out⟩
       ·have hke:k=X.length:=by omega
        subst hke
        have HF:=Lib.hid (IA.out (List.all_eq_true.2 fun x hx=>HD.out x (by rw [List.take_length];exact hx)))
        have hs:sp.val 0 (X.take X.length)<1000000000:=IZ HD.out (by rw [List.take_length];exact HN9.out)
        rw [List.take_length] at hs ⊢
        generalize sp.val 0 X=V at hs HF
        have hX9:(X.length:Int)≤9:=by have:=HN9.out;omega
        go_wp2
        go_ret2
        exact ⟨by rw [HF.out];rfl,HB.out⟩
  ·have t45:((c.toNat:Int)==45)=false:=Bo c 45 h45
   have hsz:(AA (c :: r)).size=((c :: r):List UInt8).length:=Aa _
   have hbo:Ad (c :: r)=(c :: r):=(by unfold Ad;rw [if_neg (by simpa using h45)])
   by_cases h9:9<((c :: r):List UInt8).length
   ·have HF:=Lib.hid (NJ (t:=(c :: r)) (Or.inr (Or.inl (by rw [hbo];exact h9))))
    have t9:decide ((9:Int)<(AA (c :: r)).size)=true:=by rw [Aa];simp at h9 ⊢; omega
    have t9n:(9:Int)<(((c :: r):List UInt8).length:Int):=by omega
    clear h9 hbo
    go_enter Tryz.func97,Tryz.ntmps97
    go_wp2
    go_ret2
    exact ⟨by rw [HF.out];rfl,Below.refl _ _⟩
   ·have t9:decide ((9:Int)<(AA (c :: r)).size)=false:=by rw [Aa];simp at h9 ⊢; omega
    have t9n:¬(9:Int)<(((c :: r):List UInt8).length:Int):=by omega
    by_cases h48:c=48
    ·subst h48
     by_cases hr:r = []
     ·subst hr
      have q0:((AA [48]).toList==[48])=true:=str_eq rfl
      have q1:((AA [48]).toList==(AA [48]).toList)=true:=beq_self_eq_true _
      have HN9:Hid (([48]:List UInt8).length≤9):=Lib.hid (by omega)
      have HBAD:=Lib.hid (fun h=>VK (t:=[48]) (by rw [hbo];exact h))
      have IA:Hid (([48]:List UInt8).all sp.Ac=true→FU [48]=.tuple #[.int .i64 ((sp.val 0 [48]:Int)),.bool true]):=Lib.hid (fun h=>by rw [VM (t:=[48]) (by rw [hbo];simp) (by rw [hbo];exact h),hbo];rw [if_neg (by simp)])
      clear h9 hbo
      generalize hRV:FU [48]=RV at HBAD IA ⊢
      obtain ⟨W2,cp,q,hcv,hbw,hrow⟩:=MS w [48]
      have HB:=Lib.hid hbw;have Et:=Lib.hid hrow
      generalize hS:AA [48]=S at e0 ei e1 es1 q0 q1 t9 hsz hcv ⊢
      clear hS hRV
      obtain ⟨X,hX⟩:∃X:List UInt8,X = [48]:=⟨_,rfl⟩
      rw [←hX] at Et HBAD IA HN9 hsz t9n hcv
      clear hbw hrow hX
      go_enter Tryz.func97,Tryz.ntmps97
      go_wp2
      go_loopw [5,37] (fun n i wr=>∃k:Nat,k≤X.length∧i=.int .i64 k∧n=.int .i64 (sp.val 0 (X.take k):Nat)∧(∀x∈X.take k,sp.Ac x=true)∧wr=W2) (fun _ i _=>X.length-(intOf i).toNat)
      case atStart=>exact ⟨0,Nat.zero_le _,rfl,rfl,fun _ h=>(by cases h),rfl⟩
      case round =>
       obtain ⟨k,hk,rfl,rfl,hd,rfl⟩:=hrel
       have HD:=Lib.hid hd
       clear hd
       by_cases hlt:k<X.length
       ·have hcell:=Et.out k hlt
        have hv:=Jc hlt
        have hs:sp.val 0 (X.take k)<1000000000:=IZ HD.out (by rw [List.length_take];have:=HN9.out;omega)
        have hmem:X.getD k 0∈X:=by rw [Ef hlt];exact List.getElem_mem _
        have EK:=Lib.hid (MV hlt)
        have hX9:(X.length:Int)≤9:=by have:=HN9.out;omega
        have HV:=Lib.hid hv;have HM:=Lib.hid hmem
        clear hv hmem
        generalize X.getD k 0=K at hcell HV HM EK
        have hK:=K.toNat_lt
        by_cases hdg:48≤K.toNat∧K.toNat≤57
        ·have t1:decide ((K.toNat:Int)<48)=false:=by simp;omega
         have t2:decide ((57:Int)<K.toNat)=false:=by simp;omega
         have hsub:((K.toNat:Int)-48)=((K.toNat-48:Nat):Int):=by omega
         have hb1:((K.toNat-48:Nat):Int)≤9:=by omega
         have HKD:=Lib.hid ((Gm K).2 hdg)
         have hn1:¬(K.toNat:Int)<48:=by omega
         have hn2:¬(57:Int)<K.toNat:=by omega
         generalize K.toNat-48=D at hsub hb1 HV
         generalize sp.val 0 (X.take k)=V at hs HV
         clear hdg
         go_wp2
         refine ⟨⟨k+1,by omega,by go_num,?_,fun x hx => ?_,trivial⟩,by simp [intOf];omega⟩
         ·rw [HV.out];simp
         ·rcases EK.out x hx with h | h
          ·exact HD.out x h
          ·rw [h];exact HKD.out
        ·have HF:Hid (RV=.tuple #[.int .i64 0,.bool false]):=Lib.hid (HBAD.out (fun hall=>by
          have:=List.all_eq_true.1 hall K HM.out
          exact hdg ((Gm K).1 this)))
         by_cases q1:48≤K.toNat
         ·have t1:decide ((K.toNat:Int)<48)=false:=by simp;omega
          have t2:decide ((57:Int)<K.toNat)=true:=by simp;omega
          have hn1:¬(K.toNat:Int)<48:=by omega
          clear hdg q1
          go_wp2
          go_ret2
          exact ⟨by rw [HF.out];rfl,HB.out⟩
         ·have t1:decide ((K.toNat:Int)<48)=true:=by simp;omega
          clear hdg q1
          go_wp2
          go_ret2
          exact ⟨by rw [HF.out];rfl,HB.out⟩
       ·have hke:k=X.length:=by omega
        subst hke
        have HF:=Lib.hid (IA.out (List.all_eq_true.2 fun x hx=>HD.out x (by rw [List.take_length];exact hx)))
        have hs:sp.val 0 (X.take X.length)<1000000000:=IZ HD.out (by rw [List.take_length];exact HN9.out)
        rw [List.take_length] at hs ⊢
        generalize sp.val 0 X=V at hs HF
        have hX9:(X.length:Int)≤9:=by have:=HN9.out;omega
        go_wp2
        go_ret2
        exact ⟨by rw [HF.out];rfl,HB.out⟩
     ·have HF:=Lib.hid (NJ (t:=(48 :: r)) (Or.inr (Or.inr ⟨by rw [hbo];rfl,by simpa using hr⟩)))
      have q0:((AA (48 :: r)).toList==[48])=false:=AL (by simpa using hr)
      clear h9 hbo hr
      go_enter Tryz.func97,Tryz.ntmps97
      go_wp2
      go_ret2
      exact ⟨by rw [HF.out];rfl,Below.refl _ _⟩
    ·have t48:((c.toNat:Int)==48)=false:=Bo c 48 h48
     have q1:((AA (c :: r)).toList==(AA (c :: r)).toList)=true:=beq_self_eq_true _
     have HN9:Hid (((c :: r):List UInt8).length≤9):=Lib.hid (by omega)
     have HBAD:=Lib.hid (fun h=>VK (t:=(c :: r)) (by rw [hbo];exact h))
     have IA:Hid (((c :: r):List UInt8).all sp.Ac=true→FU (c :: r)=.tuple #[.int .i64 ((sp.val 0 (c :: r):Int)),.bool true]):=Lib.hid (fun h=>by rw [VM (t:=(c :: r)) (by rw [hbo];exact fun h=>h.elim (fun h=>by cases h) (fun h=>h.elim (fun h=>by omega) (fun h=>h48 (by simpa using h.1)))) (by rw [hbo];exact h),hbo];rw [if_neg (by simpa using h45)])
     clear h9 hbo h48
     generalize hRV:FU (c :: r)=RV at HBAD IA ⊢
     obtain ⟨W2,cp,q,hcv,hbw,hrow⟩:=MS w (c :: r)
     have HB:=Lib.hid hbw;have Et:=Lib.hid hrow
     generalize hS:AA (c :: r)=S at e0 ei e1 es1 q1 t9 hsz hcv ⊢
     clear hS hRV
     obtain ⟨X,hX⟩:∃X:List UInt8,X=(c :: r):=⟨_,rfl⟩
     rw [←hX] at Et HBAD IA HN9 hsz t9n hcv
     clear hbw hrow hX
     go_enter Tryz.func97,Tryz.ntmps97
     go_wp2
     go_loopw [5,37] (fun n i wr=>∃k:Nat,k≤X.length∧i=.int .i64 k∧n=.int .i64 (sp.val 0 (X.take k):Nat)∧(∀x∈X.take k,sp.Ac x=true)∧wr=W2) (fun _ i _=>X.length-(intOf i).toNat)
     case atStart=>exact ⟨0,Nat.zero_le _,rfl,rfl,fun _ h=>(by cases h),rfl⟩
     case round =>
      obtain ⟨k,hk,rfl,rfl,hd,rfl⟩:=hrel
      have HD:=Lib.hid hd
      clear hd
      by_cases hlt:k<X.length
      ·have hcell:=Et.out k hlt
       have hv:=Jc hlt
       have hs:sp.val 0 (X.take k)<1000000000:=IZ HD.out (by rw [List.length_take];have:=HN9.out;omega)
       have hmem:X.getD k 0∈X:=by rw [Ef hlt];exact List.getElem_mem _
       have EK:=Lib.hid (MV hlt)
       have hX9:(X.length:Int)≤9:=by have:=HN9.out;omega
       have HV:=Lib.hid hv;have HM:=Lib.hid hmem
       clear hv hmem
       generalize X.getD k 0=K at hcell HV HM EK
       have hK:=K.toNat_lt
       by_cases hdg:48≤K.toNat∧K.toNat≤57
       ·have t1:decide ((K.toNat:Int)<48)=false:=by simp;omega
        have t2:decide ((57:Int)<K.toNat)=false:=by simp;omega
        have hsub:((K.toNat:Int)-48)=((K.toNat-48:Nat):Int):=by omega
        have hb1:((K.toNat-48:Nat):Int)≤9:=by omega
        have HKD:=Lib.hid ((Gm K).2 hdg)
        have hn1:¬(K.toNat:Int)<48:=by omega
        have hn2:¬(57:Int)<K.toNat:=by omega
        generalize K.toNat-48=D at hsub hb1 HV
        generalize sp.val 0 (X.take k)=V at hs HV
        clear hdg
        go_wp2
        refine ⟨⟨k+1,by omega,by go_num,?_,fun x hx => ?_,trivial⟩,by simp [intOf];omega⟩
        ·rw [HV.out];simp
        ·rcases EK.out x hx with h | h
         ·exact HD.out x h
         ·rw [h];exact HKD.out
       ·have HF:Hid (RV=.tuple #[.int .i64 0,.bool false]):=Lib.hid (HBAD.out (fun hall=>by
         have:=List.all_eq_true.1 hall K HM.out
         exact hdg ((Gm K).1 this)))
        by_cases q1:48≤K.toNat
        ·have t1:decide ((K.toNat:Int)<48)=false:=by simp;omega
         have t2:decide ((57:Int)<K.toNat)=true:=by simp;omega
         have hn1:¬(K.toNat:Int)<48:=by omega
         clear hdg q1
         go_wp2
         go_ret2
         exact ⟨by rw [HF.out];rfl,HB.out⟩
        ·have t1:decide ((K.toNat:Int)<48)=true:=by simp;omega
         clear hdg q1
         go_wp2
         go_ret2
         exact ⟨by rw [HF.out];rfl,HB.out⟩
      ·have hke:k=X.length:=by omega
       subst hke
       have HF:=Lib.hid (IA.out (List.all_eq_true.2 fun x hx=>HD.out x (by rw [List.take_length];exact hx)))
       have hs:sp.val 0 (X.take X.length)<1000000000:=IZ HD.out (by rw [List.take_length];exact HN9.out)
       rw [List.take_length] at hs ⊢
       generalize sp.val 0 X=V at hs HF
       have hX9:(X.length:Int)≤9:=by have:=HN9.out;omega
       go_wp2
       go_ret2
       exact ⟨by rw [HF.out];rfl,HB.out⟩
def F9 (X:List UInt8) (v:Int) (ok:Bool):Prop:=sp.I64 v∧(if ok then X=Lib.decDigits v.toNat∧0≤v else ∀m:Nat,m≤9223372036854775807→X≠Lib.decDigits m)
def Jh (X:List UInt8) (e:Ending):Prop:=∃v ok,e=.returned (.tuple #[.int .i64 v,.bool ok])∧F9 X v ok
theorem JH {X:List UInt8} {v:Int} {ok:Bool} (h:F9 X v ok):Jh X (.returned (.tuple #[.int .i64 v,.bool ok])):=⟨v,ok,rfl,h⟩
theorem count_nil:F9 [] 0 false:=⟨⟨by decide,by decide⟩,fun m _ e=>sp.JW m e.symm⟩
theorem AAs {X:List UInt8} (h:19<X.length):F9 X 0 false:=⟨⟨by decide,by decide⟩,fun m hm e=>by
 have h1:=Yw hm
 rw [←Lib.decDigits_length,←e] at h1
 omega⟩
theorem AAt {r:List UInt8} (h:r≠[]):F9 (48 :: r) 0 false:=⟨⟨by decide,by decide⟩,fun m hm e=>by
 by_cases h0:m=0
 ·subst h0
  rw [sp.IJ (by omega)] at e
  cases e
  exact h rfl
 ·have:=sp.OI m h0
  rw [←e] at this
  exact this rfl⟩
theorem ZY {X:List UInt8} (h:¬X.all sp.Ac=true):F9 X 0 false:=⟨⟨by decide,by decide⟩,fun m hm e=>h (List.all_eq_true.2 fun c hc=>sp.KN m c (e ▸ hc))⟩
theorem ZZ {X:List UInt8} (h0:X≠[]) (h1:X.head?=some 48→X = [48]) (h:X.all sp.Ac=true) (hm:sp.val 0 X≤9223372036854775807):F9 X (sp.val 0 X:Nat) true :=
 ⟨⟨by omega,by omega⟩,by rw [if_pos rfl];exact ⟨by rw [Int.toNat_natCast];exact (sp.nZ X (List.all_eq_true.1 h) h0 h1).symm,by omega⟩⟩
theorem Za {X:List UInt8} (h0:X≠[]) (h1:X.head?=some 48→X = [48]) (h:X.all sp.Ac=true) (hm:¬sp.val 0 X≤9223372036854775807) (v:Int) (hv:sp.I64 v):F9 X v false :=
 ⟨hv,fun m hm2 e=>hm (by rw [e,sp.JV];exact hm2)⟩
set_option maxRecDepth 100000 in
set_option maxHeartbeats 1000000 in
theorem Zb (c:UInt8) (w:World):Calls Tryz.prog 157 #[.int .u8 c.toNat] w fun e w'=>e=.returned (.bool (sp.Ac c))∧w'=w:=by
 have hc:=c.toNat_lt
 have HD:=Lib.hid (Gm c)
 by_cases h1:48≤c.toNat
 ·have t1:decide ((c.toNat:Int)≥48)=true:=by simp;omega
  by_cases h2:c.toNat≤57
  ·have t2:decide ((c.toNat:Int)≤57)=true:=by simp;omega
   have HF:=Lib.hid (HD.out.2 ⟨h1,h2⟩)
   clear h1 h2
   go_enter Tryz.func157,Tryz.ntmps157
   go_wp2
   go_ret
   exact ⟨by rw [HF.out];rfl,rfl⟩
  ·have t2:decide ((c.toNat:Int)≤57)=false:=by simp;omega
   have HF:Hid (sp.Ac c=false):=Lib.hid (by cases hb:sp.Ac c with | false=>rfl | true=>exact absurd (HD.out.1 hb).2 h2)
   clear h1 h2
   go_enter Tryz.func157,Tryz.ntmps157
   go_wp2
   go_ret
   exact ⟨by rw [HF.out];rfl,rfl⟩
 ·have t1:decide ((c.toNat:Int)≥48)=false:=by simp;omega
  have HF:Hid (sp.Ac c=false):=Lib.hid (by cases hb:sp.Ac c with | false=>rfl | true=>exact absurd (HD.out.1 hb).1 h1)
  clear h1
  go_enter Tryz.func157,Tryz.ntmps157
  go_wp2
  go_ret
  exact ⟨by rw [HF.out];rfl,rfl⟩
set_option maxRecDepth 100000 in
set_option maxHeartbeats 8000000 in
theorem count_any (X:List UInt8) (w:World) (hn:X.length≤1099511627776):Calls Tryz.prog 126 #[.string (AA X)] w fun e w'=>Jh X e∧Below w.heap.size w w':=by
 match X with
 | [] =>
  have e1:(AA []).toList.isEmpty=true:=by rw [Lib.toList_data];rfl
  go_enter Tryz.func126,Tryz.ntmps126
  go_wp2
  go_ret2
  exact ⟨JH count_nil,Below.refl _ _⟩
 | c :: r =>
  have e1:(AA (c :: r)).toList.isEmpty=false:=by rw [Lib.toList_data,CY];rfl
  have e0:0<(AA (c :: r)).size:=by rw [Aa];simp
  have ei:∀p,(AA (c :: r))[0]'p=c:=fun p=>rfl
  have hsz:(AA (c :: r)).size=(c :: r:List UInt8).length:=Aa _
  obtain ⟨X,hX⟩:∃X:List UInt8,X=c :: r:=⟨_,rfl⟩
  by_cases h19:19<(c :: r:List UInt8).length
  ·have HF:=Lib.hid (AAs h19)
   have t9:decide ((19:Int)<(AA (c :: r)).size)=true:=by rw [Aa];simp at h19 ⊢; omega
   have t9n:(19:Int)<((c :: r:List UInt8).length:Int):=by omega
   clear h19 hX
   go_enter Tryz.func126,Tryz.ntmps126
   go_wp2
   go_ret2
   exact ⟨JH HF.out,Below.refl _ _⟩
  ·by_cases hz:c=48∧r≠[]
   ·obtain ⟨rfl,hr⟩:=hz
    have HF:=Lib.hid (AAt hr)
    have h1:1<(48 :: r:List UInt8).length:=by have:=List.length_pos_iff.2 hr;simp;omega
    have t9:decide ((19:Int)<(AA (48 :: r)).size)=false:=by rw [Aa];simp at h19 ⊢; omega
    have t9n:¬(19:Int)<((48 :: r:List UInt8).length:Int):=by omega
    have t1:decide ((1:Int)<(AA (48 :: r)).size)=true:=by rw [Aa];simp at h1 ⊢; omega
    have t1n:(1:Int)<((48 :: r:List UInt8).length:Int):=by omega
    have t1r:decide ((1:Int)<(r.length:Int)+1)=true:=by simp at h1 ⊢; omega
    have t1s:(1:Int)<(r.length:Int)+1:=by simp at h1;omega
    clear h19 hX hr h1
    go_enter Tryz.func126,Tryz.ntmps126
    go_wp2
    go_ret2
    exact ⟨JH HF.out,Below.refl _ _⟩
   ·have HZ:Hid (X.head?=some 48→X = [48]):=Lib.hid (fun h=>by
     rw [hX] at h ⊢
     cases h
     by_cases hr:r = []
     ·rw [hr]
     ·exact absurd ⟨rfl,hr⟩ hz)
    have HNE:Hid (X≠[]):=Lib.hid (by rw [hX];simp)
    have hl1:c=48→X.length=1:=fun e=>by rw [hX,show r = [] from Classical.byContradiction fun hr=>hz ⟨e,hr⟩];rfl
    obtain ⟨W2,cp,q,hcv,hbw,hrow⟩:=MS w (c :: r)
    rw [←hX] at hcv hrow hsz e0 e1 h19 ⊢
    have ei':∀p,(AA X)[0]'p=c:=by rw [hX];exact ei
    have HB:=Lib.hid hbw;have Et:=Lib.hid hrow
    have t9n:¬(19:Int)<(X.length:Int):=by omega
    have t9:decide ((19:Int)<(AA X).size)=false:=by rw [hsz];simp;omega
    have HN9:Hid (X.length≤19):=Lib.hid (by omega)
    clear ei hX hz hbw hrow h19
    by_cases h48:c=48
    ·have h1:=hl1 h48
     subst h48
     have t1n:¬(1:Int)<(X.length:Int):=by omega
     have t1:decide ((1:Int)<(AA X).size)=false:=by rw [hsz];simp;omega
     clear hl1 h1
     go_enter Tryz.func126,Tryz.ntmps126
     go_wp2
     go_loopw [4,27] (fun n i wr=>∃k:Nat,k≤X.length∧i=.int .i64 k∧n=.int .u64 (sp.val 0 (X.take k):Nat)∧(∀x∈X.take k,sp.Ac x=true)∧wr=W2) (fun _ i _=>X.length-(intOf i).toNat)
     case atStart=>exact ⟨0,Nat.zero_le _,rfl,rfl,fun _ h=>(by cases h),rfl⟩
     case round =>
      obtain ⟨k,hk,rfl,rfl,hd,rfl⟩:=hrel
      have HD:=Lib.hid hd
      clear hd
      by_cases hlt:k<X.length
      ·have hcell:=Et.out k hlt
       have hv:=Jc hlt
       have hs:sp.val 0 (X.take k)<1000000000000000000:=U6 HD.out hlt HN9.out
       have hmem:X.getD k 0∈X:=by rw [Ef hlt];exact List.getElem_mem _
       have EK:=Lib.hid (MV hlt)
       have hX9:(X.length:Int)≤19:=by have:=HN9.out;omega
       have HV:=Lib.hid hv;have HM:=Lib.hid hmem
       clear hv hmem
       generalize X.getD k 0=K at hcell HV HM EK
       have hK:=K.toNat_lt
       have HDG:=Lib.hid (fun W=>Zb K W)
       cases hdg:sp.Ac K with
       | true =>
        have hd2:=(Gm K).1 hdg
        have hsub:((K.toNat:Int)-48)=((K.toNat-48:Nat):Int):=by omega
        have hb1:((K.toNat-48:Nat):Int)≤9:=by omega
        have HKD:=Lib.hid hdg
        rw [hdg] at HDG
        generalize K.toNat-48=D at hsub hb1 HV
        generalize sp.val 0 (X.take k)=V at hs HV
        clear hdg hd2
        go_wp2_with (go_at_call 157;refine (HDG.out _).mono ?_;rintro e w1 ⟨rfl,rfl⟩)
        refine ⟨⟨k+1,by omega,by go_num,?_,fun x hx => ?_,trivial⟩,by simp [intOf];omega⟩
        ·rw [HV.out];simp
        ·rcases EK.out x hx with h | h
         ·exact HD.out x h
         ·rw [h];exact HKD.out
       | false =>
        have HF:Hid (F9 X 0 false):=Lib.hid (ZY (fun hall=>by
         have:=List.all_eq_true.1 hall K HM.out
         rw [hdg] at this
         cases this))
        rw [hdg] at HDG
        clear hdg
        go_wp2_with (go_at_call 157;refine (HDG.out _).mono ?_;rintro e w1 ⟨rfl,rfl⟩)
        go_ret2
        exact ⟨JH HF.out,HB.out⟩
      ·have hke:k=X.length:=by omega
       subst hke
       have GR:Hid (X.all sp.Ac=true):=Lib.hid (List.all_eq_true.2 fun x hx=>HD.out x (by rw [List.take_length];exact hx))
       have hs:sp.val 0 (X.take X.length)<10000000000000000000:=U5 HD.out (by rw [List.take_length];exact HN9.out)
       rw [List.take_length] at hs ⊢
       have hX9:(X.length:Int)≤19:=by have:=HN9.out;omega
       by_cases hm:sp.val 0 X≤9223372036854775807
       ·have HF:=Lib.hid (ZZ HNE.out HZ.out GR.out hm)
        generalize sp.val 0 X=V at hs hm HF
        have hdv:decide ((V:Int)≤9223372036854775807)=true:=by simp;omega
        go_wp2
        go_ret2
        exact ⟨JH HF.out,HB.out⟩
       ·have HF:=Lib.hid (Za HNE.out HZ.out GR.out hm)
        have hdv:decide (((sp.val 0 X:Nat):Int)≤9223372036854775807)=false:=by simp;omega
        generalize sp.val 0 X=V at hs hm HF hdv
        go_wp2
        go_ret2
        exact ⟨JH (HF.out _ (U4 _)),HB.out⟩
    ·have t48:((c.toNat:Int)==48)=false:=Bo c 48 h48
     clear hl1
     go_enter Tryz.func126,Tryz.ntmps126
     go_wp2
     go_loopw [4,27] (fun n i wr=>∃k:Nat,k≤X.length∧i=.int .i64 k∧n=.int .u64 (sp.val 0 (X.take k):Nat)∧(∀x∈X.take k,sp.Ac x=true)∧wr=W2) (fun _ i _=>X.length-(intOf i).toNat)
     case atStart=>exact ⟨0,Nat.zero_le _,rfl,rfl,fun _ h=>(by cases h),rfl⟩
     case round =>
      obtain ⟨k,hk,rfl,rfl,hd,rfl⟩:=hrel
      have HD:=Lib.hid hd
      clear hd
      by_cases hlt:k<X.length
      ·have hcell:=Et.out k hlt
       have hv:=Jc hlt
       have hs:sp.val 0 (X.take k)<1000000000000000000:=U6 HD.out hlt HN9.out
       have hmem:X.getD k 0∈X:=by rw [Ef hlt];exact List.getElem_mem _
       have EK:=Lib.hid (MV hlt)
       have hX9:(X.length:Int)≤19:=by have:=HN9.out;omega
       have HV:=Lib.hid hv;have HM:=Lib.hid hmem
       clear hv hmem
       generalize X.getD k 0=K at hcell HV HM EK
       have hK:=K.toNat_lt
       have HDG:=Lib.hid (fun W=>Zb K W)
       cases hdg:sp.Ac K with
       | true =>
        have hd2:=(Gm K).1 hdg
        have hsub:((K.toNat:Int)-48)=((K.toNat-48:Nat):Int):=by omega
        have hb1:((K.toNat-48:Nat):Int)≤9:=by omega
        have HKD:=Lib.hid hdg
        rw [hdg] at HDG
        generalize K.toNat-48=D at hsub hb1 HV
        generalize sp.val 0 (X.take k)=V at hs HV
        clear hdg hd2
        go_wp2_with (go_at_call 157;refine (HDG.out _).mono ?_;rintro e w1 ⟨rfl,rfl⟩)
        refine ⟨⟨k+1,by omega,by go_num,?_,fun x hx => ?_,trivial⟩,by simp [intOf];omega⟩
        ·rw [HV.out];simp
        ·rcases EK.out x hx with h | h
         ·exact HD.out x h
         ·rw [h];exact HKD.out
       | false =>
        have HF:Hid (F9 X 0 false):=Lib.hid (ZY (fun hall=>by
         have:=List.all_eq_true.1 hall K HM.out
         rw [hdg] at this
         cases this))
        rw [hdg] at HDG
        clear hdg
        go_wp2_with (go_at_call 157;refine (HDG.out _).mono ?_;rintro e w1 ⟨rfl,rfl⟩)
        go_ret2
        exact ⟨JH HF.out,HB.out⟩
      ·have hke:k=X.length:=by omega
       subst hke
       have GR:Hid (X.all sp.Ac=true):=Lib.hid (List.all_eq_true.2 fun x hx=>HD.out x (by rw [List.take_length];exact hx))
       have hs:sp.val 0 (X.take X.length)<10000000000000000000:=U5 HD.out (by rw [List.take_length];exact HN9.out)
       rw [List.take_length] at hs ⊢
       have hX9:(X.length:Int)≤19:=by have:=HN9.out;omega
       by_cases hm:sp.val 0 X≤9223372036854775807
       ·have HF:=Lib.hid (ZZ HNE.out HZ.out GR.out hm)
        generalize sp.val 0 X=V at hs hm HF
        have hdv:decide ((V:Int)≤9223372036854775807)=true:=by simp;omega
        go_wp2
        go_ret2
        exact ⟨JH HF.out,HB.out⟩
       ·have HF:=Lib.hid (Za HNE.out HZ.out GR.out hm)
        have hdv:decide (((sp.val 0 X:Nat):Int)≤9223372036854775807)=false:=by simp;omega
        generalize sp.val 0 X=V at hs hm HF hdv
        go_wp2
        go_ret2
        exact ⟨JH (HF.out _ (U4 _)),HB.out⟩
structure Cut (X top low:List UInt8) (parts:Bool):Prop where
 no:parts=false→top=Ad X∧low = [49]∧(47:UInt8)∉Ad X
 yes:parts=true→Ad X=top++47 :: low∧(47:UInt8)∉top
theorem Zc (m:Nat):(47:UInt8)∉Lib.decDigits m:=fun h=>by
 have:=sp.KN m 47 h
 revert this
 decide
theorem AAu {X top low:List UInt8} {parts:Bool} (hc:Cut X top low parts) {n d:Int} (h:sp.CJ n d) (he:sp.AP n d=X):top=Lib.decDigits n.natAbs∧low=Lib.decDigits d.toNat∧(parts=true↔1<d):=by
 obtain ⟨_,k2,k3⟩:=Ql h he
 have e:Ad X=Lib.decDigits n.natAbs++(if 1<d then 47 :: Lib.decDigits d.toNat else []):=by
  rw [←k2,←k3]
  exact (List.takeWhile_append_dropWhile).symm
 have hd1:=h.1
 cases parts with
 | false =>
  obtain ⟨a,b,c⟩:=hc.no rfl
  have hd:¬1<d:=fun q=>c (by rw [e,if_pos q];simp)
  have:d=1:=by omega
  subst this
  rw [if_neg hd,List.append_nil] at e
  refine ⟨by rw [a,e],?_,by simp⟩
  rw [b]
  show [49]=Lib.decDigits 1
  rw [sp.IJ (by omega)]
  rfl
 | true =>
  obtain ⟨a,b⟩:=hc.yes rfl
  by_cases q:1<d
  ·rw [if_pos q] at e
   have:=sp.Xm (a.symm.trans e) b (Zc _)
   exact ⟨this.1,this.2,by simp [q]⟩
  ·rw [if_neg q,List.append_nil] at e
   exfalso
   have:(47:UInt8)∈Lib.decDigits n.natAbs:=by rw [←e,a];simp
   exact Zc _ this
theorem Zd {X:List UInt8} {v:Int} {ok:Bool} (h:F9 X v ok) {m:Nat} (hX:X=Lib.decDigits m) (hm:m≤9223372036854775807):ok=true∧v=m:=by
 obtain ⟨_,h2⟩:=h
 cases ok with
 | true =>
  rw [if_pos rfl] at h2
  obtain ⟨a,b⟩:=h2
  have:=sp.QK (hX.symm.trans a)
  exact ⟨rfl,by omega⟩
 | false =>
  rw [if_neg (by decide)] at h2
  exact absurd hX (h2 m hm)
section
variable {X top low:List UInt8} {parts ok1 ok2:Bool} {v1 v2:Int}
theorem EL (hX:X≠sp.over) (hc:Cut X top low parts) (h1:F9 top v1 ok1) (h2:F9 low v2 ok2) (hbad:ok1=false∨ok2=false∨(parts=true∧v2<2)∨(X.head?=some 45∧v1=0)∨¬sp.BM (CV X v1) v2):Cb X (.returned (.tuple #[.agg #[.int .i64 0,.int .i64 0],.int .i64 3])) :=
 Ku hX fun n d hn hd h3 h4=>by
  obtain ⟨k1,k2,k3⟩:=AAu hc h3 h4
  obtain ⟨a1,a2⟩:=Zd h1 k1 (Yy hn h3)
  obtain ⟨b1,b2⟩:=Zd h2 k2 (by have:=hd.2;omega)
  have hd1:=h3.1
  have hv2:v2=d:=by omega
  rcases hbad with h | h | ⟨h,h'⟩ | ⟨h,h'⟩ | h
  ·rw [a1] at h;cases h
  ·rw [b1] at h;cases h
  ·have:=k3.1 h;omega
  ·have:=(Ql h3 h4).1.1 h;omega
  ·rw [a2,hv2,U9 h3 h4] at h
   exact h (.inr h3)
theorem NK (hX:X≠sp.over) (hc:Cut X top low parts) (h1:F9 top v1 true) (h2:F9 low v2 true) (hp:parts=true→2≤v2) (hz:X.head?=some 45→v1≠0) (hm:sp.BM (CV X v1) v2):Cb X (.returned (.tuple #[.agg #[.int .i64 (CV X v1),.int .i64 v2],.int .i64 0])):=by
 have e1:=h1.2
 have e2:=h2.2
 rw [if_pos rfl] at e1 e2
 obtain ⟨e1,z1⟩:=e1
 obtain ⟨e2,z2⟩:=e2
 have hI1:=h1.1
 have hI2:=h2.1
 have hv2:1≤v2∧(parts=true↔1<v2):=by
  cases parts with
  | true=>have:=hp rfl;exact ⟨by omega,by simp;omega⟩
  | false =>
   obtain ⟨_,b,_⟩:=hc.no rfl
   have:Lib.decDigits v2.toNat=Lib.decDigits 1:=by
    rw [←e2,b,sp.IJ (by omega)]
    rfl
   have:=sp.QK this
   have:v2=1:=by omega
   subst this
   exact ⟨by omega,by simp⟩
 have hs:sp.CJ (CV X v1) v2:=by
  rcases hm with ⟨_,h⟩ | h
  ·omega
  ·exact h
 have hI:sp.I64 (CV X v1):=by
  unfold CV
  split
  ·obtain ⟨a,b⟩:=hI1;exact ⟨by omega,by omega⟩
  ·exact hI1
 refine Oq hI hI2 hs ?_
 unfold sp.AP
 rw [if_pos hs]
 have hd:(if 1<v2 then 47 :: Lib.itoa v2 else []:List UInt8)=if parts then 47 :: low else []:=by
  by_cases q:1<v2
  ·rw [if_pos q,if_pos (hv2.2.2 q),e2,show v2=((v2.toNat:Nat):Int) by omega,sp.KO]
   rfl
  ·rw [if_neg q,if_neg (fun h=>q (hv2.2.1 h))]
 rw [hd]
 have hb:Ad X=top++(if parts then 47 :: low else []):=by
  cases parts with
  | true=>exact (hc.yes rfl).1
  | false=>rw [if_neg (by decide),List.append_nil];exact (hc.no rfl).1.symm
 by_cases hh:X.head?=some 45
 ·have hne:=hz hh
  have es:CV X v1 = -((v1.toNat:Nat):Int):=by unfold CV;rw [if_pos hh];omega
  rw [es,sp.QJ _ (by omega),←e1,List.cons_append,←hb]
  cases X with
  | nil=>cases hh
  | cons c r=>cases hh;rfl
 ·have es:CV X v1=((v1.toNat:Nat):Int):=by unfold CV;rw [if_neg hh];omega
  rw [es,sp.KO,←e1,←hb]
  unfold Ad
  rw [if_neg hh]
end
theorem Ze (n d:Int):Cj n d=true↔sp.BM n d:=by
 unfold Cj sp.BM
 rw [Bool.or_eq_true]
 exact or_congr (by simp [G9]) (by simp [Gu];exact Iff.rfl)
theorem Zf {x:UInt8}:∀ {l:List UInt8},x∈l→∃a b,l=a++x :: b∧x∉a
 | c :: l,h=>by
  by_cases e:c=x
  ·exact ⟨[],l,by rw [e];rfl,by simp⟩
  ·obtain ⟨a,b,h1,h2⟩:=Zf (l:=l) ((List.mem_cons.1 h).resolve_left (fun q=>e q.symm))
   exact ⟨c :: a,b,by rw [h1];rfl,by simp [h2,Ne.symm e]⟩
theorem AAv (X:List UInt8):(47∉Ad X∧Cut X (Ad X) [49] false)∨∃top low,Ad X=top++47 :: low∧(47:UInt8)∉top∧Cut X top low true:=by
 by_cases h:(47:UInt8)∈Ad X
 ·right
  obtain ⟨a,b,e,hn⟩:=Zf h
  exact ⟨a,b,e,hn,⟨fun h=>(by cases h),fun _=>⟨e,hn⟩⟩⟩
 ·exact .inl ⟨h,⟨fun _=>⟨rfl,rfl,h⟩,fun h=>(by cases h)⟩⟩
end Go.Proofs.YtihlneenajlhoaaGreatDoor
