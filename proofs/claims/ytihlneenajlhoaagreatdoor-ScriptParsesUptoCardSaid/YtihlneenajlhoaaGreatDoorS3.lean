/-
 The rows' functions of jalousie script.rows, those whose order of evaluation is drawn. Condition: the operation's block and the words stand; lengths that fit.
-/
import Derived.Test.YtihlneenajlhoaaGreatDoorS2
import Derived.Deep.RegionHeld
import Derived.Defers
import Derived.Recover
import Derived.Laws.CopyOwn
import Derived.Test.YtihlneenajlhoaaGreatDoorS0
import Derived.Lib.SplitLaws
import Derived.Lib.CountLaws
import Derived.Test.YtihlneenajlhoaaGreatDoorS1
import Derived.Maps.OwnSet
set_option linter.unusedSimpArgs false
set_option linter.unusedVariables false
namespace Go.Proofs.YtihlneenajlhoaaGreatDoor
open Go Go.RowKit
theorem wText_len {p:List UInt8×Bool} {t:List UInt8} (h:sp.wText p=some t):t.length=p.1.length:=by
 unfold sp.wText at h
 split at h
 ·cases h;rfl
 ·cases h
set_option maxRecDepth 100000 in
set_option maxHeartbeats 4000000 in
theorem row_named (k:Int) (w0 w:World) (B g c:Nat) (x y:List UInt8×Bool) (h:RowS w0 B g [x,y] (zeroC k) w):Calls Tryz.prog 51 #[.pointer (some ⟨B,0,none⟩),.slice (some ⟨g,2,none⟩) 2 c] w fun e w'=>RowIs w0 B ((sp.wNum x).bind fun n=>(sp.wPlain y).bind fun s=>some { kind:=k,node:=n,name:=s }) e w':=by
 have HCx:=Lib.hid (fun W=>wnum_any x W)
 have HCy:=Lib.hid (fun W=>wplain_any y W)
 have H0:=Lib.hid (h.on (Below.refl _ _).drew)
 clear h
 cases hx:sp.wNum x with
 | none =>
  have HXx:=Lib.hid hx
  clear hx
  go_enter Tryz.func51,Tryz.ntmps51
  go_wp2
  refine wp_region_held_drew (S:=fun s=>∃cs,RowS w0 B g [x,y] cs s) (by kernel_rfl) ⟨_,H0.out⟩ (fun hHeld => ?_)
  refine tk 0 (.pointer (some ⟨B,0,none⟩)) rfl hHeld (fun s hs=>by obtain ⟨a0,a1,b0,b1⟩:=rc2 hs;go_simp) ?_
  refine tk 1 (.pointer (some ⟨B,0,none⟩)) rfl hHeld (fun s hs=>by obtain ⟨a0,a1,b0,b1⟩:=rc2 hs;go_simp) ?_
  refine tk 2 (.slice (some ⟨g,2,none⟩) 2 c) rfl hHeld (fun s hs=>by obtain ⟨a0,a1,b0,b1⟩:=rc2 hs;go_simp) ?_
  refine tk 3 (.pointer (some ⟨g,2,none⟩)) rfl hHeld (fun s hs=>by obtain ⟨a0,a1,b0,b1⟩:=rc2 hs;go_simp) ?_
  refine tk 4 (.agg #[.string (bstr x.1),.bool x.2]) rfl hHeld (fun s hs=>by obtain ⟨a0,a1,b0,b1⟩:=rc2 hs;go_simp) ?_
  refine tk 6 (.slice (some ⟨g,2,none⟩) 2 c) rfl hHeld (fun s hs=>by obtain ⟨a0,a1,b0,b1⟩:=rc2 hs;go_simp) ?_
  refine tk 7 (.pointer (some ⟨g,4,none⟩)) rfl hHeld (fun s hs=>by obtain ⟨a0,a1,b0,b1⟩:=rc2 hs;go_simp) ?_
  refine tk 8 (.agg #[.string (bstr y.1),.bool y.2]) rfl hHeld (fun s hs=>by obtain ⟨a0,a1,b0,b1⟩:=rc2 hs;go_simp) ?_
  refine rd1 5 rfl fun K hK => ?_
  go_simp
  refine (HCx.out _).mono ?_
  rintro e w1 ⟨he,hb1⟩
  unfold NumIs at he
  rw [HXx.out] at he
  subst he
  have H1:=Lib.hid (H0.out.on hb1)
  clear hb1
  exact ⟨rfl,H1.out.bad⟩
 | some nx =>
  have HXx:=Lib.hid hx
  clear hx
  cases hy:sp.wPlain y with
  | none =>
   have HXy:=Lib.hid hy
   clear hy
   go_enter Tryz.func51,Tryz.ntmps51
   go_wp2
   refine wp_region_held_drew (S:=fun s=>∃cs,RowS w0 B g [x,y] cs s) (by kernel_rfl) ⟨_,H0.out⟩ (fun hHeld => ?_)
   refine tk 0 (.pointer (some ⟨B,0,none⟩)) rfl hHeld (fun s hs=>by obtain ⟨a0,a1,b0,b1⟩:=rc2 hs;go_simp) ?_
   refine tk 1 (.pointer (some ⟨B,0,none⟩)) rfl hHeld (fun s hs=>by obtain ⟨a0,a1,b0,b1⟩:=rc2 hs;go_simp) ?_
   refine tk 2 (.slice (some ⟨g,2,none⟩) 2 c) rfl hHeld (fun s hs=>by obtain ⟨a0,a1,b0,b1⟩:=rc2 hs;go_simp) ?_
   refine tk 3 (.pointer (some ⟨g,2,none⟩)) rfl hHeld (fun s hs=>by obtain ⟨a0,a1,b0,b1⟩:=rc2 hs;go_simp) ?_
   refine tk 4 (.agg #[.string (bstr x.1),.bool x.2]) rfl hHeld (fun s hs=>by obtain ⟨a0,a1,b0,b1⟩:=rc2 hs;go_simp) ?_
   refine tk 6 (.slice (some ⟨g,2,none⟩) 2 c) rfl hHeld (fun s hs=>by obtain ⟨a0,a1,b0,b1⟩:=rc2 hs;go_simp) ?_
   refine tk 7 (.pointer (some ⟨g,4,none⟩)) rfl hHeld (fun s hs=>by obtain ⟨a0,a1,b0,b1⟩:=rc2 hs;go_simp) ?_
   refine tk 8 (.agg #[.string (bstr y.1),.bool y.2]) rfl hHeld (fun s hs=>by obtain ⟨a0,a1,b0,b1⟩:=rc2 hs;go_simp) ?_
   refine rd1 5 rfl fun K hK => ?_
   go_simp
   refine (HCx.out _).mono ?_
   rintro e w1 ⟨he,hb1⟩
   unfold NumIs at he
   rw [HXx.out] at he
   subst he
   have H1:=Lib.hid (H0.out.on hb1)
   clear hb1
   refine hK.out _ _ ⟨_,H1.out⟩ (fun hHeld => ?_)
   clear hK
   refine rd1 9 rfl fun K hK => ?_
   go_simp
   refine (HCy.out _).mono ?_
   rintro e w2 ⟨he,hb2⟩
   unfold PlainIs at he
   rw [HXy.out] at he
   subst he
   have H2:=Lib.hid (H1.out.on hb2)
   clear hb2
   exact ⟨rfl,H2.out.bad⟩
  | some ty =>
   have HXy:=Lib.hid hy
   clear hy
   go_enter Tryz.func51,Tryz.ntmps51
   go_wp2
   refine wp_region_held_drew (S:=fun s=>∃cs,RowS w0 B g [x,y] cs s) (by kernel_rfl) ⟨_,H0.out⟩ (fun hHeld => ?_)
   refine tk 0 (.pointer (some ⟨B,0,none⟩)) rfl hHeld (fun s hs=>by obtain ⟨a0,a1,b0,b1⟩:=rc2 hs;go_simp) ?_
   refine tk 1 (.pointer (some ⟨B,0,none⟩)) rfl hHeld (fun s hs=>by obtain ⟨a0,a1,b0,b1⟩:=rc2 hs;go_simp) ?_
   refine tk 2 (.slice (some ⟨g,2,none⟩) 2 c) rfl hHeld (fun s hs=>by obtain ⟨a0,a1,b0,b1⟩:=rc2 hs;go_simp) ?_
   refine tk 3 (.pointer (some ⟨g,2,none⟩)) rfl hHeld (fun s hs=>by obtain ⟨a0,a1,b0,b1⟩:=rc2 hs;go_simp) ?_
   refine tk 4 (.agg #[.string (bstr x.1),.bool x.2]) rfl hHeld (fun s hs=>by obtain ⟨a0,a1,b0,b1⟩:=rc2 hs;go_simp) ?_
   refine tk 6 (.slice (some ⟨g,2,none⟩) 2 c) rfl hHeld (fun s hs=>by obtain ⟨a0,a1,b0,b1⟩:=rc2 hs;go_simp) ?_
   refine tk 7 (.pointer (some ⟨g,4,none⟩)) rfl hHeld (fun s hs=>by obtain ⟨a0,a1,b0,b1⟩:=rc2 hs;go_simp) ?_
   refine tk 8 (.agg #[.string (bstr y.1),.bool y.2]) rfl hHeld (fun s hs=>by obtain ⟨a0,a1,b0,b1⟩:=rc2 hs;go_simp) ?_
   refine rd1 5 rfl fun K hK => ?_
   go_simp
   refine (HCx.out _).mono ?_
   rintro e w1 ⟨he,hb1⟩
   unfold NumIs at he
   rw [HXx.out] at he
   subst he
   have H1:=Lib.hid (H0.out.on hb1)
   clear hb1
   refine hK.out _ _ ⟨_,H1.out⟩ (fun hHeld => ?_)
   clear hK
   refine rd1 9 rfl fun K hK => ?_
   go_simp
   refine (HCy.out _).mono ?_
   rintro e w2 ⟨he,hb2⟩
   unfold PlainIs at he
   rw [HXy.out] at he
   subst he
   have H2:=Lib.hid (H1.out.on hb2)
   clear hb2
   refine hK.out _ _ ⟨_,H2.out⟩ (fun hHeld => ?_)
   clear hK
   refine tk 10 (.pointer (some ⟨B,0,none⟩)) rfl hHeld (fun s hs=>by obtain ⟨a0,a1,b0,b1⟩:=rc2 hs;go_simp) ?_
   refine tk 11 (.pointer (some ⟨B,1,none⟩)) rfl hHeld (fun s hs=>by obtain ⟨a0,a1,b0,b1⟩:=rc2 hs;go_simp) ?_
   refine rd1 12 rfl fun K hK => ?_
   have f1:=H2.out.free 1
   have c1:=H2.out.cell 1 (.int .i64 0) rfl
   go_simp
   have H3:=Lib.hid (H2.out.set 1 (.int .i64 nx))
   clear f1 c1
   refine hK.out _ _ ⟨_,H3.out⟩ (fun hHeld => ?_)
   clear hK
   refine tk 13 (.pointer (some ⟨B,0,none⟩)) rfl hHeld (fun s hs=>by obtain ⟨a0,a1,b0,b1⟩:=rc2 hs;go_simp) ?_
   refine tk 14 (.pointer (some ⟨B,4,none⟩)) rfl hHeld (fun s hs=>by obtain ⟨a0,a1,b0,b1⟩:=rc2 hs;go_simp) ?_
   refine rd1 15 rfl fun K hK => ?_
   have f4:=H3.out.free 4
   have c4:=H3.out.cell 4 (.string ⟨#[]⟩) rfl
   go_simp
   have H4:=Lib.hid (H3.out.set 4 (.string (bstr ty)))
   clear f4 c4
   refine hK.out _ _ ⟨_,H4.out⟩ (fun hHeld => ?_)
   clear hK
   refine wpAnyH_done (by kernel_rfl) ?_ _
   clear hHeld
   go_simp
   go_end0
   exact H4.out.good _ rfl rfl
set_option maxRecDepth 100000 in
set_option maxHeartbeats 4000000 in
theorem row_view (k:Int) (w0 w:World) (B g c:Nat) (x y:List UInt8×Bool) (hlx:x.1.length≤1099511627776) (hly:y.1.length≤1099511627776) (h:RowS w0 B g [x,y] (zeroC k) w):Calls Tryz.prog 56 #[.pointer (some ⟨B,0,none⟩),.slice (some ⟨g,2,none⟩) 2 c] w fun e w'=>RowIs w0 B ((sp.wFrac x).bind fun p=>(sp.wFrac y).bind fun q=>some { kind:=k,w:=p,h:=q }) e w':=by
 have HCx:=Lib.hid (fun W=>wfrac_any x W hlx)
 have HCy:=Lib.hid (fun W=>wfrac_any y W hly)
 have H0:=Lib.hid (h.on (Below.refl _ _).drew)
 clear h hlx hly
 cases hx:sp.wFrac x with
 | none =>
  have HXx:=Lib.hid hx
  clear hx
  go_enter Tryz.func56,Tryz.ntmps56
  go_wp2
  refine wp_region_held_drew (S:=fun s=>∃cs,RowS w0 B g [x,y] cs s) (by kernel_rfl) ⟨_,H0.out⟩ (fun hHeld => ?_)
  refine tk 0 (.pointer (some ⟨B,0,none⟩)) rfl hHeld (fun s hs=>by obtain ⟨a0,a1,b0,b1⟩:=rc2 hs;go_simp) ?_
  refine tk 1 (.pointer (some ⟨B,0,none⟩)) rfl hHeld (fun s hs=>by obtain ⟨a0,a1,b0,b1⟩:=rc2 hs;go_simp) ?_
  refine tk 2 (.slice (some ⟨g,2,none⟩) 2 c) rfl hHeld (fun s hs=>by obtain ⟨a0,a1,b0,b1⟩:=rc2 hs;go_simp) ?_
  refine tk 3 (.pointer (some ⟨g,2,none⟩)) rfl hHeld (fun s hs=>by obtain ⟨a0,a1,b0,b1⟩:=rc2 hs;go_simp) ?_
  refine tk 4 (.agg #[.string (bstr x.1),.bool x.2]) rfl hHeld (fun s hs=>by obtain ⟨a0,a1,b0,b1⟩:=rc2 hs;go_simp) ?_
  refine tk 6 (.slice (some ⟨g,2,none⟩) 2 c) rfl hHeld (fun s hs=>by obtain ⟨a0,a1,b0,b1⟩:=rc2 hs;go_simp) ?_
  refine tk 7 (.pointer (some ⟨g,4,none⟩)) rfl hHeld (fun s hs=>by obtain ⟨a0,a1,b0,b1⟩:=rc2 hs;go_simp) ?_
  refine tk 8 (.agg #[.string (bstr y.1),.bool y.2]) rfl hHeld (fun s hs=>by obtain ⟨a0,a1,b0,b1⟩:=rc2 hs;go_simp) ?_
  refine rd1 5 rfl fun K hK => ?_
  go_simp
  refine (HCx.out _).mono ?_
  rintro e w1 ⟨he,hb1⟩
  unfold FracWIs at he
  rw [HXx.out] at he
  subst he
  have H1:=Lib.hid (H0.out.on hb1)
  clear hb1
  exact ⟨rfl,H1.out.bad⟩
 | some qx =>
  have HXx:=Lib.hid hx
  clear hx
  cases hy:sp.wFrac y with
  | none =>
   have HXy:=Lib.hid hy
   clear hy
   go_enter Tryz.func56,Tryz.ntmps56
   go_wp2
   refine wp_region_held_drew (S:=fun s=>∃cs,RowS w0 B g [x,y] cs s) (by kernel_rfl) ⟨_,H0.out⟩ (fun hHeld => ?_)
   refine tk 0 (.pointer (some ⟨B,0,none⟩)) rfl hHeld (fun s hs=>by obtain ⟨a0,a1,b0,b1⟩:=rc2 hs;go_simp) ?_
   refine tk 1 (.pointer (some ⟨B,0,none⟩)) rfl hHeld (fun s hs=>by obtain ⟨a0,a1,b0,b1⟩:=rc2 hs;go_simp) ?_
   refine tk 2 (.slice (some ⟨g,2,none⟩) 2 c) rfl hHeld (fun s hs=>by obtain ⟨a0,a1,b0,b1⟩:=rc2 hs;go_simp) ?_
   refine tk 3 (.pointer (some ⟨g,2,none⟩)) rfl hHeld (fun s hs=>by obtain ⟨a0,a1,b0,b1⟩:=rc2 hs;go_simp) ?_
   refine tk 4 (.agg #[.string (bstr x.1),.bool x.2]) rfl hHeld (fun s hs=>by obtain ⟨a0,a1,b0,b1⟩:=rc2 hs;go_simp) ?_
   refine tk 6 (.slice (some ⟨g,2,none⟩) 2 c) rfl hHeld (fun s hs=>by obtain ⟨a0,a1,b0,b1⟩:=rc2 hs;go_simp) ?_
   refine tk 7 (.pointer (some ⟨g,4,none⟩)) rfl hHeld (fun s hs=>by obtain ⟨a0,a1,b0,b1⟩:=rc2 hs;go_simp) ?_
   refine tk 8 (.agg #[.string (bstr y.1),.bool y.2]) rfl hHeld (fun s hs=>by obtain ⟨a0,a1,b0,b1⟩:=rc2 hs;go_simp) ?_
   refine rd1 5 rfl fun K hK => ?_
   go_simp
   refine (HCx.out _).mono ?_
   rintro e w1 ⟨he,hb1⟩
   unfold FracWIs at he
   rw [HXx.out] at he
   subst he
   have H1:=Lib.hid (H0.out.on hb1)
   clear hb1
   refine hK.out _ _ ⟨_,H1.out⟩ (fun hHeld => ?_)
   clear hK
   refine rd1 9 rfl fun K hK => ?_
   go_simp
   refine (HCy.out _).mono ?_
   rintro e w2 ⟨he,hb2⟩
   unfold FracWIs at he
   rw [HXy.out] at he
   subst he
   have H2:=Lib.hid (H1.out.on hb2)
   clear hb2
   exact ⟨rfl,H2.out.bad⟩
  | some qy =>
   have HXy:=Lib.hid hy
   clear hy
   go_enter Tryz.func56,Tryz.ntmps56
   go_wp2
   refine wp_region_held_drew (S:=fun s=>∃cs,RowS w0 B g [x,y] cs s) (by kernel_rfl) ⟨_,H0.out⟩ (fun hHeld => ?_)
   refine tk 0 (.pointer (some ⟨B,0,none⟩)) rfl hHeld (fun s hs=>by obtain ⟨a0,a1,b0,b1⟩:=rc2 hs;go_simp) ?_
   refine tk 1 (.pointer (some ⟨B,0,none⟩)) rfl hHeld (fun s hs=>by obtain ⟨a0,a1,b0,b1⟩:=rc2 hs;go_simp) ?_
   refine tk 2 (.slice (some ⟨g,2,none⟩) 2 c) rfl hHeld (fun s hs=>by obtain ⟨a0,a1,b0,b1⟩:=rc2 hs;go_simp) ?_
   refine tk 3 (.pointer (some ⟨g,2,none⟩)) rfl hHeld (fun s hs=>by obtain ⟨a0,a1,b0,b1⟩:=rc2 hs;go_simp) ?_
   refine tk 4 (.agg #[.string (bstr x.1),.bool x.2]) rfl hHeld (fun s hs=>by obtain ⟨a0,a1,b0,b1⟩:=rc2 hs;go_simp) ?_
   refine tk 6 (.slice (some ⟨g,2,none⟩) 2 c) rfl hHeld (fun s hs=>by obtain ⟨a0,a1,b0,b1⟩:=rc2 hs;go_simp) ?_
   refine tk 7 (.pointer (some ⟨g,4,none⟩)) rfl hHeld (fun s hs=>by obtain ⟨a0,a1,b0,b1⟩:=rc2 hs;go_simp) ?_
   refine tk 8 (.agg #[.string (bstr y.1),.bool y.2]) rfl hHeld (fun s hs=>by obtain ⟨a0,a1,b0,b1⟩:=rc2 hs;go_simp) ?_
   refine rd1 5 rfl fun K hK => ?_
   go_simp
   refine (HCx.out _).mono ?_
   rintro e w1 ⟨he,hb1⟩
   unfold FracWIs at he
   rw [HXx.out] at he
   subst he
   have H1:=Lib.hid (H0.out.on hb1)
   clear hb1
   refine hK.out _ _ ⟨_,H1.out⟩ (fun hHeld => ?_)
   clear hK
   refine rd1 9 rfl fun K hK => ?_
   go_simp
   refine (HCy.out _).mono ?_
   rintro e w2 ⟨he,hb2⟩
   unfold FracWIs at he
   rw [HXy.out] at he
   subst he
   have H2:=Lib.hid (H1.out.on hb2)
   clear hb2
   refine hK.out _ _ ⟨_,H2.out⟩ (fun hHeld => ?_)
   clear hK
   refine tk 10 (.pointer (some ⟨B,0,none⟩)) rfl hHeld (fun s hs=>by obtain ⟨a0,a1,b0,b1⟩:=rc2 hs;go_simp) ?_
   refine tk 11 (.pointer (some ⟨B,7,none⟩)) rfl hHeld (fun s hs=>by obtain ⟨a0,a1,b0,b1⟩:=rc2 hs;go_simp) ?_
   refine rd1 12 rfl fun K hK => ?_
   have f7:=H2.out.free 7
   have c7:=H2.out.cell 7 (.int .i64 0) rfl
   have f8:=H2.out.free 8
   have c8:=H2.out.cell 8 (.int .i64 0) rfl
   go_simp
   have H3:=Lib.hid (H2.out.set 7 (.int .i64 qx.1))
   have H4:=Lib.hid (H3.out.set 8 (.int .i64 qx.2))
   clear f7 c7 f8 c8
   refine hK.out _ _ ⟨_,H4.out⟩ (fun hHeld => ?_)
   clear hK
   refine tk 13 (.pointer (some ⟨B,0,none⟩)) rfl hHeld (fun s hs=>by obtain ⟨a0,a1,b0,b1⟩:=rc2 hs;go_simp) ?_
   refine tk 14 (.pointer (some ⟨B,9,none⟩)) rfl hHeld (fun s hs=>by obtain ⟨a0,a1,b0,b1⟩:=rc2 hs;go_simp) ?_
   refine rd1 15 rfl fun K hK => ?_
   have f9:=H4.out.free 9
   have c9:=H4.out.cell 9 (.int .i64 0) rfl
   have f10:=H4.out.free 10
   have c10:=H4.out.cell 10 (.int .i64 0) rfl
   go_simp
   have H5:=Lib.hid (H4.out.set 9 (.int .i64 qy.1))
   have H6:=Lib.hid (H5.out.set 10 (.int .i64 qy.2))
   clear f9 c9 f10 c10
   refine hK.out _ _ ⟨_,H6.out⟩ (fun hHeld => ?_)
   clear hK
   refine wpAnyH_done (by kernel_rfl) ?_ _
   clear hHeld
   go_simp
   go_end0
   exact H6.out.good _ rfl rfl
set_option maxRecDepth 100000 in
set_option maxHeartbeats 4000000 in
theorem row_word (k:Int) (w0 w:World) (B g c:Nat) (x y:List UInt8×Bool) (h:RowS w0 B g [x,y] (zeroC k) w):Calls Tryz.prog 58 #[.pointer (some ⟨B,0,none⟩),.slice (some ⟨g,2,none⟩) 2 c] w fun e w'=>RowIs w0 B ((sp.wPlain x).bind fun s=>(sp.wPlain y).bind fun t=>some { kind:=k,name:=s,word:=t }) e w':=by
 have HCx:=Lib.hid (fun W=>wplain_any x W)
 have HCy:=Lib.hid (fun W=>wplain_any y W)
 have H0:=Lib.hid (h.on (Below.refl _ _).drew)
 clear h
 cases hx:sp.wPlain x with
 | none =>
  have HXx:=Lib.hid hx
  clear hx
  go_enter Tryz.func58,Tryz.ntmps58
  go_wp2
  refine wp_region_held_drew (S:=fun s=>∃cs,RowS w0 B g [x,y] cs s) (by kernel_rfl) ⟨_,H0.out⟩ (fun hHeld => ?_)
  refine tk 0 (.pointer (some ⟨B,0,none⟩)) rfl hHeld (fun s hs=>by obtain ⟨a0,a1,b0,b1⟩:=rc2 hs;go_simp) ?_
  refine tk 1 (.pointer (some ⟨B,0,none⟩)) rfl hHeld (fun s hs=>by obtain ⟨a0,a1,b0,b1⟩:=rc2 hs;go_simp) ?_
  refine tk 2 (.slice (some ⟨g,2,none⟩) 2 c) rfl hHeld (fun s hs=>by obtain ⟨a0,a1,b0,b1⟩:=rc2 hs;go_simp) ?_
  refine tk 3 (.pointer (some ⟨g,2,none⟩)) rfl hHeld (fun s hs=>by obtain ⟨a0,a1,b0,b1⟩:=rc2 hs;go_simp) ?_
  refine tk 4 (.agg #[.string (bstr x.1),.bool x.2]) rfl hHeld (fun s hs=>by obtain ⟨a0,a1,b0,b1⟩:=rc2 hs;go_simp) ?_
  refine tk 6 (.slice (some ⟨g,2,none⟩) 2 c) rfl hHeld (fun s hs=>by obtain ⟨a0,a1,b0,b1⟩:=rc2 hs;go_simp) ?_
  refine tk 7 (.pointer (some ⟨g,4,none⟩)) rfl hHeld (fun s hs=>by obtain ⟨a0,a1,b0,b1⟩:=rc2 hs;go_simp) ?_
  refine tk 8 (.agg #[.string (bstr y.1),.bool y.2]) rfl hHeld (fun s hs=>by obtain ⟨a0,a1,b0,b1⟩:=rc2 hs;go_simp) ?_
  refine rd1 5 rfl fun K hK => ?_
  go_simp
  refine (HCx.out _).mono ?_
  rintro e w1 ⟨he,hb1⟩
  unfold PlainIs at he
  rw [HXx.out] at he
  subst he
  have H1:=Lib.hid (H0.out.on hb1)
  clear hb1
  exact ⟨rfl,H1.out.bad⟩
 | some tx =>
  have HXx:=Lib.hid hx
  clear hx
  cases hy:sp.wPlain y with
  | none =>
   have HXy:=Lib.hid hy
   clear hy
   go_enter Tryz.func58,Tryz.ntmps58
   go_wp2
   refine wp_region_held_drew (S:=fun s=>∃cs,RowS w0 B g [x,y] cs s) (by kernel_rfl) ⟨_,H0.out⟩ (fun hHeld => ?_)
   refine tk 0 (.pointer (some ⟨B,0,none⟩)) rfl hHeld (fun s hs=>by obtain ⟨a0,a1,b0,b1⟩:=rc2 hs;go_simp) ?_
   refine tk 1 (.pointer (some ⟨B,0,none⟩)) rfl hHeld (fun s hs=>by obtain ⟨a0,a1,b0,b1⟩:=rc2 hs;go_simp) ?_
   refine tk 2 (.slice (some ⟨g,2,none⟩) 2 c) rfl hHeld (fun s hs=>by obtain ⟨a0,a1,b0,b1⟩:=rc2 hs;go_simp) ?_
   refine tk 3 (.pointer (some ⟨g,2,none⟩)) rfl hHeld (fun s hs=>by obtain ⟨a0,a1,b0,b1⟩:=rc2 hs;go_simp) ?_
   refine tk 4 (.agg #[.string (bstr x.1),.bool x.2]) rfl hHeld (fun s hs=>by obtain ⟨a0,a1,b0,b1⟩:=rc2 hs;go_simp) ?_
   refine tk 6 (.slice (some ⟨g,2,none⟩) 2 c) rfl hHeld (fun s hs=>by obtain ⟨a0,a1,b0,b1⟩:=rc2 hs;go_simp) ?_
   refine tk 7 (.pointer (some ⟨g,4,none⟩)) rfl hHeld (fun s hs=>by obtain ⟨a0,a1,b0,b1⟩:=rc2 hs;go_simp) ?_
   refine tk 8 (.agg #[.string (bstr y.1),.bool y.2]) rfl hHeld (fun s hs=>by obtain ⟨a0,a1,b0,b1⟩:=rc2 hs;go_simp) ?_
   refine rd1 5 rfl fun K hK => ?_
   go_simp
   refine (HCx.out _).mono ?_
   rintro e w1 ⟨he,hb1⟩
   unfold PlainIs at he
   rw [HXx.out] at he
   subst he
   have H1:=Lib.hid (H0.out.on hb1)
   clear hb1
   refine hK.out _ _ ⟨_,H1.out⟩ (fun hHeld => ?_)
   clear hK
   refine rd1 9 rfl fun K hK => ?_
   go_simp
   refine (HCy.out _).mono ?_
   rintro e w2 ⟨he,hb2⟩
   unfold PlainIs at he
   rw [HXy.out] at he
   subst he
   have H2:=Lib.hid (H1.out.on hb2)
   clear hb2
   exact ⟨rfl,H2.out.bad⟩
  | some ty =>
   have HXy:=Lib.hid hy
   clear hy
   go_enter Tryz.func58,Tryz.ntmps58
   go_wp2
   refine wp_region_held_drew (S:=fun s=>∃cs,RowS w0 B g [x,y] cs s) (by kernel_rfl) ⟨_,H0.out⟩ (fun hHeld => ?_)
   refine tk 0 (.pointer (some ⟨B,0,none⟩)) rfl hHeld (fun s hs=>by obtain ⟨a0,a1,b0,b1⟩:=rc2 hs;go_simp) ?_
   refine tk 1 (.pointer (some ⟨B,0,none⟩)) rfl hHeld (fun s hs=>by obtain ⟨a0,a1,b0,b1⟩:=rc2 hs;go_simp) ?_
   refine tk 2 (.slice (some ⟨g,2,none⟩) 2 c) rfl hHeld (fun s hs=>by obtain ⟨a0,a1,b0,b1⟩:=rc2 hs;go_simp) ?_
   refine tk 3 (.pointer (some ⟨g,2,none⟩)) rfl hHeld (fun s hs=>by obtain ⟨a0,a1,b0,b1⟩:=rc2 hs;go_simp) ?_
   refine tk 4 (.agg #[.string (bstr x.1),.bool x.2]) rfl hHeld (fun s hs=>by obtain ⟨a0,a1,b0,b1⟩:=rc2 hs;go_simp) ?_
   refine tk 6 (.slice (some ⟨g,2,none⟩) 2 c) rfl hHeld (fun s hs=>by obtain ⟨a0,a1,b0,b1⟩:=rc2 hs;go_simp) ?_
   refine tk 7 (.pointer (some ⟨g,4,none⟩)) rfl hHeld (fun s hs=>by obtain ⟨a0,a1,b0,b1⟩:=rc2 hs;go_simp) ?_
   refine tk 8 (.agg #[.string (bstr y.1),.bool y.2]) rfl hHeld (fun s hs=>by obtain ⟨a0,a1,b0,b1⟩:=rc2 hs;go_simp) ?_
   refine rd1 5 rfl fun K hK => ?_
   go_simp
   refine (HCx.out _).mono ?_
   rintro e w1 ⟨he,hb1⟩
   unfold PlainIs at he
   rw [HXx.out] at he
   subst he
   have H1:=Lib.hid (H0.out.on hb1)
   clear hb1
   refine hK.out _ _ ⟨_,H1.out⟩ (fun hHeld => ?_)
   clear hK
   refine rd1 9 rfl fun K hK => ?_
   go_simp
   refine (HCy.out _).mono ?_
   rintro e w2 ⟨he,hb2⟩
   unfold PlainIs at he
   rw [HXy.out] at he
   subst he
   have H2:=Lib.hid (H1.out.on hb2)
   clear hb2
   refine hK.out _ _ ⟨_,H2.out⟩ (fun hHeld => ?_)
   clear hK
   refine tk 10 (.pointer (some ⟨B,0,none⟩)) rfl hHeld (fun s hs=>by obtain ⟨a0,a1,b0,b1⟩:=rc2 hs;go_simp) ?_
   refine tk 11 (.pointer (some ⟨B,4,none⟩)) rfl hHeld (fun s hs=>by obtain ⟨a0,a1,b0,b1⟩:=rc2 hs;go_simp) ?_
   refine rd1 12 rfl fun K hK => ?_
   have f4:=H2.out.free 4
   have c4:=H2.out.cell 4 (.string ⟨#[]⟩) rfl
   go_simp
   have H3:=Lib.hid (H2.out.set 4 (.string (bstr tx)))
   clear f4 c4
   refine hK.out _ _ ⟨_,H3.out⟩ (fun hHeld => ?_)
   clear hK
   refine tk 13 (.pointer (some ⟨B,0,none⟩)) rfl hHeld (fun s hs=>by obtain ⟨a0,a1,b0,b1⟩:=rc2 hs;go_simp) ?_
   refine tk 14 (.pointer (some ⟨B,5,none⟩)) rfl hHeld (fun s hs=>by obtain ⟨a0,a1,b0,b1⟩:=rc2 hs;go_simp) ?_
   refine rd1 15 rfl fun K hK => ?_
   have f5:=H3.out.free 5
   have c5:=H3.out.cell 5 (.string ⟨#[]⟩) rfl
   go_simp
   have H4:=Lib.hid (H3.out.set 5 (.string (bstr ty)))
   clear f5 c5
   refine hK.out _ _ ⟨_,H4.out⟩ (fun hHeld => ?_)
   clear hK
   refine wpAnyH_done (by kernel_rfl) ?_ _
   clear hHeld
   go_simp
   go_end0
   exact H4.out.good _ rfl rfl
set_option maxRecDepth 100000 in
set_option maxHeartbeats 4000000 in
theorem row_insert (k:Int) (w0 w:World) (B g c:Nat) (x y z:List UInt8×Bool) (h:RowS w0 B g [x,y,z] (zeroC k) w):Calls Tryz.prog 59 #[.pointer (some ⟨B,0,none⟩),.slice (some ⟨g,2,none⟩) 3 c] w fun e w'=>RowIs w0 B ((sp.wNum x).bind fun n=>(sp.wNum y).bind fun i=>(sp.wPlain z).bind fun s=>some { kind:=k,node:=n,at_:=i,name:=s }) e w':=by
 have HCx:=Lib.hid (fun W=>wnum_any x W)
 have HCy:=Lib.hid (fun W=>wnum_any y W)
 have HCz:=Lib.hid (fun W=>wplain_any z W)
 have H0:=Lib.hid (h.on (Below.refl _ _).drew)
 clear h
 cases hx:sp.wNum x with
 | none =>
  have HXx:=Lib.hid hx
  clear hx
  go_enter Tryz.func59,Tryz.ntmps59
  go_wp2
  refine wp_region_held_drew (S:=fun s=>∃cs,RowS w0 B g [x,y,z] cs s) (by kernel_rfl) ⟨_,H0.out⟩ (fun hHeld => ?_)
  refine tk 0 (.pointer (some ⟨B,0,none⟩)) rfl hHeld (fun s hs=>by obtain ⟨a0,a1,b0,b1,c0,c1⟩:=rc3 hs;go_simp) ?_
  refine tk 1 (.pointer (some ⟨B,0,none⟩)) rfl hHeld (fun s hs=>by obtain ⟨a0,a1,b0,b1,c0,c1⟩:=rc3 hs;go_simp) ?_
  refine tk 2 (.pointer (some ⟨B,0,none⟩)) rfl hHeld (fun s hs=>by obtain ⟨a0,a1,b0,b1,c0,c1⟩:=rc3 hs;go_simp) ?_
  refine tk 3 (.slice (some ⟨g,2,none⟩) 3 c) rfl hHeld (fun s hs=>by obtain ⟨a0,a1,b0,b1,c0,c1⟩:=rc3 hs;go_simp) ?_
  refine tk 4 (.pointer (some ⟨g,2,none⟩)) rfl hHeld (fun s hs=>by obtain ⟨a0,a1,b0,b1,c0,c1⟩:=rc3 hs;go_simp) ?_
  refine tk 5 (.agg #[.string (bstr x.1),.bool x.2]) rfl hHeld (fun s hs=>by obtain ⟨a0,a1,b0,b1,c0,c1⟩:=rc3 hs;go_simp) ?_
  refine tk 7 (.slice (some ⟨g,2,none⟩) 3 c) rfl hHeld (fun s hs=>by obtain ⟨a0,a1,b0,b1,c0,c1⟩:=rc3 hs;go_simp) ?_
  refine tk 8 (.pointer (some ⟨g,4,none⟩)) rfl hHeld (fun s hs=>by obtain ⟨a0,a1,b0,b1,c0,c1⟩:=rc3 hs;go_simp) ?_
  refine tk 9 (.agg #[.string (bstr y.1),.bool y.2]) rfl hHeld (fun s hs=>by obtain ⟨a0,a1,b0,b1,c0,c1⟩:=rc3 hs;go_simp) ?_
  refine tk 11 (.slice (some ⟨g,2,none⟩) 3 c) rfl hHeld (fun s hs=>by obtain ⟨a0,a1,b0,b1,c0,c1⟩:=rc3 hs;go_simp) ?_
  refine tk 12 (.pointer (some ⟨g,6,none⟩)) rfl hHeld (fun s hs=>by obtain ⟨a0,a1,b0,b1,c0,c1⟩:=rc3 hs;go_simp) ?_
  refine tk 13 (.agg #[.string (bstr z.1),.bool z.2]) rfl hHeld (fun s hs=>by obtain ⟨a0,a1,b0,b1,c0,c1⟩:=rc3 hs;go_simp) ?_
  refine rd1 6 rfl fun K hK => ?_
  go_simp
  refine (HCx.out _).mono ?_
  rintro e w1 ⟨he,hb1⟩
  unfold NumIs at he
  rw [HXx.out] at he
  subst he
  have H1:=Lib.hid (H0.out.on hb1)
  clear hb1
  exact ⟨rfl,H1.out.bad⟩
 | some nx =>
  have HXx:=Lib.hid hx
  clear hx
  cases hy:sp.wNum y with
  | none =>
   have HXy:=Lib.hid hy
   clear hy
   go_enter Tryz.func59,Tryz.ntmps59
   go_wp2
   refine wp_region_held_drew (S:=fun s=>∃cs,RowS w0 B g [x,y,z] cs s) (by kernel_rfl) ⟨_,H0.out⟩ (fun hHeld => ?_)
   refine tk 0 (.pointer (some ⟨B,0,none⟩)) rfl hHeld (fun s hs=>by obtain ⟨a0,a1,b0,b1,c0,c1⟩:=rc3 hs;go_simp) ?_
   refine tk 1 (.pointer (some ⟨B,0,none⟩)) rfl hHeld (fun s hs=>by obtain ⟨a0,a1,b0,b1,c0,c1⟩:=rc3 hs;go_simp) ?_
   refine tk 2 (.pointer (some ⟨B,0,none⟩)) rfl hHeld (fun s hs=>by obtain ⟨a0,a1,b0,b1,c0,c1⟩:=rc3 hs;go_simp) ?_
   refine tk 3 (.slice (some ⟨g,2,none⟩) 3 c) rfl hHeld (fun s hs=>by obtain ⟨a0,a1,b0,b1,c0,c1⟩:=rc3 hs;go_simp) ?_
   refine tk 4 (.pointer (some ⟨g,2,none⟩)) rfl hHeld (fun s hs=>by obtain ⟨a0,a1,b0,b1,c0,c1⟩:=rc3 hs;go_simp) ?_
   refine tk 5 (.agg #[.string (bstr x.1),.bool x.2]) rfl hHeld (fun s hs=>by obtain ⟨a0,a1,b0,b1,c0,c1⟩:=rc3 hs;go_simp) ?_
   refine tk 7 (.slice (some ⟨g,2,none⟩) 3 c) rfl hHeld (fun s hs=>by obtain ⟨a0,a1,b0,b1,c0,c1⟩:=rc3 hs;go_simp) ?_
   refine tk 8 (.pointer (some ⟨g,4,none⟩)) rfl hHeld (fun s hs=>by obtain ⟨a0,a1,b0,b1,c0,c1⟩:=rc3 hs;go_simp) ?_
   refine tk 9 (.agg #[.string (bstr y.1),.bool y.2]) rfl hHeld (fun s hs=>by obtain ⟨a0,a1,b0,b1,c0,c1⟩:=rc3 hs;go_simp) ?_
   refine tk 11 (.slice (some ⟨g,2,none⟩) 3 c) rfl hHeld (fun s hs=>by obtain ⟨a0,a1,b0,b1,c0,c1⟩:=rc3 hs;go_simp) ?_
   refine tk 12 (.pointer (some ⟨g,6,none⟩)) rfl hHeld (fun s hs=>by obtain ⟨a0,a1,b0,b1,c0,c1⟩:=rc3 hs;go_simp) ?_
   refine tk 13 (.agg #[.string (bstr z.1),.bool z.2]) rfl hHeld (fun s hs=>by obtain ⟨a0,a1,b0,b1,c0,c1⟩:=rc3 hs;go_simp) ?_
   refine rd1 6 rfl fun K hK => ?_
   go_simp
   refine (HCx.out _).mono ?_
   rintro e w1 ⟨he,hb1⟩
   unfold NumIs at he
   rw [HXx.out] at he
   subst he
   have H1:=Lib.hid (H0.out.on hb1)
   clear hb1
   refine hK.out _ _ ⟨_,H1.out⟩ (fun hHeld => ?_)
   clear hK
   refine rd1 10 rfl fun K hK => ?_
   go_simp
   refine (HCy.out _).mono ?_
   rintro e w2 ⟨he,hb2⟩
   unfold NumIs at he
   rw [HXy.out] at he
   subst he
   have H2:=Lib.hid (H1.out.on hb2)
   clear hb2
   exact ⟨rfl,H2.out.bad⟩
  | some ny =>
   have HXy:=Lib.hid hy
   clear hy
   cases hz:sp.wPlain z with
   | none =>
    have HXz:=Lib.hid hz
    clear hz
    go_enter Tryz.func59,Tryz.ntmps59
    go_wp2
    refine wp_region_held_drew (S:=fun s=>∃cs,RowS w0 B g [x,y,z] cs s) (by kernel_rfl) ⟨_,H0.out⟩ (fun hHeld => ?_)
    refine tk 0 (.pointer (some ⟨B,0,none⟩)) rfl hHeld (fun s hs=>by obtain ⟨a0,a1,b0,b1,c0,c1⟩:=rc3 hs;go_simp) ?_
    refine tk 1 (.pointer (some ⟨B,0,none⟩)) rfl hHeld (fun s hs=>by obtain ⟨a0,a1,b0,b1,c0,c1⟩:=rc3 hs;go_simp) ?_
    refine tk 2 (.pointer (some ⟨B,0,none⟩)) rfl hHeld (fun s hs=>by obtain ⟨a0,a1,b0,b1,c0,c1⟩:=rc3 hs;go_simp) ?_
    refine tk 3 (.slice (some ⟨g,2,none⟩) 3 c) rfl hHeld (fun s hs=>by obtain ⟨a0,a1,b0,b1,c0,c1⟩:=rc3 hs;go_simp) ?_
    refine tk 4 (.pointer (some ⟨g,2,none⟩)) rfl hHeld (fun s hs=>by obtain ⟨a0,a1,b0,b1,c0,c1⟩:=rc3 hs;go_simp) ?_
    refine tk 5 (.agg #[.string (bstr x.1),.bool x.2]) rfl hHeld (fun s hs=>by obtain ⟨a0,a1,b0,b1,c0,c1⟩:=rc3 hs;go_simp) ?_
    refine tk 7 (.slice (some ⟨g,2,none⟩) 3 c) rfl hHeld (fun s hs=>by obtain ⟨a0,a1,b0,b1,c0,c1⟩:=rc3 hs;go_simp) ?_
    refine tk 8 (.pointer (some ⟨g,4,none⟩)) rfl hHeld (fun s hs=>by obtain ⟨a0,a1,b0,b1,c0,c1⟩:=rc3 hs;go_simp) ?_
    refine tk 9 (.agg #[.string (bstr y.1),.bool y.2]) rfl hHeld (fun s hs=>by obtain ⟨a0,a1,b0,b1,c0,c1⟩:=rc3 hs;go_simp) ?_
    refine tk 11 (.slice (some ⟨g,2,none⟩) 3 c) rfl hHeld (fun s hs=>by obtain ⟨a0,a1,b0,b1,c0,c1⟩:=rc3 hs;go_simp) ?_
    refine tk 12 (.pointer (some ⟨g,6,none⟩)) rfl hHeld (fun s hs=>by obtain ⟨a0,a1,b0,b1,c0,c1⟩:=rc3 hs;go_simp) ?_
    refine tk 13 (.agg #[.string (bstr z.1),.bool z.2]) rfl hHeld (fun s hs=>by obtain ⟨a0,a1,b0,b1,c0,c1⟩:=rc3 hs;go_simp) ?_
    refine rd1 6 rfl fun K hK => ?_
    go_simp
    refine (HCx.out _).mono ?_
    rintro e w1 ⟨he,hb1⟩
    unfold NumIs at he
    rw [HXx.out] at he
    subst he
    have H1:=Lib.hid (H0.out.on hb1)
    clear hb1
    refine hK.out _ _ ⟨_,H1.out⟩ (fun hHeld => ?_)
    clear hK
    refine rd1 10 rfl fun K hK => ?_
    go_simp
    refine (HCy.out _).mono ?_
    rintro e w2 ⟨he,hb2⟩
    unfold NumIs at he
    rw [HXy.out] at he
    subst he
    have H2:=Lib.hid (H1.out.on hb2)
    clear hb2
    refine hK.out _ _ ⟨_,H2.out⟩ (fun hHeld => ?_)
    clear hK
    refine rd1 14 rfl fun K hK => ?_
    go_simp
    refine (HCz.out _).mono ?_
    rintro e w3 ⟨he,hb3⟩
    unfold PlainIs at he
    rw [HXz.out] at he
    subst he
    have H3:=Lib.hid (H2.out.on hb3)
    clear hb3
    exact ⟨rfl,H3.out.bad⟩
   | some tz =>
    have HXz:=Lib.hid hz
    clear hz
    go_enter Tryz.func59,Tryz.ntmps59
    go_wp2
    refine wp_region_held_drew (S:=fun s=>∃cs,RowS w0 B g [x,y,z] cs s) (by kernel_rfl) ⟨_,H0.out⟩ (fun hHeld => ?_)
    refine tk 0 (.pointer (some ⟨B,0,none⟩)) rfl hHeld (fun s hs=>by obtain ⟨a0,a1,b0,b1,c0,c1⟩:=rc3 hs;go_simp) ?_
    refine tk 1 (.pointer (some ⟨B,0,none⟩)) rfl hHeld (fun s hs=>by obtain ⟨a0,a1,b0,b1,c0,c1⟩:=rc3 hs;go_simp) ?_
    refine tk 2 (.pointer (some ⟨B,0,none⟩)) rfl hHeld (fun s hs=>by obtain ⟨a0,a1,b0,b1,c0,c1⟩:=rc3 hs;go_simp) ?_
    refine tk 3 (.slice (some ⟨g,2,none⟩) 3 c) rfl hHeld (fun s hs=>by obtain ⟨a0,a1,b0,b1,c0,c1⟩:=rc3 hs;go_simp) ?_
    refine tk 4 (.pointer (some ⟨g,2,none⟩)) rfl hHeld (fun s hs=>by obtain ⟨a0,a1,b0,b1,c0,c1⟩:=rc3 hs;go_simp) ?_
    refine tk 5 (.agg #[.string (bstr x.1),.bool x.2]) rfl hHeld (fun s hs=>by obtain ⟨a0,a1,b0,b1,c0,c1⟩:=rc3 hs;go_simp) ?_
    refine tk 7 (.slice (some ⟨g,2,none⟩) 3 c) rfl hHeld (fun s hs=>by obtain ⟨a0,a1,b0,b1,c0,c1⟩:=rc3 hs;go_simp) ?_
    refine tk 8 (.pointer (some ⟨g,4,none⟩)) rfl hHeld (fun s hs=>by obtain ⟨a0,a1,b0,b1,c0,c1⟩:=rc3 hs;go_simp) ?_
    refine tk 9 (.agg #[.string (bstr y.1),.bool y.2]) rfl hHeld (fun s hs=>by obtain ⟨a0,a1,b0,b1,c0,c1⟩:=rc3 hs;go_simp) ?_
    refine tk 11 (.slice (some ⟨g,2,none⟩) 3 c) rfl hHeld (fun s hs=>by obtain ⟨a0,a1,b0,b1,c0,c1⟩:=rc3 hs;go_simp) ?_
    refine tk 12 (.pointer (some ⟨g,6,none⟩)) rfl hHeld (fun s hs=>by obtain ⟨a0,a1,b0,b1,c0,c1⟩:=rc3 hs;go_simp) ?_
    refine tk 13 (.agg #[.string (bstr z.1),.bool z.2]) rfl hHeld (fun s hs=>by obtain ⟨a0,a1,b0,b1,c0,c1⟩:=rc3 hs;go_simp) ?_
    refine rd1 6 rfl fun K hK => ?_
    go_simp
    refine (HCx.out _).mono ?_
    rintro e w1 ⟨he,hb1⟩
    unfold NumIs at he
    rw [HXx.out] at he
    subst he
    have H1:=Lib.hid (H0.out.on hb1)
    clear hb1
    refine hK.out _ _ ⟨_,H1.out⟩ (fun hHeld => ?_)
    clear hK
    refine rd1 10 rfl fun K hK => ?_
    go_simp
    refine (HCy.out _).mono ?_
    rintro e w2 ⟨he,hb2⟩
    unfold NumIs at he
    rw [HXy.out] at he
    subst he
    have H2:=Lib.hid (H1.out.on hb2)
    clear hb2
    refine hK.out _ _ ⟨_,H2.out⟩ (fun hHeld => ?_)
    clear hK
    refine rd1 14 rfl fun K hK => ?_
    go_simp
    refine (HCz.out _).mono ?_
    rintro e w3 ⟨he,hb3⟩
    unfold PlainIs at he
    rw [HXz.out] at he
    subst he
    have H3:=Lib.hid (H2.out.on hb3)
    clear hb3
    refine hK.out _ _ ⟨_,H3.out⟩ (fun hHeld => ?_)
    clear hK
    refine tk 15 (.pointer (some ⟨B,0,none⟩)) rfl hHeld (fun s hs=>by obtain ⟨a0,a1,b0,b1,c0,c1⟩:=rc3 hs;go_simp) ?_
    refine tk 16 (.pointer (some ⟨B,1,none⟩)) rfl hHeld (fun s hs=>by obtain ⟨a0,a1,b0,b1,c0,c1⟩:=rc3 hs;go_simp) ?_
    refine rd1 17 rfl fun K hK => ?_
    have f1:=H3.out.free 1
    have c1:=H3.out.cell 1 (.int .i64 0) rfl
    go_simp
    have H4:=Lib.hid (H3.out.set 1 (.int .i64 nx))
    clear f1 c1
    refine hK.out _ _ ⟨_,H4.out⟩ (fun hHeld => ?_)
    clear hK
    refine tk 18 (.pointer (some ⟨B,0,none⟩)) rfl hHeld (fun s hs=>by obtain ⟨a0,a1,b0,b1,c0,c1⟩:=rc3 hs;go_simp) ?_
    refine tk 19 (.pointer (some ⟨B,2,none⟩)) rfl hHeld (fun s hs=>by obtain ⟨a0,a1,b0,b1,c0,c1⟩:=rc3 hs;go_simp) ?_
    refine rd1 20 rfl fun K hK => ?_
    have f2:=H4.out.free 2
    have c2:=H4.out.cell 2 (.int .i64 0) rfl
    go_simp
    have H5:=Lib.hid (H4.out.set 2 (.int .i64 ny))
    clear f2 c2
    refine hK.out _ _ ⟨_,H5.out⟩ (fun hHeld => ?_)
    clear hK
    refine tk 21 (.pointer (some ⟨B,0,none⟩)) rfl hHeld (fun s hs=>by obtain ⟨a0,a1,b0,b1,c0,c1⟩:=rc3 hs;go_simp) ?_
    refine tk 22 (.pointer (some ⟨B,4,none⟩)) rfl hHeld (fun s hs=>by obtain ⟨a0,a1,b0,b1,c0,c1⟩:=rc3 hs;go_simp) ?_
    refine rd1 23 rfl fun K hK => ?_
    have f4:=H5.out.free 4
    have c4:=H5.out.cell 4 (.string ⟨#[]⟩) rfl
    go_simp
    have H6:=Lib.hid (H5.out.set 4 (.string (bstr tz)))
    clear f4 c4
    refine hK.out _ _ ⟨_,H6.out⟩ (fun hHeld => ?_)
    clear hK
    refine wpAnyH_done (by kernel_rfl) ?_ _
    clear hHeld
    go_simp
    go_end0
    exact H6.out.good _ rfl rfl
set_option maxRecDepth 100000 in
set_option maxHeartbeats 4000000 in
theorem row_set (k:Int) (w0 w:World) (B g c:Nat) (x y z:List UInt8×Bool) (h:RowS w0 B g [x,y,z] (zeroC k) w):Calls Tryz.prog 60 #[.pointer (some ⟨B,0,none⟩),.slice (some ⟨g,2,none⟩) 3 c] w fun e w'=>RowIs w0 B ((sp.wNum x).bind fun n=>(sp.wPlain y).bind fun s=>(sp.wText z).bind fun t=>some { kind:=k,node:=n,name:=s,word:=t }) e w':=by
 have HCx:=Lib.hid (fun W=>wnum_any x W)
 have HCy:=Lib.hid (fun W=>wplain_any y W)
 have HCz:=Lib.hid (fun W=>wtext_any z W)
 have H0:=Lib.hid (h.on (Below.refl _ _).drew)
 clear h
 cases hx:sp.wNum x with
 | none =>
  have HXx:=Lib.hid hx
  clear hx
  go_enter Tryz.func60,Tryz.ntmps60
  go_wp2
  refine wp_region_held_drew (S:=fun s=>∃cs,RowS w0 B g [x,y,z] cs s) (by kernel_rfl) ⟨_,H0.out⟩ (fun hHeld => ?_)
  refine tk 0 (.pointer (some ⟨B,0,none⟩)) rfl hHeld (fun s hs=>by obtain ⟨a0,a1,b0,b1,c0,c1⟩:=rc3 hs;go_simp) ?_
  refine tk 1 (.pointer (some ⟨B,0,none⟩)) rfl hHeld (fun s hs=>by obtain ⟨a0,a1,b0,b1,c0,c1⟩:=rc3 hs;go_simp) ?_
  refine tk 2 (.pointer (some ⟨B,0,none⟩)) rfl hHeld (fun s hs=>by obtain ⟨a0,a1,b0,b1,c0,c1⟩:=rc3 hs;go_simp) ?_
  refine tk 3 (.slice (some ⟨g,2,none⟩) 3 c) rfl hHeld (fun s hs=>by obtain ⟨a0,a1,b0,b1,c0,c1⟩:=rc3 hs;go_simp) ?_
  refine tk 4 (.pointer (some ⟨g,2,none⟩)) rfl hHeld (fun s hs=>by obtain ⟨a0,a1,b0,b1,c0,c1⟩:=rc3 hs;go_simp) ?_
  refine tk 5 (.agg #[.string (bstr x.1),.bool x.2]) rfl hHeld (fun s hs=>by obtain ⟨a0,a1,b0,b1,c0,c1⟩:=rc3 hs;go_simp) ?_
  refine tk 7 (.slice (some ⟨g,2,none⟩) 3 c) rfl hHeld (fun s hs=>by obtain ⟨a0,a1,b0,b1,c0,c1⟩:=rc3 hs;go_simp) ?_
  refine tk 8 (.pointer (some ⟨g,4,none⟩)) rfl hHeld (fun s hs=>by obtain ⟨a0,a1,b0,b1,c0,c1⟩:=rc3 hs;go_simp) ?_
  refine tk 9 (.agg #[.string (bstr y.1),.bool y.2]) rfl hHeld (fun s hs=>by obtain ⟨a0,a1,b0,b1,c0,c1⟩:=rc3 hs;go_simp) ?_
  refine tk 11 (.slice (some ⟨g,2,none⟩) 3 c) rfl hHeld (fun s hs=>by obtain ⟨a0,a1,b0,b1,c0,c1⟩:=rc3 hs;go_simp) ?_
  refine tk 12 (.pointer (some ⟨g,6,none⟩)) rfl hHeld (fun s hs=>by obtain ⟨a0,a1,b0,b1,c0,c1⟩:=rc3 hs;go_simp) ?_
  refine tk 13 (.agg #[.string (bstr z.1),.bool z.2]) rfl hHeld (fun s hs=>by obtain ⟨a0,a1,b0,b1,c0,c1⟩:=rc3 hs;go_simp) ?_
  refine rd1 6 rfl fun K hK => ?_
  go_simp
  refine (HCx.out _).mono ?_
  rintro e w1 ⟨he,hb1⟩
  unfold NumIs at he
  rw [HXx.out] at he
  subst he
  have H1:=Lib.hid (H0.out.on hb1)
  clear hb1
  exact ⟨rfl,H1.out.bad⟩
 | some nx =>
  have HXx:=Lib.hid hx
  clear hx
  cases hy:sp.wPlain y with
  | none =>
   have HXy:=Lib.hid hy
   clear hy
   go_enter Tryz.func60,Tryz.ntmps60
   go_wp2
   refine wp_region_held_drew (S:=fun s=>∃cs,RowS w0 B g [x,y,z] cs s) (by kernel_rfl) ⟨_,H0.out⟩ (fun hHeld => ?_)
   refine tk 0 (.pointer (some ⟨B,0,none⟩)) rfl hHeld (fun s hs=>by obtain ⟨a0,a1,b0,b1,c0,c1⟩:=rc3 hs;go_simp) ?_
   refine tk 1 (.pointer (some ⟨B,0,none⟩)) rfl hHeld (fun s hs=>by obtain ⟨a0,a1,b0,b1,c0,c1⟩:=rc3 hs;go_simp) ?_
   refine tk 2 (.pointer (some ⟨B,0,none⟩)) rfl hHeld (fun s hs=>by obtain ⟨a0,a1,b0,b1,c0,c1⟩:=rc3 hs;go_simp) ?_
   refine tk 3 (.slice (some ⟨g,2,none⟩) 3 c) rfl hHeld (fun s hs=>by obtain ⟨a0,a1,b0,b1,c0,c1⟩:=rc3 hs;go_simp) ?_
   refine tk 4 (.pointer (some ⟨g,2,none⟩)) rfl hHeld (fun s hs=>by obtain ⟨a0,a1,b0,b1,c0,c1⟩:=rc3 hs;go_simp) ?_
   refine tk 5 (.agg #[.string (bstr x.1),.bool x.2]) rfl hHeld (fun s hs=>by obtain ⟨a0,a1,b0,b1,c0,c1⟩:=rc3 hs;go_simp) ?_
   refine tk 7 (.slice (some ⟨g,2,none⟩) 3 c) rfl hHeld (fun s hs=>by obtain ⟨a0,a1,b0,b1,c0,c1⟩:=rc3 hs;go_simp) ?_
   refine tk 8 (.pointer (some ⟨g,4,none⟩)) rfl hHeld (fun s hs=>by obtain ⟨a0,a1,b0,b1,c0,c1⟩:=rc3 hs;go_simp) ?_
   refine tk 9 (.agg #[.string (bstr y.1),.bool y.2]) rfl hHeld (fun s hs=>by obtain ⟨a0,a1,b0,b1,c0,c1⟩:=rc3 hs;go_simp) ?_
   refine tk 11 (.slice (some ⟨g,2,none⟩) 3 c) rfl hHeld (fun s hs=>by obtain ⟨a0,a1,b0,b1,c0,c1⟩:=rc3 hs;go_simp) ?_
   refine tk 12 (.pointer (some ⟨g,6,none⟩)) rfl hHeld (fun s hs=>by obtain ⟨a0,a1,b0,b1,c0,c1⟩:=rc3 hs;go_simp) ?_
   refine tk 13 (.agg #[.string (bstr z.1),.bool z.2]) rfl hHeld (fun s hs=>by obtain ⟨a0,a1,b0,b1,c0,c1⟩:=rc3 hs;go_simp) ?_
   refine rd1 6 rfl fun K hK => ?_
   go_simp
   refine (HCx.out _).mono ?_
   rintro e w1 ⟨he,hb1⟩
   unfold NumIs at he
   rw [HXx.out] at he
   subst he
   have H1:=Lib.hid (H0.out.on hb1)
   clear hb1
   refine hK.out _ _ ⟨_,H1.out⟩ (fun hHeld => ?_)
   clear hK
   refine rd1 10 rfl fun K hK => ?_
   go_simp
   refine (HCy.out _).mono ?_
   rintro e w2 ⟨he,hb2⟩
   unfold PlainIs at he
   rw [HXy.out] at he
   subst he
   have H2:=Lib.hid (H1.out.on hb2)
   clear hb2
   exact ⟨rfl,H2.out.bad⟩
  | some ty =>
   have HXy:=Lib.hid hy
   clear hy
   cases hz:sp.wText z with
   | none =>
    have HXz:=Lib.hid hz
    clear hz
    go_enter Tryz.func60,Tryz.ntmps60
    go_wp2
    refine wp_region_held_drew (S:=fun s=>∃cs,RowS w0 B g [x,y,z] cs s) (by kernel_rfl) ⟨_,H0.out⟩ (fun hHeld => ?_)
    refine tk 0 (.pointer (some ⟨B,0,none⟩)) rfl hHeld (fun s hs=>by obtain ⟨a0,a1,b0,b1,c0,c1⟩:=rc3 hs;go_simp) ?_
    refine tk 1 (.pointer (some ⟨B,0,none⟩)) rfl hHeld (fun s hs=>by obtain ⟨a0,a1,b0,b1,c0,c1⟩:=rc3 hs;go_simp) ?_
    refine tk 2 (.pointer (some ⟨B,0,none⟩)) rfl hHeld (fun s hs=>by obtain ⟨a0,a1,b0,b1,c0,c1⟩:=rc3 hs;go_simp) ?_
    refine tk 3 (.slice (some ⟨g,2,none⟩) 3 c) rfl hHeld (fun s hs=>by obtain ⟨a0,a1,b0,b1,c0,c1⟩:=rc3 hs;go_simp) ?_
    refine tk 4 (.pointer (some ⟨g,2,none⟩)) rfl hHeld (fun s hs=>by obtain ⟨a0,a1,b0,b1,c0,c1⟩:=rc3 hs;go_simp) ?_
    refine tk 5 (.agg #[.string (bstr x.1),.bool x.2]) rfl hHeld (fun s hs=>by obtain ⟨a0,a1,b0,b1,c0,c1⟩:=rc3 hs;go_simp) ?_
    refine tk 7 (.slice (some ⟨g,2,none⟩) 3 c) rfl hHeld (fun s hs=>by obtain ⟨a0,a1,b0,b1,c0,c1⟩:=rc3 hs;go_simp) ?_
    refine tk 8 (.pointer (some ⟨g,4,none⟩)) rfl hHeld (fun s hs=>by obtain ⟨a0,a1,b0,b1,c0,c1⟩:=rc3 hs;go_simp) ?_
    refine tk 9 (.agg #[.string (bstr y.1),.bool y.2]) rfl hHeld (fun s hs=>by obtain ⟨a0,a1,b0,b1,c0,c1⟩:=rc3 hs;go_simp) ?_
    refine tk 11 (.slice (some ⟨g,2,none⟩) 3 c) rfl hHeld (fun s hs=>by obtain ⟨a0,a1,b0,b1,c0,c1⟩:=rc3 hs;go_simp) ?_
    refine tk 12 (.pointer (some ⟨g,6,none⟩)) rfl hHeld (fun s hs=>by obtain ⟨a0,a1,b0,b1,c0,c1⟩:=rc3 hs;go_simp) ?_
    refine tk 13 (.agg #[.string (bstr z.1),.bool z.2]) rfl hHeld (fun s hs=>by obtain ⟨a0,a1,b0,b1,c0,c1⟩:=rc3 hs;go_simp) ?_
    refine rd1 6 rfl fun K hK => ?_
    go_simp
    refine (HCx.out _).mono ?_
    rintro e w1 ⟨he,hb1⟩
    unfold NumIs at he
    rw [HXx.out] at he
    subst he
    have H1:=Lib.hid (H0.out.on hb1)
    clear hb1
    refine hK.out _ _ ⟨_,H1.out⟩ (fun hHeld => ?_)
    clear hK
    refine rd1 10 rfl fun K hK => ?_
    go_simp
    refine (HCy.out _).mono ?_
    rintro e w2 ⟨he,hb2⟩
    unfold PlainIs at he
    rw [HXy.out] at he
    subst he
    have H2:=Lib.hid (H1.out.on hb2)
    clear hb2
    refine hK.out _ _ ⟨_,H2.out⟩ (fun hHeld => ?_)
    clear hK
    refine rd1 14 rfl fun K hK => ?_
    go_simp
    refine (HCz.out _).mono ?_
    rintro e w3 ⟨he,hb3⟩
    unfold TextWIs at he
    rw [HXz.out] at he
    subst he
    have H3:=Lib.hid (H2.out.on hb3)
    clear hb3
    exact ⟨rfl,H3.out.bad⟩
   | some tz =>
    have HXz:=Lib.hid hz
    clear hz
    go_enter Tryz.func60,Tryz.ntmps60
    go_wp2
    refine wp_region_held_drew (S:=fun s=>∃cs,RowS w0 B g [x,y,z] cs s) (by kernel_rfl) ⟨_,H0.out⟩ (fun hHeld => ?_)
    refine tk 0 (.pointer (some ⟨B,0,none⟩)) rfl hHeld (fun s hs=>by obtain ⟨a0,a1,b0,b1,c0,c1⟩:=rc3 hs;go_simp) ?_
    refine tk 1 (.pointer (some ⟨B,0,none⟩)) rfl hHeld (fun s hs=>by obtain ⟨a0,a1,b0,b1,c0,c1⟩:=rc3 hs;go_simp) ?_
    refine tk 2 (.pointer (some ⟨B,0,none⟩)) rfl hHeld (fun s hs=>by obtain ⟨a0,a1,b0,b1,c0,c1⟩:=rc3 hs;go_simp) ?_
    refine tk 3 (.slice (some ⟨g,2,none⟩) 3 c) rfl hHeld (fun s hs=>by obtain ⟨a0,a1,b0,b1,c0,c1⟩:=rc3 hs;go_simp) ?_
    refine tk 4 (.pointer (some ⟨g,2,none⟩)) rfl hHeld (fun s hs=>by obtain ⟨a0,a1,b0,b1,c0,c1⟩:=rc3 hs;go_simp) ?_
    refine tk 5 (.agg #[.string (bstr x.1),.bool x.2]) rfl hHeld (fun s hs=>by obtain ⟨a0,a1,b0,b1,c0,c1⟩:=rc3 hs;go_simp) ?_
    refine tk 7 (.slice (some ⟨g,2,none⟩) 3 c) rfl hHeld (fun s hs=>by obtain ⟨a0,a1,b0,b1,c0,c1⟩:=rc3 hs;go_simp) ?_
    refine tk 8 (.pointer (some ⟨g,4,none⟩)) rfl hHeld (fun s hs=>by obtain ⟨a0,a1,b0,b1,c0,c1⟩:=rc3 hs;go_simp) ?_
    refine tk 9 (.agg #[.string (bstr y.1),.bool y.2]) rfl hHeld (fun s hs=>by obtain ⟨a0,a1,b0,b1,c0,c1⟩:=rc3 hs;go_simp) ?_
    refine tk 11 (.slice (some ⟨g,2,none⟩) 3 c) rfl hHeld (fun s hs=>by obtain ⟨a0,a1,b0,b1,c0,c1⟩:=rc3 hs;go_simp) ?_
    refine tk 12 (.pointer (some ⟨g,6,none⟩)) rfl hHeld (fun s hs=>by obtain ⟨a0,a1,b0,b1,c0,c1⟩:=rc3 hs;go_simp) ?_
    refine tk 13 (.agg #[.string (bstr z.1),.bool z.2]) rfl hHeld (fun s hs=>by obtain ⟨a0,a1,b0,b1,c0,c1⟩:=rc3 hs;go_simp) ?_
    refine rd1 6 rfl fun K hK => ?_
    go_simp
    refine (HCx.out _).mono ?_
    rintro e w1 ⟨he,hb1⟩
    unfold NumIs at he
    rw [HXx.out] at he
    subst he
    have H1:=Lib.hid (H0.out.on hb1)
    clear hb1
    refine hK.out _ _ ⟨_,H1.out⟩ (fun hHeld => ?_)
    clear hK
    refine rd1 10 rfl fun K hK => ?_
    go_simp
    refine (HCy.out _).mono ?_
    rintro e w2 ⟨he,hb2⟩
    unfold PlainIs at he
    rw [HXy.out] at he
    subst he
    have H2:=Lib.hid (H1.out.on hb2)
    clear hb2
    refine hK.out _ _ ⟨_,H2.out⟩ (fun hHeld => ?_)
    clear hK
    refine rd1 14 rfl fun K hK => ?_
    go_simp
    refine (HCz.out _).mono ?_
    rintro e w3 ⟨he,hb3⟩
    unfold TextWIs at he
    rw [HXz.out] at he
    subst he
    have H3:=Lib.hid (H2.out.on hb3)
    clear hb3
    refine hK.out _ _ ⟨_,H3.out⟩ (fun hHeld => ?_)
    clear hK
    refine tk 15 (.pointer (some ⟨B,0,none⟩)) rfl hHeld (fun s hs=>by obtain ⟨a0,a1,b0,b1,c0,c1⟩:=rc3 hs;go_simp) ?_
    refine tk 16 (.pointer (some ⟨B,1,none⟩)) rfl hHeld (fun s hs=>by obtain ⟨a0,a1,b0,b1,c0,c1⟩:=rc3 hs;go_simp) ?_
    refine rd1 17 rfl fun K hK => ?_
    have f1:=H3.out.free 1
    have c1:=H3.out.cell 1 (.int .i64 0) rfl
    go_simp
    have H4:=Lib.hid (H3.out.set 1 (.int .i64 nx))
    clear f1 c1
    refine hK.out _ _ ⟨_,H4.out⟩ (fun hHeld => ?_)
    clear hK
    refine tk 18 (.pointer (some ⟨B,0,none⟩)) rfl hHeld (fun s hs=>by obtain ⟨a0,a1,b0,b1,c0,c1⟩:=rc3 hs;go_simp) ?_
    refine tk 19 (.pointer (some ⟨B,4,none⟩)) rfl hHeld (fun s hs=>by obtain ⟨a0,a1,b0,b1,c0,c1⟩:=rc3 hs;go_simp) ?_
    refine rd1 20 rfl fun K hK => ?_
    have f4:=H4.out.free 4
    have c4:=H4.out.cell 4 (.string ⟨#[]⟩) rfl
    go_simp
    have H5:=Lib.hid (H4.out.set 4 (.string (bstr ty)))
    clear f4 c4
    refine hK.out _ _ ⟨_,H5.out⟩ (fun hHeld => ?_)
    clear hK
    refine tk 21 (.pointer (some ⟨B,0,none⟩)) rfl hHeld (fun s hs=>by obtain ⟨a0,a1,b0,b1,c0,c1⟩:=rc3 hs;go_simp) ?_
    refine tk 22 (.pointer (some ⟨B,5,none⟩)) rfl hHeld (fun s hs=>by obtain ⟨a0,a1,b0,b1,c0,c1⟩:=rc3 hs;go_simp) ?_
    refine rd1 23 rfl fun K hK => ?_
    have f5:=H5.out.free 5
    have c5:=H5.out.cell 5 (.string ⟨#[]⟩) rfl
    go_simp
    have H6:=Lib.hid (H5.out.set 5 (.string (bstr tz)))
    clear f5 c5
    refine hK.out _ _ ⟨_,H6.out⟩ (fun hHeld => ?_)
    clear hK
    refine wpAnyH_done (by kernel_rfl) ?_ _
    clear hHeld
    go_simp
    go_end0
    exact H6.out.good _ rfl rfl
set_option maxRecDepth 100000 in
set_option maxHeartbeats 4000000 in
theorem row_sheet (k:Int) (w0 w:World) (B g c:Nat) (x y:List UInt8×Bool) (hly:y.1.length≤1099511627776) (h:RowS w0 B g [x,y] (zeroC k) w):Calls Tryz.prog 54 #[.pointer (some ⟨B,0,none⟩),.slice (some ⟨g,2,none⟩) 2 c] w fun e w'=>RowIs w0 B ((sp.wNum x).bind fun o=>(sp.wText y).bind fun t=>some { kind:=k,origin:=o,text:=t }) e w':=by
 have HCx:=Lib.hid (fun W=>wnum_any x W)
 have HCy:=Lib.hid (fun W=>wtext_any y W)
 have H0:=Lib.hid (h.on (Below.refl _ _).drew)
 clear h
 cases hx:sp.wNum x with
 | none =>
  have HXx:=Lib.hid hx
  clear hx
  go_enter Tryz.func54,Tryz.ntmps54
  go_wp2
  refine wp_region_held_drew (S:=fun s=>∃cs,RowS w0 B g [x,y] cs s) (by kernel_rfl) ⟨_,H0.out⟩ (fun hHeld => ?_)
  refine tk 0 (.pointer (some ⟨B,0,none⟩)) rfl hHeld (fun s hs=>by obtain ⟨a0,a1,b0,b1⟩:=rc2 hs;go_simp) ?_
  refine tk 1 (.pointer (some ⟨B,0,none⟩)) rfl hHeld (fun s hs=>by obtain ⟨a0,a1,b0,b1⟩:=rc2 hs;go_simp) ?_
  refine tk 2 (.slice (some ⟨g,2,none⟩) 2 c) rfl hHeld (fun s hs=>by obtain ⟨a0,a1,b0,b1⟩:=rc2 hs;go_simp) ?_
  refine tk 3 (.pointer (some ⟨g,2,none⟩)) rfl hHeld (fun s hs=>by obtain ⟨a0,a1,b0,b1⟩:=rc2 hs;go_simp) ?_
  refine tk 4 (.agg #[.string (bstr x.1),.bool x.2]) rfl hHeld (fun s hs=>by obtain ⟨a0,a1,b0,b1⟩:=rc2 hs;go_simp) ?_
  refine tk 6 (.slice (some ⟨g,2,none⟩) 2 c) rfl hHeld (fun s hs=>by obtain ⟨a0,a1,b0,b1⟩:=rc2 hs;go_simp) ?_
  refine tk 7 (.pointer (some ⟨g,4,none⟩)) rfl hHeld (fun s hs=>by obtain ⟨a0,a1,b0,b1⟩:=rc2 hs;go_simp) ?_
  refine tk 8 (.agg #[.string (bstr y.1),.bool y.2]) rfl hHeld (fun s hs=>by obtain ⟨a0,a1,b0,b1⟩:=rc2 hs;go_simp) ?_
  refine rd1 5 rfl fun K hK => ?_
  go_simp
  refine (HCx.out _).mono ?_
  rintro e w1 ⟨he,hb1⟩
  unfold NumIs at he
  rw [HXx.out] at he
  subst he
  have H1:=Lib.hid (H0.out.on hb1)
  clear hb1
  exact ⟨rfl,H1.out.bad⟩
 | some nx =>
  have HXx:=Lib.hid hx
  clear hx
  cases hy:sp.wText y with
  | none =>
   have HXy:=Lib.hid hy
   clear hy
   go_enter Tryz.func54,Tryz.ntmps54
   go_wp2
   refine wp_region_held_drew (S:=fun s=>∃cs,RowS w0 B g [x,y] cs s) (by kernel_rfl) ⟨_,H0.out⟩ (fun hHeld => ?_)
   refine tk 0 (.pointer (some ⟨B,0,none⟩)) rfl hHeld (fun s hs=>by obtain ⟨a0,a1,b0,b1⟩:=rc2 hs;go_simp) ?_
   refine tk 1 (.pointer (some ⟨B,0,none⟩)) rfl hHeld (fun s hs=>by obtain ⟨a0,a1,b0,b1⟩:=rc2 hs;go_simp) ?_
   refine tk 2 (.slice (some ⟨g,2,none⟩) 2 c) rfl hHeld (fun s hs=>by obtain ⟨a0,a1,b0,b1⟩:=rc2 hs;go_simp) ?_
   refine tk 3 (.pointer (some ⟨g,2,none⟩)) rfl hHeld (fun s hs=>by obtain ⟨a0,a1,b0,b1⟩:=rc2 hs;go_simp) ?_
   refine tk 4 (.agg #[.string (bstr x.1),.bool x.2]) rfl hHeld (fun s hs=>by obtain ⟨a0,a1,b0,b1⟩:=rc2 hs;go_simp) ?_
   refine tk 6 (.slice (some ⟨g,2,none⟩) 2 c) rfl hHeld (fun s hs=>by obtain ⟨a0,a1,b0,b1⟩:=rc2 hs;go_simp) ?_
   refine tk 7 (.pointer (some ⟨g,4,none⟩)) rfl hHeld (fun s hs=>by obtain ⟨a0,a1,b0,b1⟩:=rc2 hs;go_simp) ?_
   refine tk 8 (.agg #[.string (bstr y.1),.bool y.2]) rfl hHeld (fun s hs=>by obtain ⟨a0,a1,b0,b1⟩:=rc2 hs;go_simp) ?_
   refine rd1 5 rfl fun K hK => ?_
   go_simp
   refine (HCx.out _).mono ?_
   rintro e w1 ⟨he,hb1⟩
   unfold NumIs at he
   rw [HXx.out] at he
   subst he
   have H1:=Lib.hid (H0.out.on hb1)
   clear hb1
   refine hK.out _ _ ⟨_,H1.out⟩ (fun hHeld => ?_)
   clear hK
   refine rd1 9 rfl fun K hK => ?_
   go_simp
   refine (HCy.out _).mono ?_
   rintro e w2 ⟨he,hb2⟩
   unfold TextWIs at he
   rw [HXy.out] at he
   subst he
   have H2:=Lib.hid (H1.out.on hb2)
   clear hb2
   exact ⟨rfl,H2.out.bad⟩
  | some ty =>
   have HXy:=Lib.hid hy
   clear hy
   go_enter Tryz.func54,Tryz.ntmps54
   go_wp2
   refine wp_region_held_drew (S:=fun s=>∃cs,RowS w0 B g [x,y] cs s) (by kernel_rfl) ⟨_,H0.out⟩ (fun hHeld => ?_)
   refine tk 0 (.pointer (some ⟨B,0,none⟩)) rfl hHeld (fun s hs=>by obtain ⟨a0,a1,b0,b1⟩:=rc2 hs;go_simp) ?_
   refine tk 1 (.pointer (some ⟨B,0,none⟩)) rfl hHeld (fun s hs=>by obtain ⟨a0,a1,b0,b1⟩:=rc2 hs;go_simp) ?_
   refine tk 2 (.slice (some ⟨g,2,none⟩) 2 c) rfl hHeld (fun s hs=>by obtain ⟨a0,a1,b0,b1⟩:=rc2 hs;go_simp) ?_
   refine tk 3 (.pointer (some ⟨g,2,none⟩)) rfl hHeld (fun s hs=>by obtain ⟨a0,a1,b0,b1⟩:=rc2 hs;go_simp) ?_
   refine tk 4 (.agg #[.string (bstr x.1),.bool x.2]) rfl hHeld (fun s hs=>by obtain ⟨a0,a1,b0,b1⟩:=rc2 hs;go_simp) ?_
   refine tk 6 (.slice (some ⟨g,2,none⟩) 2 c) rfl hHeld (fun s hs=>by obtain ⟨a0,a1,b0,b1⟩:=rc2 hs;go_simp) ?_
   refine tk 7 (.pointer (some ⟨g,4,none⟩)) rfl hHeld (fun s hs=>by obtain ⟨a0,a1,b0,b1⟩:=rc2 hs;go_simp) ?_
   refine tk 8 (.agg #[.string (bstr y.1),.bool y.2]) rfl hHeld (fun s hs=>by obtain ⟨a0,a1,b0,b1⟩:=rc2 hs;go_simp) ?_
   refine rd1 5 rfl fun K hK => ?_
   go_simp
   refine (HCx.out _).mono ?_
   rintro e w1 ⟨he,hb1⟩
   unfold NumIs at he
   rw [HXx.out] at he
   subst he
   have H1:=Lib.hid (H0.out.on hb1)
   clear hb1
   refine hK.out _ _ ⟨_,H1.out⟩ (fun hHeld => ?_)
   clear hK
   refine rd1 9 rfl fun K hK => ?_
   go_simp
   refine (HCy.out _).mono ?_
   rintro e w2 ⟨he,hb2⟩
   unfold TextWIs at he
   rw [HXy.out] at he
   subst he
   have H2:=Lib.hid (H1.out.on hb2)
   clear hb2
   refine hK.out _ _ ⟨_,H2.out⟩ (fun hHeld => ?_)
   clear hK
   refine tk 11 (.pointer (some ⟨B,0,none⟩)) rfl hHeld (fun s hs=>by obtain ⟨a0,a1,b0,b1⟩:=rc2 hs;go_simp) ?_
   refine tk 12 (.pointer (some ⟨B,3,none⟩)) rfl hHeld (fun s hs=>by obtain ⟨a0,a1,b0,b1⟩:=rc2 hs;go_simp) ?_
   refine wpAnyH_ready (rs:=[10,13]) (by kernel_rfl) (by simp) ?_
   refine AllReadyH.cons rfl (fun K hK => ?_) (AllReadyH.cons rfl (fun K hK => ?_) AllReadyH.nil)
   ·rw [if_pos (by kernel_rfl)]
    obtain ⟨wc,cp,hcv,hbc,hsz,hrow,hc1,hc2⟩:=conv_bytes2 (w2) ty
    have hsx:(w2).heap.size=w2.heap.size:=by simp
    rw [hsx] at hcv hsz hrow
    have HCV:=Lib.hid (And.intro hsz (And.intro hrow (And.intro hc1 hc2)))
    have HLT:=Lib.hid (show B<w2.heap.size by have:=lt_of_block H2.out.op;rw [hsx] at this;exact this)
    clear hrow hc1 hc2 hsz hsx
    go_simp
    clear hcv
    have H3:=Lib.hid (H2.out.on hbc)
    clear hbc
    refine hK.out _ _ ⟨_,H3.out⟩ (fun hHeld => ?_)
    clear hK
    refine rd1 13 rfl fun K hK => ?_
    have f3:=H3.out.free 3
    have c3:=H3.out.cell 3 (.int .i64 0) rfl
    go_simp
    have H4:=Lib.hid (H3.out.set 3 (.int .i64 nx))
    clear f3 c3
    refine hK.out _ _ ⟨_,H4.out⟩ (fun hHeld => ?_)
    clear hK
    refine tk 14 (.pointer (some ⟨B,0,none⟩)) rfl hHeld (fun s hs=>by obtain ⟨a0,a1,b0,b1⟩:=rc2 hs;go_simp) ?_
    refine tk 15 (.pointer (some ⟨B,6,none⟩)) rfl hHeld (fun s hs=>by obtain ⟨a0,a1,b0,b1⟩:=rc2 hs;go_simp) ?_
    refine rd1 16 rfl fun K hK => ?_
    have f6:=H4.out.free 6
    have c6:=H4.out.cell 6 (.slice none 0 0) rfl
    go_simp
    have H5:=Lib.hid (H4.out.set 6 (.slice (some ⟨w2.heap.size,0,none⟩) ty.length cp))
    clear f6 c6
    refine hK.out _ _ ⟨_,H5.out⟩ (fun hHeld => ?_)
    clear hK
    refine wpAnyH_done (by kernel_rfl) ?_ _
    clear hHeld
    go_simp
    go_end0
    have hne:w2.heap.size≠B:=by have:=HLT.out;omega
    exact H5.out.goodT _ (range_other (range_other HCV.out.2.1 hne _ _) hne _ _) rfl HCV.out.2.2.1 (HCV.out.2.2.2 (by have:=wText_len HXy.out;unfold maxLen;omega)) (by have:=HCV.out.1;simp;omega) H2.out.fr.size rfl
   ·rw [if_pos (by kernel_rfl)]
    have f3:=H2.out.free 3
    have c3:=H2.out.cell 3 (.int .i64 0) rfl
    go_simp
    have H3:=Lib.hid (H2.out.set 3 (.int .i64 nx))
    clear f3 c3
    refine hK.out _ _ ⟨_,H3.out⟩ (fun hHeld => ?_)
    clear hK
    refine rd1 10 rfl fun K hK => ?_
    obtain ⟨wc,cp,hcv,hbc,hsz,hrow,hc1,hc2⟩:=conv_bytes2 (w2.setCell ⟨B,3,none⟩ (.int .i64 nx)) ty
    have hsx:(w2.setCell ⟨B,3,none⟩ (.int .i64 nx)).heap.size=w2.heap.size:=by simp
    rw [hsx] at hcv hsz hrow
    have HCV:=Lib.hid (And.intro hsz (And.intro hrow (And.intro hc1 hc2)))
    have HLT:=Lib.hid (show B<w2.heap.size by have:=lt_of_block H3.out.op;rw [hsx] at this;exact this)
    clear hrow hc1 hc2 hsz hsx
    go_simp
    clear hcv
    have H4:=Lib.hid (H3.out.on hbc)
    clear hbc
    refine hK.out _ _ ⟨_,H4.out⟩ (fun hHeld => ?_)
    clear hK
    refine tk 14 (.pointer (some ⟨B,0,none⟩)) rfl hHeld (fun s hs=>by obtain ⟨a0,a1,b0,b1⟩:=rc2 hs;go_simp) ?_
    refine tk 15 (.pointer (some ⟨B,6,none⟩)) rfl hHeld (fun s hs=>by obtain ⟨a0,a1,b0,b1⟩:=rc2 hs;go_simp) ?_
    refine rd1 16 rfl fun K hK => ?_
    have f6:=H4.out.free 6
    have c6:=H4.out.cell 6 (.slice none 0 0) rfl
    go_simp
    have H5:=Lib.hid (H4.out.set 6 (.slice (some ⟨w2.heap.size,0,none⟩) ty.length cp))
    clear f6 c6
    refine hK.out _ _ ⟨_,H5.out⟩ (fun hHeld => ?_)
    clear hK
    refine wpAnyH_done (by kernel_rfl) ?_ _
    clear hHeld
    go_simp
    go_end0
    have hne:w2.heap.size≠B:=by have:=HLT.out;omega
    exact H5.out.goodT _ (range_other HCV.out.2.1 hne _ _) rfl HCV.out.2.2.1 (HCV.out.2.2.2 (by have:=wText_len HXy.out;unfold maxLen;omega)) (by have:=HCV.out.1;simp;omega) H2.out.fr.size rfl
set_option maxRecDepth 100000 in
set_option maxHeartbeats 2000000 in
theorem row_size (k:Int) (w0 w:World) (B g c:Nat) (x:List UInt8×Bool) (hl:x.1.length≤1099511627776) (h:RowS w0 B g [x] (zeroC k) w):Calls Tryz.prog 52 #[.pointer (some ⟨B,0,none⟩),.slice (some ⟨g,2,none⟩) 1 c] w fun e w'=>RowIs w0 B ((sp.wFrac x).map fun q=>{ kind:=k,w:=q }) e w':=by
 have HN:=Lib.hid (fun W=>wfrac_any x W hl)
 obtain ⟨a0,a1⟩:=h.w0
 have HH:=Lib.hid h
 clear h hl
 cases hx:sp.wFrac x with
 | none =>
  have HX:=Lib.hid hx
  clear hx
  go_enter Tryz.func52,Tryz.ntmps52
  go_wp2_with (go_at_call 53;refine (HN.out _).mono ?_;rintro e w1 ⟨he,hb⟩;unfold FracWIs at he;rw [HX.out] at he;subst he)
  exact ⟨rfl,(HH.out.on hb).bad⟩
 | some q =>
  have HX:=Lib.hid hx
  clear hx
  go_enter Tryz.func52,Tryz.ntmps52
  go_wp2_with (go_at_call 53;refine (HN.out _).mono ?_;rintro e w1 ⟨he,hb⟩;unfold FracWIs at he;rw [HX.out] at he;subst he;have H1:=Lib.hid (HH.out.on hb);have f7:=H1.out.free 7;have c7:=H1.out.cell 7 (.int .i64 0) rfl;have f8:=H1.out.free 8;have c8:=H1.out.cell 8 (.int .i64 0) rfl;clear hb)
  go_end0
  exact ((H1.out.set 7 _).set 8 _).good _ rfl rfl
set_option maxRecDepth 100000 in
set_option maxHeartbeats 2000000 in
theorem row_print (k:Int) (w0 w:World) (B g c:Nat) (x:List UInt8×Bool) (h:RowS w0 B g [x] (zeroC k) w):Calls Tryz.prog 57 #[.pointer (some ⟨B,0,none⟩),.slice (some ⟨g,2,none⟩) 1 c] w fun e w'=>RowIs w0 B ((sp.wPlain x).bind fun s=>if s=sp.kOn then some { kind:=k,on:=true } else if s=sp.kOff then some { kind:=k } else none) e w':=by
 have HN:=Lib.hid (fun W=>wplain_any x W)
 obtain ⟨a0,a1⟩:=h.w0
 have HH:=Lib.hid h
 clear h
 cases hx:sp.wPlain x with
 | none =>
  have HX:=Lib.hid hx
  clear hx
  go_enter Tryz.func57,Tryz.ntmps57
  go_wp2_with (go_at_call 28;refine (HN.out _).mono ?_;rintro e w1 ⟨he,hb⟩;unfold PlainIs at he;rw [HX.out] at he;subst he)
  exact ⟨rfl,(HH.out.on hb).bad⟩
 | some s =>
  have hxs:x.1=s:=by
   unfold sp.wPlain at hx
   split at hx
   ·cases hx
   ·cases hx;rfl
  have HX:=Lib.hid hx
  rw [hxs] at a0
  simp only [hxs] at HN
  have HS:=Lib.hid hxs
  clear hx hxs
  by_cases h1:s=sp.kOn
  ·have q1:=str_eq h1
   have HR:Hid (((some s).bind fun s=>if s=sp.kOn then some { kind:=k,on:=true } else if s=sp.kOff then some { kind:=k } else none)=some { kind:=k,on:=true:sp.Op }):=Lib.hid (by simp [h1])
   clear h1
   go_enter Tryz.func57,Tryz.ntmps57
   go_wp2_with (first
    | (go_at_call 28;refine (HN.out _).mono ?_;rintro e w1 ⟨he,hb⟩;unfold PlainIs at he;rw [HX.out] at he;subst he;have H1:=Lib.hid (HH.out.on hb);have f7:=H1.out.free 17;have c7:=H1.out.cell 17 (.bool false) rfl;clear hb)
    | (go_at_call 23;refine (must_yes _).mono ?_;rintro e w2 ⟨rfl,rfl⟩))
   go_end0
   rw [HR.out]
   exact (H1.out.set 17 _).good _ rfl rfl
  ·have q1:=str_ne h1
   by_cases h2:s=sp.kOff
   ·have q2:=str_eq h2
    have HR:Hid (((some s).bind fun s=>if s=sp.kOn then some { kind:=k,on:=true } else if s=sp.kOff then some { kind:=k } else none)=some { kind:=k:sp.Op }):=Lib.hid (by simp [h1,h2])
    clear h1 h2
    go_enter Tryz.func57,Tryz.ntmps57
    go_wp2_with (first
     | (go_at_call 28;refine (HN.out _).mono ?_;rintro e w1 ⟨he,hb⟩;unfold PlainIs at he;rw [HX.out] at he;subst he;have H1:=Lib.hid (HH.out.on hb);have f7:=H1.out.free 17;have c7:=H1.out.cell 17 (.bool false) rfl;have H2:=Lib.hid (H1.out.set 17 (.bool false));obtain ⟨a20,a21⟩:=H2.out.w0;rw [HS.out] at a20;clear hb)
     | (go_at_call 23;refine (must_yes _).mono ?_;rintro e w2 ⟨rfl,rfl⟩))
    go_end0
    rw [HR.out]
    exact H2.out.good _ rfl rfl
   ·have q2:=str_ne h2
    have HR:Hid (((some s).bind fun s=>if s=sp.kOn then some { kind:=k,on:=true } else if s=sp.kOff then some { kind:=k } else none)=(none:Option sp.Op)):=Lib.hid (by simp [h1,h2])
    clear h1 h2
    go_enter Tryz.func57,Tryz.ntmps57
    go_wp2_with (first
     | (go_at_call 28;refine (HN.out _).mono ?_;rintro e w1 ⟨he,hb⟩;unfold PlainIs at he;rw [HX.out] at he;subst he;have H1:=Lib.hid (HH.out.on hb);have f7:=H1.out.free 17;have c7:=H1.out.cell 17 (.bool false) rfl;have H2:=Lib.hid (H1.out.set 17 (.bool false));obtain ⟨a20,a21⟩:=H2.out.w0;rw [HS.out] at a20;clear hb)
     | (go_at_call 23;refine (must_no _).mono ?_;rintro e w2 ⟨rfl,rfl⟩))
    rw [HR.out]
    exact ⟨rfl,H2.out.bad⟩
set_option maxRecDepth 100000 in
theorem row_count (k:Int) (w0 w:World) (B g c:Nat) (a:Option Addr) (h:RowS w0 B g [] (zeroC k) w):Calls Tryz.prog 62 #[.pointer (some ⟨B,0,none⟩),.slice a 0 c] w fun e w'=>RowIs w0 B (some { kind:=k }) e w':=by
 have HH:=Lib.hid h
 clear h
 go_enter Tryz.func62,Tryz.ntmps62
 go_wp2
 go_end0
 exact HH.out.good _ rfl rfl
set_option maxRecDepth 100000 in
theorem line_idle (p q r:Addr) (w:World) :
  CallsD Tryz.prog 22 #[.pointer (some p),.pointer (some q),.pointer (some r)] .returning w fun e u' w'=>e=.returned (.tuple #[])∧u'=.returning∧w'=w:=by
 refine callsD_of_wpS Tryz.func22 rfl fun c₀ cs hu => ?_
 apply wpS_seq
 apply wpS_region
 simp [wpOpsS,go_sem,recoverD,hu,Tryz.ntmps22,Exit.thenS]
 refine wpS_of_wp ?_
 have e:(#[Value.pointer (some p),Value.pointer (some q),Value.pointer (some r)]++((Array.replicate 15 undef).setIfInBounds 3 Value.nilIface).setIfInBounds 0 Value.nilIface)=#[Value.pointer (some p),Value.pointer (some q),Value.pointer (some r),.nilIface,undef,undef,.nilIface,undef,undef,undef,undef,undef,undef,undef,undef,undef,undef,undef]:=rfl
 rw [e]
 clear e
 go_wp2
 exact ⟨rfl,.returning,by rw [←hu],_,results_none rfl _ _ _,rfl,rfl,rfl⟩
structure Res (B S E:Nat) (cs:Array Value) (sy:Bool) (er:Int) (W:World):Prop where
 op:W.heap[B]?=some (.cells cs 28 (0,0))
 says:W.heap[S]?=some (.cells #[.bool sy] 4 (0,0))
 err:W.heap[E]?=some (.cells #[.int .i64 er] 29 (0,0))
theorem setRow_at {w:World} {g:Nat} {old:Array Value} {t:TypeId} {fz:Nat×Nat} (h:w.heap[g]?=some (.cells old t fz)) (cells:Array Value):(w.setRow g cells).heap[g]?=some (.cells cells t fz):=by
 have hlt:=lt_of_block h
 have h':w.heap[g]=.cells old t fz:=by simpa [Array.getElem?_eq_getElem hlt] using h
 show (w.heap.modify g _)[g]?=_
 rw [Array.getElem?_eq_getElem (by simpa using hlt),Array.getElem_modify_self,h']
theorem setRow_far {w:World} {g k:Nat} (cells:Array Value) (h:g≠k):(w.setRow g cells).heap[k]?=w.heap[k]?:=by
 show (w.heap.modify g _)[k]?=_
 rw [Array.getElem?_modify]
 simp [h]
theorem res_zero {B S E:Nat} {cs:Array Value} {sy:Bool} {er:Int} {w:World} (h:Res B S E cs sy er w) (h1:B≠S) (h2:B≠E):Res B S E (zeroC 0) sy er ((w.alloc (.cells #[] 54)).setRow B (zeroC 0))∧(∀n,n≤B→Below n w ((w.alloc (.cells #[] 54)).setRow B (zeroC 0))) :=
 ⟨⟨setRow_at (heap_old _ _ _ h.op) _,(setRow_far _ h1).trans (heap_old _ _ _ h.says),(setRow_far _ h2).trans (heap_old _ _ _ h.err)⟩,
  fun n hn=>below_setRow ((Below.refl n w).alloc (by have:=lt_of_block h.op;omega) _) hn _⟩
theorem Res.cells {B S E:Nat} {cs:Array Value} {sy:Bool} {er:Int} {w:World} (h:Res B S E cs sy er w):w.cell? ⟨S,0,none⟩=some (.bool sy)∧w.cell? ⟨E,0,none⟩=some (.int .i64 er)∧w.frozen? ⟨S,0,none⟩=false∧w.frozen? ⟨E,0,none⟩=false :=
 ⟨by rw [Lib.cell_of_heap h.says];rfl,by rw [Lib.cell_of_heap h.err];rfl,blk_free h.says 0,blk_free h.err 0⟩
theorem Res.fin {B S E:Nat} {cs:Array Value} {sy:Bool} {er:Int} {w:World} (h:Res B S E cs sy er w) (h1:B≠S) (h2:B≠E) (h3:S≠E) (sy':Bool) (er':Int):Res B S E cs sy' er' ((w.setCell ⟨S,0,none⟩ (.bool sy')).setCell ⟨E,0,none⟩ (.int .i64 er'))∧(∀n,n≤S→n≤E→Below n w ((w.setCell ⟨S,0,none⟩ (.bool sy')).setCell ⟨E,0,none⟩ (.int .i64 er'))):=by
 refine ⟨⟨(heap_other (Ne.symm h2) _ _).trans ((heap_other (Ne.symm h1) _ _).trans h.op),(heap_other (Ne.symm h3) _ _).trans ?_,?_⟩,fun n hs he=>((Below.refl n w).setCell hs _).setCell he _⟩
 ·have:=blk_set h.says 0 (.bool sy')
  simpa using this
 ·have:=blk_set ((heap_other h3 0 (.bool sy')).trans h.err) 0 (.int .i64 er')
  simpa using this
theorem zero_one:(zeroC 0).all (·.oneCell')=true:=by simp [zeroC,opCells,Value.oneCell']
theorem ta54 (w:World):(Instr.typeAssert (.iface 54 (.agg #[])) 20 54 true).run Tryz.prog w=.ok (.tuple #[.agg #[],.bool true]) w:=by kernel_rfl
set_option maxRecDepth 100000 in
set_option maxHeartbeats 2000000 in
theorem line_bar (B S E:Nat) (cs:Array Value) (sy:Bool) (er:Int) (w:World) (h:Res B S E cs sy er w) (hc:cs.size=18) (h1:B≠S) (h2:B≠E) (h3:S≠E) :
  CallsD Tryz.prog 22 #[.pointer (some ⟨B,0,none⟩),.pointer (some ⟨S,0,none⟩),.pointer (some ⟨E,0,none⟩)] (.panicking bar) w fun e u' w'=>e=.returned (.tuple #[])∧u'=.panicking [{ v:=.iface 54 (.agg #[]),recovered:=true }]∧Res B S E (zeroC 0) false 12 w'∧(∀n,n≤B→n≤S→n≤E→Below n w w'):=by
 have HR:=Lib.hid h
 have s0:w.cell? ⟨S,0,none⟩=some (.bool sy):=by rw [Lib.cell_of_heap h.says];rfl
 have e0:w.cell? ⟨E,0,none⟩=some (.int .i64 er):=by rw [Lib.cell_of_heap h.err];rfl
 have z0:=blk_free h.says 0
 have z1:=blk_free h.err 0
 have hta:=ta54
 have HC:=Lib.hid hc
 clear h
 unfold bar
 refine callsD_of_wpS Tryz.func22 rfl fun c₀ fs hu => ?_
 apply wpS_seq
 apply wpS_region
 simp [wpOpsS,go_sem,recoverD,hu,Tryz.ntmps22,Exit.thenS]
 refine wpS_of_wp ?_
 have e:(#[Value.pointer (some ⟨B,0,none⟩),Value.pointer (some ⟨S,0,none⟩),Value.pointer (some ⟨E,0,none⟩)]++((Array.replicate 15 undef).setIfInBounds 3 (.iface 54 (.agg #[]))).setIfInBounds 0 (.iface 54 (.agg #[])))=#[Value.pointer (some ⟨B,0,none⟩),Value.pointer (some ⟨S,0,none⟩),Value.pointer (some ⟨E,0,none⟩),(.iface 54 (.agg #[])),undef,undef,(.iface 54 (.agg #[])),undef,undef,undef,undef,undef,undef,undef,undef,undef,undef,undef]:=rfl
 rw [e]
 clear e hu
 go_wp2_with (refine wpList_store_row rfl 28 _ _ rfl B (zeroC 0) rfl rfl 28 cs (heap_old _ _ _ HR.out.op) size28' HC.out zero_one ?_;obtain ⟨hr2,hb2⟩:=res_zero HR.out h1 h2;generalize (w.alloc (.cells #[] 54)).setRow B (zeroC 0)=W2 at hr2 hb2 ⊢; have HR2:=Lib.hid hr2;have HB2:=Lib.hid hb2;obtain ⟨k0,k1,y0,y1⟩:=hr2.cells;clear hr2 hb2)
 have HF:=HR2.out.fin h1 h2 h3 false 12
 exact ⟨rfl,_,rfl,_,results_none rfl _ _ _,rfl,rfl,HF.1,fun n q1 q2 q3=>(HB2.out n q1).trans (HF.2 n q2 q3)⟩
theorem cell_heap2 {W W':World} {g:Nat} (h:W'.heap[g]?=W.heap[g]?) (k:Nat):W'.cell? ⟨g,k,none⟩=W.cell? ⟨g,k,none⟩:=by unfold World.cell?;rw [h]
def opRow (p:sp.Op×Value):List Value:=(opCells p.1 p.2).toList
theorem opRow_len (p:sp.Op×Value):(opRow p).length=18:=rfl
structure SameRow (w:World) (v:Value) (L:List (sp.Op×Value)):Prop where
 row:RowAt w.heap.size w v L.length (L.flatMap opRow)
 texts:∀p∈L,RowAt w.heap.size w p.2 p.1.text.length (Lib.byteCells p.1.text)
theorem SameRow.on {w w':World} {v:Value} {L:List (sp.Op×Value)} (h:SameRow w v L) (hb:Below w.heap.size w w'):SameRow w' v L :=
 ⟨(h.row.keep hb).mono hb.size,fun p hp=>((h.texts p hp).keep hb).mono hb.size⟩
theorem one_op' {o:sp.Op} {tv:Value} {B n:Nat} {W:World} {cs:List Value} (h:RowAt B W tv n cs):(opCells o tv).all (·.oneCell')=true:=by
 obtain ⟨a,cap,rfl⟩:=h.slice
 simp [opCells,Value.oneCell']
theorem SameRow.el {w wr:World} {a:Option Addr} {c n:Nat} {L:List (sp.Op×Value)} (h:SameRow w (.slice a n c) L) (hb:Below w.heap.size w wr) {k:Nat} (hk:k<L.length):∃b off,a=some ⟨b,off,none⟩∧b<w.heap.size∧(∀j u,(opCells L[k].1 L[k].2).toList[j]?=some u→wr.cell? ⟨b,off+k*18+j,none⟩=some u)∧RowAt w.heap.size wr L[k].2 L[k].1.text.length (Lib.byteCells L[k].1.text):=by
 have hn:n=L.length:=by obtain ⟨_,_,e,_⟩:=h.row;cases e;rfl
 subst hn
 obtain ⟨bx,off,rfl,hbx,hrg⟩:=h.row.place (by omega)
 refine ⟨bx,off,rfl,hbx,fun j u hj => ?_,(h.texts _ (List.getElem_mem hk)).keep hb⟩
 have hj18:j<18:=(List.getElem?_eq_some_iff.1 hj).1
 have:=rangeAt_below hb hbx hrg (k*18+j) u (by rw [flat_at opRow_len L k hk j hj18];exact hj)
 rw [←Nat.add_assoc] at this
 exact this
theorem st_new {wr W:World} {cs:Array Value} (h:W=(wr.alloc (.cells (zeroC 0) 28)).setRow wr.heap.size cs):W.heap[wr.heap.size]?=some (.cells cs 28 (0,0))∧Below wr.heap.size wr W:=by
 subst h
 exact ⟨setRow_at (heap_alloc_at _ _) _,below_setRow (below_new wr _) (Nat.le_refl _) _⟩
section
variable {ops:Array Oper} {rest:List Oper} {op:Oper} {a:Act} {Q:Exit→Act→World→Prop} {W:World}
theorem wpl_st28' (hgd:op.guard=none) (x y:Operand) (hop:op.op=.store 28 x y) (g:Nat) (cells:Array Value) (hx:a.eval x=.pointer (some ⟨g,0,none⟩)) (hy:a.eval y=.agg cells) (old:Array Value) (hg:W.heap[g]?=some (.cells old 28 (0,0))) (ho:old.size=18) (hc:cells.size=18) (h1:cells.all (·.oneCell')=true)
  (h:∀W',W'=W.setRow g cells→wpList Tryz.prog ops Q rest (a.put op.dst undef) W'):wpList Tryz.prog ops Q (op :: rest) a W :=
 wpList_store_row hgd 28 x y hop g cells hx hy 28 old hg (by rw [hc];exact size28') (by rw [ho,hc]) h1 (h _ rfl)
end
set_option maxRecDepth 100000 in
set_option maxHeartbeats 16000000 in
theorem same_any (w:World) (va vb:Value) (A C:List (sp.Op×Value)) (ha:SameRow w va A) (hb:SameRow w vb C) (he:A.map (·.1)=C.map (·.1)) (hn:A.length≤1099511627776):Calls Tryz.prog 15 #[va,vb] w fun e w'=>e=.returned (.bool true)∧Below w.heap.size w w':=by
 have hl:A.length=C.length:=by have:=congrArg List.length he;simpa using this
 obtain ⟨aa,ca,rfl⟩:=ha.row.slice
 obtain ⟨ab,cb,rfl⟩:=hb.row.slice
 have HA:=Lib.hid ha;have HC:=Lib.hid hb;have HE:=Lib.hid he;have HN:=Lib.hid hn
 have HL:=Lib.hid hl
 rw [hl] at HA ⊢
 have HLN:Hid ((C.length:Int)≤1099511627776):=Lib.hid (by omega)
 clear ha hb he hn hl
 go_enter Tryz.func15,Tryz.ntmps15
 go_wp2
 go_loopw [5,15] (fun j i wr=>∃k:Nat,k≤C.length∧i=.int .i64 k∧Below w.heap.size w wr) (fun _ i _=>C.length-(intOf i).toNat)
 case atStart=>exact ⟨0,Nat.zero_le _,rfl,Below.refl _ _⟩
 case round =>
  obtain ⟨k,hk,rfl,hbl⟩:=hrel
  have HB:=Lib.hid hbl
  have hkb:(k:Int)≤1099511627776:=by have:=HLN.out;omega
  clear hbl
  by_cases hlt:k<C.length
  ·have t0:decide ((k:Int)<(C.length:Int))=true:=by simp;omega
   have hltA:k<A.length:=by have:=HL.out;omega
   obtain ⟨b1,o1,rfl,hx1,hc1,hr1⟩:=SameRow.el HA.out HB.out hltA
   obtain ⟨b2,o2,rfl,hx2,hc2,hr2⟩:=HC.out.el HB.out hlt
   have heq:A[k].1=C[k].1:=by
    have h1:(A.map (·.1))[k]?=(C.map (·.1))[k]?:=by rw [HE.out]
    simpa [hltA,hlt] using h1
   obtain ⟨o,ho⟩:∃o,o=C[k].1:=⟨_,rfl⟩
   rw [heq] at hc1 hr1
   rw [←ho] at hc1 hr1 hc2 hr2
   generalize A[k].2=ta at hc1 hr1
   generalize C[k].2=tb at hc2 hr2
   clear heq ho hltA
   have HX2:Hid (b2<wr.heap.size):=Lib.hid (Nat.lt_of_lt_of_le hx2 HB.out.size);clear hx1 hx2
   have HC1:=Lib.hid hc1;have HC2:=Lib.hid hc2;have HR1:=Lib.hid hr1;have HR2:=Lib.hid hr2
   have HO1:=Lib.hid (one_op' (o:=o) hr1);have HO2:=Lib.hid (one_op' (o:=o) hr2)
   clear hc1 hc2 hr1 hr2
   go_wp2_with (first
    | (have hgd:=HC1;clear hgd;refine wpList_load_range rfl 28 _ rfl b1 (o1+k*18) rfl (opCells o ta) _ HC1.out Tryz.underlying28 rfl size28' ?_;clear HC1)
    | (have hgd:=HO1;clear hgd;refine wpl_st28' rfl _ _ rfl wr.heap.size (opCells o ta) rfl rfl _ (heap_alloc_at _ _) rfl rfl HO1.out ?_;intro W1 hW1;obtain ⟨q1,q2⟩:=st_new hW1;have HQ1:=Lib.hid q1;have HB1:=Lib.hid (HB.out.trans (q2.mono HB.out.size));have HC3:=Lib.hid (fun j u hj=>(cell_heap2 (q2.block b2 HX2.out) _).trans (HC2.out j u hj));have HW1:=Lib.hid (q2.mono HB.out.size);clear hW1 q1 q2 HO1 HC2)
    | (have hgd:=HC3;clear hgd;refine wpList_load_range rfl 28 _ rfl b2 (o2+k*18) rfl (opCells o tb) _ HC3.out Tryz.underlying28 rfl size28' ?_;clear HC3)
    | (have hgd:=HO2;clear hgd;refine wpl_st28' rfl _ _ rfl W1.heap.size (opCells o tb) rfl rfl _ (heap_alloc_at _ _) rfl rfl HO2.out ?_;intro W2 hW2;obtain ⟨q1,q2⟩:=st_new hW2;have HB2:=Lib.hid (HB1.out.trans (q2.mono HB1.out.size));have HW2:=HW1.out.trans (q2.mono HB1.out.size);have HQ2:=(q2.block _ (lt_of_block HQ1.out)).trans HQ1.out;have a0:=blk_cell HQ2 0 (.int .i64 o.kind) rfl;have a1:=blk_cell HQ2 1 (.int .i64 o.node) rfl;have a2:=blk_cell HQ2 2 (.int .i64 o.at_) rfl;have a3:=blk_cell HQ2 3 (.int .i64 o.origin) rfl;have a4:=blk_cell HQ2 4 (.string (bstr o.name)) rfl;have a5:=blk_cell HQ2 5 (.string (bstr o.word)) rfl;have a6:=blk_cell HQ2 6 (ta) rfl;have a7:=blk_cell HQ2 7 (.int .i64 o.w.1) rfl;have a8:=blk_cell HQ2 8 (.int .i64 o.w.2) rfl;have a9:=blk_cell HQ2 9 (.int .i64 o.h.1) rfl;have a10:=blk_cell HQ2 10 (.int .i64 o.h.2) rfl;have a11:=blk_cell HQ2 11 (.int .i64 o.bt) rfl;have a12:=blk_cell HQ2 12 (.string (bstr o.bn)) rfl;have a13:=blk_cell HQ2 13 (.int .i64 o.bw.1) rfl;have a14:=blk_cell HQ2 14 (.int .i64 o.bw.2) rfl;have a15:=blk_cell HQ2 15 (.int .i64 o.bh.1) rfl;have a16:=blk_cell HQ2 16 (.int .i64 o.bh.2) rfl;have a17:=blk_cell HQ2 17 (.bool o.on) rfl;have b0:=blk_cell q1 0 (.int .i64 o.kind) rfl;have b1:=blk_cell q1 1 (.int .i64 o.node) rfl;have b2:=blk_cell q1 2 (.int .i64 o.at_) rfl;have b3:=blk_cell q1 3 (.int .i64 o.origin) rfl;have b4:=blk_cell q1 4 (.string (bstr o.name)) rfl;have b5:=blk_cell q1 5 (.string (bstr o.word)) rfl;have b6:=blk_cell q1 6 (tb) rfl;have b7:=blk_cell q1 7 (.int .i64 o.w.1) rfl;have b8:=blk_cell q1 8 (.int .i64 o.w.2) rfl;have b9:=blk_cell q1 9 (.int .i64 o.h.1) rfl;have b10:=blk_cell q1 10 (.int .i64 o.h.2) rfl;have b11:=blk_cell q1 11 (.int .i64 o.bt) rfl;have b12:=blk_cell q1 12 (.string (bstr o.bn)) rfl;have b13:=blk_cell q1 13 (.int .i64 o.bw.1) rfl;have b14:=blk_cell q1 14 (.int .i64 o.bw.2) rfl;have b15:=blk_cell q1 15 (.int .i64 o.bh.1) rfl;have b16:=blk_cell q1 16 (.int .i64 o.bh.2) rfl;have b17:=blk_cell q1 17 (.bool o.on) rfl;have hva:=conv_row (HR1.out.keep HW2);have hvb:=conv_row (HR2.out.keep HW2);clear hW2 q1 q2 HO2 HQ1 HQ2 HW2))
   exact ⟨⟨k+1,by omega,by go_num,HB2.out⟩,by simp [intOf];omega⟩
  ·have t0:decide ((k:Int)<(C.length:Int))=false:=by simp;omega
   go_wp2
   go_ret
   exact ⟨rfl,HB.out⟩
theorem info28':(Tryz.prog.info? 28).map (fun i=>(i.zero,i.size,i.bytes))=some (some (.agg #[.int .i64 0,.int .i64 0,.int .i64 0,.int .i64 0,.string ⟨#[]⟩,.string ⟨#[]⟩,.slice none 0 0,.int .i64 0,.int .i64 0,.int .i64 0,.int .i64 0,.int .i64 0,.string ⟨#[]⟩,.int .i64 0,.int .i64 0,.int .i64 0,.int .i64 0,.bool false]),18,184):=by kernel_rfl
theorem range18:Array.range 18=#[0,1,2,3,4,5,6,7,8,9,10,11,12,13,14,15,16,17]:=by decide
section
variable {ops:Array Oper} {rest:List Oper} {op:Oper} {a:Act} {Q:Exit→Act→World→Prop} {w:World}
theorem wpl_run (hgd:op.guard=none) {v:Value} {w':World} (hr:(execOp a.eval op).run Tryz.prog w=.ok (.value v) w') (h:wpList Tryz.prog ops Q rest (a.put op.dst v) w'):wpList Tryz.prog ops Q (op :: rest) a w :=
 wpList_plain hgd fun _ hK=>by unfold Oper.wp;rw [hr];exact hK _ _ h
theorem wpl_slice28 (hgd:op.guard=none) (x:Operand) (hop:op.op=.buildSlice 35 1 #[(0,x)]) (o:sp.Op) (tv:Value) (hx:a.eval x=.agg (opCells o tv))
  (h:∀w',w'.heap[w.heap.size]?=some (.cells (opCells o tv) 28 (0,0))→Below w.heap.size w w'→wpList Tryz.prog ops Q rest (a.put op.dst (.slice (some ⟨w.heap.size,0,none⟩) 1 1)) w'):wpList Tryz.prog ops Q (op :: rest) a w:=by
 refine wpl_run hgd (w':=w.alloc (.cells (opCells o tv) 28)) ?_ (h _ (heap_alloc_at w _) (below_new w _))
 obtain ⟨i,hi,hz,hs,hb⟩:=info_parts info28'
 unfold execOp
 simp [hop,hx,Instr.buildSlice,run_underlying Tryz.underlying35,sizeOf,zeroValue,typeInfo,hi,hz,hs,Builtin.zeroCells,Instr.fill,Value.cells,newRow,Result.andThen,opCells,range18]
end
end Go.Proofs.YtihlneenajlhoaaGreatDoor
set_option linter.unusedVariables false
set_option linter.unusedSimpArgs false
namespace Go.Proofs.YtihlneenajlhoaaGreatDoor.sp
open Go
/-! ### The lines of a text -/
def linesS (b:Bs):List Bs:=if h:b = [] then [] else b.takeWhile (· != 10) :: linesS ((b.dropWhile (· != 10)).drop 1)
termination_by b.length
decreasing_by
 have h1:=(List.dropWhile_sublist (· != 10) (l:=b)).length_le
 have h2:0<b.length:=List.length_pos_iff.2 h
 cases hd:b.dropWhile (· != 10) with
 | nil=>simpa using h2
 | cons c r=>rw [hd] at h1;simp at h1 ⊢; omega
theorem lines_nil:linesS [] = []:=by rw [linesS];rfl
theorem lines_cut {a:Bs} (h:(10:UInt8)∉a) (r:Bs):linesS (a++10 :: r)=a :: linesS r:=by
 have hp:∀c∈a,(c != 10)=true:=fun c hc=>by
  simp only [bne_iff_ne,ne_eq]
  rintro rfl
  exact h hc
 rw [linesS,dif_neg (by simp),List.takeWhile_append_of_pos hp,List.dropWhile_append_of_pos hp]
 simp
theorem lines_last {a:Bs} (h:(10:UInt8)∉a) (h0:a≠[]):linesS a = [a]:=by
 have hp:∀c∈a,(c != 10)=true:=fun c hc=>by
  simp only [bne_iff_ne,ne_eq]
  rintro rfl
  exact h hc
 have h1:a.takeWhile (· != 10)=a:=by
  have:=List.takeWhile_append_of_pos (l₂:=[]) hp
  simpa using this
 have h2:a.dropWhile (· != 10) = []:=by
  have:=List.dropWhile_append_of_pos (l₂:=[]) hp
  simpa using this
 rw [linesS,dif_neg h0,h1,h2]
 simp [lines_nil]
/-! ### The operations of a text -/
noncomputable def parseL:Nat→List Bs→Nat ⊕ List Op
 | _,[]=>.inr []
 | i,s :: l =>
  match lineS s with
  | none=>.inl (i+1)
  | some none=>parseL (i+1) l
  | some (some o) =>
   match parseL (i+1) l with
   | .inl n=>.inl n
   | .inr r=>.inr (o :: r)
theorem line_nl {s:Bs} {x:Option Op} (h:lineS s=some x):(10:UInt8)∉s:=fun hm=>by
 unfold lineS at h
 rw [if_pos hm] at h
 cases h
end Go.Proofs.YtihlneenajlhoaaGreatDoor.sp
set_option linter.unusedSimpArgs false
set_option linter.unusedVariables false
namespace Go.Proofs.YtihlneenajlhoaaGreatDoor
open Go Go.RowKit
theorem idx_none:∀ {b:List UInt8},(10:UInt8)∉b→Lib.index b [10] = -1
 | [],_=>rfl
 | c :: l,h=>by
  have h1:¬(10:UInt8)=c:=fun e=>h (e ▸ List.mem_cons_self)
  have h2:=idx_none (b:=l) fun hm=>h (List.mem_cons_of_mem _ hm)
  unfold Lib.index
  rw [h2]
  simp [h1]
theorem idx_some:∀ {a:List UInt8} (r:List UInt8),(10:UInt8)∉a→Lib.index (a++10 :: r) [10]=(a.length:Int)
 | [],r,_=>by unfold Lib.index;simp
 | c :: l,r,h=>by
  have h1:¬(10:UInt8)=c:=fun e=>h (e ▸ List.mem_cons_self)
  have h2:=idx_some (a:=l) r fun hm=>h (List.mem_cons_of_mem _ hm)
  rw [List.cons_append]
  unfold Lib.index
  rw [h2]
  have h3:((l.length:Int) == -1)=false:=by rw [beq_eq_false_iff_ne];omega
  simp [h1,h3]
abbrev nlB:ByteArray:=⟨#[10]⟩
theorem cut_nl {b:List UInt8} (h:(10:UInt8)∈b):∃a r,b=a++10 :: r∧(10:UInt8)∉a:=by
 induction b with
 | nil=>cases h
 | cons c l ih =>
  by_cases hc:c=10
  ·subst hc;exact ⟨[],l,rfl,by simp⟩
  ·have hl:(10:UInt8)∈l:=(List.mem_cons.1 h).resolve_left fun h=>hc h.symm
   obtain ⟨a,r,e,hn⟩:=ih hl
   exact ⟨c :: a,r,by rw [e];rfl,by simp [hn,Ne.symm hc]⟩
theorem extract_bs (b:List UInt8) (i j:Nat):(bstr b).extract i j=bstr ((b.take j).drop i):=by
 apply ByteArray.ext
 rw [ByteArray.data_extract]
 apply Array.toList_inj.1
 simp [bstr,List.extract_eq_take_drop,List.drop_take]
theorem split_lines:∀(n:Nat) (b:List UInt8),b.length≤n→∃l:List (List UInt8),Lib.splitB nlB 0 (Lib.countB (bstr b) nlB) (bstr b)=l.map bstr∧l.length=Lib.countB (bstr b) nlB+1∧((∃l',l=l'++[[]]∧sp.linesS b=l')∨(∃l' x,l=l'++[x]∧x≠[]∧sp.linesS b=l)):=by
 intro n
 induction n with
 | zero =>
  intro b hb
  obtain rfl:b = []:=List.eq_nil_of_length_eq_zero (by omega)
  have hi:Lib.indexB (bstr []) nlB = -1:=idx_none (b:=[]) (by simp)
  refine ⟨[[]],?_,by rw [Lib.countB_miss _ _ hi];rfl,.inl ⟨[],rfl,sp.lines_nil⟩⟩
  rw [Lib.splitB_miss _ _ _ _ hi]
  rfl
 | succ n ih =>
  intro b hb
  by_cases hm:(10:UInt8)∈b
  ·obtain ⟨a,r,rfl,hn⟩:=cut_nl hm
   have hi:Lib.indexB (bstr (a++10 :: r)) nlB=(a.length:Int):=by
    show Lib.index (bstr (a++10 :: r)).data.toList [10]=_
    rw [bstr_toList]
    exact idx_some r hn
   have hx:(bstr (a++10 :: r)).extract (a.length+nlB.size) (bstr (a++10 :: r)).size=bstr r:=by
    rw [extract_bs,bstr_size,List.take_length]
    congr 1
    show (a++10 :: r).drop (a.length+1)=r
    rw [List.drop_append]
    simp
   have h0:(bstr (a++10 :: r)).extract 0 (a.length+0)=bstr a:=by
    rw [extract_bs]
    simp
   have hc:Lib.countB (bstr (a++10 :: r)) nlB=Lib.countB (bstr r) nlB+1:=by
    rw [Lib.countB_hit _ _ _ (by decide) hi,hx]
    omega
   obtain ⟨l,h1,h2,h3⟩:=ih r (by simp at hb;omega)
   refine ⟨a :: l,?_,by rw [hc];simp [h2],?_⟩
   ·rw [hc,Lib.splitB_hit _ _ _ _ _ hi,hx,h1]
    show (bstr (a++10 :: r)).extract 0 (a.length+0) :: _=_
    rw [h0]
    rfl
   ·rw [sp.lines_cut hn]
    rcases h3 with ⟨l',rfl,e⟩ | ⟨l',x,rfl,hx,e⟩
    ·exact .inl ⟨a :: l',rfl,by rw [e]⟩
    ·exact .inr ⟨a :: l',x,rfl,hx,by rw [e]⟩
  ·have hi:Lib.indexB (bstr b) nlB = -1:=by
    show Lib.index (bstr b).data.toList [10]=_
    rw [bstr_toList]
    exact idx_none hm
   refine ⟨[b],by rw [Lib.splitB_miss _ _ _ _ hi];rfl,by rw [Lib.countB_miss _ _ hi];rfl,?_⟩
   by_cases h0:b = []
   ·subst h0;exact .inl ⟨[],rfl,sp.lines_nil⟩
   ·exact .inr ⟨[],b,rfl,h0,sp.lines_last hm h0⟩
theorem linesS_len (b:List UInt8):(sp.linesS b).length≤b.length+1∧∀s∈sp.linesS b,s.length≤b.length:=by
 suffices h:∀(n:Nat) (b:List UInt8),b.length≤n→(sp.linesS b).length≤b.length+1∧∀s∈sp.linesS b,s.length≤b.length from h _ b (Nat.le_refl _)
 intro n
 induction n with
 | zero =>
  intro b hb
  obtain rfl:b = []:=List.eq_nil_of_length_eq_zero (by omega)
  rw [sp.lines_nil]
  simp
 | succ n ih =>
  intro b hb
  by_cases hm:(10:UInt8)∈b
  ·obtain ⟨a,r,rfl,hn⟩:=cut_nl hm
   rw [sp.lines_cut hn]
   obtain ⟨h1,h2⟩:=ih r (by simp at hb;omega)
   refine ⟨by simp;omega,fun s hs => ?_⟩
   rcases List.mem_cons.1 hs with rfl | hs
   ·simp
   ·have:=h2 s hs
    simp
    omega
  ·by_cases h0:b = []
   ·subst h0;rw [sp.lines_nil];simp
   ·rw [sp.lines_last hm h0]
    simp
theorem LineR.step {w:World} {b:Nat} {s:ByteArray} {c:UInt8} {r:List UInt8} (h:LineR w b s (c :: r)):∃n:Nat,w.cell? ⟨b,1,none⟩=some (.int .i64 n)∧w.frozen? ⟨b,1,none⟩=false∧n<s.size∧LineR (w.setCell ⟨b,1,none⟩ (.int .i64 ((n:Int)+1))) b s r:=by
 obtain ⟨p,h1,h2⟩:=h
 refine ⟨p.length,by rw [Lib.cell_of_heap h2];rfl,blk_free h2 1,by have:=line_size h1;simp at this;omega,p++[c],by rw [h1];simp,?_⟩
 have:=blk_set h2 1 (.int .i64 ((p.length:Int)+1))
 rw [this]
 simp
structure WordsR (w:World) (b:Nat) (s:ByteArray) (u:List UInt8) (l:List (List UInt8×Bool)) (v:Value) (r:List UInt8) (wr:World):Prop where
 line:LineR wr b s r
 own:wr.ownsRow w.heap.size 71 2 v l.length (wdCells l)
 fr:Fr w wr b none
 hb:b<w.heap.size
 eq:sp.words u=(sp.words r).map fun m=>l++m
 len:l.length+r.length≤s.size
section
variable {w wr w':World} {b:Nat} {s:ByteArray} {u r r':List UInt8} {l:List (List UInt8×Bool)} {v:Value}
theorem WordsR.move (h:WordsR w b s u l v r wr) (hl:LineR w' b s r') (hf:Fr wr w' b none) (he:sp.words r=sp.words r') (hn:r'.length≤r.length):WordsR w b s u l v r' w' :=
 ⟨hl,ownsRow_fr h.own hf h.hb,h.fr.trans hf (Own.refl _ _),h.hb,by rw [h.eq,he],by have:=h.len;omega⟩
theorem WordsR.below (h:WordsR w b s u l v r wr) (hb:Below wr.heap.size wr w'):WordsR w b s u l v r w':=h.move (h.line.below hb) (Fr.of_below hb) rfl (Nat.le_refl _)
end
structure WordsM (w:World) (b:Nat) (s:ByteArray) (u:List UInt8) (l:List (List UInt8×Bool)) (v:Value) (p:List UInt8×Bool) (r:List UInt8) (wr:World):Prop where
 line:LineR wr b s r
 own:wr.ownsRow w.heap.size 71 2 v l.length (wdCells l)
 fr:Fr w wr b none
 hb:b<w.heap.size
 eq:sp.words u=if r.head?=none∨r.head?=some 32 then (sp.words r).map fun m=>l++p :: m else none
 len:l.length+1+r.length≤s.size
section
variable {w wr w':World} {b:Nat} {s:ByteArray} {u r r' t:List UInt8} {l:List (List UInt8×Bool)} {v:Value} {p:List UInt8×Bool}
theorem WordsR.quoted {r2:List UInt8} (h:WordsR w b s u l v (34 :: r2) wr) (hq:sp.qread r2=some (t,r')) (hl:LineR w' b s r') (hf:Fr wr w' b none):WordsM w b s u l v (t,true) r' w':=by
 have hn:=sp.qread_shorter _ _ hq
 refine ⟨hl,ownsRow_fr h.own hf h.hb,h.fr.trans hf (Own.refl _ _),h.hb,?_,by have:=h.len;simp only [List.length_cons] at this;simp only at hn;omega⟩
 rw [h.eq,words_q_some hq]
 split
 ·rw [Option.map_map];rfl
 ·rfl
theorem WordsR.plain {c:UInt8} {r2:List UInt8} (h:WordsR w b s u l v (c :: r2) wr) (h1:c≠32) (h2:c≠34) (hl:LineR w' b s ((c :: r2).dropWhile sp.wordB)) (hf:Fr wr w' b none):WordsM w b s u l v ((c :: r2).takeWhile sp.wordB,false) ((c :: r2).dropWhile sp.wordB) w':=by
 have hcw:sp.wordB c=true:=by simp [sp.wordB,h1,h2]
 have hle:((c :: r2).dropWhile sp.wordB).length≤r2.length:=by
  rw [List.dropWhile_cons,if_pos hcw]
  exact (List.dropWhile_sublist sp.wordB).length_le
 refine ⟨hl,ownsRow_fr h.own hf h.hb,h.fr.trans hf (Own.refl _ _),h.hb,?_,by have:=h.len;simp only [List.length_cons] at this;omega⟩
 rw [h.eq,words_p h1 h2]
 have hhd:((c :: r2).dropWhile sp.wordB).head?=none∨((c :: r2).dropWhile sp.wordB).head?=some 32∨((c :: r2).dropWhile sp.wordB).head?=some 34:=by
  have:=List.head?_dropWhile_not sp.wordB (c :: r2)
  cases he:((c :: r2).dropWhile sp.wordB).head? with
  | none=>exact .inl rfl
  | some x =>
   rw [he] at this
   have hx:sp.wordB x=false:=by simpa using this
   right
   by_cases q:x=32
   ·rw [q];exact .inl rfl
   ·right
    have:x=34:=by
     unfold sp.wordB at hx
     simp [q] at hx
     exact hx
    rw [this]
 rcases hhd with e | e | e
 ·rw [e];simp [Function.comp_def]
 ·rw [e];simp [Function.comp_def]
 ·rw [e];simp
theorem WordsM.lay {v':Value} (h:WordsM w b s u l v p r wr) (hown:w'.ownsRow w.heap.size 71 2 v' (l++[p]).length (wdCells (l++[p]))) (hg:(wr.alloc (.cells #[.string (bstr p.1),.bool p.2] 71)).grownBy w' v.ownBlock) (hh:r.head?=none∨r.head?=some 32):WordsR w b s u (l++[p]) v' r w':=by
 have hsz:=h.fr.size
 have old:∀k,k<w.heap.size→w'.heap[k]?=wr.heap[k]?:=fun k hk=>by
  rw [hg.block k (by simp;omega) (fun e=>by have:=h.own.lt k e.symm;omega),Below.heap_alloc _ _ _ (by omega)]
 refine ⟨h.line.keep (old b h.hb),hown,⟨hg.os.trans h.fr.os,hg.tape.trans h.fr.tape,hg.output.trans h.fr.output,?_,fun k hk hb hn=>(old k hk).trans (h.fr.block k hk hb hn)⟩,h.hb,?_,?_⟩
 ·have:=hg.size;simp at this;omega
 ·rw [h.eq,if_pos hh];simp
 ·have:=h.len;rw [List.length_append];simp;omega
theorem WordsM.after (h:WordsM w b s u l v p r wr) (hg:(wr.alloc (.cells #[.string (bstr p.1),.bool p.2] 71)).grownBy w' v.ownBlock):LineR w' b s r∧Fr w w' b none:=by
 have hsz:=h.fr.size
 have old:∀k,k<w.heap.size→w'.heap[k]?=wr.heap[k]?:=fun k hk=>by
  rw [hg.block k (by simp;omega) (fun e=>by have:=h.own.lt k e.symm;omega),Below.heap_alloc _ _ _ (by omega)]
 exact ⟨h.line.keep (old b h.hb),⟨hg.os.trans h.fr.os,hg.tape.trans h.fr.tape,hg.output.trans h.fr.output,by have:=hg.size;simp at this;omega,fun k hk hb hn=>(old k hk).trans (h.fr.block k hk hb hn)⟩⟩
theorem WordsM.bad (h:WordsM w b s u l v p r wr) (hh:¬(r.head?=none∨r.head?=some 32)):sp.words u=none:=by rw [h.eq,if_neg hh]
end
def WordsIs (w w':World) (u:List UInt8) (e:Ending):Prop:=match sp.words u with
 | some l=>∃v,e=.returned v∧w'.ownsRow w.heap.size 71 2 v l.length (wdCells l)
 | none=>e=.panicked bar
set_option maxRecDepth 100000 in
set_option maxHeartbeats 4000000 in
theorem words_any (w:World) (b:Nat) (s:ByteArray) (u:List UInt8) (h:LineR w b s u) (hs:s.size≤1099511627776):Calls Tryz.prog 26 #[.pointer (some ⟨b,0,none⟩)] w fun e w'=>WordsIs w w' u e∧Fr w w' b none:=by
 have HS:=Lib.hid hs
 have HR:Hid (WordsR w b s u [] (.slice none 0 0) u w):=Lib.hid ⟨h,World.ownsRow_nil _ _ _ _,Fr.refl _ _ _,h.lt,by cases sp.words u<;>simp,by have:=h.len;simpa using this⟩
 clear h hs
 go_enter Tryz.func26,Tryz.ntmps26
 go_wp2
 go_loopw [3] (fun v wr=>∃l r,WordsR w b s u l v r wr) (fun _ wr=>leftOf wr b s)
 case atStart=>exact ⟨[],u,HR.out⟩
 case round =>
  obtain ⟨l,r,hr⟩:=hrel
  have HR1:=Lib.hid hr
  clear hr HR
  obtain ⟨c0,o0,hpv,hc0,ho0⟩:=peekV_ex r
  have HPV:=Lib.hid hpv;have HC0:=Lib.hid hc0;have HO0:=Lib.hid ho0
  have HP:=Lib.hid (peek_any wr b s r HR1.out.line)
  clear hpv hc0 ho0
  go_wp2_with (go_at_call 46;refine HP.out.mono ?_;rintro e w1 ⟨rfl,hb1⟩;rw [HPV.out])
  have HR2:=Lib.hid (HR1.out.below hb1)
  have HLF:Hid (leftOf wr b s=r.length):=Lib.hid HR1.out.line.left
  clear HR1 HP hb1
  obtain ⟨wo,hwo⟩:∃wo,wo=wr:=⟨_,rfl⟩
  subst hwo
  go_loopw [4,5] (fun c ok w2=>∃r1,WordsR w b s u l u3 r1 w2∧r1.length≤r.length∧c=.int .u8 (peekC r1)∧ok=.bool (peekB r1)) (fun _ _ w2=>leftOf w2 b s)
  case atStart=>exact ⟨r,HR2.out,Nat.le_refl _,by rw [HC0.out],by rw [HO0.out]⟩
  case round =>
   obtain ⟨r1,hr,hle,rfl,rfl⟩:=hrel
   have HR3:=Lib.hid hr;have HLE:=Lib.hid hle
   have HP:=Lib.hid (peek_any wr b s r1 HR3.out.line)
   clear hr hle HR2 HC0 HO0 HPV
   match r1 with
   | [] =>
    simp only [peekC,peekB]
    have HW:Hid (sp.words u=some l):=Lib.hid (by rw [HR3.out.eq,sp.words_nil];simp)
    go_wp2_with (go_at_call 46;refine HP.out.mono ?_;rintro e w2 ⟨rfl,hb2⟩;simp only [peekV])
    go_ret
    have HR4:=HR3.out.below hb2
    refine ⟨?_,HR4.fr⟩
    unfold WordsIs
    rw [HW.out]
    exact ⟨_,rfl,HR4.own⟩
   | c :: r2 =>
    simp only [peekC,peekB]
    by_cases e32:c=32
    ·subst e32
     obtain ⟨n,d1,z1,hn,hl2⟩:=HR3.out.line.step
     have hn63:(n:Int)≤1099511627776:=by have:=HS.out;omega
     have HR4:=Lib.hid (HR3.out.move hl2 (Fr.set 1 _) (sp.words_space r2) (by simp))
     have HP2:=Lib.hid (peek_any _ b s _ HR4.out.line)
     have HLN:Hid (r2.length≤r.length):=Lib.hid (by have:=HLE.out;simp at this;omega)
     obtain ⟨c1',o1,hpv,hc1,ho1⟩:=peekV_ex r2
     have HPV:=Lib.hid hpv;have HC0:=Lib.hid hc1;have HO0:=Lib.hid ho1
     clear hpv hc1 ho1 hl2 hn HP
     go_wp2_with (go_at_call 46;refine HP2.out.mono ?_;rintro e w2 ⟨rfl,hb2⟩;rw [HPV.out])
     have HR5:=HR4.out.below hb2
     refine ⟨⟨r2,HR5,HLN.out,by rw [HC0.out];rfl,by rw [HO0.out];rfl⟩,?_⟩
     rw [HR5.line.left,HR3.out.line.left]
     simp
    ·have t1':((c.toNat:Int)==32)=false:=u8ne c 32 e32
     by_cases e34:c=34
     ·subst e34
      cases hq:sp.qread r2 with
      | none =>
       have HW:Hid (sp.words u=none):=Lib.hid (by rw [HR3.out.eq,words_q_none hq];rfl)
       have HQ:=Lib.hid hq
       clear hq
       go_wp2_with (first
        | (go_at_call 46;refine HP.out.mono ?_;rintro e w2 ⟨rfl,hb2⟩;simp only [peekV];have HR4:=Lib.hid (HR3.out.below hb2);clear HP hb2)
        | (go_at_call 47;refine (text_word _ b s 34 r2 HR4.out.line HS.out).mono ?_;rintro e w3 ⟨he,hf3⟩;unfold QIs at he;rw [HQ.out] at he;subst he))
       exact ⟨rfl,by unfold WordsIs;rw [HW.out],HR4.out.fr.trans hf3 (Own.refl _ _)⟩
      | some q =>
       obtain ⟨t,r3⟩:=q
       have HQ:=Lib.hid hq
       clear hq
       go_wp2_with (first
        | (go_at_call 46;refine HP.out.mono ?_;rintro e w2 ⟨rfl,hb2⟩;simp only [peekV];have HR4:=Lib.hid (HR3.out.below hb2);clear HP hb2)
        | (go_at_call 47;refine (text_word _ b s 34 r2 HR4.out.line HS.out).mono ?_;rintro e w3 ⟨he,hf3⟩;unfold QIs at he;rw [HQ.out] at he;obtain ⟨rfl,hl3⟩:=he;have HM:=Lib.hid (HR4.out.quoted HQ.out hl3 hf3);clear hl3 hf3)
        | (at_builtin;refine wpl_append_wd wt58 rfl _ _ rfl w.heap.size l _ rfl (HM.out.own.alloc _) w3.heap.size (t,true) (0,0) rfl (heap_alloc_at _ _) (by have:=HM.out.len;have:=HS.out;omega) (by have:=HM.out.fr.size;simp;omega) ?_;intro v' w4 hown hg _))
       have HN:Hid (r3.length≤r2.length):=Lib.hid (by have:=sp.qread_shorter _ _ HQ.out;simp only at this;omega)
       have HO:=Lib.hid hown;have HG:Hid ((w3.alloc (.cells #[.string (bstr (t,true).1),.bool (t,true).2] 71)).grownBy w4 u3.ownBlock):=Lib.hid hg
       have HA:=Lib.hid (HM.out.after HG.out)
       have HP3:=Lib.hid (peek_any _ b s _ HA.out.1)
       clear hown hg
       match r3 with
       | [] =>
        go_wp2_with (go_at_call 46;refine HP3.out.mono ?_;rintro e w5 ⟨rfl,hb5⟩;simp only [peekV])
        have HR6:=(HM.out.lay HO.out HG.out (Or.inl rfl)).below hb5
        refine ⟨⟨_,_,HR6⟩,?_⟩
        rw [HR6.line.left,HLF.out]
        have:=HLE.out
        simp only [List.length_cons,List.length_nil] at this ⊢
        omega
       | c4 :: r4 =>
        by_cases e4:c4=32
        ·subst e4
         go_wp2_with (go_at_call 46;refine HP3.out.mono ?_;rintro e w5 ⟨rfl,hb5⟩;simp only [peekV])
         have HR6:=(HM.out.lay HO.out HG.out (Or.inr rfl)).below hb5
         refine ⟨⟨_,_,HR6⟩,?_⟩
         rw [HR6.line.left,HLF.out]
         have:=HLE.out
         have:=HN.out
         simp only [List.length_cons] at *
         omega
        ·have t4:((c4.toNat:Int)==32)=false:=u8ne c4 32 e4
         have t4n:((c4.toNat:Int) != 32)=true:=by rw [bne,t4];rfl
         have HW:Hid (sp.words u=none):=Lib.hid (HM.out.bad (by simp [e4]))
         clear e4
         go_wp2_with (go_at_call 46;refine HP3.out.mono ?_;rintro e w5 ⟨rfl,hb5⟩;simp only [peekV])
         exact ⟨rfl,by unfold WordsIs;rw [HW.out];exact rfl,HA.out.2.trans (Fr.of_below hb5) (Own.refl _ _)⟩
     ·have t2':((c.toNat:Int)==34)=false:=u8ne c 34 e34
      obtain ⟨t,ht⟩:∃t,t=(c :: r2).takeWhile sp.wordB:=⟨_,rfl⟩
      obtain ⟨r3,hr3⟩:∃r3,r3=(c :: r2).dropWhile sp.wordB:=⟨_,rfl⟩
      have HC:=Lib.hid (And.intro e32 e34)
      have HN:Hid (r3.length≤r2.length):=Lib.hid (by
       have hcw:sp.wordB c=true:=by simp [sp.wordB,e32,e34]
       rw [hr3,List.dropWhile_cons,if_pos hcw]
       exact (List.dropWhile_sublist sp.wordB).length_le)
      have HT:=Lib.hid ht;have HRR:=Lib.hid hr3
      have HPW:Hid (∀W,LineR W b s (c :: r2)→Calls Tryz.prog 48 #[.pointer (some ⟨b,0,none⟩)] W fun e w'=>e=.returned (.string (bstr t))∧LineR w' b s r3∧Fr W w' b none):=Lib.hid (fun W hW=>by rw [ht,hr3];exact plain_word W b s _ hW HS.out)
      clear ht hr3 e32 e34
      go_wp2_with (first
        | (go_at_call 46;refine HP.out.mono ?_;rintro e w2 ⟨rfl,hb2⟩;simp only [peekV];have HR4:=Lib.hid (HR3.out.below hb2);clear HP hb2)
        | (go_at_call 48;refine (HPW.out _ HR4.out.line).mono ?_;rintro e w3 ⟨rfl,hl3,hf3⟩;have HM:Hid (WordsM w b s u l u3 (t,false) r3 w3):=Lib.hid (by rw [HT.out,HRR.out];exact HR4.out.plain HC.out.1 HC.out.2 (by rw [←HRR.out];exact hl3) hf3);clear hl3 hf3)
        | (at_builtin;refine wpl_append_wd wt58 rfl _ _ rfl w.heap.size l _ rfl (HM.out.own.alloc _) w3.heap.size (t,false) (0,0) rfl (heap_alloc_at _ _) (by have:=HM.out.len;have:=HS.out;omega) (by have:=HM.out.fr.size;simp;omega) ?_;intro v' w4 hown hg _))
      have HO:=Lib.hid hown;have HG:Hid ((w3.alloc (.cells #[.string (bstr (t,false).1),.bool (t,false).2] 71)).grownBy w4 u3.ownBlock):=Lib.hid hg
      have HA:=Lib.hid (HM.out.after HG.out)
      have HP3:=Lib.hid (peek_any _ b s _ HA.out.1)
      clear hown hg
      match r3 with
      | [] =>
       go_wp2_with (go_at_call 46;refine HP3.out.mono ?_;rintro e w5 ⟨rfl,hb5⟩;simp only [peekV])
       have HR6:=(HM.out.lay HO.out HG.out (Or.inl rfl)).below hb5
       refine ⟨⟨_,_,HR6⟩,?_⟩
       rw [HR6.line.left,HLF.out]
       have:=HLE.out
       simp only [List.length_cons,List.length_nil] at this ⊢
       omega
      | c4 :: r4 =>
       by_cases e4:c4=32
       ·subst e4
        go_wp2_with (go_at_call 46;refine HP3.out.mono ?_;rintro e w5 ⟨rfl,hb5⟩;simp only [peekV])
        have HR6:=(HM.out.lay HO.out HG.out (Or.inr rfl)).below hb5
        refine ⟨⟨_,_,HR6⟩,?_⟩
        rw [HR6.line.left,HLF.out]
        have:=HLE.out
        have:=HN.out
        simp only [List.length_cons] at *
        omega
       ·have t4:((c4.toNat:Int)==32)=false:=u8ne c4 32 e4
        have t4n:((c4.toNat:Int) != 32)=true:=by rw [bne,t4];rfl
        have HW:Hid (sp.words u=none):=Lib.hid (HM.out.bad (by simp [e4]))
        clear e4
        go_wp2_with (go_at_call 46;refine HP3.out.mono ?_;rintro e w5 ⟨rfl,hb5⟩;simp only [peekV])
        exact ⟨rfl,by unfold WordsIs;rw [HW.out];exact rfl,HA.out.2.trans (Fr.of_below hb5) (Own.refl _ _)⟩
/-! ### The map of the rows, with its second answer -/
theorem MapIs.lookOk_some {w:World} {B:Nat} {f:List (List UInt8×Rw)} (h:MapIs w B f) {x:List UInt8} {b:Rw} (hx:(x,b)∈f):(Instr.lookup 67 (.map (some B)) (.string (bstr x)) true).run Tryz.prog w=.ok (.tuple #[b.v,.bool true]) w:=by
 obtain ⟨D,h1,hr⟩:=h.own
 obtain ⟨v,ps,hrun,hv⟩:=h1.look_ok keyed Tryz.underlying67 (Tryz.zeroValue65 w) (zd:=.nil) (zp:=[]) rfl (keyOf_ok (h.wf _ hx))
 have hh:Maps.has D (KL x)=true:=(hr.has _).2 ⟨(x,b),hx,rfl⟩
 rw [hr.at_ x b hx] at hv
 rw [hrun,rowE_at hv,hh]
theorem MapIs.lookOk_none {w:World} {B:Nat} {f:List (List UInt8×Rw)} (h:MapIs w B f) {x:List UInt8} (hi:x.length≤maxLen) (hx:x∉f.map (·.1)):(Instr.lookup 67 (.map (some B)) (.string (bstr x)) true).run Tryz.prog w=.ok (.tuple #[noRow,.bool false]) w:=by
 obtain ⟨D,h1,hr⟩:=h.own
 obtain ⟨v,ps,hrun,hv⟩:=h1.look_ok keyed Tryz.underlying67 (Tryz.zeroValue65 w) (zd:=.nil) (zp:=[]) rfl (keyOf_ok hi)
 have hno:Maps.has D (KL x)=false:=by
  cases hh:Maps.has D (KL x) with
  | false=>rfl
  | true =>
   obtain ⟨p,hp,e⟩:=(hr.has _).1 hh
   simp only [KL,Lit.string.injEq] at e
   exact absurd (e ▸ List.mem_map_of_mem (f:=(·.1)) hp) hx
 rw [Maps.atKey_of_not_has hno] at hv
 rw [hrun,rowE_nil hv,hno]
/-! ### The rows' functions in one law -/
theorem row_any (name:List UInt8) (r:Rw) (hr:(name,r)∈rowsL) (a:List (List UInt8×Bool)) (hn:(a.length:Int)=r.n) (ad:Option Addr) (c:Nat) (w0 w:World) (B g:Nat) (had:0<a.length→ad=some ⟨g,2,none⟩) (hl:∀p∈a,p.1.length≤1099511627776) (h:RowS w0 B g a (zeroC r.k) w) :
  Calls Tryz.prog r.g #[.pointer (some ⟨B,0,none⟩),.slice ad a.length c] w fun e w'=>RowIs w0 B (sp.opS name a) e w':=by
 simp only [rowsL,List.mem_cons,List.not_mem_nil,or_false,Prod.mk.injEq] at hr
 rcases hr with ⟨rfl,rfl⟩ | ⟨rfl,rfl⟩ | ⟨rfl,rfl⟩ | ⟨rfl,rfl⟩ | ⟨rfl,rfl⟩ | ⟨rfl,rfl⟩ | ⟨rfl,rfl⟩ | ⟨rfl,rfl⟩ | ⟨rfl,rfl⟩ | ⟨rfl,rfl⟩ | ⟨rfl,rfl⟩ | ⟨rfl,rfl⟩ | ⟨rfl,rfl⟩ | ⟨rfl,rfl⟩ | ⟨rfl,rfl⟩
 all_goals simp only at hn h
 ·obtain ⟨x,y,rfl⟩:∃x y,a = [x,y]:=by
   match a,hn with
   | [x,y],_=>exact ⟨x,y,rfl⟩
  obtain rfl:=had (by simp)
  exact row_sheet 1 w0 w B g c x y (hl _ (by simp)) h
 ·obtain ⟨x,y,rfl⟩:∃x y,a = [x,y]:=by
   match a,hn with
   | [x,y],_=>exact ⟨x,y,rfl⟩
  obtain rfl:=had (by simp)
  exact row_view 2 w0 w B g c x y (hl _ (by simp)) (hl _ (by simp)) h
 ·obtain ⟨x,rfl⟩:∃x,a = [x]:=by
   match a,hn with
   | [x],_=>exact ⟨x,rfl⟩
  obtain rfl:=had (by simp)
  exact (row_size 3 w0 w B g c x (hl _ (by simp)) h).mono fun e w' q=>by
   have e2:(sp.wFrac x).map (fun q=>({ kind:=3,w:=q }:sp.Op))=(sp.wFrac x).bind fun p=>some { kind:=3,w:=p }:=by cases sp.wFrac x<;>rfl
   rw [e2] at q
   exact q
 ·obtain ⟨x,rfl⟩:∃x,a = [x]:=by
   match a,hn with
   | [x],_=>exact ⟨x,rfl⟩
  obtain rfl:=had (by simp)
  exact (row_size 13 w0 w B g c x (hl _ (by simp)) h).mono fun e w' q=>by
   have e2:(sp.wFrac x).map (fun q=>({ kind:=13,w:=q }:sp.Op))=(sp.wFrac x).bind fun p=>some { kind:=13,w:=p }:=by cases sp.wFrac x<;>rfl
   rw [e2] at q
   exact q
 ·obtain ⟨x,rfl⟩:∃x,a = [x]:=by
   match a,hn with
   | [x],_=>exact ⟨x,rfl⟩
  obtain rfl:=had (by simp)
  exact row_print 14 w0 w B g c x h
 ·obtain ⟨x,y,rfl⟩:∃x y,a = [x,y]:=by
   match a,hn with
   | [x,y],_=>exact ⟨x,y,rfl⟩
  obtain rfl:=had (by simp)
  exact row_word 4 w0 w B g c x y h
 ·obtain ⟨x,y,z,rfl⟩:∃x y z,a = [x,y,z]:=by
   match a,hn with
   | [x,y,z],_=>exact ⟨x,y,z,rfl⟩
  obtain rfl:=had (by simp)
  exact row_insert 5 w0 w B g c x y z h
 ·obtain ⟨x,rfl⟩:∃x,a = [x]:=by
   match a,hn with
   | [x],_=>exact ⟨x,rfl⟩
  obtain rfl:=had (by simp)
  exact (row_node 6 w0 w B g c x h).mono fun e w' q=>by
   have e2:(sp.wNum x).map (fun n=>({ kind:=6,node:=n }:sp.Op))=(sp.wNum x).bind fun n=>some { kind:=6,node:=n }:=by cases sp.wNum x<;>rfl
   rw [e2] at q
   exact q
 ·obtain ⟨x,y,z,rfl⟩:∃x y z,a = [x,y,z]:=by
   match a,hn with
   | [x,y,z],_=>exact ⟨x,y,z,rfl⟩
  obtain rfl:=had (by simp)
  exact row_set 7 w0 w B g c x y z h
 ·obtain ⟨x,y,rfl⟩:∃x y,a = [x,y]:=by
   match a,hn with
   | [x,y],_=>exact ⟨x,y,rfl⟩
  obtain rfl:=had (by simp)
  exact row_named 8 w0 w B g c x y h
 ·obtain ⟨x,y,z,u,v,rfl⟩:∃x y z u v,a = [x,y,z,u,v]:=by
   match a,hn with
   | [x,y,z,u,v],_=>exact ⟨x,y,z,u,v,rfl⟩
  obtain rfl:=had (by simp)
  exact row_box 9 w0 w B g c x y z u v (hl _ (by simp)) (hl _ (by simp)) h
 ·obtain ⟨x,y,rfl⟩:∃x y,a = [x,y]:=by
   match a,hn with
   | [x,y],_=>exact ⟨x,y,rfl⟩
  obtain rfl:=had (by simp)
  exact row_named 10 w0 w B g c x y h
 ·obtain ⟨x,y,rfl⟩:∃x y,a = [x,y]:=by
   match a,hn with
   | [x,y],_=>exact ⟨x,y,rfl⟩
  obtain rfl:=had (by simp)
  exact row_named 11 w0 w B g c x y h
 ·obtain ⟨x,rfl⟩:∃x,a = [x]:=by
   match a,hn with
   | [x],_=>exact ⟨x,rfl⟩
  obtain rfl:=had (by simp)
  exact (row_node 12 w0 w B g c x h).mono fun e w' q=>by
   have e2:(sp.wNum x).map (fun n=>({ kind:=12,node:=n }:sp.Op))=(sp.wNum x).bind fun n=>some { kind:=12,node:=n }:=by cases sp.wNum x<;>rfl
   rw [e2] at q
   exact q
 ·obtain rfl:a = []:=List.length_eq_zero_iff.1 (by omega)
  exact row_count 15 w0 w B g c ad h
end Go.Proofs.YtihlneenajlhoaaGreatDoor
