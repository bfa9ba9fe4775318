/-
 The rows' functions of jalousie script.rows, those whose order of evaluation is drawn. Condition: the operation's block and the words stand; lengths that fit.
-/
import Derived.Test.YtihlneenajlhoaaGreatDoorS2
import Derived.Deep.RegionHeld
import Derived.Defers
import Derived.Recover
import Derived.Laws.CopyOwn
import Derived.Test.YtihlneenajlhoaaGreatDoorS1
set_option linter.unusedSimpArgs false
set_option linter.unusedVariables false
namespace Go.Proofs.YtihlneenajlhoaaGreatDoor
open Go Go.RowKit
theorem wText_len {p:List UInt8×Bool} {t:List UInt8} (h:sp.wText p=some t):t.length=p.1.length:=by
 unfold sp.wText at h
 split at h
 ·cases h;rfl
 ·cases h
set_option maxRecDepth 100000 in
set_option maxHeartbeats 4000000 in
theorem row_named (k:Int) (w0 w:World) (B g c:Nat) (x y:List UInt8×Bool) (h:RowS w0 B g [x,y] (zeroC k) w):Calls Tryz.prog 51 #[.pointer (some ⟨B,0,none⟩),.slice (some ⟨g,2,none⟩) 2 c] w fun e w'=>RowIs w0 B ((sp.wNum x).bind fun n=>(sp.wPlain y).bind fun s=>some { kind:=k,node:=n,name:=s }) e w':=by
 have HCx:=Lib.hid (fun W=>wnum_any x W)
 have HCy:=Lib.hid (fun W=>wplain_any y W)
 have H0:=Lib.hid (h.on (Below.refl _ _).drew)
 clear h
 cases hx:sp.wNum x with
 | none =>
  have HXx:=Lib.hid hx
  clear hx
  go_enter Tryz.func51,Tryz.ntmps51
  go_wp2
  refine wp_region_held_drew (S:=fun s=>∃cs,RowS w0 B g [x,y] cs s) (by kernel_rfl) ⟨_,H0.out⟩ (fun hHeld => ?_)
  refine tk 0 (.pointer (some ⟨B,0,none⟩)) rfl hHeld (fun s hs=>by obtain ⟨a0,a1,b0,b1⟩:=rc2 hs;go_simp) ?_
  refine tk 1 (.pointer (some ⟨B,0,none⟩)) rfl hHeld (fun s hs=>by obtain ⟨a0,a1,b0,b1⟩:=rc2 hs;go_simp) ?_
  refine tk 2 (.slice (some ⟨g,2,none⟩) 2 c) rfl hHeld (fun s hs=>by obtain ⟨a0,a1,b0,b1⟩:=rc2 hs;go_simp) ?_
  refine tk 3 (.pointer (some ⟨g,2,none⟩)) rfl hHeld (fun s hs=>by obtain ⟨a0,a1,b0,b1⟩:=rc2 hs;go_simp) ?_
  refine tk 4 (.agg #[.string (bstr x.1),.bool x.2]) rfl hHeld (fun s hs=>by obtain ⟨a0,a1,b0,b1⟩:=rc2 hs;go_simp) ?_
  refine tk 6 (.slice (some ⟨g,2,none⟩) 2 c) rfl hHeld (fun s hs=>by obtain ⟨a0,a1,b0,b1⟩:=rc2 hs;go_simp) ?_
  refine tk 7 (.pointer (some ⟨g,4,none⟩)) rfl hHeld (fun s hs=>by obtain ⟨a0,a1,b0,b1⟩:=rc2 hs;go_simp) ?_
  refine tk 8 (.agg #[.string (bstr y.1),.bool y.2]) rfl hHeld (fun s hs=>by obtain ⟨a0,a1,b0,b1⟩:=rc2 hs;go_simp) ?_
  refine rd1 5 rfl fun K hK => ?_
  go_simp
  refine (HCx.out _).mono ?_
  rintro e w1 ⟨he,hb1⟩
  unfold NumIs at he
  rw [HXx.out] at he
  subst he
  have H1:=Lib.hid (H0.out.on hb1)
  clear hb1
  exact ⟨rfl,H1.out.bad⟩
 | some nx =>
  have HXx:=Lib.hid hx
  clear hx
  cases hy:sp.wPlain y with
  | none =>
   have HXy:=Lib.hid hy
   clear hy
   go_enter Tryz.func51,Tryz.ntmps51
   go_wp2
   refine wp_region_held_drew (S:=fun s=>∃cs,RowS w0 B g [x,y] cs s) (by kernel_rfl) ⟨_,H0.out⟩ (fun hHeld => ?_)
   refine tk 0 (.pointer (some ⟨B,0,none⟩)) rfl hHeld (fun s hs=>by obtain ⟨a0,a1,b0,b1⟩:=rc2 hs;go_simp) ?_
   refine tk 1 (.pointer (some ⟨B,0,none⟩)) rfl hHeld (fun s hs=>by obtain ⟨a0,a1,b0,b1⟩:=rc2 hs;go_simp) ?_
   refine tk 2 (.slice (some ⟨g,2,none⟩) 2 c) rfl hHeld (fun s hs=>by obtain ⟨a0,a1,b0,b1⟩:=rc2 hs;go_simp) ?_
   refine tk 3 (.pointer (some ⟨g,2,none⟩)) rfl hHeld (fun s hs=>by obtain ⟨a0,a1,b0,b1⟩:=rc2 hs;go_simp) ?_
   refine tk 4 (.agg #[.string (bstr x.1),.bool x.2]) rfl hHeld (fun s hs=>by obtain ⟨a0,a1,b0,b1⟩:=rc2 hs;go_simp) ?_
   refine tk 6 (.slice (some ⟨g,2,none⟩) 2 c) rfl hHeld (fun s hs=>by obtain ⟨a0,a1,b0,b1⟩:=rc2 hs;go_simp) ?_
   refine tk 7 (.pointer (some ⟨g,4,none⟩)) rfl hHeld (fun s hs=>by obtain ⟨a0,a1,b0,b1⟩:=rc2 hs;go_simp) ?_
   refine tk 8 (.agg #[.string (bstr y.1),.bool y.2]) rfl hHeld (fun s hs=>by obtain ⟨a0,a1,b0,b1⟩:=rc2 hs;go_simp) ?_
   refine rd1 5 rfl fun K hK => ?_
   go_simp
   refine (HCx.out _).mono ?_
   rintro e w1 ⟨he,hb1⟩
   unfold NumIs at he
   rw [HXx.out] at he
   subst he
   have H1:=Lib.hid (H0.out.on hb1)
   clear hb1
   refine hK.out _ _ ⟨_,H1.out⟩ (fun hHeld => ?_)
   clear hK
   refine rd1 9 rfl fun K hK => ?_
   go_simp
   refine (HCy.out _).mono ?_
   rintro e w2 ⟨he,hb2⟩
   unfold PlainIs at he
   rw [HXy.out] at he
   subst he
   have H2:=Lib.hid (H1.out.on hb2)
   clear hb2
   exact ⟨rfl,H2.out.bad⟩
  | some ty =>
   have HXy:=Lib.hid hy
   clear hy
   go_enter Tryz.func51,Tryz.ntmps51
   go_wp2
   refine wp_region_held_drew (S:=fun s=>∃cs,RowS w0 B g [x,y] cs s) (by kernel_rfl) ⟨_,H0.out⟩ (fun hHeld => ?_)
   refine tk 0 (.pointer (some ⟨B,0,none⟩)) rfl hHeld (fun s hs=>by obtain ⟨a0,a1,b0,b1⟩:=rc2 hs;go_simp) ?_
   refine tk 1 (.pointer (some ⟨B,0,none⟩)) rfl hHeld (fun s hs=>by obtain ⟨a0,a1,b0,b1⟩:=rc2 hs;go_simp) ?_
   refine tk 2 (.slice (some ⟨g,2,none⟩) 2 c) rfl hHeld (fun s hs=>by obtain ⟨a0,a1,b0,b1⟩:=rc2 hs;go_simp) ?_
   refine tk 3 (.pointer (some ⟨g,2,none⟩)) rfl hHeld (fun s hs=>by obtain ⟨a0,a1,b0,b1⟩:=rc2 hs;go_simp) ?_
   refine tk 4 (.agg #[.string (bstr x.1),.bool x.2]) rfl hHeld (fun s hs=>by obtain ⟨a0,a1,b0,b1⟩:=rc2 hs;go_simp) ?_
   refine tk 6 (.slice (some ⟨g,2,none⟩) 2 c) rfl hHeld (fun s hs=>by obtain ⟨a0,a1,b0,b1⟩:=rc2 hs;go_simp) ?_
   refine tk 7 (.pointer (some ⟨g,4,none⟩)) rfl hHeld (fun s hs=>by obtain ⟨a0,a1,b0,b1⟩:=rc2 hs;go_simp) ?_
   refine tk 8 (.agg #[.string (bstr y.1),.bool y.2]) rfl hHeld (fun s hs=>by obtain ⟨a0,a1,b0,b1⟩:=rc2 hs;go_simp) ?_
   refine rd1 5 rfl fun K hK => ?_
   go_simp
   refine (HCx.out _).mono ?_
   rintro e w1 ⟨he,hb1⟩
   unfold NumIs at he
   rw [HXx.out] at he
   subst he
   have H1:=Lib.hid (H0.out.on hb1)
   clear hb1
   refine hK.out _ _ ⟨_,H1.out⟩ (fun hHeld => ?_)
   clear hK
   refine rd1 9 rfl fun K hK => ?_
   go_simp
   refine (HCy.out _).mono ?_
   rintro e w2 ⟨he,hb2⟩
   unfold PlainIs at he
   rw [HXy.out] at he
   subst he
   have H2:=Lib.hid (H1.out.on hb2)
   clear hb2
   refine hK.out _ _ ⟨_,H2.out⟩ (fun hHeld => ?_)
   clear hK
   refine tk 10 (.pointer (some ⟨B,0,none⟩)) rfl hHeld (fun s hs=>by obtain ⟨a0,a1,b0,b1⟩:=rc2 hs;go_simp) ?_
   refine tk 11 (.pointer (some ⟨B,1,none⟩)) rfl hHeld (fun s hs=>by obtain ⟨a0,a1,b0,b1⟩:=rc2 hs;go_simp) ?_
   refine rd1 12 rfl fun K hK => ?_
   have f1:=H2.out.free 1
   have c1:=H2.out.cell 1 (.int .i64 0) rfl
   go_simp
   have H3:=Lib.hid (H2.out.set 1 (.int .i64 nx))
   clear f1 c1
   refine hK.out _ _ ⟨_,H3.out⟩ (fun hHeld => ?_)
   clear hK
   refine tk 13 (.pointer (some ⟨B,0,none⟩)) rfl hHeld (fun s hs=>by obtain ⟨a0,a1,b0,b1⟩:=rc2 hs;go_simp) ?_
   refine tk 14 (.pointer (some ⟨B,4,none⟩)) rfl hHeld (fun s hs=>by obtain ⟨a0,a1,b0,b1⟩:=rc2 hs;go_simp) ?_
   refine rd1 15 rfl fun K hK => ?_
   have f4:=H3.out.free 4
   have c4:=H3.out.cell 4 (.string ⟨#[]⟩) rfl
   go_simp
   have H4:=Lib.hid (H3.out.set 4 (.string (bstr ty)))
   clear f4 c4
   refine hK.out _ _ ⟨_,H4.out⟩ (fun hHeld => ?_)
   clear hK
   refine wpAnyH_done (by kernel_rfl) ?_ _
   clear hHeld
   go_simp
   go_end0
   exact H4.out.good _ rfl rfl
set_option maxRecDepth 100000 in
set_option maxHeartbeats 4000000 in
theorem row_view (k:Int) (w0 w:World) (B g c:Nat) (x y:List UInt8×Bool) (hlx:x.1.length≤1099511627776) (hly:y.1.length≤1099511627776) (h:RowS w0 B g [x,y] (zeroC k) w):Calls Tryz.prog 56 #[.pointer (some ⟨B,0,none⟩),.slice (some ⟨g,2,none⟩) 2 c] w fun e w'=>RowIs w0 B ((sp.wFrac x).bind fun p=>(sp.wFrac y).bind fun q=>some { kind:=k,w:=p,h:=q }) e w':=by
 have HCx:=Lib.hid (fun W=>wfrac_any x W hlx)
 have HCy:=Lib.hid (fun W=>wfrac_any y W hly)
 have H0:=Lib.hid (h.on (Below.refl _ _).drew)
 clear h hlx hly
 cases hx:sp.wFrac x with
 | none =>
  have HXx:=Lib.hid hx
  clear hx
  go_enter Tryz.func56,Tryz.ntmps56
  go_wp2
  refine wp_region_held_drew (S:=fun s=>∃cs,RowS w0 B g [x,y] cs s) (by kernel_rfl) ⟨_,H0.out⟩ (fun hHeld => ?_)
  refine tk 0 (.pointer (some ⟨B,0,none⟩)) rfl hHeld (fun s hs=>by obtain ⟨a0,a1,b0,b1⟩:=rc2 hs;go_simp) ?_
  refine tk 1 (.pointer (some ⟨B,0,none⟩)) rfl hHeld (fun s hs=>by obtain ⟨a0,a1,b0,b1⟩:=rc2 hs;go_simp) ?_
  refine tk 2 (.slice (some ⟨g,2,none⟩) 2 c) rfl hHeld (fun s hs=>by obtain ⟨a0,a1,b0,b1⟩:=rc2 hs;go_simp) ?_
  refine tk 3 (.pointer (some ⟨g,2,none⟩)) rfl hHeld (fun s hs=>by obtain ⟨a0,a1,b0,b1⟩:=rc2 hs;go_simp) ?_
  refine tk 4 (.agg #[.string (bstr x.1),.bool x.2]) rfl hHeld (fun s hs=>by obtain ⟨a0,a1,b0,b1⟩:=rc2 hs;go_simp) ?_
  refine tk 6 (.slice (some ⟨g,2,none⟩) 2 c) rfl hHeld (fun s hs=>by obtain ⟨a0,a1,b0,b1⟩:=rc2 hs;go_simp) ?_
  refine tk 7 (.pointer (some ⟨g,4,none⟩)) rfl hHeld (fun s hs=>by obtain ⟨a0,a1,b0,b1⟩:=rc2 hs;go_simp) ?_
  refine tk 8 (.agg #[.string (bstr y.1),.bool y.2]) rfl hHeld (fun s hs=>by obtain ⟨a0,a1,b0,b1⟩:=rc2 hs;go_simp) ?_
  refine rd1 5 rfl fun K hK => ?_
  go_simp
  refine (HCx.out _).mono ?_
  rintro e w1 ⟨he,hb1⟩
  unfold FracWIs at he
  rw [HXx.out] at he
  subst he
  have H1:=Lib.hid (H0.out.on hb1)
  clear hb1
  exact ⟨rfl,H1.out.bad⟩
 | some qx =>
  have HXx:=Lib.hid hx
  clear hx
  cases hy:sp.wFrac y with
  | none =>
   have HXy:=Lib.hid hy
   clear hy
   go_enter Tryz.func56,Tryz.ntmps56
   go_wp2
   refine wp_region_held_drew (S:=fun s=>∃cs,RowS w0 B g [x,y] cs s) (by kernel_rfl) ⟨_,H0.out⟩ (fun hHeld => ?_)
   refine tk 0 (.pointer (some ⟨B,0,none⟩)) rfl hHeld (fun s hs=>by obtain ⟨a0,a1,b0,b1⟩:=rc2 hs;go_simp) ?_
   refine tk 1 (.pointer (some ⟨B,0,none⟩)) rfl hHeld (fun s hs=>by obtain ⟨a0,a1,b0,b1⟩:=rc2 hs;go_simp) ?_
   refine tk 2 (.slice (some ⟨g,2,none⟩) 2 c) rfl hHeld (fun s hs=>by obtain ⟨a0,a1,b0,b1⟩:=rc2 hs;go_simp) ?_
   refine tk 3 (.pointer (some ⟨g,2,none⟩)) rfl hHeld (fun s hs=>by obtain ⟨a0,a1,b0,b1⟩:=rc2 hs;go_simp) ?_
   refine tk 4 (.agg #[.string (bstr x.1),.bool x.2]) rfl hHeld (fun s hs=>by obtain ⟨a0,a1,b0,b1⟩:=rc2 hs;go_simp) ?_
   refine tk 6 (.slice (some ⟨g,2,none⟩) 2 c) rfl hHeld (fun s hs=>by obtain ⟨a0,a1,b0,b1⟩:=rc2 hs;go_simp) ?_
   refine tk 7 (.pointer (some ⟨g,4,none⟩)) rfl hHeld (fun s hs=>by obtain ⟨a0,a1,b0,b1⟩:=rc2 hs;go_simp) ?_
   refine tk 8 (.agg #[.string (bstr y.1),.bool y.2]) rfl hHeld (fun s hs=>by obtain ⟨a0,a1,b0,b1⟩:=rc2 hs;go_simp) ?_
   refine rd1 5 rfl fun K hK => ?_
   go_simp
   refine (HCx.out _).mono ?_
   rintro e w1 ⟨he,hb1⟩
   unfold FracWIs at he
   rw [HXx.out] at he
   subst he
   have H1:=Lib.hid (H0.out.on hb1)
   clear hb1
   refine hK.out _ _ ⟨_,H1.out⟩ (fun hHeld => ?_)
   clear hK
   refine rd1 9 rfl fun K hK => ?_
   go_simp
   refine (HCy.out _).mono ?_
   rintro e w2 ⟨he,hb2⟩
   unfold FracWIs at he
   rw [HXy.out] at he
   subst he
   have H2:=Lib.hid (H1.out.on hb2)
   clear hb2
   exact ⟨rfl,H2.out.bad⟩
  | some qy =>
   have HXy:=Lib.hid hy
   clear hy
   go_enter Tryz.func56,Tryz.ntmps56
   go_wp2
   refine wp_region_held_drew (S:=fun s=>∃cs,RowS w0 B g [x,y] cs s) (by kernel_rfl) ⟨_,H0.out⟩ (fun hHeld => ?_)
   refine tk 0 (.pointer (some ⟨B,0,none⟩)) rfl hHeld (fun s hs=>by obtain ⟨a0,a1,b0,b1⟩:=rc2 hs;go_simp) ?_
   refine tk 1 (.pointer (some ⟨B,0,none⟩)) rfl hHeld (fun s hs=>by obtain ⟨a0,a1,b0,b1⟩:=rc2 hs;go_simp) ?_
   refine tk 2 (.slice (some ⟨g,2,none⟩) 2 c) rfl hHeld (fun s hs=>by obtain ⟨a0,a1,b0,b1⟩:=rc2 hs;go_simp) ?_
   refine tk 3 (.pointer (some ⟨g,2,none⟩)) rfl hHeld (fun s hs=>by obtain ⟨a0,a1,b0,b1⟩:=rc2 hs;go_simp) ?_
   refine tk 4 (.agg #[.string (bstr x.1),.bool x.2]) rfl hHeld (fun s hs=>by obtain ⟨a0,a1,b0,b1⟩:=rc2 hs;go_simp) ?_
   refine tk 6 (.slice (some ⟨g,2,none⟩) 2 c) rfl hHeld (fun s hs=>by obtain ⟨a0,a1,b0,b1⟩:=rc2 hs;go_simp) ?_
   refine tk 7 (.pointer (some ⟨g,4,none⟩)) rfl hHeld (fun s hs=>by obtain ⟨a0,a1,b0,b1⟩:=rc2 hs;go_simp) ?_
   refine tk 8 (.agg #[.string (bstr y.1),.bool y.2]) rfl hHeld (fun s hs=>by obtain ⟨a0,a1,b0,b1⟩:=rc2 hs;go_simp) ?_
   refine rd1 5 rfl fun K hK => ?_
   go_simp
   refine (HCx.out _).mono ?_
   rintro e w1 ⟨he,hb1⟩
   unfold FracWIs at he
   rw [HXx.out] at he
   subst he
   have H1:=Lib.hid (H0.out.on hb1)
   clear hb1
   refine hK.out _ _ ⟨_,H1.out⟩ (fun hHeld => ?_)
   clear hK
   refine rd1 9 rfl fun K hK => ?_
   go_simp
   refine (HCy.out _).mono ?_
   rintro e w2 ⟨he,hb2⟩
   unfold FracWIs at he
   rw [HXy.out] at he
   subst he
   have H2:=Lib.hid (H1.out.on hb2)
   clear hb2
   refine hK.out _ _ ⟨_,H2.out⟩ (fun hHeld => ?_)
   clear hK
   refine tk 10 (.pointer (some ⟨B,0,none⟩)) rfl hHeld (fun s hs=>by obtain ⟨a0,a1,b0,b1⟩:=rc2 hs;go_simp) ?_
   refine tk 11 (.pointer (some ⟨B,7,none⟩)) rfl hHeld (fun s hs=>by obtain ⟨a0,a1,b0,b1⟩:=rc2 hs;go_simp) ?_
   refine rd1 12 rfl fun K hK => ?_
   have f7:=H2.out.free 7
   have c7:=H2.out.cell 7 (.int .i64 0) rfl
   have f8:=H2.out.free 8
   have c8:=H2.out.cell 8 (.int .i64 0) rfl
   go_simp
   have H3:=Lib.hid (H2.out.set 7 (.int .i64 qx.1))
   have H4:=Lib.hid (H3.out.set 8 (.int .i64 qx.2))
   clear f7 c7 f8 c8
   refine hK.out _ _ ⟨_,H4.out⟩ (fun hHeld => ?_)
   clear hK
   refine tk 13 (.pointer (some ⟨B,0,none⟩)) rfl hHeld (fun s hs=>by obtain ⟨a0,a1,b0,b1⟩:=rc2 hs;go_simp) ?_
   refine tk 14 (.pointer (some ⟨B,9,none⟩)) rfl hHeld (fun s hs=>by obtain ⟨a0,a1,b0,b1⟩:=rc2 hs;go_simp) ?_
   refine rd1 15 rfl fun K hK => ?_
   have f9:=H4.out.free 9
   have c9:=H4.out.cell 9 (.int .i64 0) rfl
   have f10:=H4.out.free 10
   have c10:=H4.out.cell 10 (.int .i64 0) rfl
   go_simp
   have H5:=Lib.hid (H4.out.set 9 (.int .i64 qy.1))
   have H6:=Lib.hid (H5.out.set 10 (.int .i64 qy.2))
   clear f9 c9 f10 c10
   refine hK.out _ _ ⟨_,H6.out⟩ (fun hHeld => ?_)
   clear hK
   refine wpAnyH_done (by kernel_rfl) ?_ _
   clear hHeld
   go_simp
   go_end0
   exact H6.out.good _ rfl rfl
set_option maxRecDepth 100000 in
set_option maxHeartbeats 4000000 in
theorem row_word (k:Int) (w0 w:World) (B g c:Nat) (x y:List UInt8×Bool) (h:RowS w0 B g [x,y] (zeroC k) w):Calls Tryz.prog 58 #[.pointer (some ⟨B,0,none⟩),.slice (some ⟨g,2,none⟩) 2 c] w fun e w'=>RowIs w0 B ((sp.wPlain x).bind fun s=>(sp.wPlain y).bind fun t=>some { kind:=k,name:=s,word:=t }) e w':=by
 have HCx:=Lib.hid (fun W=>wplain_any x W)
 have HCy:=Lib.hid (fun W=>wplain_any y W)
 have H0:=Lib.hid (h.on (Below.refl _ _).drew)
 clear h
 cases hx:sp.wPlain x with
 | none =>
  have HXx:=Lib.hid hx
  clear hx
  go_enter Tryz.func58,Tryz.ntmps58
  go_wp2
  refine wp_region_held_drew (S:=fun s=>∃cs,RowS w0 B g [x,y] cs s) (by kernel_rfl) ⟨_,H0.out⟩ (fun hHeld => ?_)
  refine tk 0 (.pointer (some ⟨B,0,none⟩)) rfl hHeld (fun s hs=>by obtain ⟨a0,a1,b0,b1⟩:=rc2 hs;go_simp) ?_
  refine tk 1 (.pointer (some ⟨B,0,none⟩)) rfl hHeld (fun s hs=>by obtain ⟨a0,a1,b0,b1⟩:=rc2 hs;go_simp) ?_
  refine tk 2 (.slice (some ⟨g,2,none⟩) 2 c) rfl hHeld (fun s hs=>by obtain ⟨a0,a1,b0,b1⟩:=rc2 hs;go_simp) ?_
  refine tk 3 (.pointer (some ⟨g,2,none⟩)) rfl hHeld (fun s hs=>by obtain ⟨a0,a1,b0,b1⟩:=rc2 hs;go_simp) ?_
  refine tk 4 (.agg #[.string (bstr x.1),.bool x.2]) rfl hHeld (fun s hs=>by obtain ⟨a0,a1,b0,b1⟩:=rc2 hs;go_simp) ?_
  refine tk 6 (.slice (some ⟨g,2,none⟩) 2 c) rfl hHeld (fun s hs=>by obtain ⟨a0,a1,b0,b1⟩:=rc2 hs;go_simp) ?_
  refine tk 7 (.pointer (some ⟨g,4,none⟩)) rfl hHeld (fun s hs=>by obtain ⟨a0,a1,b0,b1⟩:=rc2 hs;go_simp) ?_
  refine tk 8 (.agg #[.string (bstr y.1),.bool y.2]) rfl hHeld (fun s hs=>by obtain ⟨a0,a1,b0,b1⟩:=rc2 hs;go_simp) ?_
  refine rd1 5 rfl fun K hK => ?_
  go_simp
  refine (HCx.out _).mono ?_
  rintro e w1 ⟨he,hb1⟩
  unfold PlainIs at he
  rw [HXx.out] at he
  subst he
  have H1:=Lib.hid (H0.out.on hb1)
  clear hb1
  exact ⟨rfl,H1.out.bad⟩
 | some tx =>
  have HXx:=Lib.hid hx
  clear hx
  cases hy:sp.wPlain y with
  | none =>
   have HXy:=Lib.hid hy
   clear hy
   go_enter Tryz.func58,Tryz.ntmps58
   go_wp2
   refine wp_region_held_drew (S:=fun s=>∃cs,RowS w0 B g [x,y] cs s) (by kernel_rfl) ⟨_,H0.out⟩ (fun hHeld => ?_)
   refine tk 0 (.pointer (some ⟨B,0,none⟩)) rfl hHeld (fun s hs=>by obtain ⟨a0,a1,b0,b1⟩:=rc2 hs;go_simp) ?_
   refine tk 1 (.pointer (some ⟨B,0,none⟩)) rfl hHeld (fun s hs=>by obtain ⟨a0,a1,b0,b1⟩:=rc2 hs;go_simp) ?_
   refine tk 2 (.slice (some ⟨g,2,none⟩) 2 c) rfl hHeld (fun s hs=>by obtain ⟨a0,a1,b0,b1⟩:=rc2 hs;go_simp) ?_
   refine tk 3 (.pointer (some ⟨g,2,none⟩)) rfl hHeld (fun s hs=>by obtain ⟨a0,a1,b0,b1⟩:=rc2 hs;go_simp) ?_
   refine tk 4 (.agg #[.string (bstr x.1),.bool x.2]) rfl hHeld (fun s hs=>by obtain ⟨a0,a1,b0,b1⟩:=rc2 hs;go_simp) ?_
   refine tk 6 (.slice (some ⟨g,2,none⟩) 2 c) rfl hHeld (fun s hs=>by obtain ⟨a0,a1,b0,b1⟩:=rc2 hs;go_simp) ?_
   refine tk 7 (.pointer (some ⟨g,4,none⟩)) rfl hHeld (fun s hs=>by obtain ⟨a0,a1,b0,b1⟩:=rc2 hs;go_simp) ?_
   refine tk 8 (.agg #[.string (bstr y.1),.bool y.2]) rfl hHeld (fun s hs=>by obtain ⟨a0,a1,b0,b1⟩:=rc2 hs;go_simp) ?_
   refine rd1 5 rfl fun K hK => ?_
   go_simp
   refine (HCx.out _).mono ?_
   rintro e w1 ⟨he,hb1⟩
   unfold PlainIs at he
   rw [HXx.out] at he
   subst he
   have H1:=Lib.hid (H0.out.on hb1)
   clear hb1
   refine hK.out _ _ ⟨_,H1.out⟩ (fun hHeld => ?_)
   clear hK
   refine rd1 9 rfl fun K hK => ?_
   go_simp
   refine (HCy.out _).mono ?_
   rintro e w2 ⟨he,hb2⟩
   unfold PlainIs at he
   rw [HXy.out] at he
   subst he
   have H2:=Lib.hid (H1.out.on hb2)
   clear hb2
   exact ⟨rfl,H2.out.bad⟩
  | some ty =>
   have HXy:=Lib.hid hy
   clear hy
   go_enter Tryz.func58,Tryz.ntmps58
   go_wp2
   refine wp_region_held_drew (S:=fun s=>∃cs,RowS w0 B g [x,y] cs s) (by kernel_rfl) ⟨_,H0.out⟩ (fun hHeld => ?_)
   refine tk 0 (.pointer (some ⟨B,0,none⟩)) rfl hHeld (fun s hs=>by obtain ⟨a0,a1,b0,b1⟩:=rc2 hs;go_simp) ?_
   refine tk 1 (.pointer (some ⟨B,0,none⟩)) rfl hHeld (fun s hs=>by obtain ⟨a0,a1,b0,b1⟩:=rc2 hs;go_simp) ?_
   refine tk 2 (.slice (some ⟨g,2,none⟩) 2 c) rfl hHeld (fun s hs=>by obtain ⟨a0,a1,b0,b1⟩:=rc2 hs;go_simp) ?_
   refine tk 3 (.pointer (some ⟨g,2,none⟩)) rfl hHeld (fun s hs=>by obtain ⟨a0,a1,b0,b1⟩:=rc2 hs;go_simp) ?_
   refine tk 4 (.agg #[.string (bstr x.1),.bool x.2]) rfl hHeld (fun s hs=>by obtain ⟨a0,a1,b0,b1⟩:=rc2 hs;go_simp) ?_
   refine tk 6 (.slice (some ⟨g,2,none⟩) 2 c) rfl hHeld (fun s hs=>by obtain ⟨a0,a1,b0,b1⟩:=rc2 hs;go_simp) ?_
   refine tk 7 (.pointer (some ⟨g,4,none⟩)) rfl hHeld (fun s hs=>by obtain ⟨a0,a1,b0,b1⟩:=rc2 hs;go_simp) ?_
   refine tk 8 (.agg #[.string (bstr y.1),.bool y.2]) rfl hHeld (fun s hs=>by obtain ⟨a0,a1,b0,b1⟩:=rc2 hs;go_simp) ?_
   refine rd1 5 rfl fun K hK => ?_
   go_simp
   refine (HCx.out _).mono ?_
   rintro e w1 ⟨he,hb1⟩
   unfold PlainIs at he
   rw [HXx.out] at he
   subst he
   have H1:=Lib.hid (H0.out.on hb1)
   clear hb1
   refine hK.out _ _ ⟨_,H1.out⟩ (fun hHeld => ?_)
   clear hK
   refine rd1 9 rfl fun K hK => ?_
   go_simp
   refine (HCy.out _).mono ?_
   rintro e w2 ⟨he,hb2⟩
   unfold PlainIs at he
   rw [HXy.out] at he
   subst he
   have H2:=Lib.hid (H1.out.on hb2)
   clear hb2
   refine hK.out _ _ ⟨_,H2.out⟩ (fun hHeld => ?_)
   clear hK
   refine tk 10 (.pointer (some ⟨B,0,none⟩)) rfl hHeld (fun s hs=>by obtain ⟨a0,a1,b0,b1⟩:=rc2 hs;go_simp) ?_
   refine tk 11 (.pointer (some ⟨B,4,none⟩)) rfl hHeld (fun s hs=>by obtain ⟨a0,a1,b0,b1⟩:=rc2 hs;go_simp) ?_
   refine rd1 12 rfl fun K hK => ?_
   have f4:=H2.out.free 4
   have c4:=H2.out.cell 4 (.string ⟨#[]⟩) rfl
   go_simp
   have H3:=Lib.hid (H2.out.set 4 (.string (bstr tx)))
   clear f4 c4
   refine hK.out _ _ ⟨_,H3.out⟩ (fun hHeld => ?_)
   clear hK
   refine tk 13 (.pointer (some ⟨B,0,none⟩)) rfl hHeld (fun s hs=>by obtain ⟨a0,a1,b0,b1⟩:=rc2 hs;go_simp) ?_
   refine tk 14 (.pointer (some ⟨B,5,none⟩)) rfl hHeld (fun s hs=>by obtain ⟨a0,a1,b0,b1⟩:=rc2 hs;go_simp) ?_
   refine rd1 15 rfl fun K hK => ?_
   have f5:=H3.out.free 5
   have c5:=H3.out.cell 5 (.string ⟨#[]⟩) rfl
   go_simp
   have H4:=Lib.hid (H3.out.set 5 (.string (bstr ty)))
   clear f5 c5
   refine hK.out _ _ ⟨_,H4.out⟩ (fun hHeld => ?_)
   clear hK
   refine wpAnyH_done (by kernel_rfl) ?_ _
   clear hHeld
   go_simp
   go_end0
   exact H4.out.good _ rfl rfl
set_option maxRecDepth 100000 in
set_option maxHeartbeats 4000000 in
theorem row_insert (k:Int) (w0 w:World) (B g c:Nat) (x y z:List UInt8×Bool) (h:RowS w0 B g [x,y,z] (zeroC k) w):Calls Tryz.prog 59 #[.pointer (some ⟨B,0,none⟩),.slice (some ⟨g,2,none⟩) 3 c] w fun e w'=>RowIs w0 B ((sp.wNum x).bind fun n=>(sp.wNum y).bind fun i=>(sp.wPlain z).bind fun s=>some { kind:=k,node:=n,at_:=i,name:=s }) e w':=by
 have HCx:=Lib.hid (fun W=>wnum_any x W)
 have HCy:=Lib.hid (fun W=>wnum_any y W)
 have HCz:=Lib.hid (fun W=>wplain_any z W)
 have H0:=Lib.hid (h.on (Below.refl _ _).drew)
 clear h
 cases hx:sp.wNum x with
 | none =>
  have HXx:=Lib.hid hx
  clear hx
  go_enter Tryz.func59,Tryz.ntmps59
  go_wp2
  refine wp_region_held_drew (S:=fun s=>∃cs,RowS w0 B g [x,y,z] cs s) (by kernel_rfl) ⟨_,H0.out⟩ (fun hHeld => ?_)
  refine tk 0 (.pointer (some ⟨B,0,none⟩)) rfl hHeld (fun s hs=>by obtain ⟨a0,a1,b0,b1,c0,c1⟩:=rc3 hs;go_simp) ?_
  refine tk 1 (.pointer (some ⟨B,0,none⟩)) rfl hHeld (fun s hs=>by obtain ⟨a0,a1,b0,b1,c0,c1⟩:=rc3 hs;go_simp) ?_
  refine tk 2 (.pointer (some ⟨B,0,none⟩)) rfl hHeld (fun s hs=>by obtain ⟨a0,a1,b0,b1,c0,c1⟩:=rc3 hs;go_simp) ?_
  refine tk 3 (.slice (some ⟨g,2,none⟩) 3 c) rfl hHeld (fun s hs=>by obtain ⟨a0,a1,b0,b1,c0,c1⟩:=rc3 hs;go_simp) ?_
  refine tk 4 (.pointer (some ⟨g,2,none⟩)) rfl hHeld (fun s hs=>by obtain ⟨a0,a1,b0,b1,c0,c1⟩:=rc3 hs;go_simp) ?_
  refine tk 5 (.agg #[.string (bstr x.1),.bool x.2]) rfl hHeld (fun s hs=>by obtain ⟨a0,a1,b0,b1,c0,c1⟩:=rc3 hs;go_simp) ?_
  refine tk 7 (.slice (some ⟨g,2,none⟩) 3 c) rfl hHeld (fun s hs=>by obtain ⟨a0,a1,b0,b1,c0,c1⟩:=rc3 hs;go_simp) ?_
  refine tk 8 (.pointer (some ⟨g,4,none⟩)) rfl hHeld (fun s hs=>by obtain ⟨a0,a1,b0,b1,c0,c1⟩:=rc3 hs;go_simp) ?_
  refine tk 9 (.agg #[.string (bstr y.1),.bool y.2]) rfl hHeld (fun s hs=>by obtain ⟨a0,a1,b0,b1,c0,c1⟩:=rc3 hs;go_simp) ?_
  refine tk 11 (.slice (some ⟨g,2,none⟩) 3 c) rfl hHeld (fun s hs=>by obtain ⟨a0,a1,b0,b1,c0,c1⟩:=rc3 hs;go_simp) ?_
  refine tk 12 (.pointer (some ⟨g,6,none⟩)) rfl hHeld (fun s hs=>by obtain ⟨a0,a1,b0,b1,c0,c1⟩:=rc3 hs;go_simp) ?_
  refine tk 13 (.agg #[.string (bstr z.1),.bool z.2]) rfl hHeld (fun s hs=>by obtain ⟨a0,a1,b0,b1,c0,c1⟩:=rc3 hs;go_simp) ?_
  refine rd1 6 rfl fun K hK => ?_
  go_simp
  refine (HCx.out _).mono ?_
  rintro e w1 ⟨he,hb1⟩
  unfold NumIs at he
  rw [HXx.out] at he
  subst he
  have H1:=Lib.hid (H0.out.on hb1)
  clear hb1
  exact ⟨rfl,H1.out.bad⟩
 | some nx =>
  have HXx:=Lib.hid hx
  clear hx
  cases hy:sp.wNum y with
  | none =>
   have HXy:=Lib.hid hy
   clear hy
   go_enter Tryz.func59,Tryz.ntmps59
   go_wp2
   refine wp_region_held_drew (S:=fun s=>∃cs,RowS w0 B g [x,y,z] cs s) (by kernel_rfl) ⟨_,H0.out⟩ (fun hHeld => ?_)
   refine tk 0 (.pointer (some ⟨B,0,none⟩)) rfl hHeld (fun s hs=>by obtain ⟨a0,a1,b0,b1,c0,c1⟩:=rc3 hs;go_simp) ?_
   refine tk 1 (.pointer (some ⟨B,0,none⟩)) rfl hHeld (fun s hs=>by obtain ⟨a0,a1,b0,b1,c0,c1⟩:=rc3 hs;go_simp) ?_
   refine tk 2 (.pointer (some ⟨B,0,none⟩)) rfl hHeld (fun s hs=>by obtain ⟨a0,a1,b0,b1,c0,c1⟩:=rc3 hs;go_simp) ?_
   refine tk 3 (.slice (some ⟨g,2,none⟩) 3 c) rfl hHeld (fun s hs=>by obtain ⟨a0,a1,b0,b1,c0,c1⟩:=rc3 hs;go_simp) ?_
   refine tk 4 (.pointer (some ⟨g,2,none⟩)) rfl hHeld (fun s hs=>by obtain ⟨a0,a1,b0,b1,c0,c1⟩:=rc3 hs;go_simp) ?_
   refine tk 5 (.agg #[.string (bstr x.1),.bool x.2]) rfl hHeld (fun s hs=>by obtain ⟨a0,a1,b0,b1,c0,c1⟩:=rc3 hs;go_simp) ?_
   refine tk 7 (.slice (some ⟨g,2,none⟩) 3 c) rfl hHeld (fun s hs=>by obtain ⟨a0,a1,b0,b1,c0,c1⟩:=rc3 hs;go_simp) ?_
   refine tk 8 (.pointer (some ⟨g,4,none⟩)) rfl hHeld (fun s hs=>by obtain ⟨a0,a1,b0,b1,c0,c1⟩:=rc3 hs;go_simp) ?_
   refine tk 9 (.agg #[.string (bstr y.1),.bool y.2]) rfl hHeld (fun s hs=>by obtain ⟨a0,a1,b0,b1,c0,c1⟩:=rc3 hs;go_simp) ?_
   refine tk 11 (.slice (some ⟨g,2,none⟩) 3 c) rfl hHeld (fun s hs=>by obtain ⟨a0,a1,b0,b1,c0,c1⟩:=rc3 hs;go_simp) ?_
   refine tk 12 (.pointer (some ⟨g,6,none⟩)) rfl hHeld (fun s hs=>by obtain ⟨a0,a1,b0,b1,c0,c1⟩:=rc3 hs;go_simp) ?_
   refine tk 13 (.agg #[.string (bstr z.1),.bool z.2]) rfl hHeld (fun s hs=>by obtain ⟨a0,a1,b0,b1,c0,c1⟩:=rc3 hs;go_simp) ?_
   refine rd1 6 rfl fun K hK => ?_
   go_simp
   refine (HCx.out _).mono ?_
   rintro e w1 ⟨he,hb1⟩
   unfold NumIs at he
   rw [HXx.out] at he
   subst he
   have H1:=Lib.hid (H0.out.on hb1)
   clear hb1
   refine hK.out _ _ ⟨_,H1.out⟩ (fun hHeld => ?_)
   clear hK
   refine rd1 10 rfl fun K hK => ?_
   go_simp
   refine (HCy.out _).mono ?_
   rintro e w2 ⟨he,hb2⟩
   unfold NumIs at he
   rw [HXy.out] at he
   subst he
   have H2:=Lib.hid (H1.out.on hb2)
   clear hb2
   exact ⟨rfl,H2.out.bad⟩
  | some ny =>
   have HXy:=Lib.hid hy
   clear hy
   cases hz:sp.wPlain z with
   | none =>
    have HXz:=Lib.hid hz
    clear hz
    go_enter Tryz.func59,Tryz.ntmps59
    go_wp2
    refine wp_region_held_drew (S:=fun s=>∃cs,RowS w0 B g [x,y,z] cs s) (by kernel_rfl) ⟨_,H0.out⟩ (fun hHeld => ?_)
    refine tk 0 (.pointer (some ⟨B,0,none⟩)) rfl hHeld (fun s hs=>by obtain ⟨a0,a1,b0,b1,c0,c1⟩:=rc3 hs;go_simp) ?_
    refine tk 1 (.pointer (some ⟨B,0,none⟩)) rfl hHeld (fun s hs=>by obtain ⟨a0,a1,b0,b1,c0,c1⟩:=rc3 hs;go_simp) ?_
    refine tk 2 (.pointer (some ⟨B,0,none⟩)) rfl hHeld (fun s hs=>by obtain ⟨a0,a1,b0,b1,c0,c1⟩:=rc3 hs;go_simp) ?_
    refine tk 3 (.slice (some ⟨g,2,none⟩) 3 c) rfl hHeld (fun s hs=>by obtain ⟨a0,a1,b0,b1,c0,c1⟩:=rc3 hs;go_simp) ?_
    refine tk 4 (.pointer (some ⟨g,2,none⟩)) rfl hHeld (fun s hs=>by obtain ⟨a0,a1,b0,b1,c0,c1⟩:=rc3 hs;go_simp) ?_
    refine tk 5 (.agg #[.string (bstr x.1),.bool x.2]) rfl hHeld (fun s hs=>by obtain ⟨a0,a1,b0,b1,c0,c1⟩:=rc3 hs;go_simp) ?_
    refine tk 7 (.slice (some ⟨g,2,none⟩) 3 c) rfl hHeld (fun s hs=>by obtain ⟨a0,a1,b0,b1,c0,c1⟩:=rc3 hs;go_simp) ?_
    refine tk 8 (.pointer (some ⟨g,4,none⟩)) rfl hHeld (fun s hs=>by obtain ⟨a0,a1,b0,b1,c0,c1⟩:=rc3 hs;go_simp) ?_
    refine tk 9 (.agg #[.string (bstr y.1),.bool y.2]) rfl hHeld (fun s hs=>by obtain ⟨a0,a1,b0,b1,c0,c1⟩:=rc3 hs;go_simp) ?_
    refine tk 11 (.slice (some ⟨g,2,none⟩) 3 c) rfl hHeld (fun s hs=>by obtain ⟨a0,a1,b0,b1,c0,c1⟩:=rc3 hs;go_simp) ?_
    refine tk 12 (.pointer (some ⟨g,6,none⟩)) rfl hHeld (fun s hs=>by obtain ⟨a0,a1,b0,b1,c0,c1⟩:=rc3 hs;go_simp) ?_
    refine tk 13 (.agg #[.string (bstr z.1),.bool z.2]) rfl hHeld (fun s hs=>by obtain ⟨a0,a1,b0,b1,c0,c1⟩:=rc3 hs;go_simp) ?_
    refine rd1 6 rfl fun K hK => ?_
    go_simp
    refine (HCx.out _).mono ?_
    rintro e w1 ⟨he,hb1⟩
    unfold NumIs at he
    rw [HXx.out] at he
    subst he
    have H1:=Lib.hid (H0.out.on hb1)
    clear hb1
    refine hK.out _ _ ⟨_,H1.out⟩ (fun hHeld => ?_)
    clear hK
    refine rd1 10 rfl fun K hK => ?_
    go_simp
    refine (HCy.out _).mono ?_
    rintro e w2 ⟨he,hb2⟩
    unfold NumIs at he
    rw [HXy.out] at he
    subst he
    have H2:=Lib.hid (H1.out.on hb2)
    clear hb2
    refine hK.out _ _ ⟨_,H2.out⟩ (fun hHeld => ?_)
    clear hK
    refine rd1 14 rfl fun K hK => ?_
    go_simp
    refine (HCz.out _).mono ?_
    rintro e w3 ⟨he,hb3⟩
    unfold PlainIs at he
    rw [HXz.out] at he
    subst he
    have H3:=Lib.hid (H2.out.on hb3)
    clear hb3
    exact ⟨rfl,H3.out.bad⟩
   | some tz =>
    have HXz:=Lib.hid hz
    clear hz
    go_enter Tryz.func59,Tryz.ntmps59
    go_wp2
    refine wp_region_held_drew (S:=fun s=>∃cs,RowS w0 B g [x,y,z] cs s) (by kernel_rfl) ⟨_,H0.out⟩ (fun hHeld => ?_)
    refine tk 0 (.pointer (some ⟨B,0,none⟩)) rfl hHeld (fun s hs=>by obtain ⟨a0,a1,b0,b1,c0,c1⟩:=rc3 hs;go_simp) ?_
    refine tk 1 (.pointer (some ⟨B,0,none⟩)) rfl hHeld (fun s hs=>by obtain ⟨a0,a1,b0,b1,c0,c1⟩:=rc3 hs;go_simp) ?_
    refine tk 2 (.pointer (some ⟨B,0,none⟩)) rfl hHeld (fun s hs=>by obtain ⟨a0,a1,b0,b1,c0,c1⟩:=rc3 hs;go_simp) ?_
    refine tk 3 (.slice (some ⟨g,2,none⟩) 3 c) rfl hHeld (fun s hs=>by obtain ⟨a0,a1,b0,b1,c0,c1⟩:=rc3 hs;go_simp) ?_
    refine tk 4 (.pointer (some ⟨g,2,none⟩)) rfl hHeld (fun s hs=>by obtain ⟨a0,a1,b0,b1,c0,c1⟩:=rc3 hs;go_simp) ?_
    refine tk 5 (.agg #[.string (bstr x.1),.bool x.2]) rfl hHeld (fun s hs=>by obtain ⟨a0,a1,b0,b1,c0,c1⟩:=rc3 hs;go_simp) ?_
    refine tk 7 (.slice (some ⟨g,2,none⟩) 3 c) rfl hHeld (fun s hs=>by obtain ⟨a0,a1,b0,b1,c0,c1⟩:=rc3 hs;go_simp) ?_
    refine tk 8 (.pointer (some ⟨g,4,none⟩)) rfl hHeld (fun s hs=>by obtain ⟨a0,a1,b0,b1,c0,c1⟩:=rc3 hs;go_simp) ?_
    refine tk 9 (.agg #[.string (bstr y.1),.bool y.2]) rfl hHeld (fun s hs=>by obtain ⟨a0,a1,b0,b1,c0,c1⟩:=rc3 hs;go_simp) ?_
    refine tk 11 (.slice (some ⟨g,2,none⟩) 3 c) rfl hHeld (fun s hs=>by obtain ⟨a0,a1,b0,b1,c0,c1⟩:=rc3 hs;go_simp) ?_
    refine tk 12 (.pointer (some ⟨g,6,none⟩)) rfl hHeld (fun s hs=>by obtain ⟨a0,a1,b0,b1,c0,c1⟩:=rc3 hs;go_simp) ?_
    refine tk 13 (.agg #[.string (bstr z.1),.bool z.2]) rfl hHeld (fun s hs=>by obtain ⟨a0,a1,b0,b1,c0,c1⟩:=rc3 hs;go_simp) ?_
    refine rd1 6 rfl fun K hK => ?_
    go_simp
    refine (HCx.out _).mono ?_
    rintro e w1 ⟨he,hb1⟩
    unfold NumIs at he
    rw [HXx.out] at he
    subst he
    have H1:=Lib.hid (H0.out.on hb1)
    clear hb1
    refine hK.out _ _ ⟨_,H1.out⟩ (fun hHeld => ?_)
    clear hK
    refine rd1 10 rfl fun K hK => ?_
    go_simp
    refine (HCy.out _).mono ?_
    rintro e w2 ⟨he,hb2⟩
    unfold NumIs at he
    rw [HXy.out] at he
    subst he
    have H2:=Lib.hid (H1.out.on hb2)
    clear hb2
    refine hK.out _ _ ⟨_,H2.out⟩ (fun hHeld => ?_)
    clear hK
    refine rd1 14 rfl fun K hK => ?_
    go_simp
    refine (HCz.out _).mono ?_
    rintro e w3 ⟨he,hb3⟩
    unfold PlainIs at he
    rw [HXz.out] at he
    subst he
    have H3:=Lib.hid (H2.out.on hb3)
    clear hb3
    refine hK.out _ _ ⟨_,H3.out⟩ (fun hHeld => ?_)
    clear hK
    refine tk 15 (.pointer (some ⟨B,0,none⟩)) rfl hHeld (fun s hs=>by obtain ⟨a0,a1,b0,b1,c0,c1⟩:=rc3 hs;go_simp) ?_
    refine tk 16 (.pointer (some ⟨B,1,none⟩)) rfl hHeld (fun s hs=>by obtain ⟨a0,a1,b0,b1,c0,c1⟩:=rc3 hs;go_simp) ?_
    refine rd1 17 rfl fun K hK => ?_
    have f1:=H3.out.free 1
    have c1:=H3.out.cell 1 (.int .i64 0) rfl
    go_simp
    have H4:=Lib.hid (H3.out.set 1 (.int .i64 nx))
    clear f1 c1
    refine hK.out _ _ ⟨_,H4.out⟩ (fun hHeld => ?_)
    clear hK
    refine tk 18 (.pointer (some ⟨B,0,none⟩)) rfl hHeld (fun s hs=>by obtain ⟨a0,a1,b0,b1,c0,c1⟩:=rc3 hs;go_simp) ?_
    refine tk 19 (.pointer (some ⟨B,2,none⟩)) rfl hHeld (fun s hs=>by obtain ⟨a0,a1,b0,b1,c0,c1⟩:=rc3 hs;go_simp) ?_
    refine rd1 20 rfl fun K hK => ?_
    have f2:=H4.out.free 2
    have c2:=H4.out.cell 2 (.int .i64 0) rfl
    go_simp
    have H5:=Lib.hid (H4.out.set 2 (.int .i64 ny))
    clear f2 c2
    refine hK.out _ _ ⟨_,H5.out⟩ (fun hHeld => ?_)
    clear hK
    refine tk 21 (.pointer (some ⟨B,0,none⟩)) rfl hHeld (fun s hs=>by obtain ⟨a0,a1,b0,b1,c0,c1⟩:=rc3 hs;go_simp) ?_
    refine tk 22 (.pointer (some ⟨B,4,none⟩)) rfl hHeld (fun s hs=>by obtain ⟨a0,a1,b0,b1,c0,c1⟩:=rc3 hs;go_simp) ?_
    refine rd1 23 rfl fun K hK => ?_
    have f4:=H5.out.free 4
    have c4:=H5.out.cell 4 (.string ⟨#[]⟩) rfl
    go_simp
    have H6:=Lib.hid (H5.out.set 4 (.string (bstr tz)))
    clear f4 c4
    refine hK.out _ _ ⟨_,H6.out⟩ (fun hHeld => ?_)
    clear hK
    refine wpAnyH_done (by kernel_rfl) ?_ _
    clear hHeld
    go_simp
    go_end0
    exact H6.out.good _ rfl rfl
set_option maxRecDepth 100000 in
set_option maxHeartbeats 4000000 in
theorem row_set (k:Int) (w0 w:World) (B g c:Nat) (x y z:List UInt8×Bool) (h:RowS w0 B g [x,y,z] (zeroC k) w):Calls Tryz.prog 60 #[.pointer (some ⟨B,0,none⟩),.slice (some ⟨g,2,none⟩) 3 c] w fun e w'=>RowIs w0 B ((sp.wNum x).bind fun n=>(sp.wPlain y).bind fun s=>(sp.wText z).bind fun t=>some { kind:=k,node:=n,name:=s,word:=t }) e w':=by
 have HCx:=Lib.hid (fun W=>wnum_any x W)
 have HCy:=Lib.hid (fun W=>wplain_any y W)
 have HCz:=Lib.hid (fun W=>wtext_any z W)
 have H0:=Lib.hid (h.on (Below.refl _ _).drew)
 clear h
 cases hx:sp.wNum x with
 | none =>
  have HXx:=Lib.hid hx
  clear hx
  go_enter Tryz.func60,Tryz.ntmps60
  go_wp2
  refine wp_region_held_drew (S:=fun s=>∃cs,RowS w0 B g [x,y,z] cs s) (by kernel_rfl) ⟨_,H0.out⟩ (fun hHeld => ?_)
  refine tk 0 (.pointer (some ⟨B,0,none⟩)) rfl hHeld (fun s hs=>by obtain ⟨a0,a1,b0,b1,c0,c1⟩:=rc3 hs;go_simp) ?_
  refine tk 1 (.pointer (some ⟨B,0,none⟩)) rfl hHeld (fun s hs=>by obtain ⟨a0,a1,b0,b1,c0,c1⟩:=rc3 hs;go_simp) ?_
  refine tk 2 (.pointer (some ⟨B,0,none⟩)) rfl hHeld (fun s hs=>by obtain ⟨a0,a1,b0,b1,c0,c1⟩:=rc3 hs;go_simp) ?_
  refine tk 3 (.slice (some ⟨g,2,none⟩) 3 c) rfl hHeld (fun s hs=>by obtain ⟨a0,a1,b0,b1,c0,c1⟩:=rc3 hs;go_simp) ?_
  refine tk 4 (.pointer (some ⟨g,2,none⟩)) rfl hHeld (fun s hs=>by obtain ⟨a0,a1,b0,b1,c0,c1⟩:=rc3 hs;go_simp) ?_
  refine tk 5 (.agg #[.string (bstr x.1),.bool x.2]) rfl hHeld (fun s hs=>by obtain ⟨a0,a1,b0,b1,c0,c1⟩:=rc3 hs;go_simp) ?_
  refine tk 7 (.slice (some ⟨g,2,none⟩) 3 c) rfl hHeld (fun s hs=>by obtain ⟨a0,a1,b0,b1,c0,c1⟩:=rc3 hs;go_simp) ?_
  refine tk 8 (.pointer (some ⟨g,4,none⟩)) rfl hHeld (fun s hs=>by obtain ⟨a0,a1,b0,b1,c0,c1⟩:=rc3 hs;go_simp) ?_
  refine tk 9 (.agg #[.string (bstr y.1),.bool y.2]) rfl hHeld (fun s hs=>by obtain ⟨a0,a1,b0,b1,c0,c1⟩:=rc3 hs;go_simp) ?_
  refine tk 11 (.slice (some ⟨g,2,none⟩) 3 c) rfl hHeld (fun s hs=>by obtain ⟨a0,a1,b0,b1,c0,c1⟩:=rc3 hs;go_simp) ?_
  refine tk 12 (.pointer (some ⟨g,6,none⟩)) rfl hHeld (fun s hs=>by obtain ⟨a0,a1,b0,b1,c0,c1⟩:=rc3 hs;go_simp) ?_
  refine tk 13 (.agg #[.string (bstr z.1),.bool z.2]) rfl hHeld (fun s hs=>by obtain ⟨a0,a1,b0,b1,c0,c1⟩:=rc3 hs;go_simp) ?_
  refine rd1 6 rfl fun K hK => ?_
  go_simp
  refine (HCx.out _).mono ?_
  rintro e w1 ⟨he,hb1⟩
  unfold NumIs at he
  rw [HXx.out] at he
  subst he
  have H1:=Lib.hid (H0.out.on hb1)
  clear hb1
  exact ⟨rfl,H1.out.bad⟩
 | some nx =>
  have HXx:=Lib.hid hx
  clear hx
  cases hy:sp.wPlain y with
  | none =>
   have HXy:=Lib.hid hy
   clear hy
   go_enter Tryz.func60,Tryz.ntmps60
   go_wp2
   refine wp_region_held_drew (S:=fun s=>∃cs,RowS w0 B g [x,y,z] cs s) (by kernel_rfl) ⟨_,H0.out⟩ (fun hHeld => ?_)
   refine tk 0 (.pointer (some ⟨B,0,none⟩)) rfl hHeld (fun s hs=>by obtain ⟨a0,a1,b0,b1,c0,c1⟩:=rc3 hs;go_simp) ?_
   refine tk 1 (.pointer (some ⟨B,0,none⟩)) rfl hHeld (fun s hs=>by obtain ⟨a0,a1,b0,b1,c0,c1⟩:=rc3 hs;go_simp) ?_
   refine tk 2 (.pointer (some ⟨B,0,none⟩)) rfl hHeld (fun s hs=>by obtain ⟨a0,a1,b0,b1,c0,c1⟩:=rc3 hs;go_simp) ?_
   refine tk 3 (.slice (some ⟨g,2,none⟩) 3 c) rfl hHeld (fun s hs=>by obtain ⟨a0,a1,b0,b1,c0,c1⟩:=rc3 hs;go_simp) ?_
   refine tk 4 (.pointer (some ⟨g,2,none⟩)) rfl hHeld (fun s hs=>by obtain ⟨a0,a1,b0,b1,c0,c1⟩:=rc3 hs;go_simp) ?_
   refine tk 5 (.agg #[.string (bstr x.1),.bool x.2]) rfl hHeld (fun s hs=>by obtain ⟨a0,a1,b0,b1,c0,c1⟩:=rc3 hs;go_simp) ?_
   refine tk 7 (.slice (some ⟨g,2,none⟩) 3 c) rfl hHeld (fun s hs=>by obtain ⟨a0,a1,b0,b1,c0,c1⟩:=rc3 hs;go_simp) ?_
   refine tk 8 (.pointer (some ⟨g,4,none⟩)) rfl hHeld (fun s hs=>by obtain ⟨a0,a1,b0,b1,c0,c1⟩:=rc3 hs;go_simp) ?_
   refine tk 9 (.agg #[.string (bstr y.1),.bool y.2]) rfl hHeld (fun s hs=>by obtain ⟨a0,a1,b0,b1,c0,c1⟩:=rc3 hs;go_simp) ?_
   refine tk 11 (.slice (some ⟨g,2,none⟩) 3 c) rfl hHeld (fun s hs=>by obtain ⟨a0,a1,b0,b1,c0,c1⟩:=rc3 hs;go_simp) ?_
   refine tk 12 (.pointer (some ⟨g,6,none⟩)) rfl hHeld (fun s hs=>by obtain ⟨a0,a1,b0,b1,c0,c1⟩:=rc3 hs;go_simp) ?_
   refine tk 13 (.agg #[.string (bstr z.1),.bool z.2]) rfl hHeld (fun s hs=>by obtain ⟨a0,a1,b0,b1,c0,c1⟩:=rc3 hs;go_simp) ?_
   refine rd1 6 rfl fun K hK => ?_
   go_simp
   refine (HCx.out _).mono ?_
   rintro e w1 ⟨he,hb1⟩
   unfold NumIs at he
   rw [HXx.out] at he
   subst he
   have H1:=Lib.hid (H0.out.on hb1)
   clear hb1
   refine hK.out _ _ ⟨_,H1.out⟩ (fun hHeld => ?_)
   clear hK
   refine rd1 10 rfl fun K hK => ?_
   go_simp
   refine (HCy.out _).mono ?_
   rintro e w2 ⟨he,hb2⟩
   unfold PlainIs at he
   rw [HXy.out] at he
   subst he
   have H2:=Lib.hid (H1.out.on hb2)
   clear hb2
   exact ⟨rfl,H2.out.bad⟩
  | some ty =>
   have HXy:=Lib.hid hy
   clear hy
   cases hz:sp.wText z with
   | none =>
    have HXz:=Lib.hid hz
    clear hz
    go_enter Tryz.func60,Tryz.ntmps60
    go_wp2
    refine wp_region_held_drew (S:=fun s=>∃cs,RowS w0 B g [x,y,z] cs s) (by kernel_rfl) ⟨_,H0.out⟩ (fun hHeld => ?_)
    refine tk 0 (.pointer (some ⟨B,0,none⟩)) rfl hHeld (fun s hs=>by obtain ⟨a0,a1,b0,b1,c0,c1⟩:=rc3 hs;go_simp) ?_
    refine tk 1 (.pointer (some ⟨B,0,none⟩)) rfl hHeld (fun s hs=>by obtain ⟨a0,a1,b0,b1,c0,c1⟩:=rc3 hs;go_simp) ?_
    refine tk 2 (.pointer (some ⟨B,0,none⟩)) rfl hHeld (fun s hs=>by obtain ⟨a0,a1,b0,b1,c0,c1⟩:=rc3 hs;go_simp) ?_
    refine tk 3 (.slice (some ⟨g,2,none⟩) 3 c) rfl hHeld (fun s hs=>by obtain ⟨a0,a1,b0,b1,c0,c1⟩:=rc3 hs;go_simp) ?_
    refine tk 4 (.pointer (some ⟨g,2,none⟩)) rfl hHeld (fun s hs=>by obtain ⟨a0,a1,b0,b1,c0,c1⟩:=rc3 hs;go_simp) ?_
    refine tk 5 (.agg #[.string (bstr x.1),.bool x.2]) rfl hHeld (fun s hs=>by obtain ⟨a0,a1,b0,b1,c0,c1⟩:=rc3 hs;go_simp) ?_
    refine tk 7 (.slice (some ⟨g,2,none⟩) 3 c) rfl hHeld (fun s hs=>by obtain ⟨a0,a1,b0,b1,c0,c1⟩:=rc3 hs;go_simp) ?_
    refine tk 8 (.pointer (some ⟨g,4,none⟩)) rfl hHeld (fun s hs=>by obtain ⟨a0,a1,b0,b1,c0,c1⟩:=rc3 hs;go_simp) ?_
    refine tk 9 (.agg #[.string (bstr y.1),.bool y.2]) rfl hHeld (fun s hs=>by obtain ⟨a0,a1,b0,b1,c0,c1⟩:=rc3 hs;go_simp) ?_
    refine tk 11 (.slice (some ⟨g,2,none⟩) 3 c) rfl hHeld (fun s hs=>by obtain ⟨a0,a1,b0,b1,c0,c1⟩:=rc3 hs;go_simp) ?_
    refine tk 12 (.pointer (some ⟨g,6,none⟩)) rfl hHeld (fun s hs=>by obtain ⟨a0,a1,b0,b1,c0,c1⟩:=rc3 hs;go_simp) ?_
    refine tk 13 (.agg #[.string (bstr z.1),.bool z.2]) rfl hHeld (fun s hs=>by obtain ⟨a0,a1,b0,b1,c0,c1⟩:=rc3 hs;go_simp) ?_
    refine rd1 6 rfl fun K hK => ?_
    go_simp
    refine (HCx.out _).mono ?_
    rintro e w1 ⟨he,hb1⟩
    unfold NumIs at he
    rw [HXx.out] at he
    subst he
    have H1:=Lib.hid (H0.out.on hb1)
    clear hb1
    refine hK.out _ _ ⟨_,H1.out⟩ (fun hHeld => ?_)
    clear hK
    refine rd1 10 rfl fun K hK => ?_
    go_simp
    refine (HCy.out _).mono ?_
    rintro e w2 ⟨he,hb2⟩
    unfold PlainIs at he
    rw [HXy.out] at he
    subst he
    have H2:=Lib.hid (H1.out.on hb2)
    clear hb2
    refine hK.out _ _ ⟨_,H2.out⟩ (fun hHeld => ?_)
    clear hK
    refine rd1 14 rfl fun K hK => ?_
    go_simp
    refine (HCz.out _).mono ?_
    rintro e w3 ⟨he,hb3⟩
    unfold TextWIs at he
    rw [HXz.out] at he
    subst he
    have H3:=Lib.hid (H2.out.on hb3)
    clear hb3
    exact ⟨rfl,H3.out.bad⟩
   | some tz =>
    have HXz:=Lib.hid hz
    clear hz
    go_enter Tryz.func60,Tryz.ntmps60
    go_wp2
    refine wp_region_held_drew (S:=fun s=>∃cs,RowS w0 B g [x,y,z] cs s) (by kernel_rfl) ⟨_,H0.out⟩ (fun hHeld => ?_)
    refine tk 0 (.pointer (some ⟨B,0,none⟩)) rfl hHeld (fun s hs=>by obtain ⟨a0,a1,b0,b1,c0,c1⟩:=rc3 hs;go_simp) ?_
    refine tk 1 (.pointer (some ⟨B,0,none⟩)) rfl hHeld (fun s hs=>by obtain ⟨a0,a1,b0,b1,c0,c1⟩:=rc3 hs;go_simp) ?_
    refine tk 2 (.pointer (some ⟨B,0,none⟩)) rfl hHeld (fun s hs=>by obtain ⟨a0,a1,b0,b1,c0,c1⟩:=rc3 hs;go_simp) ?_
    refine tk 3 (.slice (some ⟨g,2,none⟩) 3 c) rfl hHeld (fun s hs=>by obtain ⟨a0,a1,b0,b1,c0,c1⟩:=rc3 hs;go_simp) ?_
    refine tk 4 (.pointer (some ⟨g,2,none⟩)) rfl hHeld (fun s hs=>by obtain ⟨a0,a1,b0,b1,c0,c1⟩:=rc3 hs;go_simp) ?_
    refine tk 5 (.agg #[.string (bstr x.1),.bool x.2]) rfl hHeld (fun s hs=>by obtain ⟨a0,a1,b0,b1,c0,c1⟩:=rc3 hs;go_simp) ?_
    refine tk 7 (.slice (some ⟨g,2,none⟩) 3 c) rfl hHeld (fun s hs=>by obtain ⟨a0,a1,b0,b1,c0,c1⟩:=rc3 hs;go_simp) ?_
    refine tk 8 (.pointer (some ⟨g,4,none⟩)) rfl hHeld (fun s hs=>by obtain ⟨a0,a1,b0,b1,c0,c1⟩:=rc3 hs;go_simp) ?_
    refine tk 9 (.agg #[.string (bstr y.1),.bool y.2]) rfl hHeld (fun s hs=>by obtain ⟨a0,a1,b0,b1,c0,c1⟩:=rc3 hs;go_simp) ?_
    refine tk 11 (.slice (some ⟨g,2,none⟩) 3 c) rfl hHeld (fun s hs=>by obtain ⟨a0,a1,b0,b1,c0,c1⟩:=rc3 hs;go_simp) ?_
    refine tk 12 (.pointer (some ⟨g,6,none⟩)) rfl hHeld (fun s hs=>by obtain ⟨a0,a1,b0,b1,c0,c1⟩:=rc3 hs;go_simp) ?_
    refine tk 13 (.agg #[.string (bstr z.1),.bool z.2]) rfl hHeld (fun s hs=>by obtain ⟨a0,a1,b0,b1,c0,c1⟩:=rc3 hs;go_simp) ?_
    refine rd1 6 rfl fun K hK => ?_
    go_simp
    refine (HCx.out _).mono ?_
    rintro e w1 ⟨he,hb1⟩
    unfold NumIs at he
    rw [HXx.out] at he
    subst he
    have H1:=Lib.hid (H0.out.on hb1)
    clear hb1
    refine hK.out _ _ ⟨_,H1.out⟩ (fun hHeld => ?_)
    clear hK
    refine rd1 10 rfl fun K hK => ?_
    go_simp
    refine (HCy.out _).mono ?_
    rintro e w2 ⟨he,hb2⟩
    unfold PlainIs at he
    rw [HXy.out] at he
    subst he
    have H2:=Lib.hid (H1.out.on hb2)
    clear hb2
    refine hK.out _ _ ⟨_,H2.out⟩ (fun hHeld => ?_)
    clear hK
    refine rd1 14 rfl fun K hK => ?_
    go_simp
    refine (HCz.out _).mono ?_
    rintro e w3 ⟨he,hb3⟩
    unfold TextWIs at he
    rw [HXz.out] at he
    subst he
    have H3:=Lib.hid (H2.out.on hb3)
    clear hb3
    refine hK.out _ _ ⟨_,H3.out⟩ (fun hHeld => ?_)
    clear hK
    refine tk 15 (.pointer (some ⟨B,0,none⟩)) rfl hHeld (fun s hs=>by obtain ⟨a0,a1,b0,b1,c0,c1⟩:=rc3 hs;go_simp) ?_
    refine tk 16 (.pointer (some ⟨B,1,none⟩)) rfl hHeld (fun s hs=>by obtain ⟨a0,a1,b0,b1,c0,c1⟩:=rc3 hs;go_simp) ?_
    refine rd1 17 rfl fun K hK => ?_
    have f1:=H3.out.free 1
    have c1:=H3.out.cell 1 (.int .i64 0) rfl
    go_simp
    have H4:=Lib.hid (H3.out.set 1 (.int .i64 nx))
    clear f1 c1
    refine hK.out _ _ ⟨_,H4.out⟩ (fun hHeld => ?_)
    clear hK
    refine tk 18 (.pointer (some ⟨B,0,none⟩)) rfl hHeld (fun s hs=>by obtain ⟨a0,a1,b0,b1,c0,c1⟩:=rc3 hs;go_simp) ?_
    refine tk 19 (.pointer (some ⟨B,4,none⟩)) rfl hHeld (fun s hs=>by obtain ⟨a0,a1,b0,b1,c0,c1⟩:=rc3 hs;go_simp) ?_
    refine rd1 20 rfl fun K hK => ?_
    have f4:=H4.out.free 4
    have c4:=H4.out.cell 4 (.string ⟨#[]⟩) rfl
    go_simp
    have H5:=Lib.hid (H4.out.set 4 (.string (bstr ty)))
    clear f4 c4
    refine hK.out _ _ ⟨_,H5.out⟩ (fun hHeld => ?_)
    clear hK
    refine tk 21 (.pointer (some ⟨B,0,none⟩)) rfl hHeld (fun s hs=>by obtain ⟨a0,a1,b0,b1,c0,c1⟩:=rc3 hs;go_simp) ?_
    refine tk 22 (.pointer (some ⟨B,5,none⟩)) rfl hHeld (fun s hs=>by obtain ⟨a0,a1,b0,b1,c0,c1⟩:=rc3 hs;go_simp) ?_
    refine rd1 23 rfl fun K hK => ?_
    have f5:=H5.out.free 5
    have c5:=H5.out.cell 5 (.string ⟨#[]⟩) rfl
    go_simp
    have H6:=Lib.hid (H5.out.set 5 (.string (bstr tz)))
    clear f5 c5
    refine hK.out _ _ ⟨_,H6.out⟩ (fun hHeld => ?_)
    clear hK
    refine wpAnyH_done (by kernel_rfl) ?_ _
    clear hHeld
    go_simp
    go_end0
    exact H6.out.good _ rfl rfl
set_option maxRecDepth 100000 in
set_option maxHeartbeats 4000000 in
theorem row_sheet (k:Int) (w0 w:World) (B g c:Nat) (x y:List UInt8×Bool) (hly:y.1.length≤1099511627776) (h:RowS w0 B g [x,y] (zeroC k) w):Calls Tryz.prog 54 #[.pointer (some ⟨B,0,none⟩),.slice (some ⟨g,2,none⟩) 2 c] w fun e w'=>RowIs w0 B ((sp.wNum x).bind fun o=>(sp.wText y).bind fun t=>some { kind:=k,origin:=o,text:=t }) e w':=by
 have HCx:=Lib.hid (fun W=>wnum_any x W)
 have HCy:=Lib.hid (fun W=>wtext_any y W)
 have H0:=Lib.hid (h.on (Below.refl _ _).drew)
 clear h
 cases hx:sp.wNum x with
 | none =>
  have HXx:=Lib.hid hx
  clear hx
  go_enter Tryz.func54,Tryz.ntmps54
  go_wp2
  refine wp_region_held_drew (S:=fun s=>∃cs,RowS w0 B g [x,y] cs s) (by kernel_rfl) ⟨_,H0.out⟩ (fun hHeld => ?_)
  refine tk 0 (.pointer (some ⟨B,0,none⟩)) rfl hHeld (fun s hs=>by obtain ⟨a0,a1,b0,b1⟩:=rc2 hs;go_simp) ?_
  refine tk 1 (.pointer (some ⟨B,0,none⟩)) rfl hHeld (fun s hs=>by obtain ⟨a0,a1,b0,b1⟩:=rc2 hs;go_simp) ?_
  refine tk 2 (.slice (some ⟨g,2,none⟩) 2 c) rfl hHeld (fun s hs=>by obtain ⟨a0,a1,b0,b1⟩:=rc2 hs;go_simp) ?_
  refine tk 3 (.pointer (some ⟨g,2,none⟩)) rfl hHeld (fun s hs=>by obtain ⟨a0,a1,b0,b1⟩:=rc2 hs;go_simp) ?_
  refine tk 4 (.agg #[.string (bstr x.1),.bool x.2]) rfl hHeld (fun s hs=>by obtain ⟨a0,a1,b0,b1⟩:=rc2 hs;go_simp) ?_
  refine tk 6 (.slice (some ⟨g,2,none⟩) 2 c) rfl hHeld (fun s hs=>by obtain ⟨a0,a1,b0,b1⟩:=rc2 hs;go_simp) ?_
  refine tk 7 (.pointer (some ⟨g,4,none⟩)) rfl hHeld (fun s hs=>by obtain ⟨a0,a1,b0,b1⟩:=rc2 hs;go_simp) ?_
  refine tk 8 (.agg #[.string (bstr y.1),.bool y.2]) rfl hHeld (fun s hs=>by obtain ⟨a0,a1,b0,b1⟩:=rc2 hs;go_simp) ?_
  refine rd1 5 rfl fun K hK => ?_
  go_simp
  refine (HCx.out _).mono ?_
  rintro e w1 ⟨he,hb1⟩
  unfold NumIs at he
  rw [HXx.out] at he
  subst he
  have H1:=Lib.hid (H0.out.on hb1)
  clear hb1
  exact ⟨rfl,H1.out.bad⟩
 | some nx =>
  have HXx:=Lib.hid hx
  clear hx
  cases hy:sp.wText y with
  | none =>
   have HXy:=Lib.hid hy
   clear hy
   go_enter Tryz.func54,Tryz.ntmps54
   go_wp2
   refine wp_region_held_drew (S:=fun s=>∃cs,RowS w0 B g [x,y] cs s) (by kernel_rfl) ⟨_,H0.out⟩ (fun hHeld => ?_)
   refine tk 0 (.pointer (some ⟨B,0,none⟩)) rfl hHeld (fun s hs=>by obtain ⟨a0,a1,b0,b1⟩:=rc2 hs;go_simp) ?_
   refine tk 1 (.pointer (some ⟨B,0,none⟩)) rfl hHeld (fun s hs=>by obtain ⟨a0,a1,b0,b1⟩:=rc2 hs;go_simp) ?_
   refine tk 2 (.slice (some ⟨g,2,none⟩) 2 c) rfl hHeld (fun s hs=>by obtain ⟨a0,a1,b0,b1⟩:=rc2 hs;go_simp) ?_
   refine tk 3 (.pointer (some ⟨g,2,none⟩)) rfl hHeld (fun s hs=>by obtain ⟨a0,a1,b0,b1⟩:=rc2 hs;go_simp) ?_
   refine tk 4 (.agg #[.string (bstr x.1),.bool x.2]) rfl hHeld (fun s hs=>by obtain ⟨a0,a1,b0,b1⟩:=rc2 hs;go_simp) ?_
   refine tk 6 (.slice (some ⟨g,2,none⟩) 2 c) rfl hHeld (fun s hs=>by obtain ⟨a0,a1,b0,b1⟩:=rc2 hs;go_simp) ?_
   refine tk 7 (.pointer (some ⟨g,4,none⟩)) rfl hHeld (fun s hs=>by obtain ⟨a0,a1,b0,b1⟩:=rc2 hs;go_simp) ?_
   refine tk 8 (.agg #[.string (bstr y.1),.bool y.2]) rfl hHeld (fun s hs=>by obtain ⟨a0,a1,b0,b1⟩:=rc2 hs;go_simp) ?_
   refine rd1 5 rfl fun K hK => ?_
   go_simp
   refine (HCx.out _).mono ?_
   rintro e w1 ⟨he,hb1⟩
   unfold NumIs at he
   rw [HXx.out] at he
   subst he
   have H1:=Lib.hid (H0.out.on hb1)
   clear hb1
   refine hK.out _ _ ⟨_,H1.out⟩ (fun hHeld => ?_)
   clear hK
   refine rd1 9 rfl fun K hK => ?_
   go_simp
   refine (HCy.out _).mono ?_
   rintro e w2 ⟨he,hb2⟩
   unfold TextWIs at he
   rw [HXy.out] at he
   subst he
   have H2:=Lib.hid (H1.out.on hb2)
   clear hb2
   exact ⟨rfl,H2.out.bad⟩
  | some ty =>
   have HXy:=Lib.hid hy
   clear hy
   go_enter Tryz.func54,Tryz.ntmps54
   go_wp2
   refine wp_region_held_drew (S:=fun s=>∃cs,RowS w0 B g [x,y] cs s) (by kernel_rfl) ⟨_,H0.out⟩ (fun hHeld => ?_)
   refine tk 0 (.pointer (some ⟨B,0,none⟩)) rfl hHeld (fun s hs=>by obtain ⟨a0,a1,b0,b1⟩:=rc2 hs;go_simp) ?_
   refine tk 1 (.pointer (some ⟨B,0,none⟩)) rfl hHeld (fun s hs=>by obtain ⟨a0,a1,b0,b1⟩:=rc2 hs;go_simp) ?_
   refine tk 2 (.slice (some ⟨g,2,none⟩) 2 c) rfl hHeld (fun s hs=>by obtain ⟨a0,a1,b0,b1⟩:=rc2 hs;go_simp) ?_
   refine tk 3 (.pointer (some ⟨g,2,none⟩)) rfl hHeld (fun s hs=>by obtain ⟨a0,a1,b0,b1⟩:=rc2 hs;go_simp) ?_
   refine tk 4 (.agg #[.string (bstr x.1),.bool x.2]) rfl hHeld (fun s hs=>by obtain ⟨a0,a1,b0,b1⟩:=rc2 hs;go_simp) ?_
   refine tk 6 (.slice (some ⟨g,2,none⟩) 2 c) rfl hHeld (fun s hs=>by obtain ⟨a0,a1,b0,b1⟩:=rc2 hs;go_simp) ?_
   refine tk 7 (.pointer (some ⟨g,4,none⟩)) rfl hHeld (fun s hs=>by obtain ⟨a0,a1,b0,b1⟩:=rc2 hs;go_simp) ?_
   refine tk 8 (.agg #[.string (bstr y.1),.bool y.2]) rfl hHeld (fun s hs=>by obtain ⟨a0,a1,b0,b1⟩:=rc2 hs;go_simp) ?_
   refine rd1 5 rfl fun K hK => ?_
   go_simp
   refine (HCx.out _).mono ?_
   rintro e w1 ⟨he,hb1⟩
   unfold NumIs at he
   rw [HXx.out] at he
   subst he
   have H1:=Lib.hid (H0.out.on hb1)
   clear hb1
   refine hK.out _ _ ⟨_,H1.out⟩ (fun hHeld => ?_)
   clear hK
   refine rd1 9 rfl fun K hK => ?_
   go_simp
   refine (HCy.out _).mono ?_
   rintro e w2 ⟨he,hb2⟩
   unfold TextWIs at he
   rw [HXy.out] at he
   subst he
   have H2:=Lib.hid (H1.out.on hb2)
   clear hb2
   refine hK.out _ _ ⟨_,H2.out⟩ (fun hHeld => ?_)
   clear hK
   refine tk 11 (.pointer (some ⟨B,0,none⟩)) rfl hHeld (fun s hs=>by obtain ⟨a0,a1,b0,b1⟩:=rc2 hs;go_simp) ?_
   refine tk 12 (.pointer (some ⟨B,3,none⟩)) rfl hHeld (fun s hs=>by obtain ⟨a0,a1,b0,b1⟩:=rc2 hs;go_simp) ?_
   refine wpAnyH_ready (rs:=[10,13]) (by kernel_rfl) (by simp) ?_
   refine AllReadyH.cons rfl (fun K hK => ?_) (AllReadyH.cons rfl (fun K hK => ?_) AllReadyH.nil)
   ·rw [if_pos (by kernel_rfl)]
    obtain ⟨wc,cp,hcv,hbc,hsz,hrow,hc1,hc2⟩:=conv_bytes2 (w2) ty
    have hsx:(w2).heap.size=w2.heap.size:=by simp
    rw [hsx] at hcv hsz hrow
    have HCV:=Lib.hid (And.intro hsz (And.intro hrow (And.intro hc1 hc2)))
    have HLT:=Lib.hid (show B<w2.heap.size by have:=lt_of_block H2.out.op;rw [hsx] at this;exact this)
    clear hrow hc1 hc2 hsz hsx
    go_simp
    clear hcv
    have H3:=Lib.hid (H2.out.on hbc)
    clear hbc
    refine hK.out _ _ ⟨_,H3.out⟩ (fun hHeld => ?_)
    clear hK
    refine rd1 13 rfl fun K hK => ?_
    have f3:=H3.out.free 3
    have c3:=H3.out.cell 3 (.int .i64 0) rfl
    go_simp
    have H4:=Lib.hid (H3.out.set 3 (.int .i64 nx))
    clear f3 c3
    refine hK.out _ _ ⟨_,H4.out⟩ (fun hHeld => ?_)
    clear hK
    refine tk 14 (.pointer (some ⟨B,0,none⟩)) rfl hHeld (fun s hs=>by obtain ⟨a0,a1,b0,b1⟩:=rc2 hs;go_simp) ?_
    refine tk 15 (.pointer (some ⟨B,6,none⟩)) rfl hHeld (fun s hs=>by obtain ⟨a0,a1,b0,b1⟩:=rc2 hs;go_simp) ?_
    refine rd1 16 rfl fun K hK => ?_
    have f6:=H4.out.free 6
    have c6:=H4.out.cell 6 (.slice none 0 0) rfl
    go_simp
    have H5:=Lib.hid (H4.out.set 6 (.slice (some ⟨w2.heap.size,0,none⟩) ty.length cp))
    clear f6 c6
    refine hK.out _ _ ⟨_,H5.out⟩ (fun hHeld => ?_)
    clear hK
    refine wpAnyH_done (by kernel_rfl) ?_ _
    clear hHeld
    go_simp
    go_end0
    have hne:w2.heap.size≠B:=by have:=HLT.out;omega
    exact H5.out.goodT _ (range_other (range_other HCV.out.2.1 hne _ _) hne _ _) rfl HCV.out.2.2.1 (HCV.out.2.2.2 (by have:=wText_len HXy.out;unfold maxLen;omega)) (by have:=HCV.out.1;simp;omega) H2.out.fr.size rfl
   ·rw [if_pos (by kernel_rfl)]
    have f3:=H2.out.free 3
    have c3:=H2.out.cell 3 (.int .i64 0) rfl
    go_simp
    have H3:=Lib.hid (H2.out.set 3 (.int .i64 nx))
    clear f3 c3
    refine hK.out _ _ ⟨_,H3.out⟩ (fun hHeld => ?_)
    clear hK
    refine rd1 10 rfl fun K hK => ?_
    obtain ⟨wc,cp,hcv,hbc,hsz,hrow,hc1,hc2⟩:=conv_bytes2 (w2.setCell ⟨B,3,none⟩ (.int .i64 nx)) ty
    have hsx:(w2.setCell ⟨B,3,none⟩ (.int .i64 nx)).heap.size=w2.heap.size:=by simp
    rw [hsx] at hcv hsz hrow
    have HCV:=Lib.hid (And.intro hsz (And.intro hrow (And.intro hc1 hc2)))
    have HLT:=Lib.hid (show B<w2.heap.size by have:=lt_of_block H3.out.op;rw [hsx] at this;exact this)
    clear hrow hc1 hc2 hsz hsx
    go_simp
    clear hcv
    have H4:=Lib.hid (H3.out.on hbc)
    clear hbc
    refine hK.out _ _ ⟨_,H4.out⟩ (fun hHeld => ?_)
    clear hK
    refine tk 14 (.pointer (some ⟨B,0,none⟩)) rfl hHeld (fun s hs=>by obtain ⟨a0,a1,b0,b1⟩:=rc2 hs;go_simp) ?_
    refine tk 15 (.pointer (some ⟨B,6,none⟩)) rfl hHeld (fun s hs=>by obtain ⟨a0,a1,b0,b1⟩:=rc2 hs;go_simp) ?_
    refine rd1 16 rfl fun K hK => ?_
    have f6:=H4.out.free 6
    have c6:=H4.out.cell 6 (.slice none 0 0) rfl
    go_simp
    have H5:=Lib.hid (H4.out.set 6 (.slice (some ⟨w2.heap.size,0,none⟩) ty.length cp))
    clear f6 c6
    refine hK.out _ _ ⟨_,H5.out⟩ (fun hHeld => ?_)
    clear hK
    refine wpAnyH_done (by kernel_rfl) ?_ _
    clear hHeld
    go_simp
    go_end0
    have hne:w2.heap.size≠B:=by have:=HLT.out;omega
    exact H5.out.goodT _ (range_other HCV.out.2.1 hne _ _) rfl HCV.out.2.2.1 (HCV.out.2.2.2 (by have:=wText_len HXy.out;unfold maxLen;omega)) (by have:=HCV.out.1;simp;omega) H2.out.fr.size rfl
set_option maxRecDepth 100000 in
set_option maxHeartbeats 2000000 in
theorem row_size (k:Int) (w0 w:World) (B g c:Nat) (x:List UInt8×Bool) (hl:x.1.length≤1099511627776) (h:RowS w0 B g [x] (zeroC k) w):Calls Tryz.prog 52 #[.pointer (some ⟨B,0,none⟩),.slice (some ⟨g,2,none⟩) 1 c] w fun e w'=>RowIs w0 B ((sp.wFrac x).map fun q=>{ kind:=k,w:=q }) e w':=by
 have HN:=Lib.hid (fun W=>wfrac_any x W hl)
 obtain ⟨a0,a1⟩:=h.w0
 have HH:=Lib.hid h
 clear h hl
 cases hx:sp.wFrac x with
 | none =>
  have HX:=Lib.hid hx
  clear hx
  go_enter Tryz.func52,Tryz.ntmps52
  go_wp2_with (go_at_call 53;refine (HN.out _).mono ?_;rintro e w1 ⟨he,hb⟩;unfold FracWIs at he;rw [HX.out] at he;subst he)
  exact ⟨rfl,(HH.out.on hb).bad⟩
 | some q =>
  have HX:=Lib.hid hx
  clear hx
  go_enter Tryz.func52,Tryz.ntmps52
  go_wp2_with (go_at_call 53;refine (HN.out _).mono ?_;rintro e w1 ⟨he,hb⟩;unfold FracWIs at he;rw [HX.out] at he;subst he;have H1:=Lib.hid (HH.out.on hb);have f7:=H1.out.free 7;have c7:=H1.out.cell 7 (.int .i64 0) rfl;have f8:=H1.out.free 8;have c8:=H1.out.cell 8 (.int .i64 0) rfl;clear hb)
  go_end0
  exact ((H1.out.set 7 _).set 8 _).good _ rfl rfl
set_option maxRecDepth 100000 in
set_option maxHeartbeats 2000000 in
theorem row_print (k:Int) (w0 w:World) (B g c:Nat) (x:List UInt8×Bool) (h:RowS w0 B g [x] (zeroC k) w):Calls Tryz.prog 57 #[.pointer (some ⟨B,0,none⟩),.slice (some ⟨g,2,none⟩) 1 c] w fun e w'=>RowIs w0 B ((sp.wPlain x).bind fun s=>if s=sp.kOn then some { kind:=k,on:=true } else if s=sp.kOff then some { kind:=k } else none) e w':=by
 have HN:=Lib.hid (fun W=>wplain_any x W)
 obtain ⟨a0,a1⟩:=h.w0
 have HH:=Lib.hid h
 clear h
 cases hx:sp.wPlain x with
 | none =>
  have HX:=Lib.hid hx
  clear hx
  go_enter Tryz.func57,Tryz.ntmps57
  go_wp2_with (go_at_call 28;refine (HN.out _).mono ?_;rintro e w1 ⟨he,hb⟩;unfold PlainIs at he;rw [HX.out] at he;subst he)
  exact ⟨rfl,(HH.out.on hb).bad⟩
 | some s =>
  have hxs:x.1=s:=by
   unfold sp.wPlain at hx
   split at hx
   ·cases hx
   ·cases hx;rfl
  have HX:=Lib.hid hx
  rw [hxs] at a0
  simp only [hxs] at HN
  have HS:=Lib.hid hxs
  clear hx hxs
  by_cases h1:s=sp.kOn
  ·have q1:=str_eq h1
   have HR:Hid (((some s).bind fun s=>if s=sp.kOn then some { kind:=k,on:=true } else if s=sp.kOff then some { kind:=k } else none)=some { kind:=k,on:=true:sp.Op }):=Lib.hid (by simp [h1])
   clear h1
   go_enter Tryz.func57,Tryz.ntmps57
   go_wp2_with (first
    | (go_at_call 28;refine (HN.out _).mono ?_;rintro e w1 ⟨he,hb⟩;unfold PlainIs at he;rw [HX.out] at he;subst he;have H1:=Lib.hid (HH.out.on hb);have f7:=H1.out.free 17;have c7:=H1.out.cell 17 (.bool false) rfl;clear hb)
    | (go_at_call 23;refine (must_yes _).mono ?_;rintro e w2 ⟨rfl,rfl⟩))
   go_end0
   rw [HR.out]
   exact (H1.out.set 17 _).good _ rfl rfl
  ·have q1:=str_ne h1
   by_cases h2:s=sp.kOff
   ·have q2:=str_eq h2
    have HR:Hid (((some s).bind fun s=>if s=sp.kOn then some { kind:=k,on:=true } else if s=sp.kOff then some { kind:=k } else none)=some { kind:=k:sp.Op }):=Lib.hid (by simp [h1,h2])
    clear h1 h2
    go_enter Tryz.func57,Tryz.ntmps57
    go_wp2_with (first
     | (go_at_call 28;refine (HN.out _).mono ?_;rintro e w1 ⟨he,hb⟩;unfold PlainIs at he;rw [HX.out] at he;subst he;have H1:=Lib.hid (HH.out.on hb);have f7:=H1.out.free 17;have c7:=H1.out.cell 17 (.bool false) rfl;have H2:=Lib.hid (H1.out.set 17 (.bool false));obtain ⟨a20,a21⟩:=H2.out.w0;rw [HS.out] at a20;clear hb)
     | (go_at_call 23;refine (must_yes _).mono ?_;rintro e w2 ⟨rfl,rfl⟩))
    go_end0
    rw [HR.out]
    exact H2.out.good _ rfl rfl
   ·have q2:=str_ne h2
    have HR:Hid (((some s).bind fun s=>if s=sp.kOn then some { kind:=k,on:=true } else if s=sp.kOff then some { kind:=k } else none)=(none:Option sp.Op)):=Lib.hid (by simp [h1,h2])
    clear h1 h2
    go_enter Tryz.func57,Tryz.ntmps57
    go_wp2_with (first
     | (go_at_call 28;refine (HN.out _).mono ?_;rintro e w1 ⟨he,hb⟩;unfold PlainIs at he;rw [HX.out] at he;subst he;have H1:=Lib.hid (HH.out.on hb);have f7:=H1.out.free 17;have c7:=H1.out.cell 17 (.bool false) rfl;have H2:=Lib.hid (H1.out.set 17 (.bool false));obtain ⟨a20,a21⟩:=H2.out.w0;rw [HS.out] at a20;clear hb)
     | (go_at_call 23;refine (must_no _).mono ?_;rintro e w2 ⟨rfl,rfl⟩))
    rw [HR.out]
    exact ⟨rfl,H2.out.bad⟩
set_option maxRecDepth 100000 in
theorem row_count (k:Int) (w0 w:World) (B g c:Nat) (a:Option Addr) (h:RowS w0 B g [] (zeroC k) w):Calls Tryz.prog 62 #[.pointer (some ⟨B,0,none⟩),.slice a 0 c] w fun e w'=>RowIs w0 B (some { kind:=k }) e w':=by
 have HH:=Lib.hid h
 clear h
 go_enter Tryz.func62,Tryz.ntmps62
 go_wp2
 go_end0
 exact HH.out.good _ rfl rfl
set_option maxRecDepth 100000 in
theorem line_idle (p q r:Addr) (w:World) :
  CallsD Tryz.prog 22 #[.pointer (some p),.pointer (some q),.pointer (some r)] .returning w fun e u' w'=>e=.returned (.tuple #[])∧u'=.returning∧w'=w:=by
 refine callsD_of_wpS Tryz.func22 rfl fun c₀ cs hu => ?_
 apply wpS_seq
 apply wpS_region
 simp [wpOpsS,go_sem,recoverD,hu,Tryz.ntmps22,Exit.thenS]
 refine wpS_of_wp ?_
 have e:(#[Value.pointer (some p),Value.pointer (some q),Value.pointer (some r)]++((Array.replicate 15 undef).setIfInBounds 3 Value.nilIface).setIfInBounds 0 Value.nilIface)=#[Value.pointer (some p),Value.pointer (some q),Value.pointer (some r),.nilIface,undef,undef,.nilIface,undef,undef,undef,undef,undef,undef,undef,undef,undef,undef,undef]:=rfl
 rw [e]
 clear e
 go_wp2
 exact ⟨rfl,.returning,by rw [←hu],_,results_none rfl _ _ _,rfl,rfl,rfl⟩
structure Res (B S E:Nat) (cs:Array Value) (sy:Bool) (er:Int) (W:World):Prop where
 op:W.heap[B]?=some (.cells cs 28 (0,0))
 says:W.heap[S]?=some (.cells #[.bool sy] 4 (0,0))
 err:W.heap[E]?=some (.cells #[.int .i64 er] 29 (0,0))
theorem setRow_at {w:World} {g:Nat} {old:Array Value} {t:TypeId} {fz:Nat×Nat} (h:w.heap[g]?=some (.cells old t fz)) (cells:Array Value):(w.setRow g cells).heap[g]?=some (.cells cells t fz):=by
 have hlt:=lt_of_block h
 have h':w.heap[g]=.cells old t fz:=by simpa [Array.getElem?_eq_getElem hlt] using h
 show (w.heap.modify g _)[g]?=_
 rw [Array.getElem?_eq_getElem (by simpa using hlt),Array.getElem_modify_self,h']
theorem setRow_far {w:World} {g k:Nat} (cells:Array Value) (h:g≠k):(w.setRow g cells).heap[k]?=w.heap[k]?:=by
 show (w.heap.modify g _)[k]?=_
 rw [Array.getElem?_modify]
 simp [h]
theorem res_zero {B S E:Nat} {cs:Array Value} {sy:Bool} {er:Int} {w:World} (h:Res B S E cs sy er w) (h1:B≠S) (h2:B≠E):Res B S E (zeroC 0) sy er ((w.alloc (.cells #[] 54)).setRow B (zeroC 0))∧(∀n,n≤B→Below n w ((w.alloc (.cells #[] 54)).setRow B (zeroC 0))) :=
 ⟨⟨setRow_at (heap_old _ _ _ h.op) _,(setRow_far _ h1).trans (heap_old _ _ _ h.says),(setRow_far _ h2).trans (heap_old _ _ _ h.err)⟩,
  fun n hn=>below_setRow ((Below.refl n w).alloc (by have:=lt_of_block h.op;omega) _) hn _⟩
theorem Res.cells {B S E:Nat} {cs:Array Value} {sy:Bool} {er:Int} {w:World} (h:Res B S E cs sy er w):w.cell? ⟨S,0,none⟩=some (.bool sy)∧w.cell? ⟨E,0,none⟩=some (.int .i64 er)∧w.frozen? ⟨S,0,none⟩=false∧w.frozen? ⟨E,0,none⟩=false :=
 ⟨by rw [Lib.cell_of_heap h.says];rfl,by rw [Lib.cell_of_heap h.err];rfl,blk_free h.says 0,blk_free h.err 0⟩
theorem Res.fin {B S E:Nat} {cs:Array Value} {sy:Bool} {er:Int} {w:World} (h:Res B S E cs sy er w) (h1:B≠S) (h2:B≠E) (h3:S≠E) (sy':Bool) (er':Int):Res B S E cs sy' er' ((w.setCell ⟨S,0,none⟩ (.bool sy')).setCell ⟨E,0,none⟩ (.int .i64 er'))∧(∀n,n≤S→n≤E→Below n w ((w.setCell ⟨S,0,none⟩ (.bool sy')).setCell ⟨E,0,none⟩ (.int .i64 er'))):=by
 refine ⟨⟨(heap_other (Ne.symm h2) _ _).trans ((heap_other (Ne.symm h1) _ _).trans h.op),(heap_other (Ne.symm h3) _ _).trans ?_,?_⟩,fun n hs he=>((Below.refl n w).setCell hs _).setCell he _⟩
 ·have:=blk_set h.says 0 (.bool sy')
  simpa using this
 ·have:=blk_set ((heap_other h3 0 (.bool sy')).trans h.err) 0 (.int .i64 er')
  simpa using this
theorem zero_one:(zeroC 0).all (·.oneCell')=true:=by simp [zeroC,opCells,Value.oneCell']
theorem ta54 (w:World):(Instr.typeAssert (.iface 54 (.agg #[])) 20 54 true).run Tryz.prog w=.ok (.tuple #[.agg #[],.bool true]) w:=by kernel_rfl
set_option maxRecDepth 100000 in
set_option maxHeartbeats 2000000 in
theorem line_bar (B S E:Nat) (cs:Array Value) (sy:Bool) (er:Int) (w:World) (h:Res B S E cs sy er w) (hc:cs.size=18) (h1:B≠S) (h2:B≠E) (h3:S≠E) :
  CallsD Tryz.prog 22 #[.pointer (some ⟨B,0,none⟩),.pointer (some ⟨S,0,none⟩),.pointer (some ⟨E,0,none⟩)] (.panicking bar) w fun e u' w'=>e=.returned (.tuple #[])∧u'=.panicking [{ v:=.iface 54 (.agg #[]),recovered:=true }]∧Res B S E (zeroC 0) false 12 w'∧(∀n,n≤B→n≤S→n≤E→Below n w w'):=by
 have HR:=Lib.hid h
 have s0:w.cell? ⟨S,0,none⟩=some (.bool sy):=by rw [Lib.cell_of_heap h.says];rfl
 have e0:w.cell? ⟨E,0,none⟩=some (.int .i64 er):=by rw [Lib.cell_of_heap h.err];rfl
 have z0:=blk_free h.says 0
 have z1:=blk_free h.err 0
 have hta:=ta54
 have HC:=Lib.hid hc
 clear h
 unfold bar
 refine callsD_of_wpS Tryz.func22 rfl fun c₀ fs hu => ?_
 apply wpS_seq
 apply wpS_region
 simp [wpOpsS,go_sem,recoverD,hu,Tryz.ntmps22,Exit.thenS]
 refine wpS_of_wp ?_
 have e:(#[Value.pointer (some ⟨B,0,none⟩),Value.pointer (some ⟨S,0,none⟩),Value.pointer (some ⟨E,0,none⟩)]++((Array.replicate 15 undef).setIfInBounds 3 (.iface 54 (.agg #[]))).setIfInBounds 0 (.iface 54 (.agg #[])))=#[Value.pointer (some ⟨B,0,none⟩),Value.pointer (some ⟨S,0,none⟩),Value.pointer (some ⟨E,0,none⟩),(.iface 54 (.agg #[])),undef,undef,(.iface 54 (.agg #[])),undef,undef,undef,undef,undef,undef,undef,undef,undef,undef,undef]:=rfl
 rw [e]
 clear e hu
 go_wp2_with (refine wpList_store_row rfl 28 _ _ rfl B (zeroC 0) rfl rfl 28 cs (heap_old _ _ _ HR.out.op) size28' HC.out zero_one ?_;obtain ⟨hr2,hb2⟩:=res_zero HR.out h1 h2;generalize (w.alloc (.cells #[] 54)).setRow B (zeroC 0)=W2 at hr2 hb2 ⊢; have HR2:=Lib.hid hr2;have HB2:=Lib.hid hb2;obtain ⟨k0,k1,y0,y1⟩:=hr2.cells;clear hr2 hb2)
 have HF:=HR2.out.fin h1 h2 h3 false 12
 exact ⟨rfl,_,rfl,_,results_none rfl _ _ _,rfl,rfl,HF.1,fun n q1 q2 q3=>(HB2.out n q1).trans (HF.2 n q2 q3)⟩
theorem cell_heap2 {W W':World} {g:Nat} (h:W'.heap[g]?=W.heap[g]?) (k:Nat):W'.cell? ⟨g,k,none⟩=W.cell? ⟨g,k,none⟩:=by unfold World.cell?;rw [h]
def opRow (p:sp.Op×Value):List Value:=(opCells p.1 p.2).toList
theorem opRow_len (p:sp.Op×Value):(opRow p).length=18:=rfl
structure SameRow (w:World) (v:Value) (L:List (sp.Op×Value)):Prop where
 row:RowAt w.heap.size w v L.length (L.flatMap opRow)
 texts:∀p∈L,RowAt w.heap.size w p.2 p.1.text.length (Lib.byteCells p.1.text)
theorem SameRow.on {w w':World} {v:Value} {L:List (sp.Op×Value)} (h:SameRow w v L) (hb:Below w.heap.size w w'):SameRow w' v L :=
 ⟨(h.row.keep hb).mono hb.size,fun p hp=>((h.texts p hp).keep hb).mono hb.size⟩
theorem one_op' {o:sp.Op} {tv:Value} {B n:Nat} {W:World} {cs:List Value} (h:RowAt B W tv n cs):(opCells o tv).all (·.oneCell')=true:=by
 obtain ⟨a,cap,rfl⟩:=h.slice
 simp [opCells,Value.oneCell']
theorem SameRow.el {w wr:World} {a:Option Addr} {c n:Nat} {L:List (sp.Op×Value)} (h:SameRow w (.slice a n c) L) (hb:Below w.heap.size w wr) {k:Nat} (hk:k<L.length):∃b off,a=some ⟨b,off,none⟩∧b<w.heap.size∧(∀j u,(opCells L[k].1 L[k].2).toList[j]?=some u→wr.cell? ⟨b,off+k*18+j,none⟩=some u)∧RowAt w.heap.size wr L[k].2 L[k].1.text.length (Lib.byteCells L[k].1.text):=by
 have hn:n=L.length:=by obtain ⟨_,_,e,_⟩:=h.row;cases e;rfl
 subst hn
 obtain ⟨bx,off,rfl,hbx,hrg⟩:=h.row.place (by omega)
 refine ⟨bx,off,rfl,hbx,fun j u hj => ?_,(h.texts _ (List.getElem_mem hk)).keep hb⟩
 have hj18:j<18:=(List.getElem?_eq_some_iff.1 hj).1
 have:=rangeAt_below hb hbx hrg (k*18+j) u (by rw [flat_at opRow_len L k hk j hj18];exact hj)
 rw [←Nat.add_assoc] at this
 exact this
theorem st_new {wr W:World} {cs:Array Value} (h:W=(wr.alloc (.cells (zeroC 0) 28)).setRow wr.heap.size cs):W.heap[wr.heap.size]?=some (.cells cs 28 (0,0))∧Below wr.heap.size wr W:=by
 subst h
 exact ⟨setRow_at (heap_alloc_at _ _) _,below_setRow (below_new wr _) (Nat.le_refl _) _⟩
section
variable {ops:Array Oper} {rest:List Oper} {op:Oper} {a:Act} {Q:Exit→Act→World→Prop} {W:World}
theorem wpl_st28' (hgd:op.guard=none) (x y:Operand) (hop:op.op=.store 28 x y) (g:Nat) (cells:Array Value) (hx:a.eval x=.pointer (some ⟨g,0,none⟩)) (hy:a.eval y=.agg cells) (old:Array Value) (hg:W.heap[g]?=some (.cells old 28 (0,0))) (ho:old.size=18) (hc:cells.size=18) (h1:cells.all (·.oneCell')=true)
  (h:∀W',W'=W.setRow g cells→wpList Tryz.prog ops Q rest (a.put op.dst undef) W'):wpList Tryz.prog ops Q (op :: rest) a W :=
 wpList_store_row hgd 28 x y hop g cells hx hy 28 old hg (by rw [hc];exact size28') (by rw [ho,hc]) h1 (h _ rfl)
end
set_option maxRecDepth 100000 in
set_option maxHeartbeats 16000000 in
theorem same_any (w:World) (va vb:Value) (A C:List (sp.Op×Value)) (ha:SameRow w va A) (hb:SameRow w vb C) (he:A.map (·.1)=C.map (·.1)) (hn:A.length≤1099511627776):Calls Tryz.prog 15 #[va,vb] w fun e w'=>e=.returned (.bool true)∧Below w.heap.size w w':=by
 have hl:A.length=C.length:=by have:=congrArg List.length he;simpa using this
 obtain ⟨aa,ca,rfl⟩:=ha.row.slice
 obtain ⟨ab,cb,rfl⟩:=hb.row.slice
 have HA:=Lib.hid ha;have HC:=Lib.hid hb;have HE:=Lib.hid he;have HN:=Lib.hid hn
 have HL:=Lib.hid hl
 rw [hl] at HA ⊢
 have HLN:Hid ((C.length:Int)≤1099511627776):=Lib.hid (by omega)
 clear ha hb he hn hl
 go_enter Tryz.func15,Tryz.ntmps15
 go_wp2
 go_loopw [5,15] (fun j i wr=>∃k:Nat,k≤C.length∧i=.int .i64 k∧Below w.heap.size w wr) (fun _ i _=>C.length-(intOf i).toNat)
 case atStart=>exact ⟨0,Nat.zero_le _,rfl,Below.refl _ _⟩
 case round =>
  obtain ⟨k,hk,rfl,hbl⟩:=hrel
  have HB:=Lib.hid hbl
  have hkb:(k:Int)≤1099511627776:=by have:=HLN.out;omega
  clear hbl
  by_cases hlt:k<C.length
  ·have t0:decide ((k:Int)<(C.length:Int))=true:=by simp;omega
   have hltA:k<A.length:=by have:=HL.out;omega
   obtain ⟨b1,o1,rfl,hx1,hc1,hr1⟩:=SameRow.el HA.out HB.out hltA
   obtain ⟨b2,o2,rfl,hx2,hc2,hr2⟩:=HC.out.el HB.out hlt
   have heq:A[k].1=C[k].1:=by
    have h1:(A.map (·.1))[k]?=(C.map (·.1))[k]?:=by rw [HE.out]
    simpa [hltA,hlt] using h1
   obtain ⟨o,ho⟩:∃o,o=C[k].1:=⟨_,rfl⟩
   rw [heq] at hc1 hr1
   rw [←ho] at hc1 hr1 hc2 hr2
   generalize A[k].2=ta at hc1 hr1
   generalize C[k].2=tb at hc2 hr2
   clear heq ho hltA
   have HX2:Hid (b2<wr.heap.size):=Lib.hid (Nat.lt_of_lt_of_le hx2 HB.out.size);clear hx1 hx2
   have HC1:=Lib.hid hc1;have HC2:=Lib.hid hc2;have HR1:=Lib.hid hr1;have HR2:=Lib.hid hr2
   have HO1:=Lib.hid (one_op' (o:=o) hr1);have HO2:=Lib.hid (one_op' (o:=o) hr2)
   clear hc1 hc2 hr1 hr2
   go_wp2_with (first
    | (have hgd:=HC1;clear hgd;refine wpList_load_range rfl 28 _ rfl b1 (o1+k*18) rfl (opCells o ta) _ HC1.out Tryz.underlying28 rfl size28' ?_;clear HC1)
    | (have hgd:=HO1;clear hgd;refine wpl_st28' rfl _ _ rfl wr.heap.size (opCells o ta) rfl rfl _ (heap_alloc_at _ _) rfl rfl HO1.out ?_;intro W1 hW1;obtain ⟨q1,q2⟩:=st_new hW1;have HQ1:=Lib.hid q1;have HB1:=Lib.hid (HB.out.trans (q2.mono HB.out.size));have HC3:=Lib.hid (fun j u hj=>(cell_heap2 (q2.block b2 HX2.out) _).trans (HC2.out j u hj));have HW1:=Lib.hid (q2.mono HB.out.size);clear hW1 q1 q2 HO1 HC2)
    | (have hgd:=HC3;clear hgd;refine wpList_load_range rfl 28 _ rfl b2 (o2+k*18) rfl (opCells o tb) _ HC3.out Tryz.underlying28 rfl size28' ?_;clear HC3)
    | (have hgd:=HO2;clear hgd;refine wpl_st28' rfl _ _ rfl W1.heap.size (opCells o tb) rfl rfl _ (heap_alloc_at _ _) rfl rfl HO2.out ?_;intro W2 hW2;obtain ⟨q1,q2⟩:=st_new hW2;have HB2:=Lib.hid (HB1.out.trans (q2.mono HB1.out.size));have HW2:=HW1.out.trans (q2.mono HB1.out.size);have HQ2:=(q2.block _ (lt_of_block HQ1.out)).trans HQ1.out;have a0:=blk_cell HQ2 0 (.int .i64 o.kind) rfl;have a1:=blk_cell HQ2 1 (.int .i64 o.node) rfl;have a2:=blk_cell HQ2 2 (.int .i64 o.at_) rfl;have a3:=blk_cell HQ2 3 (.int .i64 o.origin) rfl;have a4:=blk_cell HQ2 4 (.string (bstr o.name)) rfl;have a5:=blk_cell HQ2 5 (.string (bstr o.word)) rfl;have a6:=blk_cell HQ2 6 (ta) rfl;have a7:=blk_cell HQ2 7 (.int .i64 o.w.1) rfl;have a8:=blk_cell HQ2 8 (.int .i64 o.w.2) rfl;have a9:=blk_cell HQ2 9 (.int .i64 o.h.1) rfl;have a10:=blk_cell HQ2 10 (.int .i64 o.h.2) rfl;have a11:=blk_cell HQ2 11 (.int .i64 o.bt) rfl;have a12:=blk_cell HQ2 12 (.string (bstr o.bn)) rfl;have a13:=blk_cell HQ2 13 (.int .i64 o.bw.1) rfl;have a14:=blk_cell HQ2 14 (.int .i64 o.bw.2) rfl;have a15:=blk_cell HQ2 15 (.int .i64 o.bh.1) rfl;have a16:=blk_cell HQ2 16 (.int .i64 o.bh.2) rfl;have a17:=blk_cell HQ2 17 (.bool o.on) rfl;have b0:=blk_cell q1 0 (.int .i64 o.kind) rfl;have b1:=blk_cell q1 1 (.int .i64 o.node) rfl;have b2:=blk_cell q1 2 (.int .i64 o.at_) rfl;have b3:=blk_cell q1 3 (.int .i64 o.origin) rfl;have b4:=blk_cell q1 4 (.string (bstr o.name)) rfl;have b5:=blk_cell q1 5 (.string (bstr o.word)) rfl;have b6:=blk_cell q1 6 (tb) rfl;have b7:=blk_cell q1 7 (.int .i64 o.w.1) rfl;have b8:=blk_cell q1 8 (.int .i64 o.w.2) rfl;have b9:=blk_cell q1 9 (.int .i64 o.h.1) rfl;have b10:=blk_cell q1 10 (.int .i64 o.h.2) rfl;have b11:=blk_cell q1 11 (.int .i64 o.bt) rfl;have b12:=blk_cell q1 12 (.string (bstr o.bn)) rfl;have b13:=blk_cell q1 13 (.int .i64 o.bw.1) rfl;have b14:=blk_cell q1 14 (.int .i64 o.bw.2) rfl;have b15:=blk_cell q1 15 (.int .i64 o.bh.1) rfl;have b16:=blk_cell q1 16 (.int .i64 o.bh.2) rfl;have b17:=blk_cell q1 17 (.bool o.on) rfl;have hva:=conv_row (HR1.out.keep HW2);have hvb:=conv_row (HR2.out.keep HW2);clear hW2 q1 q2 HO2 HQ1 HQ2 HW2))
   exact ⟨⟨k+1,by omega,by go_num,HB2.out⟩,by simp [intOf];omega⟩
  ·have t0:decide ((k:Int)<(C.length:Int))=false:=by simp;omega
   go_wp2
   go_ret
   exact ⟨rfl,HB.out⟩
theorem info28':(Tryz.prog.info? 28).map (fun i=>(i.zero,i.size,i.bytes))=some (some (.agg #[.int .i64 0,.int .i64 0,.int .i64 0,.int .i64 0,.string ⟨#[]⟩,.string ⟨#[]⟩,.slice none 0 0,.int .i64 0,.int .i64 0,.int .i64 0,.int .i64 0,.int .i64 0,.string ⟨#[]⟩,.int .i64 0,.int .i64 0,.int .i64 0,.int .i64 0,.bool false]),18,184):=by kernel_rfl
theorem range18:Array.range 18=#[0,1,2,3,4,5,6,7,8,9,10,11,12,13,14,15,16,17]:=by decide
section
variable {ops:Array Oper} {rest:List Oper} {op:Oper} {a:Act} {Q:Exit→Act→World→Prop} {w:World}
theorem wpl_run (hgd:op.guard=none) {v:Value} {w':World} (hr:(execOp a.eval op).run Tryz.prog w=.ok (.value v) w') (h:wpList Tryz.prog ops Q rest (a.put op.dst v) w'):wpList Tryz.prog ops Q (op :: rest) a w :=
 wpList_plain hgd fun _ hK=>by unfold Oper.wp;rw [hr];exact hK _ _ h
theorem wpl_box28 (hgd:op.guard=none) (x:Operand) (hop:op.op=.box 28 x) (cs:Array Value) (hx:a.eval x=.agg cs)
  (h:∀w',w'.heap[w.heap.size]?=some (.cells cs 28 (0,0))→Below w.heap.size w w'→wpList Tryz.prog ops Q rest (a.put op.dst (.pointer (some ⟨w.heap.size,0,none⟩))) w'):wpList Tryz.prog ops Q (op :: rest) a w:=by
 refine wpl_run hgd (w':=w.alloc (.cells cs 28)) ?_ (h _ (heap_alloc_at w _) (below_new w _))
 unfold execOp
 simp [hop,hx,Instr.box,newVar,newRow,Result.andThen,Value.cells]
theorem wpl_slice28 (hgd:op.guard=none) (x:Operand) (hop:op.op=.buildSlice 35 1 #[(0,x)]) (o:sp.Op) (tv:Value) (hx:a.eval x=.agg (opCells o tv))
  (h:∀w',w'.heap[w.heap.size]?=some (.cells (opCells o tv) 28 (0,0))→Below w.heap.size w w'→wpList Tryz.prog ops Q rest (a.put op.dst (.slice (some ⟨w.heap.size,0,none⟩) 1 1)) w'):wpList Tryz.prog ops Q (op :: rest) a w:=by
 refine wpl_run hgd (w':=w.alloc (.cells (opCells o tv) 28)) ?_ (h _ (heap_alloc_at w _) (below_new w _))
 obtain ⟨i,hi,hz,hs,hb⟩:=info_parts info28'
 unfold execOp
 simp [hop,hx,Instr.buildSlice,run_underlying Tryz.underlying35,sizeOf,zeroValue,typeInfo,hi,hz,hs,Builtin.zeroCells,Instr.fill,Value.cells,newRow,Result.andThen,opCells,range18]
end
theorem one_row {w:World} {g:Nat} {o:sp.Op} {tv:Value} (hg:w.heap[g]?=some (.cells (opCells o tv) 28 (0,0))) (hr:RowAt w.heap.size w tv o.text.length (Lib.byteCells o.text)):SameRow w (.slice (some ⟨g,0,none⟩) 1 1) [(o,tv)] :=
 ⟨⟨_,_,rfl,Nat.le_refl _,by unfold maxLen;simp,.inr ⟨by simp,g,0,rfl,lt_of_block hg,fun j u hu=>by
  rw [Nat.zero_add]
  exact blk_cell hg j u (by simpa [opRow] using hu)⟩⟩,fun p hp=>by
  rw [List.mem_singleton.1 hp]
  exact hr⟩
set_option maxRecDepth 100000 in
set_option maxHeartbeats 4000000 in
theorem sameOp_any (w:World) (o:sp.Op) (ta tb:Value) (h1:RowAt w.heap.size w ta o.text.length (Lib.byteCells o.text)) (h2:RowAt w.heap.size w tb o.text.length (Lib.byteCells o.text)):Calls Tryz.prog 11 #[.agg (opCells o ta),.agg (opCells o tb)] w fun e w'=>e=.returned (.bool true)∧Below w.heap.size w w':=by
 have H1:=Lib.hid h1;have H2:=Lib.hid h2
 clear h1 h2
 go_enter Tryz.func11,Tryz.ntmps11
 go_wp2_with (first
  | (have hgd:=H1;clear hgd;refine wpl_box28 rfl _ rfl (opCells o ta) rfl ?_;intro w1 p1 p2;have A1:=Lib.hid p1;have B1:=Lib.hid p2;clear p1 p2)
  | (have hgd:=A1;clear hgd;refine wpl_box28 rfl _ rfl (opCells o tb) rfl ?_;intro w2 p1 p2;have A2:=Lib.hid p1;have B2:=Lib.hid (B1.out.trans (p2.mono B1.out.size));have A1':=Lib.hid ((p2.block _ (lt_of_block A1.out)).trans A1.out);clear p1 p2 A1)
  | (have hgd:=A1';clear hgd;refine wpList_load_row rfl 28 _ rfl w.heap.size rfl 28 (opCells o ta) (0,0) _ A1'.out Tryz.underlying28 rfl size28' ?_;clear A1')
  | (have hgd:=A2;clear hgd;refine wpl_slice28 rfl _ rfl o ta rfl ?_;intro w3 p1 p2;have A3:=Lib.hid p1;have B3:=Lib.hid (B2.out.trans (p2.mono B2.out.size));have A2':=Lib.hid ((p2.block _ (lt_of_block A2.out)).trans A2.out);clear p1 p2 A2)
  | (have hgd:=A2';clear hgd;refine wpList_load_row rfl 28 _ rfl w1.heap.size rfl 28 (opCells o tb) (0,0) _ A2'.out Tryz.underlying28 rfl size28' ?_;clear A2')
  | (have hgd:=A3;clear hgd;refine wpl_slice28 rfl _ rfl o tb rfl ?_;intro w4 p1 p2;have A4:=Lib.hid p1;have B4:=Lib.hid (B3.out.trans (p2.mono B3.out.size));have A3':=Lib.hid ((p2.block _ (lt_of_block A3.out)).trans A3.out);clear p1 p2 A3)
  | (have hgd:=A4;clear hgd;go_at_call 15;refine (same_any _ _ _ [(o,ta)] [(o,tb)] (one_row A3'.out ((H1.out.keep B4.out).mono B4.out.size)) (one_row A4.out ((H2.out.keep B4.out).mono B4.out.size)) rfl (by simp)).mono ?_;rintro e w5 ⟨rfl,hb5⟩;have B5:=Lib.hid (B4.out.trans (hb5.mono B4.out.size));clear hb5))
 go_ret
 exact ⟨rfl,B5.out⟩
def rhexV (c:UInt8):Value:=match sp.hexv c with
 | some k=>.tuple #[.int .u8 k,.bool true]
 | none=>.tuple #[.int .u8 0,.bool false]
set_option maxRecDepth 100000 in
set_option maxHeartbeats 1000000 in
theorem rhex_any (c:UInt8) (w:World):Calls Tryz.prog 95 #[.int .u8 c.toNat] w fun e w'=>e=.returned (rhexV c)∧w'=w:=by
 have hc:=c.toNat_lt
 by_cases h1:48≤c.toNat∧c.toNat≤57
 ·have t1:decide ((c.toNat:Int)≥48)=true:=by simp;omega
  have t2:decide ((c.toNat:Int)≤57)=true:=by simp;omega
  have HX:=Lib.hid (hexv_dig h1)
  have hv:((c.toNat:Int)-48)=((c.toNat-48:Nat):Int):=by omega
  clear h1
  go_enter Tryz.func95,Tryz.ntmps95
  go_wp2
  go_ret2
  exact ⟨by unfold rhexV;rw [HX.out];rfl,rfl⟩
 ·by_cases h2:97≤c.toNat∧c.toNat≤102
  ·have t1:decide ((c.toNat:Int)≥48)=true:=by simp;omega
   have t2:decide ((c.toNat:Int)≤57)=false:=by simp;omega
   have t3:decide ((c.toNat:Int)≥97)=true:=by simp;omega
   have t4:decide ((c.toNat:Int)≤102)=true:=by simp;omega
   have HX:=Lib.hid (hexv_let h1 h2)
   have hv:((c.toNat:Int)-97)=((c.toNat-97:Nat):Int):=by omega
   have hv2:(((c.toNat-97:Nat):Int)+10)=((c.toNat-87:Nat):Int):=by omega
   clear h1 h2
   go_enter Tryz.func95,Tryz.ntmps95
   go_wp2
   go_ret2
   exact ⟨by unfold rhexV;rw [HX.out];rfl,rfl⟩
  ·have HX:=Lib.hid (hexv_non h1 h2)
   have fin:Ending.returned (.tuple #[.int .u8 0,.bool false])=.returned (rhexV c):=by unfold rhexV;rw [HX.out]
   have FIN:=Lib.hid fin
   clear fin
   by_cases q1:48≤c.toNat
   ·have t1:decide ((c.toNat:Int)≥48)=true:=by simp;omega
    have t2:decide ((c.toNat:Int)≤57)=false:=by simp;omega
    by_cases q2:97≤c.toNat
    ·have t3:decide ((c.toNat:Int)≥97)=true:=by simp;omega
     have t4:decide ((c.toNat:Int)≤102)=false:=by simp;omega
     clear h1 h2 q1 q2
     go_enter Tryz.func95,Tryz.ntmps95
     go_wp2
     go_ret2
     exact ⟨FIN.out,rfl⟩
    ·have t3:decide ((c.toNat:Int)≥97)=false:=by simp;omega
     clear h1 h2 q1 q2
     go_enter Tryz.func95,Tryz.ntmps95
     go_wp2
     go_ret2
     exact ⟨FIN.out,rfl⟩
   ·have t1:decide ((c.toNat:Int)≥48)=false:=by simp;omega
    have t3:decide ((c.toNat:Int)≥97)=false:=by simp;omega
    clear h1 h2 q1
    go_enter Tryz.func95,Tryz.ntmps95
    go_wp2
    go_ret2
    exact ⟨FIN.out,rfl⟩
def rquoteV (n:Nat) (r:List UInt8):Value:=match sp.qread r with
 | some (t,u)=>.tuple #[.string (bstr t),.int .i64 (n-u.length:Nat),.bool true]
 | none=>.tuple #[.string ⟨#[]⟩,.int .i64 0,.bool false]
structure OutR (w:World) (t:List UInt8) (d:Value) (wr:World):Prop where
 own:wr.ownsRow w.heap.size 5 1 d t.length (Lib.byteCells t)
 bel:Below w.heap.size w wr
theorem OutR.app {w wr w':World} {t:List UInt8} {d v':Value} {c:UInt8} {o:Obj} (h:OutR w t d wr) (hown:w'.ownsRow w.heap.size 5 1 v' (t++[c]).length (Lib.byteCells (t++[c]))) (hg:(wr.alloc o).grownBy w' d.ownBlock):OutR w (t++[c]) v' w' :=
 ⟨hown,(h.bel.alloc h.bel.size o).grown hg (by have:=h.bel.size;simp;omega) fun k hk=>by have:=h.own.lt k hk;omega⟩
theorem bstr_idx {S p r:List UInt8} {c:UInt8} (h:S=p++c :: r):∀q,(bstr S)[p.length]'q=c:=fun q=>by
 have:(bstr S).data.toList=p++c :: r:=by rw [bstr_toList,h]
 exact line_at this q
set_option maxRecDepth 100000 in
set_option maxHeartbeats 8000000 in
theorem rquote_any (S p r:List UInt8) (w:World) (hS:S=p++34 :: r) (hn:S.length≤1099511627776):Calls Tryz.prog 63 #[.string (bstr S),.int .i64 p.length] w fun e w'=>e=.returned (rquoteV S.length r)∧Below w.heap.size w w':=by
 have HO:Hid (OutR w [] (.slice none 0 0) w):=Lib.hid ⟨World.ownsRow_nil _ _ _ _,Below.refl _ _⟩
 have hlen:=congrArg List.length hS
 simp only [List.length_append,List.length_cons] at hlen
 have hp:(p.length:Int)≤1099511627776:=by omega
 have HS:=Lib.hid hS;have HN:=Lib.hid hn;have HLEN:=Lib.hid hlen
 have hsz:=bstr_size S
 clear hS hlen hn
 go_enter Tryz.func63,Tryz.ntmps63
 go_wp2
 go_loopw [1,7] (fun i d wr=>∃p1 r1 t1,S=p1++r1∧i=.int .i64 (p1.length:Nat)∧OutR w t1 d wr∧(sp.qread r=(sp.qread r1).map fun q=>(t1++q.1,q.2))∧t1.length+r1.length≤S.length) (fun i _ _=>S.length-(intOf i).toNat)
 case atStart=>exact ⟨p++[34],r,[],by rw [HS.out];simp,by simp,HO.out,by cases sp.qread r<;>simp,by have:=HLEN.out;simp;omega⟩
 case round =>
  obtain ⟨p1,r1,t1,hS1,rfl,ho,hq,htl⟩:=hrel
  have HTL:=Lib.hid htl
  clear htl
  have HO1:=Lib.hid ho;have HQ:=Lib.hid hq;have HS1:=Lib.hid hS1
  have hl1:=congrArg List.length hS1
  rw [List.length_append] at hl1
  have hp1:(p1.length:Int)≤1099511627776:=by have:=HN.out;omega
  clear ho hq hS1 HO
  match r1 with
  | [] =>
   have t0:decide ((p1.length:Int)<(S.length:Int))=false:=by simp at hl1;simp;omega
   have HF:Hid (rquoteV S.length r=.tuple #[.string ⟨#[]⟩,.int .i64 0,.bool false]):=Lib.hid (by unfold rquoteV;rw [HQ.out,sp.qread_nil];rfl)
   go_wp2
   go_ret3
   exact ⟨by rw [HF.out];rfl,HO1.out.bel⟩
  | c :: r2 =>
   have t0:decide ((p1.length:Int)<(S.length:Int))=true:=by simp at hl1;simp;omega
   have hlt:p1.length<S.length:=by simp at hl1;omega
   have ei:=bstr_idx HS1.out
   by_cases e34:c=34
   ·subst e34
    have hcv:=conv_own HO1.out.own
    have HF:Hid (rquoteV S.length r=.tuple #[.string (bstr t1),.int .i64 ((p1.length:Int)+1),.bool true]):=Lib.hid (by
     unfold rquoteV
     rw [HQ.out,sp.qread_end]
     simp only [List.length_cons] at hl1
     simp
     omega)
    go_wp2
    go_ret3
    exact ⟨by rw [HF.out];rfl,HO1.out.bel⟩
   ·have t34:((c.toNat:Int)==34)=false:=u8ne c 34 e34
    by_cases e92:c=92
    ·subst e92
     match r2 with
     | [] =>
      have HE:Hid (escS []=none):=Lib.hid rfl
      have t1':decide ((S.length:Int)≤(p1.length:Int)+1)=true:=by simp at hl1;simp;omega
      have HF:Hid (rquoteV S.length r=.tuple #[.string ⟨#[]⟩,.int .i64 0,.bool false]):=Lib.hid (by unfold rquoteV;rw [HQ.out,qread_esc,HE.out];rfl)
      go_wp2
      go_ret3
      exact ⟨by rw [HF.out];rfl,HO1.out.bel⟩
     | d :: r3 =>
      have HS2:Hid (S=(p1++[92])++d :: r3):=Lib.hid (by rw [HS1.out];simp)
      have ei2:∀q,(bstr S)[p1.length+1]'q=d:=by have:=bstr_idx HS2.out;simpa using this
      have t1':decide ((S.length:Int)≤(p1.length:Int)+1)=false:=by simp at hl1;simp;omega
      have hlt2:p1.length+1<S.length:=by simp at hl1;omega
      by_cases h1:d=92∨d=34
      ·have HE:Hid (escS (d :: r3)=some (d,r3)):=Lib.hid (by simp only [escS,if_pos h1])
       have HQ2:Hid (sp.qread r=(sp.qread r3).map fun q=>((t1++[d])++q.1,q.2)):=Lib.hid (by
        rw [HQ.out,qread_esc,HE.out]
        show Option.map _ (Option.map _ (sp.qread r3))=_
        rw [Option.map_map]
        congr 1
        funext q
        simp)
       rcases h1 with rfl | rfl
       ·go_wp2_with (at_builtin;refine wpl_append_bytes rfl _ _ rfl w.heap.size t1 _ rfl (HO1.out.own.alloc _) wr.heap.size 1 [92] _ (0,0) rfl rfl rfl (heap_alloc_at _ _) (by have:=HTL.out;have:=HN.out;omega) (by have:=HO1.out.bel.size;simp;omega) ?_;intro v' w4 hown hg _ _;have HO2:=Lib.hid (HO1.out.app hown hg);clear hown hg)
        refine ⟨⟨p1++[92,92],r3,t1++[92],by rw [HS1.out,List.append_assoc];rfl,by simp<;>omega,HO2.out,HQ2.out,by have:=HTL.out;simp at this ⊢; omega⟩,?_⟩
        simp [intOf]
        omega
       ·go_wp2_with (at_builtin;refine wpl_append_bytes rfl _ _ rfl w.heap.size t1 _ rfl (HO1.out.own.alloc _) wr.heap.size 1 [34] _ (0,0) rfl rfl rfl (heap_alloc_at _ _) (by have:=HTL.out;have:=HN.out;omega) (by have:=HO1.out.bel.size;simp;omega) ?_;intro v' w4 hown hg _ _;have HO2:=Lib.hid (HO1.out.app hown hg);clear hown hg)
        refine ⟨⟨p1++[92,34],r3,t1++[34],by rw [HS1.out,List.append_assoc];rfl,by simp<;>omega,HO2.out,HQ2.out,by have:=HTL.out;simp at this ⊢; omega⟩,?_⟩
        simp [intOf]
        omega
      ·have u1:((d.toNat:Int)==92)=false:=u8ne d 92 (fun e=>h1 (Or.inl e))
       have u2:((d.toNat:Int)==34)=false:=u8ne d 34 (fun e=>h1 (Or.inr e))
       by_cases h2:d=110
       ·have HE:Hid (escS (d :: r3)=some (10,r3)):=Lib.hid (by simp only [escS,if_neg h1,if_pos h2])
        have HQ2:Hid (sp.qread r=(sp.qread r3).map fun q=>((t1++[10])++q.1,q.2)):=Lib.hid (by
         rw [HQ.out,qread_esc,HE.out]
         show Option.map _ (Option.map _ (sp.qread r3))=_
         rw [Option.map_map]
         congr 1
         funext q
         simp)
        subst h2
        go_wp2_with (at_builtin;refine wpl_append_bytes rfl _ _ rfl w.heap.size t1 _ rfl (HO1.out.own.alloc _) wr.heap.size 1 [10] _ (0,0) rfl rfl rfl (heap_alloc_at _ _) (by have:=HTL.out;have:=HN.out;omega) (by have:=HO1.out.bel.size;simp;omega) ?_;intro v' w4 hown hg _ _;have HO2:=Lib.hid (HO1.out.app hown hg);clear hown hg)
        refine ⟨⟨p1++[92,110],r3,t1++[10],by rw [HS1.out,List.append_assoc];rfl,by simp<;>omega,HO2.out,HQ2.out,by have:=HTL.out;simp at this ⊢; omega⟩,?_⟩
        simp [intOf]
        omega
       ·have u3:((d.toNat:Int)==110)=false:=u8ne d 110 h2
        by_cases h3:d=120
        ·have HX0:Hid (escS (d :: r3)=escX r3):=Lib.hid (by simp only [escS,if_neg h1,if_neg h2,if_pos h3])
         subst h3
         match r3 with
         | [] =>
          have HE:Hid (escS [120]=none):=Lib.hid rfl
          have t2':decide ((S.length:Int)≤(p1.length:Int)+1+2)=true:=by simp at hl1;simp;omega
          have HF:Hid (rquoteV S.length r=.tuple #[.string ⟨#[]⟩,.int .i64 0,.bool false]):=Lib.hid (by unfold rquoteV;rw [HQ.out,qread_esc,HE.out];rfl)
          go_wp2
          go_ret3
          exact ⟨by rw [HF.out];rfl,HO1.out.bel⟩
         | [a] =>
          have HE:Hid (escS [120,a]=none):=Lib.hid rfl
          have t2':decide ((S.length:Int)≤(p1.length:Int)+1+2)=true:=by simp at hl1;simp;omega
          have HF:Hid (rquoteV S.length r=.tuple #[.string ⟨#[]⟩,.int .i64 0,.bool false]):=Lib.hid (by unfold rquoteV;rw [HQ.out,qread_esc,HE.out];rfl)
          go_wp2
          go_ret3
          exact ⟨by rw [HF.out];rfl,HO1.out.bel⟩
         | a :: b :: r4 =>
          have HX1:Hid (escS (120 :: a :: b :: r4)=(sp.hexv a).bind fun x=>(sp.hexv b).map fun y=>(UInt8.ofNat (16*x+y),r4)):=HX0
          clear HX0
          have HS3:Hid (S=(p1++[92,120])++a :: (b :: r4)):=Lib.hid (by rw [HS1.out];simp)
          have HS4:Hid (S=(p1++[92,120,a])++b :: r4):=Lib.hid (by rw [HS1.out];simp)
          have ei3:∀q,(bstr S)[p1.length+1+1]'q=a:=by have:=bstr_idx HS3.out;simpa using this
          have ei4:∀q,(bstr S)[p1.length+1+2]'q=b:=by have:=bstr_idx HS4.out;simpa using this
          have t2':decide ((S.length:Int)≤(p1.length:Int)+1+2)=false:=by simp at hl1;simp;omega
          have hlt3:p1.length+1+1<S.length:=by simp at hl1;omega
          have hlt4:p1.length+1+2<S.length:=by simp at hl1;omega
          have hxa:∀W,Calls Tryz.prog 95 #[.int .u8 a.toNat] W fun e w'=>e=.returned (rhexV a)∧w'=W:=fun W=>rhex_any a W
          have hxb:∀W,Calls Tryz.prog 95 #[.int .u8 b.toNat] W fun e w'=>e=.returned (rhexV b)∧w'=W:=fun W=>rhex_any b W
          cases ha:sp.hexv a with
          | none =>
           have HE:Hid (escS (120 :: a :: b :: r4)=none):=Lib.hid (by rw [HX1.out,ha];rfl)
           have va:rhexV a=.tuple #[.int .u8 0,.bool false]:=by unfold rhexV;rw [ha]
           rw [va] at hxa
           obtain ⟨kb,ob,vb⟩:∃(k:Int) (o:Bool),rhexV b=.tuple #[.int .u8 k,.bool o]:=by unfold rhexV;cases sp.hexv b<;>exact ⟨_,_,rfl⟩
           rw [vb] at hxb
           have HXA:=Lib.hid hxa;have HXB:=Lib.hid hxb
           clear hxa hxb va vb ha
           have HF:Hid (rquoteV S.length r=.tuple #[.string ⟨#[]⟩,.int .i64 0,.bool false]):=Lib.hid (by unfold rquoteV;rw [HQ.out,qread_esc,HE.out];rfl)
           go_wp2_with (first
            | (have hgd:=HXA;clear hgd;go_at_call 95;refine (HXA.out _).mono ?_;rintro e w2 ⟨rfl,rfl⟩;clear HXA)
            | (go_at_call 95;refine (HXB.out _).mono ?_;rintro e w2 ⟨rfl,rfl⟩))
           go_ret3
           exact ⟨by rw [HF.out];rfl,HO1.out.bel⟩
          | some ka =>
           have va:rhexV a=.tuple #[.int .u8 ka,.bool true]:=by unfold rhexV;rw [ha]
           rw [va] at hxa
           cases hb:sp.hexv b with
           | none =>
            have HE:Hid (escS (120 :: a :: b :: r4)=none):=Lib.hid (by rw [HX1.out,ha,hb];rfl)
            have vb:rhexV b=.tuple #[.int .u8 0,.bool false]:=by unfold rhexV;rw [hb]
            rw [vb] at hxb
            have HXA:=Lib.hid hxa;have HXB:=Lib.hid hxb
            clear hxa hxb va vb ha hb
            have HF:Hid (rquoteV S.length r=.tuple #[.string ⟨#[]⟩,.int .i64 0,.bool false]):=Lib.hid (by unfold rquoteV;rw [HQ.out,qread_esc,HE.out];rfl)
            go_wp2_with (first
             | (have hgd:=HXA;clear hgd;go_at_call 95;refine (HXA.out _).mono ?_;rintro e w2 ⟨rfl,rfl⟩;clear HXA)
             | (go_at_call 95;refine (HXB.out _).mono ?_;rintro e w2 ⟨rfl,rfl⟩))
            go_ret3
            exact ⟨by rw [HF.out];rfl,HO1.out.bel⟩
           | some kb =>
            have HE:Hid (escS (120 :: a :: b :: r4)=some (UInt8.ofNat (16*ka+kb),r4)):=Lib.hid (by rw [HX1.out,ha,hb];rfl)
            have vb:rhexV b=.tuple #[.int .u8 kb,.bool true]:=by unfold rhexV;rw [hb]
            rw [vb] at hxb
            have HXA:=Lib.hid hxa;have HXB:=Lib.hid hxb
            have hor:=or_hex ha hb
            have HQ2:Hid (sp.qread r=(sp.qread r4).map fun q=>((t1++[UInt8.ofNat (16*ka+kb)])++q.1,q.2)):=Lib.hid (by
             rw [HQ.out,qread_esc,HE.out]
             show Option.map _ (Option.map _ (sp.qread r4))=_
             rw [Option.map_map]
             congr 1
             funext q
             simp)
            generalize UInt8.ofNat (16*ka+kb)=D at hor HQ2
            clear hxa hxb va vb ha hb HX1 HE
            go_wp2_with (first
             | (have hgd:=HXA;clear hgd;go_at_call 95;refine (HXA.out _).mono ?_;rintro e w2 ⟨rfl,rfl⟩;clear HXA)
             | (go_at_call 95;refine (HXB.out _).mono ?_;rintro e w2 ⟨rfl,rfl⟩)
             | (at_builtin;refine wpl_append_bytes rfl _ _ rfl w.heap.size t1 _ rfl (HO1.out.own.alloc _) _ 1 [D] _ (0,0) rfl rfl rfl (heap_alloc_at _ _) (by have:=HTL.out;have:=HN.out;omega) (by have:=HO1.out.bel.size;simp;omega) ?_;intro v' w4 hown hg _ _;have HO2:=Lib.hid (HO1.out.app hown hg);clear hown hg))
            refine ⟨⟨p1++[92,120,a,b],r4,t1++[D],by rw [HS1.out,List.append_assoc];rfl,by simp<;>omega,HO2.out,HQ2.out,by have:=HTL.out;simp at this ⊢; omega⟩,?_⟩
            simp [intOf]
            omega
        ·have u4:((d.toNat:Int)==120)=false:=u8ne d 120 h3
         have HE:Hid (escS (d :: r3)=none):=Lib.hid (by simp only [escS,if_neg h1,if_neg h2,if_neg h3])
         clear h1 h2 h3
         have HF:Hid (rquoteV S.length r=.tuple #[.string ⟨#[]⟩,.int .i64 0,.bool false]):=Lib.hid (by unfold rquoteV;rw [HQ.out,qread_esc,HE.out];rfl)
         go_wp2
         go_ret3
         exact ⟨by rw [HF.out];rfl,HO1.out.bel⟩
    ·have t92:((c.toNat:Int)==92)=false:=u8ne c 92 e92
     have HQ2:Hid (sp.qread r=(sp.qread r2).map fun q=>((t1++[c])++q.1,q.2)):=Lib.hid (by
      rw [HQ.out,sp.qread_plain e34 e92,Option.map_map]
      congr 1
      funext q
      simp)
     clear e34 e92
     go_wp2_with (at_builtin;refine wpl_append_bytes rfl _ _ rfl w.heap.size t1 _ rfl (HO1.out.own.alloc _) wr.heap.size 1 [c] _ (0,0) rfl rfl rfl (heap_alloc_at _ _) (by have:=HTL.out;have:=HN.out;omega) (by have:=HO1.out.bel.size;simp;omega) ?_;intro v' w4 hown hg _ _;have HO2:=Lib.hid (HO1.out.app hown hg);clear hown hg)
     refine ⟨⟨p1++[c],r2,t1++[c],by rw [HS1.out,List.append_assoc];rfl,by simp,HO2.out,HQ2.out,by have:=HTL.out;simp at this ⊢; omega⟩,?_⟩
     simp [intOf]
     omega
theorem qread_len (n:Nat):∀r:List UInt8,r.length≤n→∀t u,sp.qread r=some (t,u)→t.length+u.length<r.length:=by
 induction n with
 | zero =>
  intro r hr t u h
  obtain rfl:=List.length_eq_zero_iff.1 (Nat.le_zero.1 hr)
  rw [sp.qread_nil] at h
  cases h
 | succ n ih =>
  intro r hr t u h
  match r with
  | []=>rw [sp.qread_nil] at h;cases h
  | c :: r =>
   by_cases h1:c=34
   ·subst h1
    rw [sp.qread_end] at h
    cases h
    simp
   ·by_cases h2:c=92
    ·subst h2
     rw [qread_esc] at h
     cases he:escS r with
     | none=>rw [he] at h;cases h
     | some q =>
      obtain ⟨d,v⟩:=q
      rw [he] at h
      have hl:=escS_len he
      simp only [Option.bind_some,Option.map_eq_some_iff,Prod.mk.injEq] at h
      obtain ⟨⟨t1,u1⟩,h3,rfl,rfl⟩:=h
      have:=ih v (by simp only [List.length_cons] at hr;omega) t1 u1 h3
      simp only [List.length_cons] at *
      omega
    ·rw [sp.qread_plain h1 h2] at h
     simp only [Option.map_eq_some_iff,Prod.mk.injEq] at h
     obtain ⟨⟨t1,u1⟩,h3,rfl,rfl⟩:=h
     have:=ih r (by simp only [List.length_cons] at hr;omega) t1 u1 h3
     simp only [List.length_cons] at *
     omega
theorem words_len (n:Nat):∀s:List UInt8,s.length≤n→∀l,sp.words s=some l→(∀p∈l,p.1.length≤s.length)∧l.length≤s.length:=by
 induction n with
 | zero =>
  intro r hr l h
  obtain rfl:=List.length_eq_zero_iff.1 (Nat.le_zero.1 hr)
  rw [sp.words_nil] at h
  cases h
  exact ⟨fun p hp=>(by cases hp),Nat.le_refl _⟩
 | succ n ih =>
  intro r hr l h
  match r with
  | []=>rw [sp.words_nil] at h;cases h;exact ⟨fun p hp=>(by cases hp),Nat.le_refl _⟩
  | c :: r =>
   have hr':r.length≤n:=by simp only [List.length_cons] at hr;omega
   by_cases h1:c=32
   ·subst h1
    rw [sp.words_space] at h
    obtain ⟨a,b⟩:=ih r hr' l h
    exact ⟨fun p hp=>by have:=a p hp;simp only [List.length_cons];omega,by simp only [List.length_cons];omega⟩
   ·by_cases h2:c=34
    ·subst h2
     cases hq:sp.qread r with
     | none=>rw [words_q_none hq] at h;cases h
     | some q =>
      obtain ⟨t,u⟩:=q
      have hl:=qread_len _ r (Nat.le_refl _) t u hq
      rw [words_q_some hq] at h
      split at h
      ·simp only [Option.map_eq_some_iff] at h
       obtain ⟨m,hm,rfl⟩:=h
       obtain ⟨a,b⟩:=ih u (by omega) m hm
       refine ⟨fun p hp => ?_,by simp only [List.length_cons];omega⟩
       simp only [List.length_cons]
       rcases List.mem_cons.1 hp with rfl | hp
       ·simp only;omega
       ·have:=a p hp;omega
      ·cases h
    ·rw [words_p h1 h2] at h
     split at h
     ·cases h
     ·simp only [Option.map_eq_some_iff] at h
      obtain ⟨m,hm,rfl⟩:=h
      have hcw:sp.wordB c=true:=by simp [sp.wordB,h1,h2]
      have e:=List.takeWhile_append_dropWhile (p:=sp.wordB) (l:=c :: r)
      have e2:=congrArg List.length e
      rw [List.length_append] at e2
      have e3:((c :: r).takeWhile sp.wordB).length=(r.takeWhile sp.wordB).length+1:=by rw [List.takeWhile_cons,if_pos hcw];rfl
      simp only [List.length_cons] at e2
      obtain ⟨a,b⟩:=ih ((c :: r).dropWhile sp.wordB) (by omega) m hm
      refine ⟨fun p hp => ?_,by simp only [List.length_cons];omega⟩
      simp only [List.length_cons]
      rcases List.mem_cons.1 hp with rfl | hp
      ·simp only;omega
      ·have:=a p hp;omega
theorem qread_suffix (n:Nat):∀r:List UInt8,r.length≤n→∀t u,sp.qread r=some (t,u)→∃pre,r=pre++u:=by
 induction n with
 | zero =>
  intro r hr t u h
  obtain rfl:=List.length_eq_zero_iff.1 (Nat.le_zero.1 hr)
  rw [sp.qread_nil] at h
  cases h
 | succ n ih =>
  intro r hr t u h
  match r with
  | []=>rw [sp.qread_nil] at h;cases h
  | c :: r =>
   by_cases h1:c=34
   ·subst h1
    rw [sp.qread_end] at h
    cases h
    exact ⟨[34],rfl⟩
   ·by_cases h2:c=92
    ·subst h2
     rw [qread_esc] at h
     cases he:escS r with
     | none=>rw [he] at h;cases h
     | some q =>
      obtain ⟨d,v⟩:=q
      rw [he] at h
      have hl:=escS_len he
      have hs:∃pre,r=pre++v:=by
       cases r with
       | nil=>cases he
       | cons c2 r2 =>
        simp only [escS] at he
        split at he
        ·cases he;exact ⟨[_],rfl⟩
        ·split at he
         ·cases he;exact ⟨[_],rfl⟩
         ·split at he
          ·unfold escX at he
           split at he
           ·rename_i a b r'
            cases ha:sp.hexv a with
            | none=>rw [ha] at he;cases he
            | some x =>
             cases hb:sp.hexv b with
             | none=>rw [ha,hb] at he;cases he
             | some y=>rw [ha,hb] at he;cases he;exact ⟨[_,_,_],rfl⟩
           ·cases he
          ·cases he
      simp only [Option.bind_some,Option.map_eq_some_iff,Prod.mk.injEq] at h
      obtain ⟨⟨t1,u1⟩,h3,rfl,rfl⟩:=h
      obtain ⟨p1,e1⟩:=hs
      obtain ⟨p2,e2⟩:=ih v (by simp only [List.length_cons] at hr;omega) t1 u1 h3
      simp only at *
      exact ⟨92 :: (p1++p2),by rw [e1,e2];simp⟩
    ·rw [sp.qread_plain h1 h2] at h
     simp only [Option.map_eq_some_iff,Prod.mk.injEq] at h
     obtain ⟨⟨t1,u1⟩,h3,rfl,rfl⟩:=h
     obtain ⟨p2,e2⟩:=ih r (by simp only [List.length_cons] at hr;omega) t1 u1 h3
     simp only at *
     exact ⟨c :: p2,by rw [e2];simp⟩
end Go.Proofs.YtihlneenajlhoaaGreatDoor
