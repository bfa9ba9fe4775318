/-
 script.one, kind by kind. Condition: lengths that fit; strconv's table stands.
-/
import Derived.Test.YtihlneenajlhoaaGreatDoorS1
import Derived.Deep.RegionHeld
import Derived.OrdersHeld
set_option linter.unusedSimpArgs false
set_option linter.unusedVariables false
namespace Go.Proofs.YtihlneenajlhoaaGreatDoor
open Go Go.RowKit
section
variable (node at_ org:Int) (name word:ByteArray) (tv:Value) (tx:List UInt8) (wn wd hn hd bt:Int) (bn:ByteArray) (bwn bwd bhn bhd:Int) (on:Bool) (w:World) (h_node:I64 node) (h_at:I64 at_) (h_org:I64 org) (h_name:name.size≤1048576) (h_word:word.size≤1048576) (h_tx:tx.length≤1048576) (h_row:RowAt w.heap.size w tv tx.length (Lib.byteCells tx)) (h_w:I64 wn∧I64 wd) (h_h:I64 hn∧I64 hd) (h_bn:bn.size≤1048576) (h_bw:I64 bwn∧I64 bwd) (h_bh:I64 bhn∧I64 bhd) (h_pow:Pow w)
include h_node h_at h_org h_name h_word h_tx h_row h_w h_h h_bn h_bw h_bh h_pow
set_option maxRecDepth 100000 in
set_option maxHeartbeats 8000000 in
theorem one_sheet:Calls Tryz.prog 39 #[.agg #[.int .i64 1,.int .i64 node,.int .i64 at_,.int .i64 org,.string name,.string word,tv,.int .i64 wn,.int .i64 wd,.int .i64 hn,.int .i64 hd,.int .i64 bt,.string bn,.int .i64 bwn,.int .i64 bwd,.int .i64 bhn,.int .i64 bhd,.bool on]] w fun e w'=>e=.returned (.tuple #[.string (bstr (sp.kSheet++32 :: Lib.itoa org++32 :: (bstr (sp.quoteS (bstr tx).data.toList)).data.toList)),.bool (true&&smallB org)])∧Below w.heap.size w w':=by
 have LK:Hid (sp.kSheet.length≤10):=Lib.hid (by decide)
 have D1:=Lib.hid (datLen name);have D2:=Lib.hid (datLen word)
 have I1:Hid ((Lib.itoa node).length≤21):=Lib.hid (by have:=itoaLen h_node;rwa [bstr_size] at this)
 have I2:Hid ((Lib.itoa at_).length≤21):=Lib.hid (by have:=itoaLen h_at;rwa [bstr_size] at this)
 have I3:Hid ((Lib.itoa org).length≤21):=Lib.hid (by have:=itoaLen h_org;rwa [bstr_size] at this)
 have H_node:=Lib.hid h_node
 have H_at:=Lib.hid h_at
 have H_org:=Lib.hid h_org
 have H_name:=Lib.hid h_name
 have H_word:=Lib.hid h_word
 have H_tx:=Lib.hid h_tx
 have H_row:=Lib.hid h_row
 have H_w:=Lib.hid h_w
 have H_h:=Lib.hid h_h
 have H_bn:=Lib.hid h_bn
 have H_bw:=Lib.hid h_bw
 have H_bh:=Lib.hid h_bh
 have H_pow:=Lib.hid h_pow
 have hW:=start_facts w #[.int .i64 1,.int .i64 node,.int .i64 at_,.int .i64 org,.string name,.string word,tv,.int .i64 wn,.int .i64 wd,.int .i64 hn,.int .i64 hd,.int .i64 bt,.string bn,.int .i64 bwn,.int .i64 bwd,.int .i64 bhn,.int .i64 bhd,.bool on]
 clear h_node h_at h_org h_name h_word h_tx h_row h_w h_h h_bn h_bw h_bh h_pow
 go_enter Tryz.func39,Tryz.ntmps39
 go_wp2
 generalize (w.alloc (.cells #[.int .i64 1,.int .i64 node,.int .i64 at_,.int .i64 org,.string name,.string word,tv,.int .i64 wn,.int .i64 wd,.int .i64 hn,.int .i64 hd,.int .i64 bt,.string bn,.int .i64 bwn,.int .i64 bwd,.int .i64 bhn,.int .i64 bhd,.bool on] 28)).alloc (.cells #[.pointer none,.slice none 0 0,.bool true] 123)=W1 at hW ⊢
 obtain ⟨hb0,ha,hbw⟩:=hW
 have HB0:=Lib.hid hb0;have HA:=Lib.hid ha;have HBW:=Lib.hid hbw
 have N1:Hid (w.heap.size≠w.heap.size+1):=Lib.hid (by omega)
 have N2:Hid (some w.heap.size≠none):=Lib.hid (by simp)
 have HP:Hid (∀w',Fr W1 w' (w.heap.size+1) none→Pow w'):=Lib.hid (fun w' h=>H_pow.out.on (wrote_below h HBW.out (Nat.le_succ _)))
 have c0:=op_cell hb0 0 _ (by rfl)
 clear hb0 ha hbw
 refine wp_region_held_drew (S:=(fun s=>s.cell? ⟨w.heap.size,0,none⟩=some (.int .i64 1))) (by kernel_rfl) c0 (fun hHeld => ?_)
 refine wpAnyH_take (i:=0) (v:=.pointer (some ⟨w.heap.size+1,0,none⟩)) rfl (by kernel_rfl) (by kernel_rfl) (by kernel_rfl) (fun _ _ _ h=>h) (Or.inl ⟨by kernel_rfl,fun s hs=>by have s0c:=hs;go_simp<;>omega⟩) hHeld ?_
 refine wpAnyH_take (i:=1) (v:=.pointer (some ⟨w.heap.size+1,0,none⟩)) rfl (by kernel_rfl) (by kernel_rfl) (by kernel_rfl) (fun _ _ _ h=>h) (Or.inl ⟨by kernel_rfl,fun s hs=>by have s0c:=hs;go_simp<;>omega⟩) hHeld ?_
 refine wpAnyH_take (i:=2) (v:=.pointer (some ⟨w.heap.size+1,0,none⟩)) rfl (by kernel_rfl) (by kernel_rfl) (by kernel_rfl) (fun _ _ _ h=>h) (Or.inl ⟨by kernel_rfl,fun s hs=>by have s0c:=hs;go_simp<;>omega⟩) hHeld ?_
 refine wpAnyH_take (i:=3) (v:=.pointer (some ⟨w.heap.size,0,none⟩)) rfl (by kernel_rfl) (by kernel_rfl) (by kernel_rfl) (fun _ _ _ h=>h) (Or.inl ⟨by kernel_rfl,fun s hs=>by have s0c:=hs;go_simp<;>omega⟩) hHeld ?_
 refine wpAnyH_take (i:=4) (v:=.int .i64 1) rfl (by kernel_rfl) (by kernel_rfl) (by kernel_rfl) (fun _ _ _ h=>h) (Or.inl ⟨by kernel_rfl,fun s hs=>by have s0c:=hs;go_simp<;>omega⟩) hHeld ?_
 clear c0
 refine wpAnyH_ready (rs:=[5]) (by kernel_rfl) (by simp) ?_
 refine AllReadyH.cons rfl (fun K hK => ?_) AllReadyH.nil
 rw [if_pos (by kernel_rfl)]
 go_simp
 refine (first_any _ _).mono ?_
 rintro e w2 ⟨rfl,hb2⟩
 have HW2:=Lib.hid ((HA.out.below (Below.refl _ _).drew).below hb2)
 have c0:=op_cell (HW2.out.keep HB0.out N1.out N2.out) 0 _ (by rfl)
 clear hb2
 refine hK _ _ c0 (fun hHeld => ?_)
 clear c0
 refine wpAnyH_ready (rs:=[6]) (by kernel_rfl) (by simp) ?_
 refine AllReadyH.cons rfl (fun K hK => ?_) AllReadyH.nil
 rw [if_pos (by kernel_rfl)]
 go_simp
 refine (write_first HW2.out (firstS 1) (by decide)).mono ?_
 rintro e w3 ⟨rfl,h3⟩
 have HW3:Hid (Wrote W1 _ none sp.kSheet true w3):=Lib.hid h3
 clear h3
 have c0:=op_cell (HW3.out.keep HB0.out N1.out N2.out) 0 _ (by rfl)
 refine hK _ _ c0 (fun hHeld => ?_)
 refine wpAnyH_done (by kernel_rfl) ?_ _
 clear hHeld
 go_simp
 have c3:=op_cell (HW3.out.keep HB0.out N1.out N2.out) 3 _ (by rfl)
 have c6:=op_cell (HW3.out.keep HB0.out N1.out N2.out) 6 _ (by rfl)
 go_wp2_with (first | (go_at_call 76;refine (numbers_new _ rfl HW3.out org H_org.out (by have:=LK.out;have:=D1.out;have:=D2.out;have:=I1.out;have:=I2.out;have:=I3.out;have:=H_name.out;have:=H_word.out;simp only [List.length_append,List.length_cons,List.length_nil];omega) HP.out).mono ?_;rintro e w4 ⟨rfl,h4⟩;have HW4:=Lib.hid h4;clear h4;clear c3;have c3:=op_cell (HW4.out.keep HB0.out N1.out N2.out) 3 _ (by rfl);clear c6;have c6:=op_cell (HW4.out.keep HB0.out N1.out N2.out) 6 _ (by rfl);have hcv:=conv_row (H_row.out.keep (wrote_below HW4.out.choose_spec.2.1 HBW.out (Nat.le_succ _)))) | (go_at_call 36;refine (quoted_any (bstr tx) _ (by first | (have:=H_word.out;omega) | (rw [bstr_size];have:=H_tx.out;omega))).mono ?_;rintro e w5 ⟨rfl,hb5⟩;have HW5:=Lib.hid (HW4.out.below hb5);clear hb5) | (go_at_call 77;refine (put_new _ rfl HW5.out _ (by have:=LK.out;have:=D1.out;have:=D2.out;have:=I1.out;have:=I2.out;have:=I3.out;have:=H_name.out;have:=H_word.out;simp only [List.length_append,List.length_cons,List.length_nil];omega) (by first | decide | (rw [bstr_size];exact Nat.le_trans (quoteS_len _) (by first | (have:=D2.out;have:=H_word.out;omega) | (have:=H_tx.out;simp [bstr];omega))))).mono ?_;rintro e w6 ⟨rfl,h6⟩;have HW6:=Lib.hid h6;clear h6))
 have c2:=(bld_ok HW6.out.choose_spec.1).1
 refine wp_region_held_drew (S:=(fun s=>s.cell? ⟨w.heap.size+1,2,none⟩=some (.bool (true&&smallB org)))) (by kernel_rfl) c2 (fun hHeld => ?_)
 refine wpAnyH_take (i:=0) (v:=.pointer (some ⟨w.heap.size+1,0,none⟩)) rfl (by kernel_rfl) (by kernel_rfl) (by kernel_rfl) (fun _ _ _ h=>h) (Or.inl ⟨by kernel_rfl,fun s hs=>by have s0c:=hs;go_simp<;>omega⟩) hHeld ?_
 refine wpAnyH_take (i:=1) (v:=.pointer (some ⟨w.heap.size+1,0,none⟩)) rfl (by kernel_rfl) (by kernel_rfl) (by kernel_rfl) (fun _ _ _ h=>h) (Or.inl ⟨by kernel_rfl,fun s hs=>by have s0c:=hs;go_simp<;>omega⟩) hHeld ?_
 refine wpAnyH_take (i:=2) (v:=.pointer (some ⟨w.heap.size+1,0,none⟩)) rfl (by kernel_rfl) (by kernel_rfl) (by kernel_rfl) (fun _ _ _ h=>h) (Or.inl ⟨by kernel_rfl,fun s hs=>by have s0c:=hs;go_simp<;>omega⟩) hHeld ?_
 refine wpAnyH_take (i:=4) (v:=.pointer (some ⟨w.heap.size+1,0,none⟩)) rfl (by kernel_rfl) (by kernel_rfl) (by kernel_rfl) (fun _ _ _ h=>h) (Or.inl ⟨by kernel_rfl,fun s hs=>by have s0c:=hs;go_simp<;>omega⟩) hHeld ?_
 refine wpAnyH_take (i:=5) (v:=.pointer (some ⟨w.heap.size+1,0,none⟩)) rfl (by kernel_rfl) (by kernel_rfl) (by kernel_rfl) (fun _ _ _ h=>h) (Or.inl ⟨by kernel_rfl,fun s hs=>by have s0c:=hs;go_simp<;>omega⟩) hHeld ?_
 refine wpAnyH_take (i:=6) (v:=.pointer (some ⟨w.heap.size+1,2,none⟩)) rfl (by kernel_rfl) (by kernel_rfl) (by kernel_rfl) (fun _ _ _ h=>h) (Or.inl ⟨by kernel_rfl,fun s hs=>by have s0c:=hs;go_simp<;>omega⟩) hHeld ?_
 refine wpAnyH_take (i:=7) (v:=.bool (true&&smallB org)) rfl (by kernel_rfl) (by kernel_rfl) (by kernel_rfl) (fun _ _ _ h=>h) (Or.inl ⟨by kernel_rfl,fun s hs=>by have s0c:=hs;go_simp<;>omega⟩) hHeld ?_
 clear c2
 refine wpAnyH_ready (rs:=[3]) (by kernel_rfl) (by simp) ?_
 refine AllReadyH.cons rfl (fun K hK => ?_) AllReadyH.nil
 rw [if_pos (by kernel_rfl)]
 go_simp
 refine (string_wrote (HW6.out.below (Below.refl _ _).drew)).mono ?_
 rintro e w9 ⟨rfl,hf9,c2⟩
 have HF9:=Lib.hid (wrote_below hf9 HBW.out (Nat.le_succ _))
 clear hf9
 refine hK _ _ c2 (fun hHeld => ?_)
 refine wpAnyH_take (i:=8) (v:=.string (bstr (sp.kSheet++32 :: Lib.itoa org++32 :: (bstr (sp.quoteS (bstr tx).data.toList)).data.toList))) rfl (by kernel_rfl) (by kernel_rfl) (by kernel_rfl) (fun _ _ _ h=>h) (Or.inl ⟨by kernel_rfl,fun s hs=>by have s0c:=hs;go_simp<;>omega⟩) hHeld ?_
 refine wpAnyH_take (i:=9) (v:=.bool (true&&smallB org)) rfl (by kernel_rfl) (by kernel_rfl) (by kernel_rfl) (fun _ _ _ h=>h) (Or.inl ⟨by kernel_rfl,fun s hs=>by have s0c:=hs;go_simp<;>omega⟩) hHeld ?_
 refine wpAnyH_done (by kernel_rfl) ?_ _
 clear hHeld c2
 go_simp
 go_wp2
 go_ret2
 first
  | exact ⟨rfl,HF9.out⟩
  | (refine ⟨?_,HF9.out⟩;simp)
end
section
variable (node at_ org:Int) (name word:ByteArray) (tv:Value) (tx:List UInt8) (wn wd hn hd bt:Int) (bn:ByteArray) (bwn bwd bhn bhd:Int) (on:Bool) (w:World) (h_node:I64 node) (h_at:I64 at_) (h_org:I64 org) (h_name:name.size≤1048576) (h_word:word.size≤1048576) (h_tx:tx.length≤1048576) (h_row:RowAt w.heap.size w tv tx.length (Lib.byteCells tx)) (h_w:I64 wn∧I64 wd) (h_h:I64 hn∧I64 hd) (h_bn:bn.size≤1048576) (h_bw:I64 bwn∧I64 bwd) (h_bh:I64 bhn∧I64 bhd) (h_pow:Pow w)
include h_node h_at h_org h_name h_word h_tx h_row h_w h_h h_bn h_bw h_bh h_pow
set_option maxRecDepth 100000 in
set_option maxHeartbeats 8000000 in
theorem one_view:Calls Tryz.prog 39 #[.agg #[.int .i64 2,.int .i64 node,.int .i64 at_,.int .i64 org,.string name,.string word,tv,.int .i64 wn,.int .i64 wd,.int .i64 hn,.int .i64 hd,.int .i64 bt,.string bn,.int .i64 bwn,.int .i64 bwd,.int .i64 bhn,.int .i64 bhd,.bool on]] w fun e w'=>e=.returned (.tuple #[.string (bstr (sp.kView++32 :: sp.ratS wn wd++32 :: sp.ratS hn hd)),.bool (true&&mayR (wn,wd)&&mayR (hn,hd))])∧Below w.heap.size w w':=by
 have LK:Hid (sp.kView.length≤10):=Lib.hid (by decide)
 have D1:=Lib.hid (datLen name);have D2:=Lib.hid (datLen word)
 have I1:Hid ((Lib.itoa node).length≤21):=Lib.hid (by have:=itoaLen h_node;rwa [bstr_size] at this)
 have I2:Hid ((Lib.itoa at_).length≤21):=Lib.hid (by have:=itoaLen h_at;rwa [bstr_size] at this)
 have I3:Hid ((Lib.itoa org).length≤21):=Lib.hid (by have:=itoaLen h_org;rwa [bstr_size] at this)
 have H_node:=Lib.hid h_node
 have H_at:=Lib.hid h_at
 have H_org:=Lib.hid h_org
 have H_name:=Lib.hid h_name
 have H_word:=Lib.hid h_word
 have H_tx:=Lib.hid h_tx
 have H_row:=Lib.hid h_row
 have H_w:=Lib.hid h_w
 have H_h:=Lib.hid h_h
 have H_bn:=Lib.hid h_bn
 have H_bw:=Lib.hid h_bw
 have H_bh:=Lib.hid h_bh
 have H_pow:=Lib.hid h_pow
 have hW:=start_facts w #[.int .i64 2,.int .i64 node,.int .i64 at_,.int .i64 org,.string name,.string word,tv,.int .i64 wn,.int .i64 wd,.int .i64 hn,.int .i64 hd,.int .i64 bt,.string bn,.int .i64 bwn,.int .i64 bwd,.int .i64 bhn,.int .i64 bhd,.bool on]
 clear h_node h_at h_org h_name h_word h_tx h_row h_w h_h h_bn h_bw h_bh h_pow
 go_enter Tryz.func39,Tryz.ntmps39
 go_wp2
 generalize (w.alloc (.cells #[.int .i64 2,.int .i64 node,.int .i64 at_,.int .i64 org,.string name,.string word,tv,.int .i64 wn,.int .i64 wd,.int .i64 hn,.int .i64 hd,.int .i64 bt,.string bn,.int .i64 bwn,.int .i64 bwd,.int .i64 bhn,.int .i64 bhd,.bool on] 28)).alloc (.cells #[.pointer none,.slice none 0 0,.bool true] 123)=W1 at hW ⊢
 obtain ⟨hb0,ha,hbw⟩:=hW
 have HB0:=Lib.hid hb0;have HA:=Lib.hid ha;have HBW:=Lib.hid hbw
 have N1:Hid (w.heap.size≠w.heap.size+1):=Lib.hid (by omega)
 have N2:Hid (some w.heap.size≠none):=Lib.hid (by simp)
 have HP:Hid (∀w',Fr W1 w' (w.heap.size+1) none→Pow w'):=Lib.hid (fun w' h=>H_pow.out.on (wrote_below h HBW.out (Nat.le_succ _)))
 have c0:=op_cell hb0 0 _ (by rfl)
 clear hb0 ha hbw
 refine wp_region_held_drew (S:=(fun s=>s.cell? ⟨w.heap.size,0,none⟩=some (.int .i64 2))) (by kernel_rfl) c0 (fun hHeld => ?_)
 refine wpAnyH_take (i:=0) (v:=.pointer (some ⟨w.heap.size+1,0,none⟩)) rfl (by kernel_rfl) (by kernel_rfl) (by kernel_rfl) (fun _ _ _ h=>h) (Or.inl ⟨by kernel_rfl,fun s hs=>by have s0c:=hs;go_simp<;>omega⟩) hHeld ?_
 refine wpAnyH_take (i:=1) (v:=.pointer (some ⟨w.heap.size+1,0,none⟩)) rfl (by kernel_rfl) (by kernel_rfl) (by kernel_rfl) (fun _ _ _ h=>h) (Or.inl ⟨by kernel_rfl,fun s hs=>by have s0c:=hs;go_simp<;>omega⟩) hHeld ?_
 refine wpAnyH_take (i:=2) (v:=.pointer (some ⟨w.heap.size+1,0,none⟩)) rfl (by kernel_rfl) (by kernel_rfl) (by kernel_rfl) (fun _ _ _ h=>h) (Or.inl ⟨by kernel_rfl,fun s hs=>by have s0c:=hs;go_simp<;>omega⟩) hHeld ?_
 refine wpAnyH_take (i:=3) (v:=.pointer (some ⟨w.heap.size,0,none⟩)) rfl (by kernel_rfl) (by kernel_rfl) (by kernel_rfl) (fun _ _ _ h=>h) (Or.inl ⟨by kernel_rfl,fun s hs=>by have s0c:=hs;go_simp<;>omega⟩) hHeld ?_
 refine wpAnyH_take (i:=4) (v:=.int .i64 2) rfl (by kernel_rfl) (by kernel_rfl) (by kernel_rfl) (fun _ _ _ h=>h) (Or.inl ⟨by kernel_rfl,fun s hs=>by have s0c:=hs;go_simp<;>omega⟩) hHeld ?_
 clear c0
 refine wpAnyH_ready (rs:=[5]) (by kernel_rfl) (by simp) ?_
 refine AllReadyH.cons rfl (fun K hK => ?_) AllReadyH.nil
 rw [if_pos (by kernel_rfl)]
 go_simp
 refine (first_any _ _).mono ?_
 rintro e w2 ⟨rfl,hb2⟩
 have HW2:=Lib.hid ((HA.out.below (Below.refl _ _).drew).below hb2)
 have c0:=op_cell (HW2.out.keep HB0.out N1.out N2.out) 0 _ (by rfl)
 clear hb2
 refine hK _ _ c0 (fun hHeld => ?_)
 clear c0
 refine wpAnyH_ready (rs:=[6]) (by kernel_rfl) (by simp) ?_
 refine AllReadyH.cons rfl (fun K hK => ?_) AllReadyH.nil
 rw [if_pos (by kernel_rfl)]
 go_simp
 refine (write_first HW2.out (firstS 2) (by decide)).mono ?_
 rintro e w3 ⟨rfl,h3⟩
 have HW3:Hid (Wrote W1 _ none sp.kView true w3):=Lib.hid h3
 clear h3
 have c0:=op_cell (HW3.out.keep HB0.out N1.out N2.out) 0 _ (by rfl)
 refine hK _ _ c0 (fun hHeld => ?_)
 refine wpAnyH_done (by kernel_rfl) ?_ _
 clear hHeld
 go_simp
 have c7:=op_cell (HW3.out.keep HB0.out N1.out N2.out) 7 _ (by rfl)
 have c8:=op_cell (HW3.out.keep HB0.out N1.out N2.out) 8 _ (by rfl)
 have c9:=op_cell (HW3.out.keep HB0.out N1.out N2.out) 9 _ (by rfl)
 have c10:=op_cell (HW3.out.keep HB0.out N1.out N2.out) 10 _ (by rfl)
 go_wp2_with (first | (go_at_call 78;refine (fractions_new2 _ rfl HW3.out (wn,wd) (hn,hd) H_w.out H_h.out (by have:=LK.out;omega)).mono ?_;rintro e w4 ⟨rfl,h4⟩;have HW4:=Lib.hid h4;clear h4))
 have c2:=(bld_ok HW4.out.choose_spec.1).1
 refine wp_region_held_drew (S:=(fun s=>s.cell? ⟨w.heap.size+1,2,none⟩=some (.bool (true&&mayR (wn,wd)&&mayR (hn,hd))))) (by kernel_rfl) c2 (fun hHeld => ?_)
 refine wpAnyH_take (i:=0) (v:=.pointer (some ⟨w.heap.size+1,0,none⟩)) rfl (by kernel_rfl) (by kernel_rfl) (by kernel_rfl) (fun _ _ _ h=>h) (Or.inl ⟨by kernel_rfl,fun s hs=>by have s0c:=hs;go_simp<;>omega⟩) hHeld ?_
 refine wpAnyH_take (i:=1) (v:=.pointer (some ⟨w.heap.size+1,0,none⟩)) rfl (by kernel_rfl) (by kernel_rfl) (by kernel_rfl) (fun _ _ _ h=>h) (Or.inl ⟨by kernel_rfl,fun s hs=>by have s0c:=hs;go_simp<;>omega⟩) hHeld ?_
 refine wpAnyH_take (i:=2) (v:=.pointer (some ⟨w.heap.size+1,0,none⟩)) rfl (by kernel_rfl) (by kernel_rfl) (by kernel_rfl) (fun _ _ _ h=>h) (Or.inl ⟨by kernel_rfl,fun s hs=>by have s0c:=hs;go_simp<;>omega⟩) hHeld ?_
 refine wpAnyH_take (i:=4) (v:=.pointer (some ⟨w.heap.size+1,0,none⟩)) rfl (by kernel_rfl) (by kernel_rfl) (by kernel_rfl) (fun _ _ _ h=>h) (Or.inl ⟨by kernel_rfl,fun s hs=>by have s0c:=hs;go_simp<;>omega⟩) hHeld ?_
 refine wpAnyH_take (i:=5) (v:=.pointer (some ⟨w.heap.size+1,0,none⟩)) rfl (by kernel_rfl) (by kernel_rfl) (by kernel_rfl) (fun _ _ _ h=>h) (Or.inl ⟨by kernel_rfl,fun s hs=>by have s0c:=hs;go_simp<;>omega⟩) hHeld ?_
 refine wpAnyH_take (i:=6) (v:=.pointer (some ⟨w.heap.size+1,2,none⟩)) rfl (by kernel_rfl) (by kernel_rfl) (by kernel_rfl) (fun _ _ _ h=>h) (Or.inl ⟨by kernel_rfl,fun s hs=>by have s0c:=hs;go_simp<;>omega⟩) hHeld ?_
 refine wpAnyH_take (i:=7) (v:=.bool (true&&mayR (wn,wd)&&mayR (hn,hd))) rfl (by kernel_rfl) (by kernel_rfl) (by kernel_rfl) (fun _ _ _ h=>h) (Or.inl ⟨by kernel_rfl,fun s hs=>by have s0c:=hs;go_simp<;>omega⟩) hHeld ?_
 clear c2
 refine wpAnyH_ready (rs:=[3]) (by kernel_rfl) (by simp) ?_
 refine AllReadyH.cons rfl (fun K hK => ?_) AllReadyH.nil
 rw [if_pos (by kernel_rfl)]
 go_simp
 refine (string_wrote (HW4.out.below (Below.refl _ _).drew)).mono ?_
 rintro e w9 ⟨rfl,hf9,c2⟩
 have HF9:=Lib.hid (wrote_below hf9 HBW.out (Nat.le_succ _))
 clear hf9
 refine hK _ _ c2 (fun hHeld => ?_)
 refine wpAnyH_take (i:=8) (v:=.string (bstr (sp.kView++32 :: sp.ratS wn wd++32 :: sp.ratS hn hd))) rfl (by kernel_rfl) (by kernel_rfl) (by kernel_rfl) (fun _ _ _ h=>h) (Or.inl ⟨by kernel_rfl,fun s hs=>by have s0c:=hs;go_simp<;>omega⟩) hHeld ?_
 refine wpAnyH_take (i:=9) (v:=.bool (true&&mayR (wn,wd)&&mayR (hn,hd))) rfl (by kernel_rfl) (by kernel_rfl) (by kernel_rfl) (fun _ _ _ h=>h) (Or.inl ⟨by kernel_rfl,fun s hs=>by have s0c:=hs;go_simp<;>omega⟩) hHeld ?_
 refine wpAnyH_done (by kernel_rfl) ?_ _
 clear hHeld c2
 go_simp
 go_wp2
 go_ret2
 first
  | exact ⟨rfl,HF9.out⟩
  | (refine ⟨?_,HF9.out⟩;simp)
set_option maxRecDepth 100000 in
set_option maxHeartbeats 8000000 in
theorem one_font:Calls Tryz.prog 39 #[.agg #[.int .i64 3,.int .i64 node,.int .i64 at_,.int .i64 org,.string name,.string word,tv,.int .i64 wn,.int .i64 wd,.int .i64 hn,.int .i64 hd,.int .i64 bt,.string bn,.int .i64 bwn,.int .i64 bwd,.int .i64 bhn,.int .i64 bhd,.bool on]] w fun e w'=>e=.returned (.tuple #[.string (bstr (sp.kFont++32 :: sp.ratS wn wd)),.bool (true&&mayR (wn,wd))])∧Below w.heap.size w w':=by
 have LK:Hid (sp.kFont.length≤10):=Lib.hid (by decide)
 have D1:=Lib.hid (datLen name);have D2:=Lib.hid (datLen word)
 have I1:Hid ((Lib.itoa node).length≤21):=Lib.hid (by have:=itoaLen h_node;rwa [bstr_size] at this)
 have I2:Hid ((Lib.itoa at_).length≤21):=Lib.hid (by have:=itoaLen h_at;rwa [bstr_size] at this)
 have I3:Hid ((Lib.itoa org).length≤21):=Lib.hid (by have:=itoaLen h_org;rwa [bstr_size] at this)
 have H_node:=Lib.hid h_node
 have H_at:=Lib.hid h_at
 have H_org:=Lib.hid h_org
 have H_name:=Lib.hid h_name
 have H_word:=Lib.hid h_word
 have H_tx:=Lib.hid h_tx
 have H_row:=Lib.hid h_row
 have H_w:=Lib.hid h_w
 have H_h:=Lib.hid h_h
 have H_bn:=Lib.hid h_bn
 have H_bw:=Lib.hid h_bw
 have H_bh:=Lib.hid h_bh
 have H_pow:=Lib.hid h_pow
 have hW:=start_facts w #[.int .i64 3,.int .i64 node,.int .i64 at_,.int .i64 org,.string name,.string word,tv,.int .i64 wn,.int .i64 wd,.int .i64 hn,.int .i64 hd,.int .i64 bt,.string bn,.int .i64 bwn,.int .i64 bwd,.int .i64 bhn,.int .i64 bhd,.bool on]
 clear h_node h_at h_org h_name h_word h_tx h_row h_w h_h h_bn h_bw h_bh h_pow
 go_enter Tryz.func39,Tryz.ntmps39
 go_wp2
 generalize (w.alloc (.cells #[.int .i64 3,.int .i64 node,.int .i64 at_,.int .i64 org,.string name,.string word,tv,.int .i64 wn,.int .i64 wd,.int .i64 hn,.int .i64 hd,.int .i64 bt,.string bn,.int .i64 bwn,.int .i64 bwd,.int .i64 bhn,.int .i64 bhd,.bool on] 28)).alloc (.cells #[.pointer none,.slice none 0 0,.bool true] 123)=W1 at hW ⊢
 obtain ⟨hb0,ha,hbw⟩:=hW
 have HB0:=Lib.hid hb0;have HA:=Lib.hid ha;have HBW:=Lib.hid hbw
 have N1:Hid (w.heap.size≠w.heap.size+1):=Lib.hid (by omega)
 have N2:Hid (some w.heap.size≠none):=Lib.hid (by simp)
 have HP:Hid (∀w',Fr W1 w' (w.heap.size+1) none→Pow w'):=Lib.hid (fun w' h=>H_pow.out.on (wrote_below h HBW.out (Nat.le_succ _)))
 have c0:=op_cell hb0 0 _ (by rfl)
 clear hb0 ha hbw
 refine wp_region_held_drew (S:=(fun s=>s.cell? ⟨w.heap.size,0,none⟩=some (.int .i64 3))) (by kernel_rfl) c0 (fun hHeld => ?_)
 refine wpAnyH_take (i:=0) (v:=.pointer (some ⟨w.heap.size+1,0,none⟩)) rfl (by kernel_rfl) (by kernel_rfl) (by kernel_rfl) (fun _ _ _ h=>h) (Or.inl ⟨by kernel_rfl,fun s hs=>by have s0c:=hs;go_simp<;>omega⟩) hHeld ?_
 refine wpAnyH_take (i:=1) (v:=.pointer (some ⟨w.heap.size+1,0,none⟩)) rfl (by kernel_rfl) (by kernel_rfl) (by kernel_rfl) (fun _ _ _ h=>h) (Or.inl ⟨by kernel_rfl,fun s hs=>by have s0c:=hs;go_simp<;>omega⟩) hHeld ?_
 refine wpAnyH_take (i:=2) (v:=.pointer (some ⟨w.heap.size+1,0,none⟩)) rfl (by kernel_rfl) (by kernel_rfl) (by kernel_rfl) (fun _ _ _ h=>h) (Or.inl ⟨by kernel_rfl,fun s hs=>by have s0c:=hs;go_simp<;>omega⟩) hHeld ?_
 refine wpAnyH_take (i:=3) (v:=.pointer (some ⟨w.heap.size,0,none⟩)) rfl (by kernel_rfl) (by kernel_rfl) (by kernel_rfl) (fun _ _ _ h=>h) (Or.inl ⟨by kernel_rfl,fun s hs=>by have s0c:=hs;go_simp<;>omega⟩) hHeld ?_
 refine wpAnyH_take (i:=4) (v:=.int .i64 3) rfl (by kernel_rfl) (by kernel_rfl) (by kernel_rfl) (fun _ _ _ h=>h) (Or.inl ⟨by kernel_rfl,fun s hs=>by have s0c:=hs;go_simp<;>omega⟩) hHeld ?_
 clear c0
 refine wpAnyH_ready (rs:=[5]) (by kernel_rfl) (by simp) ?_
 refine AllReadyH.cons rfl (fun K hK => ?_) AllReadyH.nil
 rw [if_pos (by kernel_rfl)]
 go_simp
 refine (first_any _ _).mono ?_
 rintro e w2 ⟨rfl,hb2⟩
 have HW2:=Lib.hid ((HA.out.below (Below.refl _ _).drew).below hb2)
 have c0:=op_cell (HW2.out.keep HB0.out N1.out N2.out) 0 _ (by rfl)
 clear hb2
 refine hK _ _ c0 (fun hHeld => ?_)
 clear c0
 refine wpAnyH_ready (rs:=[6]) (by kernel_rfl) (by simp) ?_
 refine AllReadyH.cons rfl (fun K hK => ?_) AllReadyH.nil
 rw [if_pos (by kernel_rfl)]
 go_simp
 refine (write_first HW2.out (firstS 3) (by decide)).mono ?_
 rintro e w3 ⟨rfl,h3⟩
 have HW3:Hid (Wrote W1 _ none sp.kFont true w3):=Lib.hid h3
 clear h3
 have c0:=op_cell (HW3.out.keep HB0.out N1.out N2.out) 0 _ (by rfl)
 refine hK _ _ c0 (fun hHeld => ?_)
 refine wpAnyH_done (by kernel_rfl) ?_ _
 clear hHeld
 go_simp
 have c7:=op_cell (HW3.out.keep HB0.out N1.out N2.out) 7 _ (by rfl)
 have c8:=op_cell (HW3.out.keep HB0.out N1.out N2.out) 8 _ (by rfl)
 go_wp2_with (first | (go_at_call 78;refine (fractions_new _ rfl HW3.out (wn,wd) H_w.out (by have:=LK.out;omega)).mono ?_;rintro e w4 ⟨rfl,h4⟩;have HW4:=Lib.hid h4;clear h4))
 have c2:=(bld_ok HW4.out.choose_spec.1).1
 refine wp_region_held_drew (S:=(fun s=>s.cell? ⟨w.heap.size+1,2,none⟩=some (.bool (true&&mayR (wn,wd))))) (by kernel_rfl) c2 (fun hHeld => ?_)
 refine wpAnyH_take (i:=0) (v:=.pointer (some ⟨w.heap.size+1,0,none⟩)) rfl (by kernel_rfl) (by kernel_rfl) (by kernel_rfl) (fun _ _ _ h=>h) (Or.inl ⟨by kernel_rfl,fun s hs=>by have s0c:=hs;go_simp<;>omega⟩) hHeld ?_
 refine wpAnyH_take (i:=1) (v:=.pointer (some ⟨w.heap.size+1,0,none⟩)) rfl (by kernel_rfl) (by kernel_rfl) (by kernel_rfl) (fun _ _ _ h=>h) (Or.inl ⟨by kernel_rfl,fun s hs=>by have s0c:=hs;go_simp<;>omega⟩) hHeld ?_
 refine wpAnyH_take (i:=2) (v:=.pointer (some ⟨w.heap.size+1,0,none⟩)) rfl (by kernel_rfl) (by kernel_rfl) (by kernel_rfl) (fun _ _ _ h=>h) (Or.inl ⟨by kernel_rfl,fun s hs=>by have s0c:=hs;go_simp<;>omega⟩) hHeld ?_
 refine wpAnyH_take (i:=4) (v:=.pointer (some ⟨w.heap.size+1,0,none⟩)) rfl (by kernel_rfl) (by kernel_rfl) (by kernel_rfl) (fun _ _ _ h=>h) (Or.inl ⟨by kernel_rfl,fun s hs=>by have s0c:=hs;go_simp<;>omega⟩) hHeld ?_
 refine wpAnyH_take (i:=5) (v:=.pointer (some ⟨w.heap.size+1,0,none⟩)) rfl (by kernel_rfl) (by kernel_rfl) (by kernel_rfl) (fun _ _ _ h=>h) (Or.inl ⟨by kernel_rfl,fun s hs=>by have s0c:=hs;go_simp<;>omega⟩) hHeld ?_
 refine wpAnyH_take (i:=6) (v:=.pointer (some ⟨w.heap.size+1,2,none⟩)) rfl (by kernel_rfl) (by kernel_rfl) (by kernel_rfl) (fun _ _ _ h=>h) (Or.inl ⟨by kernel_rfl,fun s hs=>by have s0c:=hs;go_simp<;>omega⟩) hHeld ?_
 refine wpAnyH_take (i:=7) (v:=.bool (true&&mayR (wn,wd))) rfl (by kernel_rfl) (by kernel_rfl) (by kernel_rfl) (fun _ _ _ h=>h) (Or.inl ⟨by kernel_rfl,fun s hs=>by have s0c:=hs;go_simp<;>omega⟩) hHeld ?_
 clear c2
 refine wpAnyH_ready (rs:=[3]) (by kernel_rfl) (by simp) ?_
 refine AllReadyH.cons rfl (fun K hK => ?_) AllReadyH.nil
 rw [if_pos (by kernel_rfl)]
 go_simp
 refine (string_wrote (HW4.out.below (Below.refl _ _).drew)).mono ?_
 rintro e w9 ⟨rfl,hf9,c2⟩
 have HF9:=Lib.hid (wrote_below hf9 HBW.out (Nat.le_succ _))
 clear hf9
 refine hK _ _ c2 (fun hHeld => ?_)
 refine wpAnyH_take (i:=8) (v:=.string (bstr (sp.kFont++32 :: sp.ratS wn wd))) rfl (by kernel_rfl) (by kernel_rfl) (by kernel_rfl) (fun _ _ _ h=>h) (Or.inl ⟨by kernel_rfl,fun s hs=>by have s0c:=hs;go_simp<;>omega⟩) hHeld ?_
 refine wpAnyH_take (i:=9) (v:=.bool (true&&mayR (wn,wd))) rfl (by kernel_rfl) (by kernel_rfl) (by kernel_rfl) (fun _ _ _ h=>h) (Or.inl ⟨by kernel_rfl,fun s hs=>by have s0c:=hs;go_simp<;>omega⟩) hHeld ?_
 refine wpAnyH_done (by kernel_rfl) ?_ _
 clear hHeld c2
 go_simp
 go_wp2
 go_ret2
 first
  | exact ⟨rfl,HF9.out⟩
  | (refine ⟨?_,HF9.out⟩;simp)
set_option maxRecDepth 100000 in
set_option maxHeartbeats 8000000 in
theorem one_color:Calls Tryz.prog 39 #[.agg #[.int .i64 13,.int .i64 node,.int .i64 at_,.int .i64 org,.string name,.string word,tv,.int .i64 wn,.int .i64 wd,.int .i64 hn,.int .i64 hd,.int .i64 bt,.string bn,.int .i64 bwn,.int .i64 bwd,.int .i64 bhn,.int .i64 bhd,.bool on]] w fun e w'=>e=.returned (.tuple #[.string (bstr (sp.kColor++32 :: sp.ratS wn wd)),.bool (true&&mayR (wn,wd))])∧Below w.heap.size w w':=by
 have LK:Hid (sp.kColor.length≤10):=Lib.hid (by decide)
 have D1:=Lib.hid (datLen name);have D2:=Lib.hid (datLen word)
 have I1:Hid ((Lib.itoa node).length≤21):=Lib.hid (by have:=itoaLen h_node;rwa [bstr_size] at this)
 have I2:Hid ((Lib.itoa at_).length≤21):=Lib.hid (by have:=itoaLen h_at;rwa [bstr_size] at this)
 have I3:Hid ((Lib.itoa org).length≤21):=Lib.hid (by have:=itoaLen h_org;rwa [bstr_size] at this)
 have H_node:=Lib.hid h_node
 have H_at:=Lib.hid h_at
 have H_org:=Lib.hid h_org
 have H_name:=Lib.hid h_name
 have H_word:=Lib.hid h_word
 have H_tx:=Lib.hid h_tx
 have H_row:=Lib.hid h_row
 have H_w:=Lib.hid h_w
 have H_h:=Lib.hid h_h
 have H_bn:=Lib.hid h_bn
 have H_bw:=Lib.hid h_bw
 have H_bh:=Lib.hid h_bh
 have H_pow:=Lib.hid h_pow
 have hW:=start_facts w #[.int .i64 13,.int .i64 node,.int .i64 at_,.int .i64 org,.string name,.string word,tv,.int .i64 wn,.int .i64 wd,.int .i64 hn,.int .i64 hd,.int .i64 bt,.string bn,.int .i64 bwn,.int .i64 bwd,.int .i64 bhn,.int .i64 bhd,.bool on]
 clear h_node h_at h_org h_name h_word h_tx h_row h_w h_h h_bn h_bw h_bh h_pow
 go_enter Tryz.func39,Tryz.ntmps39
 go_wp2
 generalize (w.alloc (.cells #[.int .i64 13,.int .i64 node,.int .i64 at_,.int .i64 org,.string name,.string word,tv,.int .i64 wn,.int .i64 wd,.int .i64 hn,.int .i64 hd,.int .i64 bt,.string bn,.int .i64 bwn,.int .i64 bwd,.int .i64 bhn,.int .i64 bhd,.bool on] 28)).alloc (.cells #[.pointer none,.slice none 0 0,.bool true] 123)=W1 at hW ⊢
 obtain ⟨hb0,ha,hbw⟩:=hW
 have HB0:=Lib.hid hb0;have HA:=Lib.hid ha;have HBW:=Lib.hid hbw
 have N1:Hid (w.heap.size≠w.heap.size+1):=Lib.hid (by omega)
 have N2:Hid (some w.heap.size≠none):=Lib.hid (by simp)
 have HP:Hid (∀w',Fr W1 w' (w.heap.size+1) none→Pow w'):=Lib.hid (fun w' h=>H_pow.out.on (wrote_below h HBW.out (Nat.le_succ _)))
 have c0:=op_cell hb0 0 _ (by rfl)
 clear hb0 ha hbw
 refine wp_region_held_drew (S:=(fun s=>s.cell? ⟨w.heap.size,0,none⟩=some (.int .i64 13))) (by kernel_rfl) c0 (fun hHeld => ?_)
 refine wpAnyH_take (i:=0) (v:=.pointer (some ⟨w.heap.size+1,0,none⟩)) rfl (by kernel_rfl) (by kernel_rfl) (by kernel_rfl) (fun _ _ _ h=>h) (Or.inl ⟨by kernel_rfl,fun s hs=>by have s0c:=hs;go_simp<;>omega⟩) hHeld ?_
 refine wpAnyH_take (i:=1) (v:=.pointer (some ⟨w.heap.size+1,0,none⟩)) rfl (by kernel_rfl) (by kernel_rfl) (by kernel_rfl) (fun _ _ _ h=>h) (Or.inl ⟨by kernel_rfl,fun s hs=>by have s0c:=hs;go_simp<;>omega⟩) hHeld ?_
 refine wpAnyH_take (i:=2) (v:=.pointer (some ⟨w.heap.size+1,0,none⟩)) rfl (by kernel_rfl) (by kernel_rfl) (by kernel_rfl) (fun _ _ _ h=>h) (Or.inl ⟨by kernel_rfl,fun s hs=>by have s0c:=hs;go_simp<;>omega⟩) hHeld ?_
 refine wpAnyH_take (i:=3) (v:=.pointer (some ⟨w.heap.size,0,none⟩)) rfl (by kernel_rfl) (by kernel_rfl) (by kernel_rfl) (fun _ _ _ h=>h) (Or.inl ⟨by kernel_rfl,fun s hs=>by have s0c:=hs;go_simp<;>omega⟩) hHeld ?_
 refine wpAnyH_take (i:=4) (v:=.int .i64 13) rfl (by kernel_rfl) (by kernel_rfl) (by kernel_rfl) (fun _ _ _ h=>h) (Or.inl ⟨by kernel_rfl,fun s hs=>by have s0c:=hs;go_simp<;>omega⟩) hHeld ?_
 clear c0
 refine wpAnyH_ready (rs:=[5]) (by kernel_rfl) (by simp) ?_
 refine AllReadyH.cons rfl (fun K hK => ?_) AllReadyH.nil
 rw [if_pos (by kernel_rfl)]
 go_simp
 refine (first_any _ _).mono ?_
 rintro e w2 ⟨rfl,hb2⟩
 have HW2:=Lib.hid ((HA.out.below (Below.refl _ _).drew).below hb2)
 have c0:=op_cell (HW2.out.keep HB0.out N1.out N2.out) 0 _ (by rfl)
 clear hb2
 refine hK _ _ c0 (fun hHeld => ?_)
 clear c0
 refine wpAnyH_ready (rs:=[6]) (by kernel_rfl) (by simp) ?_
 refine AllReadyH.cons rfl (fun K hK => ?_) AllReadyH.nil
 rw [if_pos (by kernel_rfl)]
 go_simp
 refine (write_first HW2.out (firstS 13) (by decide)).mono ?_
 rintro e w3 ⟨rfl,h3⟩
 have HW3:Hid (Wrote W1 _ none sp.kColor true w3):=Lib.hid h3
 clear h3
 have c0:=op_cell (HW3.out.keep HB0.out N1.out N2.out) 0 _ (by rfl)
 refine hK _ _ c0 (fun hHeld => ?_)
 refine wpAnyH_done (by kernel_rfl) ?_ _
 clear hHeld
 go_simp
 have c7:=op_cell (HW3.out.keep HB0.out N1.out N2.out) 7 _ (by rfl)
 have c8:=op_cell (HW3.out.keep HB0.out N1.out N2.out) 8 _ (by rfl)
 go_wp2_with (first | (go_at_call 78;refine (fractions_new _ rfl HW3.out (wn,wd) H_w.out (by have:=LK.out;omega)).mono ?_;rintro e w4 ⟨rfl,h4⟩;have HW4:=Lib.hid h4;clear h4))
 have c2:=(bld_ok HW4.out.choose_spec.1).1
 refine wp_region_held_drew (S:=(fun s=>s.cell? ⟨w.heap.size+1,2,none⟩=some (.bool (true&&mayR (wn,wd))))) (by kernel_rfl) c2 (fun hHeld => ?_)
 refine wpAnyH_take (i:=0) (v:=.pointer (some ⟨w.heap.size+1,0,none⟩)) rfl (by kernel_rfl) (by kernel_rfl) (by kernel_rfl) (fun _ _ _ h=>h) (Or.inl ⟨by kernel_rfl,fun s hs=>by have s0c:=hs;go_simp<;>omega⟩) hHeld ?_
 refine wpAnyH_take (i:=1) (v:=.pointer (some ⟨w.heap.size+1,0,none⟩)) rfl (by kernel_rfl) (by kernel_rfl) (by kernel_rfl) (fun _ _ _ h=>h) (Or.inl ⟨by kernel_rfl,fun s hs=>by have s0c:=hs;go_simp<;>omega⟩) hHeld ?_
 refine wpAnyH_take (i:=2) (v:=.pointer (some ⟨w.heap.size+1,0,none⟩)) rfl (by kernel_rfl) (by kernel_rfl) (by kernel_rfl) (fun _ _ _ h=>h) (Or.inl ⟨by kernel_rfl,fun s hs=>by have s0c:=hs;go_simp<;>omega⟩) hHeld ?_
 refine wpAnyH_take (i:=4) (v:=.pointer (some ⟨w.heap.size+1,0,none⟩)) rfl (by kernel_rfl) (by kernel_rfl) (by kernel_rfl) (fun _ _ _ h=>h) (Or.inl ⟨by kernel_rfl,fun s hs=>by have s0c:=hs;go_simp<;>omega⟩) hHeld ?_
 refine wpAnyH_take (i:=5) (v:=.pointer (some ⟨w.heap.size+1,0,none⟩)) rfl (by kernel_rfl) (by kernel_rfl) (by kernel_rfl) (fun _ _ _ h=>h) (Or.inl ⟨by kernel_rfl,fun s hs=>by have s0c:=hs;go_simp<;>omega⟩) hHeld ?_
 refine wpAnyH_take (i:=6) (v:=.pointer (some ⟨w.heap.size+1,2,none⟩)) rfl (by kernel_rfl) (by kernel_rfl) (by kernel_rfl) (fun _ _ _ h=>h) (Or.inl ⟨by kernel_rfl,fun s hs=>by have s0c:=hs;go_simp<;>omega⟩) hHeld ?_
 refine wpAnyH_take (i:=7) (v:=.bool (true&&mayR (wn,wd))) rfl (by kernel_rfl) (by kernel_rfl) (by kernel_rfl) (fun _ _ _ h=>h) (Or.inl ⟨by kernel_rfl,fun s hs=>by have s0c:=hs;go_simp<;>omega⟩) hHeld ?_
 clear c2
 refine wpAnyH_ready (rs:=[3]) (by kernel_rfl) (by simp) ?_
 refine AllReadyH.cons rfl (fun K hK => ?_) AllReadyH.nil
 rw [if_pos (by kernel_rfl)]
 go_simp
 refine (string_wrote (HW4.out.below (Below.refl _ _).drew)).mono ?_
 rintro e w9 ⟨rfl,hf9,c2⟩
 have HF9:=Lib.hid (wrote_below hf9 HBW.out (Nat.le_succ _))
 clear hf9
 refine hK _ _ c2 (fun hHeld => ?_)
 refine wpAnyH_take (i:=8) (v:=.string (bstr (sp.kColor++32 :: sp.ratS wn wd))) rfl (by kernel_rfl) (by kernel_rfl) (by kernel_rfl) (fun _ _ _ h=>h) (Or.inl ⟨by kernel_rfl,fun s hs=>by have s0c:=hs;go_simp<;>omega⟩) hHeld ?_
 refine wpAnyH_take (i:=9) (v:=.bool (true&&mayR (wn,wd))) rfl (by kernel_rfl) (by kernel_rfl) (by kernel_rfl) (fun _ _ _ h=>h) (Or.inl ⟨by kernel_rfl,fun s hs=>by have s0c:=hs;go_simp<;>omega⟩) hHeld ?_
 refine wpAnyH_done (by kernel_rfl) ?_ _
 clear hHeld c2
 go_simp
 go_wp2
 go_ret2
 first
  | exact ⟨rfl,HF9.out⟩
  | (refine ⟨?_,HF9.out⟩;simp)
set_option maxRecDepth 100000 in
set_option maxHeartbeats 8000000 in
theorem one_print:Calls Tryz.prog 39 #[.agg #[.int .i64 14,.int .i64 node,.int .i64 at_,.int .i64 org,.string name,.string word,tv,.int .i64 wn,.int .i64 wd,.int .i64 hn,.int .i64 hd,.int .i64 bt,.string bn,.int .i64 bwn,.int .i64 bwd,.int .i64 bhn,.int .i64 bhd,.bool on]] w fun e w'=>e=.returned (.tuple #[.string (bstr (sp.kPrint++32 :: (if on then sp.kOn else sp.kOff))),.bool (true)])∧Below w.heap.size w w':=by
 have LK:Hid (sp.kPrint.length≤10):=Lib.hid (by decide)
 have D1:=Lib.hid (datLen name);have D2:=Lib.hid (datLen word)
 have I1:Hid ((Lib.itoa node).length≤21):=Lib.hid (by have:=itoaLen h_node;rwa [bstr_size] at this)
 have I2:Hid ((Lib.itoa at_).length≤21):=Lib.hid (by have:=itoaLen h_at;rwa [bstr_size] at this)
 have I3:Hid ((Lib.itoa org).length≤21):=Lib.hid (by have:=itoaLen h_org;rwa [bstr_size] at this)
 have H_node:=Lib.hid h_node
 have H_at:=Lib.hid h_at
 have H_org:=Lib.hid h_org
 have H_name:=Lib.hid h_name
 have H_word:=Lib.hid h_word
 have H_tx:=Lib.hid h_tx
 have H_row:=Lib.hid h_row
 have H_w:=Lib.hid h_w
 have H_h:=Lib.hid h_h
 have H_bn:=Lib.hid h_bn
 have H_bw:=Lib.hid h_bw
 have H_bh:=Lib.hid h_bh
 have H_pow:=Lib.hid h_pow
 have hW:=start_facts w #[.int .i64 14,.int .i64 node,.int .i64 at_,.int .i64 org,.string name,.string word,tv,.int .i64 wn,.int .i64 wd,.int .i64 hn,.int .i64 hd,.int .i64 bt,.string bn,.int .i64 bwn,.int .i64 bwd,.int .i64 bhn,.int .i64 bhd,.bool on]
 clear h_node h_at h_org h_name h_word h_tx h_row h_w h_h h_bn h_bw h_bh h_pow
 go_enter Tryz.func39,Tryz.ntmps39
 go_wp2
 generalize (w.alloc (.cells #[.int .i64 14,.int .i64 node,.int .i64 at_,.int .i64 org,.string name,.string word,tv,.int .i64 wn,.int .i64 wd,.int .i64 hn,.int .i64 hd,.int .i64 bt,.string bn,.int .i64 bwn,.int .i64 bwd,.int .i64 bhn,.int .i64 bhd,.bool on] 28)).alloc (.cells #[.pointer none,.slice none 0 0,.bool true] 123)=W1 at hW ⊢
 obtain ⟨hb0,ha,hbw⟩:=hW
 have HB0:=Lib.hid hb0;have HA:=Lib.hid ha;have HBW:=Lib.hid hbw
 have N1:Hid (w.heap.size≠w.heap.size+1):=Lib.hid (by omega)
 have N2:Hid (some w.heap.size≠none):=Lib.hid (by simp)
 have HP:Hid (∀w',Fr W1 w' (w.heap.size+1) none→Pow w'):=Lib.hid (fun w' h=>H_pow.out.on (wrote_below h HBW.out (Nat.le_succ _)))
 have c0:=op_cell hb0 0 _ (by rfl)
 clear hb0 ha hbw
 refine wp_region_held_drew (S:=(fun s=>s.cell? ⟨w.heap.size,0,none⟩=some (.int .i64 14))) (by kernel_rfl) c0 (fun hHeld => ?_)
 refine wpAnyH_take (i:=0) (v:=.pointer (some ⟨w.heap.size+1,0,none⟩)) rfl (by kernel_rfl) (by kernel_rfl) (by kernel_rfl) (fun _ _ _ h=>h) (Or.inl ⟨by kernel_rfl,fun s hs=>by have s0c:=hs;go_simp<;>omega⟩) hHeld ?_
 refine wpAnyH_take (i:=1) (v:=.pointer (some ⟨w.heap.size+1,0,none⟩)) rfl (by kernel_rfl) (by kernel_rfl) (by kernel_rfl) (fun _ _ _ h=>h) (Or.inl ⟨by kernel_rfl,fun s hs=>by have s0c:=hs;go_simp<;>omega⟩) hHeld ?_
 refine wpAnyH_take (i:=2) (v:=.pointer (some ⟨w.heap.size+1,0,none⟩)) rfl (by kernel_rfl) (by kernel_rfl) (by kernel_rfl) (fun _ _ _ h=>h) (Or.inl ⟨by kernel_rfl,fun s hs=>by have s0c:=hs;go_simp<;>omega⟩) hHeld ?_
 refine wpAnyH_take (i:=3) (v:=.pointer (some ⟨w.heap.size,0,none⟩)) rfl (by kernel_rfl) (by kernel_rfl) (by kernel_rfl) (fun _ _ _ h=>h) (Or.inl ⟨by kernel_rfl,fun s hs=>by have s0c:=hs;go_simp<;>omega⟩) hHeld ?_
 refine wpAnyH_take (i:=4) (v:=.int .i64 14) rfl (by kernel_rfl) (by kernel_rfl) (by kernel_rfl) (fun _ _ _ h=>h) (Or.inl ⟨by kernel_rfl,fun s hs=>by have s0c:=hs;go_simp<;>omega⟩) hHeld ?_
 clear c0
 refine wpAnyH_ready (rs:=[5]) (by kernel_rfl) (by simp) ?_
 refine AllReadyH.cons rfl (fun K hK => ?_) AllReadyH.nil
 rw [if_pos (by kernel_rfl)]
 go_simp
 refine (first_any _ _).mono ?_
 rintro e w2 ⟨rfl,hb2⟩
 have HW2:=Lib.hid ((HA.out.below (Below.refl _ _).drew).below hb2)
 have c0:=op_cell (HW2.out.keep HB0.out N1.out N2.out) 0 _ (by rfl)
 clear hb2
 refine hK _ _ c0 (fun hHeld => ?_)
 clear c0
 refine wpAnyH_ready (rs:=[6]) (by kernel_rfl) (by simp) ?_
 refine AllReadyH.cons rfl (fun K hK => ?_) AllReadyH.nil
 rw [if_pos (by kernel_rfl)]
 go_simp
 refine (write_first HW2.out (firstS 14) (by decide)).mono ?_
 rintro e w3 ⟨rfl,h3⟩
 have HW3:Hid (Wrote W1 _ none sp.kPrint true w3):=Lib.hid h3
 clear h3
 have c0:=op_cell (HW3.out.keep HB0.out N1.out N2.out) 0 _ (by rfl)
 refine hK _ _ c0 (fun hHeld => ?_)
 refine wpAnyH_done (by kernel_rfl) ?_ _
 clear hHeld
 go_simp
 have c17:=op_cell (HW3.out.keep HB0.out N1.out N2.out) 17 _ (by rfl)
 cases on
 ·go_wp2_with (first | (go_at_call 77;refine (put_new _ rfl HW3.out _ (by have:=LK.out;have:=D1.out;have:=D2.out;have:=I1.out;have:=I2.out;have:=I3.out;have:=H_name.out;have:=H_word.out;simp only [List.length_append,List.length_cons,List.length_nil];omega) (by first | decide | (rw [bstr_size];exact Nat.le_trans (quoteS_len _) (by first | (have:=D2.out;have:=H_word.out;omega) | (have:=H_tx.out;simp [bstr];omega))))).mono ?_;rintro e w4 ⟨rfl,h4⟩;have HW4:=Lib.hid h4;clear h4))
  have c2:=(bld_ok HW4.out.choose_spec.1).1
  refine wp_region_held_drew (S:=(fun s=>s.cell? ⟨w.heap.size+1,2,none⟩=some (.bool (true)))) (by kernel_rfl) c2 (fun hHeld => ?_)
  refine wpAnyH_take (i:=0) (v:=.pointer (some ⟨w.heap.size+1,0,none⟩)) rfl (by kernel_rfl) (by kernel_rfl) (by kernel_rfl) (fun _ _ _ h=>h) (Or.inl ⟨by kernel_rfl,fun s hs=>by have s0c:=hs;go_simp<;>omega⟩) hHeld ?_
  refine wpAnyH_take (i:=1) (v:=.pointer (some ⟨w.heap.size+1,0,none⟩)) rfl (by kernel_rfl) (by kernel_rfl) (by kernel_rfl) (fun _ _ _ h=>h) (Or.inl ⟨by kernel_rfl,fun s hs=>by have s0c:=hs;go_simp<;>omega⟩) hHeld ?_
  refine wpAnyH_take (i:=2) (v:=.pointer (some ⟨w.heap.size+1,0,none⟩)) rfl (by kernel_rfl) (by kernel_rfl) (by kernel_rfl) (fun _ _ _ h=>h) (Or.inl ⟨by kernel_rfl,fun s hs=>by have s0c:=hs;go_simp<;>omega⟩) hHeld ?_
  refine wpAnyH_take (i:=4) (v:=.pointer (some ⟨w.heap.size+1,0,none⟩)) rfl (by kernel_rfl) (by kernel_rfl) (by kernel_rfl) (fun _ _ _ h=>h) (Or.inl ⟨by kernel_rfl,fun s hs=>by have s0c:=hs;go_simp<;>omega⟩) hHeld ?_
  refine wpAnyH_take (i:=5) (v:=.pointer (some ⟨w.heap.size+1,0,none⟩)) rfl (by kernel_rfl) (by kernel_rfl) (by kernel_rfl) (fun _ _ _ h=>h) (Or.inl ⟨by kernel_rfl,fun s hs=>by have s0c:=hs;go_simp<;>omega⟩) hHeld ?_
  refine wpAnyH_take (i:=6) (v:=.pointer (some ⟨w.heap.size+1,2,none⟩)) rfl (by kernel_rfl) (by kernel_rfl) (by kernel_rfl) (fun _ _ _ h=>h) (Or.inl ⟨by kernel_rfl,fun s hs=>by have s0c:=hs;go_simp<;>omega⟩) hHeld ?_
  refine wpAnyH_take (i:=7) (v:=.bool (true)) rfl (by kernel_rfl) (by kernel_rfl) (by kernel_rfl) (fun _ _ _ h=>h) (Or.inl ⟨by kernel_rfl,fun s hs=>by have s0c:=hs;go_simp<;>omega⟩) hHeld ?_
  clear c2
  refine wpAnyH_ready (rs:=[3]) (by kernel_rfl) (by simp) ?_
  refine AllReadyH.cons rfl (fun K hK => ?_) AllReadyH.nil
  rw [if_pos (by kernel_rfl)]
  go_simp
  refine (string_wrote (HW4.out.below (Below.refl _ _).drew)).mono ?_
  rintro e w9 ⟨rfl,hf9,c2⟩
  have HF9:=Lib.hid (wrote_below hf9 HBW.out (Nat.le_succ _))
  clear hf9
  refine hK _ _ c2 (fun hHeld => ?_)
  refine wpAnyH_take (i:=8) (v:=.string (bstr (sp.kPrint++32 :: sp.kOff))) rfl (by kernel_rfl) (by kernel_rfl) (by kernel_rfl) (fun _ _ _ h=>h) (Or.inl ⟨by kernel_rfl,fun s hs=>by have s0c:=hs;go_simp<;>omega⟩) hHeld ?_
  refine wpAnyH_take (i:=9) (v:=.bool (true)) rfl (by kernel_rfl) (by kernel_rfl) (by kernel_rfl) (fun _ _ _ h=>h) (Or.inl ⟨by kernel_rfl,fun s hs=>by have s0c:=hs;go_simp<;>omega⟩) hHeld ?_
  refine wpAnyH_done (by kernel_rfl) ?_ _
  clear hHeld c2
  go_simp
  go_wp2
  go_ret2
  exact ⟨rfl,HF9.out⟩
 ·go_wp2_with (first | (go_at_call 77;refine (put_new _ rfl HW3.out _ (by have:=LK.out;have:=D1.out;have:=D2.out;have:=I1.out;have:=I2.out;have:=I3.out;have:=H_name.out;have:=H_word.out;simp only [List.length_append,List.length_cons,List.length_nil];omega) (by first | decide | (rw [bstr_size];exact Nat.le_trans (quoteS_len _) (by first | (have:=D2.out;have:=H_word.out;omega) | (have:=H_tx.out;simp [bstr];omega))))).mono ?_;rintro e w4 ⟨rfl,h4⟩;have HW4:=Lib.hid h4;clear h4))
  have c2:=(bld_ok HW4.out.choose_spec.1).1
  refine wp_region_held_drew (S:=(fun s=>s.cell? ⟨w.heap.size+1,2,none⟩=some (.bool (true)))) (by kernel_rfl) c2 (fun hHeld => ?_)
  refine wpAnyH_take (i:=0) (v:=.pointer (some ⟨w.heap.size+1,0,none⟩)) rfl (by kernel_rfl) (by kernel_rfl) (by kernel_rfl) (fun _ _ _ h=>h) (Or.inl ⟨by kernel_rfl,fun s hs=>by have s0c:=hs;go_simp<;>omega⟩) hHeld ?_
  refine wpAnyH_take (i:=1) (v:=.pointer (some ⟨w.heap.size+1,0,none⟩)) rfl (by kernel_rfl) (by kernel_rfl) (by kernel_rfl) (fun _ _ _ h=>h) (Or.inl ⟨by kernel_rfl,fun s hs=>by have s0c:=hs;go_simp<;>omega⟩) hHeld ?_
  refine wpAnyH_take (i:=2) (v:=.pointer (some ⟨w.heap.size+1,0,none⟩)) rfl (by kernel_rfl) (by kernel_rfl) (by kernel_rfl) (fun _ _ _ h=>h) (Or.inl ⟨by kernel_rfl,fun s hs=>by have s0c:=hs;go_simp<;>omega⟩) hHeld ?_
  refine wpAnyH_take (i:=4) (v:=.pointer (some ⟨w.heap.size+1,0,none⟩)) rfl (by kernel_rfl) (by kernel_rfl) (by kernel_rfl) (fun _ _ _ h=>h) (Or.inl ⟨by kernel_rfl,fun s hs=>by have s0c:=hs;go_simp<;>omega⟩) hHeld ?_
  refine wpAnyH_take (i:=5) (v:=.pointer (some ⟨w.heap.size+1,0,none⟩)) rfl (by kernel_rfl) (by kernel_rfl) (by kernel_rfl) (fun _ _ _ h=>h) (Or.inl ⟨by kernel_rfl,fun s hs=>by have s0c:=hs;go_simp<;>omega⟩) hHeld ?_
  refine wpAnyH_take (i:=6) (v:=.pointer (some ⟨w.heap.size+1,2,none⟩)) rfl (by kernel_rfl) (by kernel_rfl) (by kernel_rfl) (fun _ _ _ h=>h) (Or.inl ⟨by kernel_rfl,fun s hs=>by have s0c:=hs;go_simp<;>omega⟩) hHeld ?_
  refine wpAnyH_take (i:=7) (v:=.bool (true)) rfl (by kernel_rfl) (by kernel_rfl) (by kernel_rfl) (fun _ _ _ h=>h) (Or.inl ⟨by kernel_rfl,fun s hs=>by have s0c:=hs;go_simp<;>omega⟩) hHeld ?_
  clear c2
  refine wpAnyH_ready (rs:=[3]) (by kernel_rfl) (by simp) ?_
  refine AllReadyH.cons rfl (fun K hK => ?_) AllReadyH.nil
  rw [if_pos (by kernel_rfl)]
  go_simp
  refine (string_wrote (HW4.out.below (Below.refl _ _).drew)).mono ?_
  rintro e w9 ⟨rfl,hf9,c2⟩
  have HF9:=Lib.hid (wrote_below hf9 HBW.out (Nat.le_succ _))
  clear hf9
  refine hK _ _ c2 (fun hHeld => ?_)
  refine wpAnyH_take (i:=8) (v:=.string (bstr (sp.kPrint++32 :: sp.kOn))) rfl (by kernel_rfl) (by kernel_rfl) (by kernel_rfl) (fun _ _ _ h=>h) (Or.inl ⟨by kernel_rfl,fun s hs=>by have s0c:=hs;go_simp<;>omega⟩) hHeld ?_
  refine wpAnyH_take (i:=9) (v:=.bool (true)) rfl (by kernel_rfl) (by kernel_rfl) (by kernel_rfl) (fun _ _ _ h=>h) (Or.inl ⟨by kernel_rfl,fun s hs=>by have s0c:=hs;go_simp<;>omega⟩) hHeld ?_
  refine wpAnyH_done (by kernel_rfl) ?_ _
  clear hHeld c2
  go_simp
  go_wp2
  go_ret2
  exact ⟨rfl,HF9.out⟩
end
section
variable (node at_ org:Int) (name word:ByteArray) (tv:Value) (tx:List UInt8) (wn wd hn hd bt:Int) (bn:ByteArray) (bwn bwd bhn bhd:Int) (on:Bool) (w:World) (h_node:I64 node) (h_at:I64 at_) (h_org:I64 org) (h_name:name.size≤1048576) (h_word:word.size≤1048576) (h_tx:tx.length≤1048576) (h_row:RowAt w.heap.size w tv tx.length (Lib.byteCells tx)) (h_w:I64 wn∧I64 wd) (h_h:I64 hn∧I64 hd) (h_bn:bn.size≤1048576) (h_bw:I64 bwn∧I64 bwd) (h_bh:I64 bhn∧I64 bhd) (h_pow:Pow w)
include h_node h_at h_org h_name h_word h_tx h_row h_w h_h h_bn h_bw h_bh h_pow
set_option maxRecDepth 100000 in
set_option maxHeartbeats 8000000 in
theorem one_word:Calls Tryz.prog 39 #[.agg #[.int .i64 4,.int .i64 node,.int .i64 at_,.int .i64 org,.string name,.string word,tv,.int .i64 wn,.int .i64 wd,.int .i64 hn,.int .i64 hd,.int .i64 bt,.string bn,.int .i64 bwn,.int .i64 bwd,.int .i64 bhn,.int .i64 bhd,.bool on]] w fun e w'=>e=.returned (.tuple #[.string (bstr (sp.kWord++32 :: name.data.toList++32 :: word.data.toList)),.bool (true&&plainV name&&plainV word)])∧Below w.heap.size w w':=by
 have LK:Hid (sp.kWord.length≤10):=Lib.hid (by decide)
 have D1:=Lib.hid (datLen name);have D2:=Lib.hid (datLen word)
 have I1:Hid ((Lib.itoa node).length≤21):=Lib.hid (by have:=itoaLen h_node;rwa [bstr_size] at this)
 have I2:Hid ((Lib.itoa at_).length≤21):=Lib.hid (by have:=itoaLen h_at;rwa [bstr_size] at this)
 have I3:Hid ((Lib.itoa org).length≤21):=Lib.hid (by have:=itoaLen h_org;rwa [bstr_size] at this)
 have H_node:=Lib.hid h_node
 have H_at:=Lib.hid h_at
 have H_org:=Lib.hid h_org
 have H_name:=Lib.hid h_name
 have H_word:=Lib.hid h_word
 have H_tx:=Lib.hid h_tx
 have H_row:=Lib.hid h_row
 have H_w:=Lib.hid h_w
 have H_h:=Lib.hid h_h
 have H_bn:=Lib.hid h_bn
 have H_bw:=Lib.hid h_bw
 have H_bh:=Lib.hid h_bh
 have H_pow:=Lib.hid h_pow
 have hW:=start_facts w #[.int .i64 4,.int .i64 node,.int .i64 at_,.int .i64 org,.string name,.string word,tv,.int .i64 wn,.int .i64 wd,.int .i64 hn,.int .i64 hd,.int .i64 bt,.string bn,.int .i64 bwn,.int .i64 bwd,.int .i64 bhn,.int .i64 bhd,.bool on]
 clear h_node h_at h_org h_name h_word h_tx h_row h_w h_h h_bn h_bw h_bh h_pow
 go_enter Tryz.func39,Tryz.ntmps39
 go_wp2
 generalize (w.alloc (.cells #[.int .i64 4,.int .i64 node,.int .i64 at_,.int .i64 org,.string name,.string word,tv,.int .i64 wn,.int .i64 wd,.int .i64 hn,.int .i64 hd,.int .i64 bt,.string bn,.int .i64 bwn,.int .i64 bwd,.int .i64 bhn,.int .i64 bhd,.bool on] 28)).alloc (.cells #[.pointer none,.slice none 0 0,.bool true] 123)=W1 at hW ⊢
 obtain ⟨hb0,ha,hbw⟩:=hW
 have HB0:=Lib.hid hb0;have HA:=Lib.hid ha;have HBW:=Lib.hid hbw
 have N1:Hid (w.heap.size≠w.heap.size+1):=Lib.hid (by omega)
 have N2:Hid (some w.heap.size≠none):=Lib.hid (by simp)
 have HP:Hid (∀w',Fr W1 w' (w.heap.size+1) none→Pow w'):=Lib.hid (fun w' h=>H_pow.out.on (wrote_below h HBW.out (Nat.le_succ _)))
 have c0:=op_cell hb0 0 _ (by rfl)
 clear hb0 ha hbw
 refine wp_region_held_drew (S:=(fun s=>s.cell? ⟨w.heap.size,0,none⟩=some (.int .i64 4))) (by kernel_rfl) c0 (fun hHeld => ?_)
 refine wpAnyH_take (i:=0) (v:=.pointer (some ⟨w.heap.size+1,0,none⟩)) rfl (by kernel_rfl) (by kernel_rfl) (by kernel_rfl) (fun _ _ _ h=>h) (Or.inl ⟨by kernel_rfl,fun s hs=>by have s0c:=hs;go_simp<;>omega⟩) hHeld ?_
 refine wpAnyH_take (i:=1) (v:=.pointer (some ⟨w.heap.size+1,0,none⟩)) rfl (by kernel_rfl) (by kernel_rfl) (by kernel_rfl) (fun _ _ _ h=>h) (Or.inl ⟨by kernel_rfl,fun s hs=>by have s0c:=hs;go_simp<;>omega⟩) hHeld ?_
 refine wpAnyH_take (i:=2) (v:=.pointer (some ⟨w.heap.size+1,0,none⟩)) rfl (by kernel_rfl) (by kernel_rfl) (by kernel_rfl) (fun _ _ _ h=>h) (Or.inl ⟨by kernel_rfl,fun s hs=>by have s0c:=hs;go_simp<;>omega⟩) hHeld ?_
 refine wpAnyH_take (i:=3) (v:=.pointer (some ⟨w.heap.size,0,none⟩)) rfl (by kernel_rfl) (by kernel_rfl) (by kernel_rfl) (fun _ _ _ h=>h) (Or.inl ⟨by kernel_rfl,fun s hs=>by have s0c:=hs;go_simp<;>omega⟩) hHeld ?_
 refine wpAnyH_take (i:=4) (v:=.int .i64 4) rfl (by kernel_rfl) (by kernel_rfl) (by kernel_rfl) (fun _ _ _ h=>h) (Or.inl ⟨by kernel_rfl,fun s hs=>by have s0c:=hs;go_simp<;>omega⟩) hHeld ?_
 clear c0
 refine wpAnyH_ready (rs:=[5]) (by kernel_rfl) (by simp) ?_
 refine AllReadyH.cons rfl (fun K hK => ?_) AllReadyH.nil
 rw [if_pos (by kernel_rfl)]
 go_simp
 refine (first_any _ _).mono ?_
 rintro e w2 ⟨rfl,hb2⟩
 have HW2:=Lib.hid ((HA.out.below (Below.refl _ _).drew).below hb2)
 have c0:=op_cell (HW2.out.keep HB0.out N1.out N2.out) 0 _ (by rfl)
 clear hb2
 refine hK _ _ c0 (fun hHeld => ?_)
 clear c0
 refine wpAnyH_ready (rs:=[6]) (by kernel_rfl) (by simp) ?_
 refine AllReadyH.cons rfl (fun K hK => ?_) AllReadyH.nil
 rw [if_pos (by kernel_rfl)]
 go_simp
 refine (write_first HW2.out (firstS 4) (by decide)).mono ?_
 rintro e w3 ⟨rfl,h3⟩
 have HW3:Hid (Wrote W1 _ none sp.kWord true w3):=Lib.hid h3
 clear h3
 have c0:=op_cell (HW3.out.keep HB0.out N1.out N2.out) 0 _ (by rfl)
 refine hK _ _ c0 (fun hHeld => ?_)
 refine wpAnyH_done (by kernel_rfl) ?_ _
 clear hHeld
 go_simp
 have c4:=op_cell (HW3.out.keep HB0.out N1.out N2.out) 4 _ (by rfl)
 have c5:=op_cell (HW3.out.keep HB0.out N1.out N2.out) 5 _ (by rfl)
 go_wp2_with (first | (go_at_call 79;refine (plain_new2 _ rfl HW3.out name word (by have:=LK.out;have:=D1.out;have:=D2.out;have:=I1.out;have:=I2.out;have:=I3.out;have:=H_name.out;have:=H_word.out;simp only [List.length_append,List.length_cons,List.length_nil];omega) H_name.out H_word.out).mono ?_;rintro e w4 ⟨rfl,h4⟩;have HW4:=Lib.hid h4;clear h4))
 have c2:=(bld_ok HW4.out.choose_spec.1).1
 refine wp_region_held_drew (S:=(fun s=>s.cell? ⟨w.heap.size+1,2,none⟩=some (.bool (true&&plainV name&&plainV word)))) (by kernel_rfl) c2 (fun hHeld => ?_)
 refine wpAnyH_take (i:=0) (v:=.pointer (some ⟨w.heap.size+1,0,none⟩)) rfl (by kernel_rfl) (by kernel_rfl) (by kernel_rfl) (fun _ _ _ h=>h) (Or.inl ⟨by kernel_rfl,fun s hs=>by have s0c:=hs;go_simp<;>omega⟩) hHeld ?_
 refine wpAnyH_take (i:=1) (v:=.pointer (some ⟨w.heap.size+1,0,none⟩)) rfl (by kernel_rfl) (by kernel_rfl) (by kernel_rfl) (fun _ _ _ h=>h) (Or.inl ⟨by kernel_rfl,fun s hs=>by have s0c:=hs;go_simp<;>omega⟩) hHeld ?_
 refine wpAnyH_take (i:=2) (v:=.pointer (some ⟨w.heap.size+1,0,none⟩)) rfl (by kernel_rfl) (by kernel_rfl) (by kernel_rfl) (fun _ _ _ h=>h) (Or.inl ⟨by kernel_rfl,fun s hs=>by have s0c:=hs;go_simp<;>omega⟩) hHeld ?_
 refine wpAnyH_take (i:=4) (v:=.pointer (some ⟨w.heap.size+1,0,none⟩)) rfl (by kernel_rfl) (by kernel_rfl) (by kernel_rfl) (fun _ _ _ h=>h) (Or.inl ⟨by kernel_rfl,fun s hs=>by have s0c:=hs;go_simp<;>omega⟩) hHeld ?_
 refine wpAnyH_take (i:=5) (v:=.pointer (some ⟨w.heap.size+1,0,none⟩)) rfl (by kernel_rfl) (by kernel_rfl) (by kernel_rfl) (fun _ _ _ h=>h) (Or.inl ⟨by kernel_rfl,fun s hs=>by have s0c:=hs;go_simp<;>omega⟩) hHeld ?_
 refine wpAnyH_take (i:=6) (v:=.pointer (some ⟨w.heap.size+1,2,none⟩)) rfl (by kernel_rfl) (by kernel_rfl) (by kernel_rfl) (fun _ _ _ h=>h) (Or.inl ⟨by kernel_rfl,fun s hs=>by have s0c:=hs;go_simp<;>omega⟩) hHeld ?_
 refine wpAnyH_take (i:=7) (v:=.bool (true&&plainV name&&plainV word)) rfl (by kernel_rfl) (by kernel_rfl) (by kernel_rfl) (fun _ _ _ h=>h) (Or.inl ⟨by kernel_rfl,fun s hs=>by have s0c:=hs;go_simp<;>omega⟩) hHeld ?_
 clear c2
 refine wpAnyH_ready (rs:=[3]) (by kernel_rfl) (by simp) ?_
 refine AllReadyH.cons rfl (fun K hK => ?_) AllReadyH.nil
 rw [if_pos (by kernel_rfl)]
 go_simp
 refine (string_wrote (HW4.out.below (Below.refl _ _).drew)).mono ?_
 rintro e w9 ⟨rfl,hf9,c2⟩
 have HF9:=Lib.hid (wrote_below hf9 HBW.out (Nat.le_succ _))
 clear hf9
 refine hK _ _ c2 (fun hHeld => ?_)
 refine wpAnyH_take (i:=8) (v:=.string (bstr (sp.kWord++32 :: name.data.toList++32 :: word.data.toList))) rfl (by kernel_rfl) (by kernel_rfl) (by kernel_rfl) (fun _ _ _ h=>h) (Or.inl ⟨by kernel_rfl,fun s hs=>by have s0c:=hs;go_simp<;>omega⟩) hHeld ?_
 refine wpAnyH_take (i:=9) (v:=.bool (true&&plainV name&&plainV word)) rfl (by kernel_rfl) (by kernel_rfl) (by kernel_rfl) (fun _ _ _ h=>h) (Or.inl ⟨by kernel_rfl,fun s hs=>by have s0c:=hs;go_simp<;>omega⟩) hHeld ?_
 refine wpAnyH_done (by kernel_rfl) ?_ _
 clear hHeld c2
 go_simp
 go_wp2
 go_ret2
 first
  | exact ⟨rfl,HF9.out⟩
  | (refine ⟨?_,HF9.out⟩;simp)
set_option maxRecDepth 100000 in
set_option maxHeartbeats 8000000 in
theorem one_insert:Calls Tryz.prog 39 #[.agg #[.int .i64 5,.int .i64 node,.int .i64 at_,.int .i64 org,.string name,.string word,tv,.int .i64 wn,.int .i64 wd,.int .i64 hn,.int .i64 hd,.int .i64 bt,.string bn,.int .i64 bwn,.int .i64 bwd,.int .i64 bhn,.int .i64 bhd,.bool on]] w fun e w'=>e=.returned (.tuple #[.string (bstr (sp.kInsert++32 :: Lib.itoa node++32 :: Lib.itoa at_++32 :: name.data.toList)),.bool (true&&smallB node&&smallB at_&&plainV name)])∧Below w.heap.size w w':=by
 have LK:Hid (sp.kInsert.length≤10):=Lib.hid (by decide)
 have D1:=Lib.hid (datLen name);have D2:=Lib.hid (datLen word)
 have I1:Hid ((Lib.itoa node).length≤21):=Lib.hid (by have:=itoaLen h_node;rwa [bstr_size] at this)
 have I2:Hid ((Lib.itoa at_).length≤21):=Lib.hid (by have:=itoaLen h_at;rwa [bstr_size] at this)
 have I3:Hid ((Lib.itoa org).length≤21):=Lib.hid (by have:=itoaLen h_org;rwa [bstr_size] at this)
 have H_node:=Lib.hid h_node
 have H_at:=Lib.hid h_at
 have H_org:=Lib.hid h_org
 have H_name:=Lib.hid h_name
 have H_word:=Lib.hid h_word
 have H_tx:=Lib.hid h_tx
 have H_row:=Lib.hid h_row
 have H_w:=Lib.hid h_w
 have H_h:=Lib.hid h_h
 have H_bn:=Lib.hid h_bn
 have H_bw:=Lib.hid h_bw
 have H_bh:=Lib.hid h_bh
 have H_pow:=Lib.hid h_pow
 have hW:=start_facts w #[.int .i64 5,.int .i64 node,.int .i64 at_,.int .i64 org,.string name,.string word,tv,.int .i64 wn,.int .i64 wd,.int .i64 hn,.int .i64 hd,.int .i64 bt,.string bn,.int .i64 bwn,.int .i64 bwd,.int .i64 bhn,.int .i64 bhd,.bool on]
 clear h_node h_at h_org h_name h_word h_tx h_row h_w h_h h_bn h_bw h_bh h_pow
 go_enter Tryz.func39,Tryz.ntmps39
 go_wp2
 generalize (w.alloc (.cells #[.int .i64 5,.int .i64 node,.int .i64 at_,.int .i64 org,.string name,.string word,tv,.int .i64 wn,.int .i64 wd,.int .i64 hn,.int .i64 hd,.int .i64 bt,.string bn,.int .i64 bwn,.int .i64 bwd,.int .i64 bhn,.int .i64 bhd,.bool on] 28)).alloc (.cells #[.pointer none,.slice none 0 0,.bool true] 123)=W1 at hW ⊢
 obtain ⟨hb0,ha,hbw⟩:=hW
 have HB0:=Lib.hid hb0;have HA:=Lib.hid ha;have HBW:=Lib.hid hbw
 have N1:Hid (w.heap.size≠w.heap.size+1):=Lib.hid (by omega)
 have N2:Hid (some w.heap.size≠none):=Lib.hid (by simp)
 have HP:Hid (∀w',Fr W1 w' (w.heap.size+1) none→Pow w'):=Lib.hid (fun w' h=>H_pow.out.on (wrote_below h HBW.out (Nat.le_succ _)))
 have c0:=op_cell hb0 0 _ (by rfl)
 clear hb0 ha hbw
 refine wp_region_held_drew (S:=(fun s=>s.cell? ⟨w.heap.size,0,none⟩=some (.int .i64 5))) (by kernel_rfl) c0 (fun hHeld => ?_)
 refine wpAnyH_take (i:=0) (v:=.pointer (some ⟨w.heap.size+1,0,none⟩)) rfl (by kernel_rfl) (by kernel_rfl) (by kernel_rfl) (fun _ _ _ h=>h) (Or.inl ⟨by kernel_rfl,fun s hs=>by have s0c:=hs;go_simp<;>omega⟩) hHeld ?_
 refine wpAnyH_take (i:=1) (v:=.pointer (some ⟨w.heap.size+1,0,none⟩)) rfl (by kernel_rfl) (by kernel_rfl) (by kernel_rfl) (fun _ _ _ h=>h) (Or.inl ⟨by kernel_rfl,fun s hs=>by have s0c:=hs;go_simp<;>omega⟩) hHeld ?_
 refine wpAnyH_take (i:=2) (v:=.pointer (some ⟨w.heap.size+1,0,none⟩)) rfl (by kernel_rfl) (by kernel_rfl) (by kernel_rfl) (fun _ _ _ h=>h) (Or.inl ⟨by kernel_rfl,fun s hs=>by have s0c:=hs;go_simp<;>omega⟩) hHeld ?_
 refine wpAnyH_take (i:=3) (v:=.pointer (some ⟨w.heap.size,0,none⟩)) rfl (by kernel_rfl) (by kernel_rfl) (by kernel_rfl) (fun _ _ _ h=>h) (Or.inl ⟨by kernel_rfl,fun s hs=>by have s0c:=hs;go_simp<;>omega⟩) hHeld ?_
 refine wpAnyH_take (i:=4) (v:=.int .i64 5) rfl (by kernel_rfl) (by kernel_rfl) (by kernel_rfl) (fun _ _ _ h=>h) (Or.inl ⟨by kernel_rfl,fun s hs=>by have s0c:=hs;go_simp<;>omega⟩) hHeld ?_
 clear c0
 refine wpAnyH_ready (rs:=[5]) (by kernel_rfl) (by simp) ?_
 refine AllReadyH.cons rfl (fun K hK => ?_) AllReadyH.nil
 rw [if_pos (by kernel_rfl)]
 go_simp
 refine (first_any _ _).mono ?_
 rintro e w2 ⟨rfl,hb2⟩
 have HW2:=Lib.hid ((HA.out.below (Below.refl _ _).drew).below hb2)
 have c0:=op_cell (HW2.out.keep HB0.out N1.out N2.out) 0 _ (by rfl)
 clear hb2
 refine hK _ _ c0 (fun hHeld => ?_)
 clear c0
 refine wpAnyH_ready (rs:=[6]) (by kernel_rfl) (by simp) ?_
 refine AllReadyH.cons rfl (fun K hK => ?_) AllReadyH.nil
 rw [if_pos (by kernel_rfl)]
 go_simp
 refine (write_first HW2.out (firstS 5) (by decide)).mono ?_
 rintro e w3 ⟨rfl,h3⟩
 have HW3:Hid (Wrote W1 _ none sp.kInsert true w3):=Lib.hid h3
 clear h3
 have c0:=op_cell (HW3.out.keep HB0.out N1.out N2.out) 0 _ (by rfl)
 refine hK _ _ c0 (fun hHeld => ?_)
 refine wpAnyH_done (by kernel_rfl) ?_ _
 clear hHeld
 go_simp
 have c1:=op_cell (HW3.out.keep HB0.out N1.out N2.out) 1 _ (by rfl)
 have c2:=op_cell (HW3.out.keep HB0.out N1.out N2.out) 2 _ (by rfl)
 have c4:=op_cell (HW3.out.keep HB0.out N1.out N2.out) 4 _ (by rfl)
 go_wp2_with (first | (go_at_call 76;refine (numbers_new2 _ rfl HW3.out node at_ H_node.out H_at.out (by have:=LK.out;have:=D1.out;have:=D2.out;have:=I1.out;have:=I2.out;have:=I3.out;have:=H_name.out;have:=H_word.out;simp only [List.length_append,List.length_cons,List.length_nil];omega) HP.out).mono ?_;rintro e w4 ⟨rfl,h4⟩;have HW4:=Lib.hid h4;clear h4;clear c4;have c4:=op_cell (HW4.out.keep HB0.out N1.out N2.out) 4 _ (by rfl)) | (go_at_call 79;refine (plain_new _ rfl HW4.out name (by have:=LK.out;have:=D1.out;have:=D2.out;have:=I1.out;have:=I2.out;have:=I3.out;have:=H_name.out;have:=H_word.out;simp only [List.length_append,List.length_cons,List.length_nil];omega) H_name.out).mono ?_;rintro e w5 ⟨rfl,h5⟩;have HW5:=Lib.hid h5;clear h5))
 have c2:=(bld_ok HW5.out.choose_spec.1).1
 refine wp_region_held_drew (S:=(fun s=>s.cell? ⟨w.heap.size+1,2,none⟩=some (.bool (true&&smallB node&&smallB at_&&plainV name)))) (by kernel_rfl) c2 (fun hHeld => ?_)
 refine wpAnyH_take (i:=0) (v:=.pointer (some ⟨w.heap.size+1,0,none⟩)) rfl (by kernel_rfl) (by kernel_rfl) (by kernel_rfl) (fun _ _ _ h=>h) (Or.inl ⟨by kernel_rfl,fun s hs=>by have s0c:=hs;go_simp<;>omega⟩) hHeld ?_
 refine wpAnyH_take (i:=1) (v:=.pointer (some ⟨w.heap.size+1,0,none⟩)) rfl (by kernel_rfl) (by kernel_rfl) (by kernel_rfl) (fun _ _ _ h=>h) (Or.inl ⟨by kernel_rfl,fun s hs=>by have s0c:=hs;go_simp<;>omega⟩) hHeld ?_
 refine wpAnyH_take (i:=2) (v:=.pointer (some ⟨w.heap.size+1,0,none⟩)) rfl (by kernel_rfl) (by kernel_rfl) (by kernel_rfl) (fun _ _ _ h=>h) (Or.inl ⟨by kernel_rfl,fun s hs=>by have s0c:=hs;go_simp<;>omega⟩) hHeld ?_
 refine wpAnyH_take (i:=4) (v:=.pointer (some ⟨w.heap.size+1,0,none⟩)) rfl (by kernel_rfl) (by kernel_rfl) (by kernel_rfl) (fun _ _ _ h=>h) (Or.inl ⟨by kernel_rfl,fun s hs=>by have s0c:=hs;go_simp<;>omega⟩) hHeld ?_
 refine wpAnyH_take (i:=5) (v:=.pointer (some ⟨w.heap.size+1,0,none⟩)) rfl (by kernel_rfl) (by kernel_rfl) (by kernel_rfl) (fun _ _ _ h=>h) (Or.inl ⟨by kernel_rfl,fun s hs=>by have s0c:=hs;go_simp<;>omega⟩) hHeld ?_
 refine wpAnyH_take (i:=6) (v:=.pointer (some ⟨w.heap.size+1,2,none⟩)) rfl (by kernel_rfl) (by kernel_rfl) (by kernel_rfl) (fun _ _ _ h=>h) (Or.inl ⟨by kernel_rfl,fun s hs=>by have s0c:=hs;go_simp<;>omega⟩) hHeld ?_
 refine wpAnyH_take (i:=7) (v:=.bool (true&&smallB node&&smallB at_&&plainV name)) rfl (by kernel_rfl) (by kernel_rfl) (by kernel_rfl) (fun _ _ _ h=>h) (Or.inl ⟨by kernel_rfl,fun s hs=>by have s0c:=hs;go_simp<;>omega⟩) hHeld ?_
 clear c2
 refine wpAnyH_ready (rs:=[3]) (by kernel_rfl) (by simp) ?_
 refine AllReadyH.cons rfl (fun K hK => ?_) AllReadyH.nil
 rw [if_pos (by kernel_rfl)]
 go_simp
 refine (string_wrote (HW5.out.below (Below.refl _ _).drew)).mono ?_
 rintro e w9 ⟨rfl,hf9,c2⟩
 have HF9:=Lib.hid (wrote_below hf9 HBW.out (Nat.le_succ _))
 clear hf9
 refine hK _ _ c2 (fun hHeld => ?_)
 refine wpAnyH_take (i:=8) (v:=.string (bstr (sp.kInsert++32 :: Lib.itoa node++32 :: Lib.itoa at_++32 :: name.data.toList))) rfl (by kernel_rfl) (by kernel_rfl) (by kernel_rfl) (fun _ _ _ h=>h) (Or.inl ⟨by kernel_rfl,fun s hs=>by have s0c:=hs;go_simp<;>omega⟩) hHeld ?_
 refine wpAnyH_take (i:=9) (v:=.bool (true&&smallB node&&smallB at_&&plainV name)) rfl (by kernel_rfl) (by kernel_rfl) (by kernel_rfl) (fun _ _ _ h=>h) (Or.inl ⟨by kernel_rfl,fun s hs=>by have s0c:=hs;go_simp<;>omega⟩) hHeld ?_
 refine wpAnyH_done (by kernel_rfl) ?_ _
 clear hHeld c2
 go_simp
 go_wp2
 go_ret2
 first
  | exact ⟨rfl,HF9.out⟩
  | (refine ⟨?_,HF9.out⟩;simp)
set_option maxRecDepth 100000 in
set_option maxHeartbeats 8000000 in
theorem one_remove:Calls Tryz.prog 39 #[.agg #[.int .i64 6,.int .i64 node,.int .i64 at_,.int .i64 org,.string name,.string word,tv,.int .i64 wn,.int .i64 wd,.int .i64 hn,.int .i64 hd,.int .i64 bt,.string bn,.int .i64 bwn,.int .i64 bwd,.int .i64 bhn,.int .i64 bhd,.bool on]] w fun e w'=>e=.returned (.tuple #[.string (bstr (sp.kRemove++32 :: Lib.itoa node)),.bool (true&&smallB node)])∧Below w.heap.size w w':=by
 have LK:Hid (sp.kRemove.length≤10):=Lib.hid (by decide)
 have D1:=Lib.hid (datLen name);have D2:=Lib.hid (datLen word)
 have I1:Hid ((Lib.itoa node).length≤21):=Lib.hid (by have:=itoaLen h_node;rwa [bstr_size] at this)
 have I2:Hid ((Lib.itoa at_).length≤21):=Lib.hid (by have:=itoaLen h_at;rwa [bstr_size] at this)
 have I3:Hid ((Lib.itoa org).length≤21):=Lib.hid (by have:=itoaLen h_org;rwa [bstr_size] at this)
 have H_node:=Lib.hid h_node
 have H_at:=Lib.hid h_at
 have H_org:=Lib.hid h_org
 have H_name:=Lib.hid h_name
 have H_word:=Lib.hid h_word
 have H_tx:=Lib.hid h_tx
 have H_row:=Lib.hid h_row
 have H_w:=Lib.hid h_w
 have H_h:=Lib.hid h_h
 have H_bn:=Lib.hid h_bn
 have H_bw:=Lib.hid h_bw
 have H_bh:=Lib.hid h_bh
 have H_pow:=Lib.hid h_pow
 have hW:=start_facts w #[.int .i64 6,.int .i64 node,.int .i64 at_,.int .i64 org,.string name,.string word,tv,.int .i64 wn,.int .i64 wd,.int .i64 hn,.int .i64 hd,.int .i64 bt,.string bn,.int .i64 bwn,.int .i64 bwd,.int .i64 bhn,.int .i64 bhd,.bool on]
 clear h_node h_at h_org h_name h_word h_tx h_row h_w h_h h_bn h_bw h_bh h_pow
 go_enter Tryz.func39,Tryz.ntmps39
 go_wp2
 generalize (w.alloc (.cells #[.int .i64 6,.int .i64 node,.int .i64 at_,.int .i64 org,.string name,.string word,tv,.int .i64 wn,.int .i64 wd,.int .i64 hn,.int .i64 hd,.int .i64 bt,.string bn,.int .i64 bwn,.int .i64 bwd,.int .i64 bhn,.int .i64 bhd,.bool on] 28)).alloc (.cells #[.pointer none,.slice none 0 0,.bool true] 123)=W1 at hW ⊢
 obtain ⟨hb0,ha,hbw⟩:=hW
 have HB0:=Lib.hid hb0;have HA:=Lib.hid ha;have HBW:=Lib.hid hbw
 have N1:Hid (w.heap.size≠w.heap.size+1):=Lib.hid (by omega)
 have N2:Hid (some w.heap.size≠none):=Lib.hid (by simp)
 have HP:Hid (∀w',Fr W1 w' (w.heap.size+1) none→Pow w'):=Lib.hid (fun w' h=>H_pow.out.on (wrote_below h HBW.out (Nat.le_succ _)))
 have c0:=op_cell hb0 0 _ (by rfl)
 clear hb0 ha hbw
 refine wp_region_held_drew (S:=(fun s=>s.cell? ⟨w.heap.size,0,none⟩=some (.int .i64 6))) (by kernel_rfl) c0 (fun hHeld => ?_)
 refine wpAnyH_take (i:=0) (v:=.pointer (some ⟨w.heap.size+1,0,none⟩)) rfl (by kernel_rfl) (by kernel_rfl) (by kernel_rfl) (fun _ _ _ h=>h) (Or.inl ⟨by kernel_rfl,fun s hs=>by have s0c:=hs;go_simp<;>omega⟩) hHeld ?_
 refine wpAnyH_take (i:=1) (v:=.pointer (some ⟨w.heap.size+1,0,none⟩)) rfl (by kernel_rfl) (by kernel_rfl) (by kernel_rfl) (fun _ _ _ h=>h) (Or.inl ⟨by kernel_rfl,fun s hs=>by have s0c:=hs;go_simp<;>omega⟩) hHeld ?_
 refine wpAnyH_take (i:=2) (v:=.pointer (some ⟨w.heap.size+1,0,none⟩)) rfl (by kernel_rfl) (by kernel_rfl) (by kernel_rfl) (fun _ _ _ h=>h) (Or.inl ⟨by kernel_rfl,fun s hs=>by have s0c:=hs;go_simp<;>omega⟩) hHeld ?_
 refine wpAnyH_take (i:=3) (v:=.pointer (some ⟨w.heap.size,0,none⟩)) rfl (by kernel_rfl) (by kernel_rfl) (by kernel_rfl) (fun _ _ _ h=>h) (Or.inl ⟨by kernel_rfl,fun s hs=>by have s0c:=hs;go_simp<;>omega⟩) hHeld ?_
 refine wpAnyH_take (i:=4) (v:=.int .i64 6) rfl (by kernel_rfl) (by kernel_rfl) (by kernel_rfl) (fun _ _ _ h=>h) (Or.inl ⟨by kernel_rfl,fun s hs=>by have s0c:=hs;go_simp<;>omega⟩) hHeld ?_
 clear c0
 refine wpAnyH_ready (rs:=[5]) (by kernel_rfl) (by simp) ?_
 refine AllReadyH.cons rfl (fun K hK => ?_) AllReadyH.nil
 rw [if_pos (by kernel_rfl)]
 go_simp
 refine (first_any _ _).mono ?_
 rintro e w2 ⟨rfl,hb2⟩
 have HW2:=Lib.hid ((HA.out.below (Below.refl _ _).drew).below hb2)
 have c0:=op_cell (HW2.out.keep HB0.out N1.out N2.out) 0 _ (by rfl)
 clear hb2
 refine hK _ _ c0 (fun hHeld => ?_)
 clear c0
 refine wpAnyH_ready (rs:=[6]) (by kernel_rfl) (by simp) ?_
 refine AllReadyH.cons rfl (fun K hK => ?_) AllReadyH.nil
 rw [if_pos (by kernel_rfl)]
 go_simp
 refine (write_first HW2.out (firstS 6) (by decide)).mono ?_
 rintro e w3 ⟨rfl,h3⟩
 have HW3:Hid (Wrote W1 _ none sp.kRemove true w3):=Lib.hid h3
 clear h3
 have c0:=op_cell (HW3.out.keep HB0.out N1.out N2.out) 0 _ (by rfl)
 refine hK _ _ c0 (fun hHeld => ?_)
 refine wpAnyH_done (by kernel_rfl) ?_ _
 clear hHeld
 go_simp
 have c1:=op_cell (HW3.out.keep HB0.out N1.out N2.out) 1 _ (by rfl)
 go_wp2_with (first | (go_at_call 76;refine (numbers_new _ rfl HW3.out node H_node.out (by have:=LK.out;have:=D1.out;have:=D2.out;have:=I1.out;have:=I2.out;have:=I3.out;have:=H_name.out;have:=H_word.out;simp only [List.length_append,List.length_cons,List.length_nil];omega) HP.out).mono ?_;rintro e w4 ⟨rfl,h4⟩;have HW4:=Lib.hid h4;clear h4))
 have c2:=(bld_ok HW4.out.choose_spec.1).1
 refine wp_region_held_drew (S:=(fun s=>s.cell? ⟨w.heap.size+1,2,none⟩=some (.bool (true&&smallB node)))) (by kernel_rfl) c2 (fun hHeld => ?_)
 refine wpAnyH_take (i:=0) (v:=.pointer (some ⟨w.heap.size+1,0,none⟩)) rfl (by kernel_rfl) (by kernel_rfl) (by kernel_rfl) (fun _ _ _ h=>h) (Or.inl ⟨by kernel_rfl,fun s hs=>by have s0c:=hs;go_simp<;>omega⟩) hHeld ?_
 refine wpAnyH_take (i:=1) (v:=.pointer (some ⟨w.heap.size+1,0,none⟩)) rfl (by kernel_rfl) (by kernel_rfl) (by kernel_rfl) (fun _ _ _ h=>h) (Or.inl ⟨by kernel_rfl,fun s hs=>by have s0c:=hs;go_simp<;>omega⟩) hHeld ?_
 refine wpAnyH_take (i:=2) (v:=.pointer (some ⟨w.heap.size+1,0,none⟩)) rfl (by kernel_rfl) (by kernel_rfl) (by kernel_rfl) (fun _ _ _ h=>h) (Or.inl ⟨by kernel_rfl,fun s hs=>by have s0c:=hs;go_simp<;>omega⟩) hHeld ?_
 refine wpAnyH_take (i:=4) (v:=.pointer (some ⟨w.heap.size+1,0,none⟩)) rfl (by kernel_rfl) (by kernel_rfl) (by kernel_rfl) (fun _ _ _ h=>h) (Or.inl ⟨by kernel_rfl,fun s hs=>by have s0c:=hs;go_simp<;>omega⟩) hHeld ?_
 refine wpAnyH_take (i:=5) (v:=.pointer (some ⟨w.heap.size+1,0,none⟩)) rfl (by kernel_rfl) (by kernel_rfl) (by kernel_rfl) (fun _ _ _ h=>h) (Or.inl ⟨by kernel_rfl,fun s hs=>by have s0c:=hs;go_simp<;>omega⟩) hHeld ?_
 refine wpAnyH_take (i:=6) (v:=.pointer (some ⟨w.heap.size+1,2,none⟩)) rfl (by kernel_rfl) (by kernel_rfl) (by kernel_rfl) (fun _ _ _ h=>h) (Or.inl ⟨by kernel_rfl,fun s hs=>by have s0c:=hs;go_simp<;>omega⟩) hHeld ?_
 refine wpAnyH_take (i:=7) (v:=.bool (true&&smallB node)) rfl (by kernel_rfl) (by kernel_rfl) (by kernel_rfl) (fun _ _ _ h=>h) (Or.inl ⟨by kernel_rfl,fun s hs=>by have s0c:=hs;go_simp<;>omega⟩) hHeld ?_
 clear c2
 refine wpAnyH_ready (rs:=[3]) (by kernel_rfl) (by simp) ?_
 refine AllReadyH.cons rfl (fun K hK => ?_) AllReadyH.nil
 rw [if_pos (by kernel_rfl)]
 go_simp
 refine (string_wrote (HW4.out.below (Below.refl _ _).drew)).mono ?_
 rintro e w9 ⟨rfl,hf9,c2⟩
 have HF9:=Lib.hid (wrote_below hf9 HBW.out (Nat.le_succ _))
 clear hf9
 refine hK _ _ c2 (fun hHeld => ?_)
 refine wpAnyH_take (i:=8) (v:=.string (bstr (sp.kRemove++32 :: Lib.itoa node))) rfl (by kernel_rfl) (by kernel_rfl) (by kernel_rfl) (fun _ _ _ h=>h) (Or.inl ⟨by kernel_rfl,fun s hs=>by have s0c:=hs;go_simp<;>omega⟩) hHeld ?_
 refine wpAnyH_take (i:=9) (v:=.bool (true&&smallB node)) rfl (by kernel_rfl) (by kernel_rfl) (by kernel_rfl) (fun _ _ _ h=>h) (Or.inl ⟨by kernel_rfl,fun s hs=>by have s0c:=hs;go_simp<;>omega⟩) hHeld ?_
 refine wpAnyH_done (by kernel_rfl) ?_ _
 clear hHeld c2
 go_simp
 go_wp2
 go_ret2
 first
  | exact ⟨rfl,HF9.out⟩
  | (refine ⟨?_,HF9.out⟩;simp)
end
section
variable (node at_ org:Int) (name word:ByteArray) (tv:Value) (tx:List UInt8) (wn wd hn hd bt:Int) (bn:ByteArray) (bwn bwd bhn bhd:Int) (on:Bool) (w:World) (h_node:I64 node) (h_at:I64 at_) (h_org:I64 org) (h_name:name.size≤1048576) (h_word:word.size≤1048576) (h_tx:tx.length≤1048576) (h_row:RowAt w.heap.size w tv tx.length (Lib.byteCells tx)) (h_w:I64 wn∧I64 wd) (h_h:I64 hn∧I64 hd) (h_bn:bn.size≤1048576) (h_bw:I64 bwn∧I64 bwd) (h_bh:I64 bhn∧I64 bhd) (h_pow:Pow w)
include h_node h_at h_org h_name h_word h_tx h_row h_w h_h h_bn h_bw h_bh h_pow
set_option maxRecDepth 100000 in
set_option maxHeartbeats 8000000 in
theorem one_rules:Calls Tryz.prog 39 #[.agg #[.int .i64 12,.int .i64 node,.int .i64 at_,.int .i64 org,.string name,.string word,tv,.int .i64 wn,.int .i64 wd,.int .i64 hn,.int .i64 hd,.int .i64 bt,.string bn,.int .i64 bwn,.int .i64 bwd,.int .i64 bhn,.int .i64 bhd,.bool on]] w fun e w'=>e=.returned (.tuple #[.string (bstr (sp.kRules++32 :: Lib.itoa node)),.bool (true&&smallB node)])∧Below w.heap.size w w':=by
 have LK:Hid (sp.kRules.length≤10):=Lib.hid (by decide)
 have D1:=Lib.hid (datLen name);have D2:=Lib.hid (datLen word)
 have I1:Hid ((Lib.itoa node).length≤21):=Lib.hid (by have:=itoaLen h_node;rwa [bstr_size] at this)
 have I2:Hid ((Lib.itoa at_).length≤21):=Lib.hid (by have:=itoaLen h_at;rwa [bstr_size] at this)
 have I3:Hid ((Lib.itoa org).length≤21):=Lib.hid (by have:=itoaLen h_org;rwa [bstr_size] at this)
 have H_node:=Lib.hid h_node
 have H_at:=Lib.hid h_at
 have H_org:=Lib.hid h_org
 have H_name:=Lib.hid h_name
 have H_word:=Lib.hid h_word
 have H_tx:=Lib.hid h_tx
 have H_row:=Lib.hid h_row
 have H_w:=Lib.hid h_w
 have H_h:=Lib.hid h_h
 have H_bn:=Lib.hid h_bn
 have H_bw:=Lib.hid h_bw
 have H_bh:=Lib.hid h_bh
 have H_pow:=Lib.hid h_pow
 have hW:=start_facts w #[.int .i64 12,.int .i64 node,.int .i64 at_,.int .i64 org,.string name,.string word,tv,.int .i64 wn,.int .i64 wd,.int .i64 hn,.int .i64 hd,.int .i64 bt,.string bn,.int .i64 bwn,.int .i64 bwd,.int .i64 bhn,.int .i64 bhd,.bool on]
 clear h_node h_at h_org h_name h_word h_tx h_row h_w h_h h_bn h_bw h_bh h_pow
 go_enter Tryz.func39,Tryz.ntmps39
 go_wp2
 generalize (w.alloc (.cells #[.int .i64 12,.int .i64 node,.int .i64 at_,.int .i64 org,.string name,.string word,tv,.int .i64 wn,.int .i64 wd,.int .i64 hn,.int .i64 hd,.int .i64 bt,.string bn,.int .i64 bwn,.int .i64 bwd,.int .i64 bhn,.int .i64 bhd,.bool on] 28)).alloc (.cells #[.pointer none,.slice none 0 0,.bool true] 123)=W1 at hW ⊢
 obtain ⟨hb0,ha,hbw⟩:=hW
 have HB0:=Lib.hid hb0;have HA:=Lib.hid ha;have HBW:=Lib.hid hbw
 have N1:Hid (w.heap.size≠w.heap.size+1):=Lib.hid (by omega)
 have N2:Hid (some w.heap.size≠none):=Lib.hid (by simp)
 have HP:Hid (∀w',Fr W1 w' (w.heap.size+1) none→Pow w'):=Lib.hid (fun w' h=>H_pow.out.on (wrote_below h HBW.out (Nat.le_succ _)))
 have c0:=op_cell hb0 0 _ (by rfl)
 clear hb0 ha hbw
 refine wp_region_held_drew (S:=(fun s=>s.cell? ⟨w.heap.size,0,none⟩=some (.int .i64 12))) (by kernel_rfl) c0 (fun hHeld => ?_)
 refine wpAnyH_take (i:=0) (v:=.pointer (some ⟨w.heap.size+1,0,none⟩)) rfl (by kernel_rfl) (by kernel_rfl) (by kernel_rfl) (fun _ _ _ h=>h) (Or.inl ⟨by kernel_rfl,fun s hs=>by have s0c:=hs;go_simp<;>omega⟩) hHeld ?_
 refine wpAnyH_take (i:=1) (v:=.pointer (some ⟨w.heap.size+1,0,none⟩)) rfl (by kernel_rfl) (by kernel_rfl) (by kernel_rfl) (fun _ _ _ h=>h) (Or.inl ⟨by kernel_rfl,fun s hs=>by have s0c:=hs;go_simp<;>omega⟩) hHeld ?_
 refine wpAnyH_take (i:=2) (v:=.pointer (some ⟨w.heap.size+1,0,none⟩)) rfl (by kernel_rfl) (by kernel_rfl) (by kernel_rfl) (fun _ _ _ h=>h) (Or.inl ⟨by kernel_rfl,fun s hs=>by have s0c:=hs;go_simp<;>omega⟩) hHeld ?_
 refine wpAnyH_take (i:=3) (v:=.pointer (some ⟨w.heap.size,0,none⟩)) rfl (by kernel_rfl) (by kernel_rfl) (by kernel_rfl) (fun _ _ _ h=>h) (Or.inl ⟨by kernel_rfl,fun s hs=>by have s0c:=hs;go_simp<;>omega⟩) hHeld ?_
 refine wpAnyH_take (i:=4) (v:=.int .i64 12) rfl (by kernel_rfl) (by kernel_rfl) (by kernel_rfl) (fun _ _ _ h=>h) (Or.inl ⟨by kernel_rfl,fun s hs=>by have s0c:=hs;go_simp<;>omega⟩) hHeld ?_
 clear c0
 refine wpAnyH_ready (rs:=[5]) (by kernel_rfl) (by simp) ?_
 refine AllReadyH.cons rfl (fun K hK => ?_) AllReadyH.nil
 rw [if_pos (by kernel_rfl)]
 go_simp
 refine (first_any _ _).mono ?_
 rintro e w2 ⟨rfl,hb2⟩
 have HW2:=Lib.hid ((HA.out.below (Below.refl _ _).drew).below hb2)
 have c0:=op_cell (HW2.out.keep HB0.out N1.out N2.out) 0 _ (by rfl)
 clear hb2
 refine hK _ _ c0 (fun hHeld => ?_)
 clear c0
 refine wpAnyH_ready (rs:=[6]) (by kernel_rfl) (by simp) ?_
 refine AllReadyH.cons rfl (fun K hK => ?_) AllReadyH.nil
 rw [if_pos (by kernel_rfl)]
 go_simp
 refine (write_first HW2.out (firstS 12) (by decide)).mono ?_
 rintro e w3 ⟨rfl,h3⟩
 have HW3:Hid (Wrote W1 _ none sp.kRules true w3):=Lib.hid h3
 clear h3
 have c0:=op_cell (HW3.out.keep HB0.out N1.out N2.out) 0 _ (by rfl)
 refine hK _ _ c0 (fun hHeld => ?_)
 refine wpAnyH_done (by kernel_rfl) ?_ _
 clear hHeld
 go_simp
 have c1:=op_cell (HW3.out.keep HB0.out N1.out N2.out) 1 _ (by rfl)
 go_wp2_with (first | (go_at_call 76;refine (numbers_new _ rfl HW3.out node H_node.out (by have:=LK.out;have:=D1.out;have:=D2.out;have:=I1.out;have:=I2.out;have:=I3.out;have:=H_name.out;have:=H_word.out;simp only [List.length_append,List.length_cons,List.length_nil];omega) HP.out).mono ?_;rintro e w4 ⟨rfl,h4⟩;have HW4:=Lib.hid h4;clear h4))
 have c2:=(bld_ok HW4.out.choose_spec.1).1
 refine wp_region_held_drew (S:=(fun s=>s.cell? ⟨w.heap.size+1,2,none⟩=some (.bool (true&&smallB node)))) (by kernel_rfl) c2 (fun hHeld => ?_)
 refine wpAnyH_take (i:=0) (v:=.pointer (some ⟨w.heap.size+1,0,none⟩)) rfl (by kernel_rfl) (by kernel_rfl) (by kernel_rfl) (fun _ _ _ h=>h) (Or.inl ⟨by kernel_rfl,fun s hs=>by have s0c:=hs;go_simp<;>omega⟩) hHeld ?_
 refine wpAnyH_take (i:=1) (v:=.pointer (some ⟨w.heap.size+1,0,none⟩)) rfl (by kernel_rfl) (by kernel_rfl) (by kernel_rfl) (fun _ _ _ h=>h) (Or.inl ⟨by kernel_rfl,fun s hs=>by have s0c:=hs;go_simp<;>omega⟩) hHeld ?_
 refine wpAnyH_take (i:=2) (v:=.pointer (some ⟨w.heap.size+1,0,none⟩)) rfl (by kernel_rfl) (by kernel_rfl) (by kernel_rfl) (fun _ _ _ h=>h) (Or.inl ⟨by kernel_rfl,fun s hs=>by have s0c:=hs;go_simp<;>omega⟩) hHeld ?_
 refine wpAnyH_take (i:=4) (v:=.pointer (some ⟨w.heap.size+1,0,none⟩)) rfl (by kernel_rfl) (by kernel_rfl) (by kernel_rfl) (fun _ _ _ h=>h) (Or.inl ⟨by kernel_rfl,fun s hs=>by have s0c:=hs;go_simp<;>omega⟩) hHeld ?_
 refine wpAnyH_take (i:=5) (v:=.pointer (some ⟨w.heap.size+1,0,none⟩)) rfl (by kernel_rfl) (by kernel_rfl) (by kernel_rfl) (fun _ _ _ h=>h) (Or.inl ⟨by kernel_rfl,fun s hs=>by have s0c:=hs;go_simp<;>omega⟩) hHeld ?_
 refine wpAnyH_take (i:=6) (v:=.pointer (some ⟨w.heap.size+1,2,none⟩)) rfl (by kernel_rfl) (by kernel_rfl) (by kernel_rfl) (fun _ _ _ h=>h) (Or.inl ⟨by kernel_rfl,fun s hs=>by have s0c:=hs;go_simp<;>omega⟩) hHeld ?_
 refine wpAnyH_take (i:=7) (v:=.bool (true&&smallB node)) rfl (by kernel_rfl) (by kernel_rfl) (by kernel_rfl) (fun _ _ _ h=>h) (Or.inl ⟨by kernel_rfl,fun s hs=>by have s0c:=hs;go_simp<;>omega⟩) hHeld ?_
 clear c2
 refine wpAnyH_ready (rs:=[3]) (by kernel_rfl) (by simp) ?_
 refine AllReadyH.cons rfl (fun K hK => ?_) AllReadyH.nil
 rw [if_pos (by kernel_rfl)]
 go_simp
 refine (string_wrote (HW4.out.below (Below.refl _ _).drew)).mono ?_
 rintro e w9 ⟨rfl,hf9,c2⟩
 have HF9:=Lib.hid (wrote_below hf9 HBW.out (Nat.le_succ _))
 clear hf9
 refine hK _ _ c2 (fun hHeld => ?_)
 refine wpAnyH_take (i:=8) (v:=.string (bstr (sp.kRules++32 :: Lib.itoa node))) rfl (by kernel_rfl) (by kernel_rfl) (by kernel_rfl) (fun _ _ _ h=>h) (Or.inl ⟨by kernel_rfl,fun s hs=>by have s0c:=hs;go_simp<;>omega⟩) hHeld ?_
 refine wpAnyH_take (i:=9) (v:=.bool (true&&smallB node)) rfl (by kernel_rfl) (by kernel_rfl) (by kernel_rfl) (fun _ _ _ h=>h) (Or.inl ⟨by kernel_rfl,fun s hs=>by have s0c:=hs;go_simp<;>omega⟩) hHeld ?_
 refine wpAnyH_done (by kernel_rfl) ?_ _
 clear hHeld c2
 go_simp
 go_wp2
 go_ret2
 first
  | exact ⟨rfl,HF9.out⟩
  | (refine ⟨?_,HF9.out⟩;simp)
set_option maxRecDepth 100000 in
set_option maxHeartbeats 8000000 in
theorem one_set:Calls Tryz.prog 39 #[.agg #[.int .i64 7,.int .i64 node,.int .i64 at_,.int .i64 org,.string name,.string word,tv,.int .i64 wn,.int .i64 wd,.int .i64 hn,.int .i64 hd,.int .i64 bt,.string bn,.int .i64 bwn,.int .i64 bwd,.int .i64 bhn,.int .i64 bhd,.bool on]] w fun e w'=>e=.returned (.tuple #[.string (bstr (sp.kSet++32 :: Lib.itoa node++32 :: name.data.toList++32 :: (bstr (sp.quoteS word.data.toList)).data.toList)),.bool (true&&smallB node&&plainV name)])∧Below w.heap.size w w':=by
 have LK:Hid (sp.kSet.length≤10):=Lib.hid (by decide)
 have D1:=Lib.hid (datLen name);have D2:=Lib.hid (datLen word)
 have I1:Hid ((Lib.itoa node).length≤21):=Lib.hid (by have:=itoaLen h_node;rwa [bstr_size] at this)
 have I2:Hid ((Lib.itoa at_).length≤21):=Lib.hid (by have:=itoaLen h_at;rwa [bstr_size] at this)
 have I3:Hid ((Lib.itoa org).length≤21):=Lib.hid (by have:=itoaLen h_org;rwa [bstr_size] at this)
 have H_node:=Lib.hid h_node
 have H_at:=Lib.hid h_at
 have H_org:=Lib.hid h_org
 have H_name:=Lib.hid h_name
 have H_word:=Lib.hid h_word
 have H_tx:=Lib.hid h_tx
 have H_row:=Lib.hid h_row
 have H_w:=Lib.hid h_w
 have H_h:=Lib.hid h_h
 have H_bn:=Lib.hid h_bn
 have H_bw:=Lib.hid h_bw
 have H_bh:=Lib.hid h_bh
 have H_pow:=Lib.hid h_pow
 have hW:=start_facts w #[.int .i64 7,.int .i64 node,.int .i64 at_,.int .i64 org,.string name,.string word,tv,.int .i64 wn,.int .i64 wd,.int .i64 hn,.int .i64 hd,.int .i64 bt,.string bn,.int .i64 bwn,.int .i64 bwd,.int .i64 bhn,.int .i64 bhd,.bool on]
 clear h_node h_at h_org h_name h_word h_tx h_row h_w h_h h_bn h_bw h_bh h_pow
 go_enter Tryz.func39,Tryz.ntmps39
 go_wp2
 generalize (w.alloc (.cells #[.int .i64 7,.int .i64 node,.int .i64 at_,.int .i64 org,.string name,.string word,tv,.int .i64 wn,.int .i64 wd,.int .i64 hn,.int .i64 hd,.int .i64 bt,.string bn,.int .i64 bwn,.int .i64 bwd,.int .i64 bhn,.int .i64 bhd,.bool on] 28)).alloc (.cells #[.pointer none,.slice none 0 0,.bool true] 123)=W1 at hW ⊢
 obtain ⟨hb0,ha,hbw⟩:=hW
 have HB0:=Lib.hid hb0;have HA:=Lib.hid ha;have HBW:=Lib.hid hbw
 have N1:Hid (w.heap.size≠w.heap.size+1):=Lib.hid (by omega)
 have N2:Hid (some w.heap.size≠none):=Lib.hid (by simp)
 have HP:Hid (∀w',Fr W1 w' (w.heap.size+1) none→Pow w'):=Lib.hid (fun w' h=>H_pow.out.on (wrote_below h HBW.out (Nat.le_succ _)))
 have c0:=op_cell hb0 0 _ (by rfl)
 clear hb0 ha hbw
 refine wp_region_held_drew (S:=(fun s=>s.cell? ⟨w.heap.size,0,none⟩=some (.int .i64 7))) (by kernel_rfl) c0 (fun hHeld => ?_)
 refine wpAnyH_take (i:=0) (v:=.pointer (some ⟨w.heap.size+1,0,none⟩)) rfl (by kernel_rfl) (by kernel_rfl) (by kernel_rfl) (fun _ _ _ h=>h) (Or.inl ⟨by kernel_rfl,fun s hs=>by have s0c:=hs;go_simp<;>omega⟩) hHeld ?_
 refine wpAnyH_take (i:=1) (v:=.pointer (some ⟨w.heap.size+1,0,none⟩)) rfl (by kernel_rfl) (by kernel_rfl) (by kernel_rfl) (fun _ _ _ h=>h) (Or.inl ⟨by kernel_rfl,fun s hs=>by have s0c:=hs;go_simp<;>omega⟩) hHeld ?_
 refine wpAnyH_take (i:=2) (v:=.pointer (some ⟨w.heap.size+1,0,none⟩)) rfl (by kernel_rfl) (by kernel_rfl) (by kernel_rfl) (fun _ _ _ h=>h) (Or.inl ⟨by kernel_rfl,fun s hs=>by have s0c:=hs;go_simp<;>omega⟩) hHeld ?_
 refine wpAnyH_take (i:=3) (v:=.pointer (some ⟨w.heap.size,0,none⟩)) rfl (by kernel_rfl) (by kernel_rfl) (by kernel_rfl) (fun _ _ _ h=>h) (Or.inl ⟨by kernel_rfl,fun s hs=>by have s0c:=hs;go_simp<;>omega⟩) hHeld ?_
 refine wpAnyH_take (i:=4) (v:=.int .i64 7) rfl (by kernel_rfl) (by kernel_rfl) (by kernel_rfl) (fun _ _ _ h=>h) (Or.inl ⟨by kernel_rfl,fun s hs=>by have s0c:=hs;go_simp<;>omega⟩) hHeld ?_
 clear c0
 refine wpAnyH_ready (rs:=[5]) (by kernel_rfl) (by simp) ?_
 refine AllReadyH.cons rfl (fun K hK => ?_) AllReadyH.nil
 rw [if_pos (by kernel_rfl)]
 go_simp
 refine (first_any _ _).mono ?_
 rintro e w2 ⟨rfl,hb2⟩
 have HW2:=Lib.hid ((HA.out.below (Below.refl _ _).drew).below hb2)
 have c0:=op_cell (HW2.out.keep HB0.out N1.out N2.out) 0 _ (by rfl)
 clear hb2
 refine hK _ _ c0 (fun hHeld => ?_)
 clear c0
 refine wpAnyH_ready (rs:=[6]) (by kernel_rfl) (by simp) ?_
 refine AllReadyH.cons rfl (fun K hK => ?_) AllReadyH.nil
 rw [if_pos (by kernel_rfl)]
 go_simp
 refine (write_first HW2.out (firstS 7) (by decide)).mono ?_
 rintro e w3 ⟨rfl,h3⟩
 have HW3:Hid (Wrote W1 _ none sp.kSet true w3):=Lib.hid h3
 clear h3
 have c0:=op_cell (HW3.out.keep HB0.out N1.out N2.out) 0 _ (by rfl)
 refine hK _ _ c0 (fun hHeld => ?_)
 refine wpAnyH_done (by kernel_rfl) ?_ _
 clear hHeld
 go_simp
 have c1:=op_cell (HW3.out.keep HB0.out N1.out N2.out) 1 _ (by rfl)
 have c4:=op_cell (HW3.out.keep HB0.out N1.out N2.out) 4 _ (by rfl)
 have c5:=op_cell (HW3.out.keep HB0.out N1.out N2.out) 5 _ (by rfl)
 go_wp2_with (first | (go_at_call 76;refine (numbers_new _ rfl HW3.out node H_node.out (by have:=LK.out;have:=D1.out;have:=D2.out;have:=I1.out;have:=I2.out;have:=I3.out;have:=H_name.out;have:=H_word.out;simp only [List.length_append,List.length_cons,List.length_nil];omega) HP.out).mono ?_;rintro e w4 ⟨rfl,h4⟩;have HW4:=Lib.hid h4;clear h4;clear c4;have c4:=op_cell (HW4.out.keep HB0.out N1.out N2.out) 4 _ (by rfl);clear c5;have c5:=op_cell (HW4.out.keep HB0.out N1.out N2.out) 5 _ (by rfl)) | (go_at_call 79;refine (plain_new _ rfl HW4.out name (by have:=LK.out;have:=D1.out;have:=D2.out;have:=I1.out;have:=I2.out;have:=I3.out;have:=H_name.out;have:=H_word.out;simp only [List.length_append,List.length_cons,List.length_nil];omega) H_name.out).mono ?_;rintro e w5 ⟨rfl,h5⟩;have HW5:=Lib.hid h5;clear h5;clear c5;have c5:=op_cell (HW5.out.keep HB0.out N1.out N2.out) 5 _ (by rfl)) | (go_at_call 36;refine (quoted_any word _ (by first | (have:=H_word.out;omega) | (rw [bstr_size];have:=H_tx.out;omega))).mono ?_;rintro e w6 ⟨rfl,hb6⟩;have HW6:=Lib.hid (HW5.out.below hb6);clear hb6) | (go_at_call 77;refine (put_new _ rfl HW6.out _ (by have:=LK.out;have:=D1.out;have:=D2.out;have:=I1.out;have:=I2.out;have:=I3.out;have:=H_name.out;have:=H_word.out;simp only [List.length_append,List.length_cons,List.length_nil];omega) (by first | decide | (rw [bstr_size];exact Nat.le_trans (quoteS_len _) (by first | (have:=D2.out;have:=H_word.out;omega) | (have:=H_tx.out;simp [bstr];omega))))).mono ?_;rintro e w7 ⟨rfl,h7⟩;have HW7:=Lib.hid h7;clear h7))
 have c2:=(bld_ok HW7.out.choose_spec.1).1
 refine wp_region_held_drew (S:=(fun s=>s.cell? ⟨w.heap.size+1,2,none⟩=some (.bool (true&&smallB node&&plainV name)))) (by kernel_rfl) c2 (fun hHeld => ?_)
 refine wpAnyH_take (i:=0) (v:=.pointer (some ⟨w.heap.size+1,0,none⟩)) rfl (by kernel_rfl) (by kernel_rfl) (by kernel_rfl) (fun _ _ _ h=>h) (Or.inl ⟨by kernel_rfl,fun s hs=>by have s0c:=hs;go_simp<;>omega⟩) hHeld ?_
 refine wpAnyH_take (i:=1) (v:=.pointer (some ⟨w.heap.size+1,0,none⟩)) rfl (by kernel_rfl) (by kernel_rfl) (by kernel_rfl) (fun _ _ _ h=>h) (Or.inl ⟨by kernel_rfl,fun s hs=>by have s0c:=hs;go_simp<;>omega⟩) hHeld ?_
 refine wpAnyH_take (i:=2) (v:=.pointer (some ⟨w.heap.size+1,0,none⟩)) rfl (by kernel_rfl) (by kernel_rfl) (by kernel_rfl) (fun _ _ _ h=>h) (Or.inl ⟨by kernel_rfl,fun s hs=>by have s0c:=hs;go_simp<;>omega⟩) hHeld ?_
 refine wpAnyH_take (i:=4) (v:=.pointer (some ⟨w.heap.size+1,0,none⟩)) rfl (by kernel_rfl) (by kernel_rfl) (by kernel_rfl) (fun _ _ _ h=>h) (Or.inl ⟨by kernel_rfl,fun s hs=>by have s0c:=hs;go_simp<;>omega⟩) hHeld ?_
 refine wpAnyH_take (i:=5) (v:=.pointer (some ⟨w.heap.size+1,0,none⟩)) rfl (by kernel_rfl) (by kernel_rfl) (by kernel_rfl) (fun _ _ _ h=>h) (Or.inl ⟨by kernel_rfl,fun s hs=>by have s0c:=hs;go_simp<;>omega⟩) hHeld ?_
 refine wpAnyH_take (i:=6) (v:=.pointer (some ⟨w.heap.size+1,2,none⟩)) rfl (by kernel_rfl) (by kernel_rfl) (by kernel_rfl) (fun _ _ _ h=>h) (Or.inl ⟨by kernel_rfl,fun s hs=>by have s0c:=hs;go_simp<;>omega⟩) hHeld ?_
 refine wpAnyH_take (i:=7) (v:=.bool (true&&smallB node&&plainV name)) rfl (by kernel_rfl) (by kernel_rfl) (by kernel_rfl) (fun _ _ _ h=>h) (Or.inl ⟨by kernel_rfl,fun s hs=>by have s0c:=hs;go_simp<;>omega⟩) hHeld ?_
 clear c2
 refine wpAnyH_ready (rs:=[3]) (by kernel_rfl) (by simp) ?_
 refine AllReadyH.cons rfl (fun K hK => ?_) AllReadyH.nil
 rw [if_pos (by kernel_rfl)]
 go_simp
 refine (string_wrote (HW7.out.below (Below.refl _ _).drew)).mono ?_
 rintro e w9 ⟨rfl,hf9,c2⟩
 have HF9:=Lib.hid (wrote_below hf9 HBW.out (Nat.le_succ _))
 clear hf9
 refine hK _ _ c2 (fun hHeld => ?_)
 refine wpAnyH_take (i:=8) (v:=.string (bstr (sp.kSet++32 :: Lib.itoa node++32 :: name.data.toList++32 :: (bstr (sp.quoteS word.data.toList)).data.toList))) rfl (by kernel_rfl) (by kernel_rfl) (by kernel_rfl) (fun _ _ _ h=>h) (Or.inl ⟨by kernel_rfl,fun s hs=>by have s0c:=hs;go_simp<;>omega⟩) hHeld ?_
 refine wpAnyH_take (i:=9) (v:=.bool (true&&smallB node&&plainV name)) rfl (by kernel_rfl) (by kernel_rfl) (by kernel_rfl) (fun _ _ _ h=>h) (Or.inl ⟨by kernel_rfl,fun s hs=>by have s0c:=hs;go_simp<;>omega⟩) hHeld ?_
 refine wpAnyH_done (by kernel_rfl) ?_ _
 clear hHeld c2
 go_simp
 go_wp2
 go_ret2
 first
  | exact ⟨rfl,HF9.out⟩
  | (refine ⟨?_,HF9.out⟩;simp)
end
end Go.Proofs.YtihlneenajlhoaaGreatDoor
