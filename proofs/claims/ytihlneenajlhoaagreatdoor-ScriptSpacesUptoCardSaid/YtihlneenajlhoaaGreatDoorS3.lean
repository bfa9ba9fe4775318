/-
 script.one, kind by kind. Condition: lengths that fit; strconv's table stands.
-/
import Derived.Test.YtihlneenajlhoaaGreatDoorS1
import Derived.Deep.RegionHeld
import Derived.OrdersHeld
import Derived.Test.YtihlneenajlhoaaGreatDoorS2
import Derived.Test.YtihlneenajlhoaaGreatDoorRows
import Derived.Deep.Slices
import Derived.SizedLaws
import Derived.Handed
import Derived.OpenShut
import Derived.KernelRfl
set_option linter.unusedSimpArgs false
set_option linter.unusedVariables false
namespace Go.Proofs.YtihlneenajlhoaaGreatDoor
open Go Go.RowKit
section
variable (node at_ org:Int) (name word:ByteArray) (tv:Value) (tx:List UInt8) (wn wd hn hd bt:Int) (bn:ByteArray) (bwn bwd bhn bhd:Int) (on:Bool) (w:World) (h_node:I64 node) (h_at:I64 at_) (h_org:I64 org) (h_name:name.size≤1048576) (h_word:word.size≤1048576) (h_tx:tx.length≤1048576) (h_row:RowAt w.heap.size w tv tx.length (Lib.byteCells tx)) (h_w:I64 wn∧I64 wd) (h_h:I64 hn∧I64 hd) (h_bn:bn.size≤1048576) (h_bw:I64 bwn∧I64 bwd) (h_bh:I64 bhn∧I64 bhd) (h_pow:Pow w)
include h_node h_at h_org h_name h_word h_tx h_row h_w h_h h_bn h_bw h_bh h_pow
set_option maxRecDepth 100000 in
set_option maxHeartbeats 8000000 in
theorem one_unset:Calls Tryz.prog 39 #[.agg #[.int .i64 8,.int .i64 node,.int .i64 at_,.int .i64 org,.string name,.string word,tv,.int .i64 wn,.int .i64 wd,.int .i64 hn,.int .i64 hd,.int .i64 bt,.string bn,.int .i64 bwn,.int .i64 bwd,.int .i64 bhn,.int .i64 bhd,.bool on]] w fun e w'=>e=.returned (.tuple #[.string (bstr (sp.kUnset++32 :: Lib.itoa node++32 :: name.data.toList)),.bool (true&&smallB node&&plainV name)])∧Below w.heap.size w w':=by
 have LK:Hid (sp.kUnset.length≤10):=Lib.hid (by decide)
 have D1:=Lib.hid (datLen name);have D2:=Lib.hid (datLen word)
 have I1:Hid ((Lib.itoa node).length≤21):=Lib.hid (by have:=itoaLen h_node;rwa [bstr_size] at this)
 have I2:Hid ((Lib.itoa at_).length≤21):=Lib.hid (by have:=itoaLen h_at;rwa [bstr_size] at this)
 have I3:Hid ((Lib.itoa org).length≤21):=Lib.hid (by have:=itoaLen h_org;rwa [bstr_size] at this)
 have H_node:=Lib.hid h_node
 have H_at:=Lib.hid h_at
 have H_org:=Lib.hid h_org
 have H_name:=Lib.hid h_name
 have H_word:=Lib.hid h_word
 have H_tx:=Lib.hid h_tx
 have H_row:=Lib.hid h_row
 have H_w:=Lib.hid h_w
 have H_h:=Lib.hid h_h
 have H_bn:=Lib.hid h_bn
 have H_bw:=Lib.hid h_bw
 have H_bh:=Lib.hid h_bh
 have H_pow:=Lib.hid h_pow
 have hW:=start_facts w #[.int .i64 8,.int .i64 node,.int .i64 at_,.int .i64 org,.string name,.string word,tv,.int .i64 wn,.int .i64 wd,.int .i64 hn,.int .i64 hd,.int .i64 bt,.string bn,.int .i64 bwn,.int .i64 bwd,.int .i64 bhn,.int .i64 bhd,.bool on]
 clear h_node h_at h_org h_name h_word h_tx h_row h_w h_h h_bn h_bw h_bh h_pow
 go_enter Tryz.func39,Tryz.ntmps39
 go_wp2
 generalize (w.alloc (.cells #[.int .i64 8,.int .i64 node,.int .i64 at_,.int .i64 org,.string name,.string word,tv,.int .i64 wn,.int .i64 wd,.int .i64 hn,.int .i64 hd,.int .i64 bt,.string bn,.int .i64 bwn,.int .i64 bwd,.int .i64 bhn,.int .i64 bhd,.bool on] 28)).alloc (.cells #[.pointer none,.slice none 0 0,.bool true] 123)=W1 at hW ⊢
 obtain ⟨hb0,ha,hbw⟩:=hW
 have HB0:=Lib.hid hb0;have HA:=Lib.hid ha;have HBW:=Lib.hid hbw
 have N1:Hid (w.heap.size≠w.heap.size+1):=Lib.hid (by omega)
 have N2:Hid (some w.heap.size≠none):=Lib.hid (by simp)
 have HP:Hid (∀w',Fr W1 w' (w.heap.size+1) none→Pow w'):=Lib.hid (fun w' h=>H_pow.out.on (wrote_below h HBW.out (Nat.le_succ _)))
 have c0:=op_cell hb0 0 _ (by rfl)
 clear hb0 ha hbw
 refine wp_region_held_drew (S:=(fun s=>s.cell? ⟨w.heap.size,0,none⟩=some (.int .i64 8))) (by kernel_rfl) c0 (fun hHeld => ?_)
 refine wpAnyH_take (i:=0) (v:=.pointer (some ⟨w.heap.size+1,0,none⟩)) rfl (by kernel_rfl) (by kernel_rfl) (by kernel_rfl) (fun _ _ _ h=>h) (Or.inl ⟨by kernel_rfl,fun s hs=>by have s0c:=hs;go_simp<;>omega⟩) hHeld ?_
 refine wpAnyH_take (i:=1) (v:=.pointer (some ⟨w.heap.size+1,0,none⟩)) rfl (by kernel_rfl) (by kernel_rfl) (by kernel_rfl) (fun _ _ _ h=>h) (Or.inl ⟨by kernel_rfl,fun s hs=>by have s0c:=hs;go_simp<;>omega⟩) hHeld ?_
 refine wpAnyH_take (i:=2) (v:=.pointer (some ⟨w.heap.size+1,0,none⟩)) rfl (by kernel_rfl) (by kernel_rfl) (by kernel_rfl) (fun _ _ _ h=>h) (Or.inl ⟨by kernel_rfl,fun s hs=>by have s0c:=hs;go_simp<;>omega⟩) hHeld ?_
 refine wpAnyH_take (i:=3) (v:=.pointer (some ⟨w.heap.size,0,none⟩)) rfl (by kernel_rfl) (by kernel_rfl) (by kernel_rfl) (fun _ _ _ h=>h) (Or.inl ⟨by kernel_rfl,fun s hs=>by have s0c:=hs;go_simp<;>omega⟩) hHeld ?_
 refine wpAnyH_take (i:=4) (v:=.int .i64 8) rfl (by kernel_rfl) (by kernel_rfl) (by kernel_rfl) (fun _ _ _ h=>h) (Or.inl ⟨by kernel_rfl,fun s hs=>by have s0c:=hs;go_simp<;>omega⟩) hHeld ?_
 clear c0
 refine wpAnyH_ready (rs:=[5]) (by kernel_rfl) (by simp) ?_
 refine AllReadyH.cons rfl (fun K hK => ?_) AllReadyH.nil
 rw [if_pos (by kernel_rfl)]
 go_simp
 refine (first_any _ _).mono ?_
 rintro e w2 ⟨rfl,hb2⟩
 have HW2:=Lib.hid ((HA.out.below (Below.refl _ _).drew).below hb2)
 have c0:=op_cell (HW2.out.keep HB0.out N1.out N2.out) 0 _ (by rfl)
 clear hb2
 refine hK _ _ c0 (fun hHeld => ?_)
 clear c0
 refine wpAnyH_ready (rs:=[6]) (by kernel_rfl) (by simp) ?_
 refine AllReadyH.cons rfl (fun K hK => ?_) AllReadyH.nil
 rw [if_pos (by kernel_rfl)]
 go_simp
 refine (write_first HW2.out (firstS 8) (by decide)).mono ?_
 rintro e w3 ⟨rfl,h3⟩
 have HW3:Hid (Wrote W1 _ none sp.kUnset true w3):=Lib.hid h3
 clear h3
 have c0:=op_cell (HW3.out.keep HB0.out N1.out N2.out) 0 _ (by rfl)
 refine hK _ _ c0 (fun hHeld => ?_)
 refine wpAnyH_done (by kernel_rfl) ?_ _
 clear hHeld
 go_simp
 have c1:=op_cell (HW3.out.keep HB0.out N1.out N2.out) 1 _ (by rfl)
 have c4:=op_cell (HW3.out.keep HB0.out N1.out N2.out) 4 _ (by rfl)
 go_wp2_with (first | (go_at_call 76;refine (numbers_new _ rfl HW3.out node H_node.out (by have:=LK.out;have:=D1.out;have:=D2.out;have:=I1.out;have:=I2.out;have:=I3.out;have:=H_name.out;have:=H_word.out;simp only [List.length_append,List.length_cons,List.length_nil];omega) HP.out).mono ?_;rintro e w4 ⟨rfl,h4⟩;have HW4:=Lib.hid h4;clear h4;clear c4;have c4:=op_cell (HW4.out.keep HB0.out N1.out N2.out) 4 _ (by rfl)) | (go_at_call 79;refine (plain_new _ rfl HW4.out name (by have:=LK.out;have:=D1.out;have:=D2.out;have:=I1.out;have:=I2.out;have:=I3.out;have:=H_name.out;have:=H_word.out;simp only [List.length_append,List.length_cons,List.length_nil];omega) H_name.out).mono ?_;rintro e w5 ⟨rfl,h5⟩;have HW5:=Lib.hid h5;clear h5))
 have c2:=(bld_ok HW5.out.choose_spec.1).1
 refine wp_region_held_drew (S:=(fun s=>s.cell? ⟨w.heap.size+1,2,none⟩=some (.bool (true&&smallB node&&plainV name)))) (by kernel_rfl) c2 (fun hHeld => ?_)
 refine wpAnyH_take (i:=0) (v:=.pointer (some ⟨w.heap.size+1,0,none⟩)) rfl (by kernel_rfl) (by kernel_rfl) (by kernel_rfl) (fun _ _ _ h=>h) (Or.inl ⟨by kernel_rfl,fun s hs=>by have s0c:=hs;go_simp<;>omega⟩) hHeld ?_
 refine wpAnyH_take (i:=1) (v:=.pointer (some ⟨w.heap.size+1,0,none⟩)) rfl (by kernel_rfl) (by kernel_rfl) (by kernel_rfl) (fun _ _ _ h=>h) (Or.inl ⟨by kernel_rfl,fun s hs=>by have s0c:=hs;go_simp<;>omega⟩) hHeld ?_
 refine wpAnyH_take (i:=2) (v:=.pointer (some ⟨w.heap.size+1,0,none⟩)) rfl (by kernel_rfl) (by kernel_rfl) (by kernel_rfl) (fun _ _ _ h=>h) (Or.inl ⟨by kernel_rfl,fun s hs=>by have s0c:=hs;go_simp<;>omega⟩) hHeld ?_
 refine wpAnyH_take (i:=4) (v:=.pointer (some ⟨w.heap.size+1,0,none⟩)) rfl (by kernel_rfl) (by kernel_rfl) (by kernel_rfl) (fun _ _ _ h=>h) (Or.inl ⟨by kernel_rfl,fun s hs=>by have s0c:=hs;go_simp<;>omega⟩) hHeld ?_
 refine wpAnyH_take (i:=5) (v:=.pointer (some ⟨w.heap.size+1,0,none⟩)) rfl (by kernel_rfl) (by kernel_rfl) (by kernel_rfl) (fun _ _ _ h=>h) (Or.inl ⟨by kernel_rfl,fun s hs=>by have s0c:=hs;go_simp<;>omega⟩) hHeld ?_
 refine wpAnyH_take (i:=6) (v:=.pointer (some ⟨w.heap.size+1,2,none⟩)) rfl (by kernel_rfl) (by kernel_rfl) (by kernel_rfl) (fun _ _ _ h=>h) (Or.inl ⟨by kernel_rfl,fun s hs=>by have s0c:=hs;go_simp<;>omega⟩) hHeld ?_
 refine wpAnyH_take (i:=7) (v:=.bool (true&&smallB node&&plainV name)) rfl (by kernel_rfl) (by kernel_rfl) (by kernel_rfl) (fun _ _ _ h=>h) (Or.inl ⟨by kernel_rfl,fun s hs=>by have s0c:=hs;go_simp<;>omega⟩) hHeld ?_
 clear c2
 refine wpAnyH_ready (rs:=[3]) (by kernel_rfl) (by simp) ?_
 refine AllReadyH.cons rfl (fun K hK => ?_) AllReadyH.nil
 rw [if_pos (by kernel_rfl)]
 go_simp
 refine (string_wrote (HW5.out.below (Below.refl _ _).drew)).mono ?_
 rintro e w9 ⟨rfl,hf9,c2⟩
 have HF9:=Lib.hid (wrote_below hf9 HBW.out (Nat.le_succ _))
 clear hf9
 refine hK _ _ c2 (fun hHeld => ?_)
 refine wpAnyH_take (i:=8) (v:=.string (bstr (sp.kUnset++32 :: Lib.itoa node++32 :: name.data.toList))) rfl (by kernel_rfl) (by kernel_rfl) (by kernel_rfl) (fun _ _ _ h=>h) (Or.inl ⟨by kernel_rfl,fun s hs=>by have s0c:=hs;go_simp<;>omega⟩) hHeld ?_
 refine wpAnyH_take (i:=9) (v:=.bool (true&&smallB node&&plainV name)) rfl (by kernel_rfl) (by kernel_rfl) (by kernel_rfl) (fun _ _ _ h=>h) (Or.inl ⟨by kernel_rfl,fun s hs=>by have s0c:=hs;go_simp<;>omega⟩) hHeld ?_
 refine wpAnyH_done (by kernel_rfl) ?_ _
 clear hHeld c2
 go_simp
 go_wp2
 go_ret2
 first
  | exact ⟨rfl,HF9.out⟩
  | (refine ⟨?_,HF9.out⟩;simp)
set_option maxRecDepth 100000 in
set_option maxHeartbeats 8000000 in
theorem one_ask:Calls Tryz.prog 39 #[.agg #[.int .i64 10,.int .i64 node,.int .i64 at_,.int .i64 org,.string name,.string word,tv,.int .i64 wn,.int .i64 wd,.int .i64 hn,.int .i64 hd,.int .i64 bt,.string bn,.int .i64 bwn,.int .i64 bwd,.int .i64 bhn,.int .i64 bhd,.bool on]] w fun e w'=>e=.returned (.tuple #[.string (bstr (sp.kAsk++32 :: Lib.itoa node++32 :: name.data.toList)),.bool (true&&smallB node&&plainV name)])∧Below w.heap.size w w':=by
 have LK:Hid (sp.kAsk.length≤10):=Lib.hid (by decide)
 have D1:=Lib.hid (datLen name);have D2:=Lib.hid (datLen word)
 have I1:Hid ((Lib.itoa node).length≤21):=Lib.hid (by have:=itoaLen h_node;rwa [bstr_size] at this)
 have I2:Hid ((Lib.itoa at_).length≤21):=Lib.hid (by have:=itoaLen h_at;rwa [bstr_size] at this)
 have I3:Hid ((Lib.itoa org).length≤21):=Lib.hid (by have:=itoaLen h_org;rwa [bstr_size] at this)
 have H_node:=Lib.hid h_node
 have H_at:=Lib.hid h_at
 have H_org:=Lib.hid h_org
 have H_name:=Lib.hid h_name
 have H_word:=Lib.hid h_word
 have H_tx:=Lib.hid h_tx
 have H_row:=Lib.hid h_row
 have H_w:=Lib.hid h_w
 have H_h:=Lib.hid h_h
 have H_bn:=Lib.hid h_bn
 have H_bw:=Lib.hid h_bw
 have H_bh:=Lib.hid h_bh
 have H_pow:=Lib.hid h_pow
 have hW:=start_facts w #[.int .i64 10,.int .i64 node,.int .i64 at_,.int .i64 org,.string name,.string word,tv,.int .i64 wn,.int .i64 wd,.int .i64 hn,.int .i64 hd,.int .i64 bt,.string bn,.int .i64 bwn,.int .i64 bwd,.int .i64 bhn,.int .i64 bhd,.bool on]
 clear h_node h_at h_org h_name h_word h_tx h_row h_w h_h h_bn h_bw h_bh h_pow
 go_enter Tryz.func39,Tryz.ntmps39
 go_wp2
 generalize (w.alloc (.cells #[.int .i64 10,.int .i64 node,.int .i64 at_,.int .i64 org,.string name,.string word,tv,.int .i64 wn,.int .i64 wd,.int .i64 hn,.int .i64 hd,.int .i64 bt,.string bn,.int .i64 bwn,.int .i64 bwd,.int .i64 bhn,.int .i64 bhd,.bool on] 28)).alloc (.cells #[.pointer none,.slice none 0 0,.bool true] 123)=W1 at hW ⊢
 obtain ⟨hb0,ha,hbw⟩:=hW
 have HB0:=Lib.hid hb0;have HA:=Lib.hid ha;have HBW:=Lib.hid hbw
 have N1:Hid (w.heap.size≠w.heap.size+1):=Lib.hid (by omega)
 have N2:Hid (some w.heap.size≠none):=Lib.hid (by simp)
 have HP:Hid (∀w',Fr W1 w' (w.heap.size+1) none→Pow w'):=Lib.hid (fun w' h=>H_pow.out.on (wrote_below h HBW.out (Nat.le_succ _)))
 have c0:=op_cell hb0 0 _ (by rfl)
 clear hb0 ha hbw
 refine wp_region_held_drew (S:=(fun s=>s.cell? ⟨w.heap.size,0,none⟩=some (.int .i64 10))) (by kernel_rfl) c0 (fun hHeld => ?_)
 refine wpAnyH_take (i:=0) (v:=.pointer (some ⟨w.heap.size+1,0,none⟩)) rfl (by kernel_rfl) (by kernel_rfl) (by kernel_rfl) (fun _ _ _ h=>h) (Or.inl ⟨by kernel_rfl,fun s hs=>by have s0c:=hs;go_simp<;>omega⟩) hHeld ?_
 refine wpAnyH_take (i:=1) (v:=.pointer (some ⟨w.heap.size+1,0,none⟩)) rfl (by kernel_rfl) (by kernel_rfl) (by kernel_rfl) (fun _ _ _ h=>h) (Or.inl ⟨by kernel_rfl,fun s hs=>by have s0c:=hs;go_simp<;>omega⟩) hHeld ?_
 refine wpAnyH_take (i:=2) (v:=.pointer (some ⟨w.heap.size+1,0,none⟩)) rfl (by kernel_rfl) (by kernel_rfl) (by kernel_rfl) (fun _ _ _ h=>h) (Or.inl ⟨by kernel_rfl,fun s hs=>by have s0c:=hs;go_simp<;>omega⟩) hHeld ?_
 refine wpAnyH_take (i:=3) (v:=.pointer (some ⟨w.heap.size,0,none⟩)) rfl (by kernel_rfl) (by kernel_rfl) (by kernel_rfl) (fun _ _ _ h=>h) (Or.inl ⟨by kernel_rfl,fun s hs=>by have s0c:=hs;go_simp<;>omega⟩) hHeld ?_
 refine wpAnyH_take (i:=4) (v:=.int .i64 10) rfl (by kernel_rfl) (by kernel_rfl) (by kernel_rfl) (fun _ _ _ h=>h) (Or.inl ⟨by kernel_rfl,fun s hs=>by have s0c:=hs;go_simp<;>omega⟩) hHeld ?_
 clear c0
 refine wpAnyH_ready (rs:=[5]) (by kernel_rfl) (by simp) ?_
 refine AllReadyH.cons rfl (fun K hK => ?_) AllReadyH.nil
 rw [if_pos (by kernel_rfl)]
 go_simp
 refine (first_any _ _).mono ?_
 rintro e w2 ⟨rfl,hb2⟩
 have HW2:=Lib.hid ((HA.out.below (Below.refl _ _).drew).below hb2)
 have c0:=op_cell (HW2.out.keep HB0.out N1.out N2.out) 0 _ (by rfl)
 clear hb2
 refine hK _ _ c0 (fun hHeld => ?_)
 clear c0
 refine wpAnyH_ready (rs:=[6]) (by kernel_rfl) (by simp) ?_
 refine AllReadyH.cons rfl (fun K hK => ?_) AllReadyH.nil
 rw [if_pos (by kernel_rfl)]
 go_simp
 refine (write_first HW2.out (firstS 10) (by decide)).mono ?_
 rintro e w3 ⟨rfl,h3⟩
 have HW3:Hid (Wrote W1 _ none sp.kAsk true w3):=Lib.hid h3
 clear h3
 have c0:=op_cell (HW3.out.keep HB0.out N1.out N2.out) 0 _ (by rfl)
 refine hK _ _ c0 (fun hHeld => ?_)
 refine wpAnyH_done (by kernel_rfl) ?_ _
 clear hHeld
 go_simp
 have c1:=op_cell (HW3.out.keep HB0.out N1.out N2.out) 1 _ (by rfl)
 have c4:=op_cell (HW3.out.keep HB0.out N1.out N2.out) 4 _ (by rfl)
 go_wp2_with (first | (go_at_call 76;refine (numbers_new _ rfl HW3.out node H_node.out (by have:=LK.out;have:=D1.out;have:=D2.out;have:=I1.out;have:=I2.out;have:=I3.out;have:=H_name.out;have:=H_word.out;simp only [List.length_append,List.length_cons,List.length_nil];omega) HP.out).mono ?_;rintro e w4 ⟨rfl,h4⟩;have HW4:=Lib.hid h4;clear h4;clear c4;have c4:=op_cell (HW4.out.keep HB0.out N1.out N2.out) 4 _ (by rfl)) | (go_at_call 79;refine (plain_new _ rfl HW4.out name (by have:=LK.out;have:=D1.out;have:=D2.out;have:=I1.out;have:=I2.out;have:=I3.out;have:=H_name.out;have:=H_word.out;simp only [List.length_append,List.length_cons,List.length_nil];omega) H_name.out).mono ?_;rintro e w5 ⟨rfl,h5⟩;have HW5:=Lib.hid h5;clear h5))
 have c2:=(bld_ok HW5.out.choose_spec.1).1
 refine wp_region_held_drew (S:=(fun s=>s.cell? ⟨w.heap.size+1,2,none⟩=some (.bool (true&&smallB node&&plainV name)))) (by kernel_rfl) c2 (fun hHeld => ?_)
 refine wpAnyH_take (i:=0) (v:=.pointer (some ⟨w.heap.size+1,0,none⟩)) rfl (by kernel_rfl) (by kernel_rfl) (by kernel_rfl) (fun _ _ _ h=>h) (Or.inl ⟨by kernel_rfl,fun s hs=>by have s0c:=hs;go_simp<;>omega⟩) hHeld ?_
 refine wpAnyH_take (i:=1) (v:=.pointer (some ⟨w.heap.size+1,0,none⟩)) rfl (by kernel_rfl) (by kernel_rfl) (by kernel_rfl) (fun _ _ _ h=>h) (Or.inl ⟨by kernel_rfl,fun s hs=>by have s0c:=hs;go_simp<;>omega⟩) hHeld ?_
 refine wpAnyH_take (i:=2) (v:=.pointer (some ⟨w.heap.size+1,0,none⟩)) rfl (by kernel_rfl) (by kernel_rfl) (by kernel_rfl) (fun _ _ _ h=>h) (Or.inl ⟨by kernel_rfl,fun s hs=>by have s0c:=hs;go_simp<;>omega⟩) hHeld ?_
 refine wpAnyH_take (i:=4) (v:=.pointer (some ⟨w.heap.size+1,0,none⟩)) rfl (by kernel_rfl) (by kernel_rfl) (by kernel_rfl) (fun _ _ _ h=>h) (Or.inl ⟨by kernel_rfl,fun s hs=>by have s0c:=hs;go_simp<;>omega⟩) hHeld ?_
 refine wpAnyH_take (i:=5) (v:=.pointer (some ⟨w.heap.size+1,0,none⟩)) rfl (by kernel_rfl) (by kernel_rfl) (by kernel_rfl) (fun _ _ _ h=>h) (Or.inl ⟨by kernel_rfl,fun s hs=>by have s0c:=hs;go_simp<;>omega⟩) hHeld ?_
 refine wpAnyH_take (i:=6) (v:=.pointer (some ⟨w.heap.size+1,2,none⟩)) rfl (by kernel_rfl) (by kernel_rfl) (by kernel_rfl) (fun _ _ _ h=>h) (Or.inl ⟨by kernel_rfl,fun s hs=>by have s0c:=hs;go_simp<;>omega⟩) hHeld ?_
 refine wpAnyH_take (i:=7) (v:=.bool (true&&smallB node&&plainV name)) rfl (by kernel_rfl) (by kernel_rfl) (by kernel_rfl) (fun _ _ _ h=>h) (Or.inl ⟨by kernel_rfl,fun s hs=>by have s0c:=hs;go_simp<;>omega⟩) hHeld ?_
 clear c2
 refine wpAnyH_ready (rs:=[3]) (by kernel_rfl) (by simp) ?_
 refine AllReadyH.cons rfl (fun K hK => ?_) AllReadyH.nil
 rw [if_pos (by kernel_rfl)]
 go_simp
 refine (string_wrote (HW5.out.below (Below.refl _ _).drew)).mono ?_
 rintro e w9 ⟨rfl,hf9,c2⟩
 have HF9:=Lib.hid (wrote_below hf9 HBW.out (Nat.le_succ _))
 clear hf9
 refine hK _ _ c2 (fun hHeld => ?_)
 refine wpAnyH_take (i:=8) (v:=.string (bstr (sp.kAsk++32 :: Lib.itoa node++32 :: name.data.toList))) rfl (by kernel_rfl) (by kernel_rfl) (by kernel_rfl) (fun _ _ _ h=>h) (Or.inl ⟨by kernel_rfl,fun s hs=>by have s0c:=hs;go_simp<;>omega⟩) hHeld ?_
 refine wpAnyH_take (i:=9) (v:=.bool (true&&smallB node&&plainV name)) rfl (by kernel_rfl) (by kernel_rfl) (by kernel_rfl) (fun _ _ _ h=>h) (Or.inl ⟨by kernel_rfl,fun s hs=>by have s0c:=hs;go_simp<;>omega⟩) hHeld ?_
 refine wpAnyH_done (by kernel_rfl) ?_ _
 clear hHeld c2
 go_simp
 go_wp2
 go_ret2
 first
  | exact ⟨rfl,HF9.out⟩
  | (refine ⟨?_,HF9.out⟩;simp)
set_option maxRecDepth 100000 in
set_option maxHeartbeats 8000000 in
theorem one_custom:Calls Tryz.prog 39 #[.agg #[.int .i64 11,.int .i64 node,.int .i64 at_,.int .i64 org,.string name,.string word,tv,.int .i64 wn,.int .i64 wd,.int .i64 hn,.int .i64 hd,.int .i64 bt,.string bn,.int .i64 bwn,.int .i64 bwd,.int .i64 bhn,.int .i64 bhd,.bool on]] w fun e w'=>e=.returned (.tuple #[.string (bstr (sp.kCustom++32 :: Lib.itoa node++32 :: name.data.toList)),.bool (true&&smallB node&&plainV name)])∧Below w.heap.size w w':=by
 have LK:Hid (sp.kCustom.length≤10):=Lib.hid (by decide)
 have D1:=Lib.hid (datLen name);have D2:=Lib.hid (datLen word)
 have I1:Hid ((Lib.itoa node).length≤21):=Lib.hid (by have:=itoaLen h_node;rwa [bstr_size] at this)
 have I2:Hid ((Lib.itoa at_).length≤21):=Lib.hid (by have:=itoaLen h_at;rwa [bstr_size] at this)
 have I3:Hid ((Lib.itoa org).length≤21):=Lib.hid (by have:=itoaLen h_org;rwa [bstr_size] at this)
 have H_node:=Lib.hid h_node
 have H_at:=Lib.hid h_at
 have H_org:=Lib.hid h_org
 have H_name:=Lib.hid h_name
 have H_word:=Lib.hid h_word
 have H_tx:=Lib.hid h_tx
 have H_row:=Lib.hid h_row
 have H_w:=Lib.hid h_w
 have H_h:=Lib.hid h_h
 have H_bn:=Lib.hid h_bn
 have H_bw:=Lib.hid h_bw
 have H_bh:=Lib.hid h_bh
 have H_pow:=Lib.hid h_pow
 have hW:=start_facts w #[.int .i64 11,.int .i64 node,.int .i64 at_,.int .i64 org,.string name,.string word,tv,.int .i64 wn,.int .i64 wd,.int .i64 hn,.int .i64 hd,.int .i64 bt,.string bn,.int .i64 bwn,.int .i64 bwd,.int .i64 bhn,.int .i64 bhd,.bool on]
 clear h_node h_at h_org h_name h_word h_tx h_row h_w h_h h_bn h_bw h_bh h_pow
 go_enter Tryz.func39,Tryz.ntmps39
 go_wp2
 generalize (w.alloc (.cells #[.int .i64 11,.int .i64 node,.int .i64 at_,.int .i64 org,.string name,.string word,tv,.int .i64 wn,.int .i64 wd,.int .i64 hn,.int .i64 hd,.int .i64 bt,.string bn,.int .i64 bwn,.int .i64 bwd,.int .i64 bhn,.int .i64 bhd,.bool on] 28)).alloc (.cells #[.pointer none,.slice none 0 0,.bool true] 123)=W1 at hW ⊢
 obtain ⟨hb0,ha,hbw⟩:=hW
 have HB0:=Lib.hid hb0;have HA:=Lib.hid ha;have HBW:=Lib.hid hbw
 have N1:Hid (w.heap.size≠w.heap.size+1):=Lib.hid (by omega)
 have N2:Hid (some w.heap.size≠none):=Lib.hid (by simp)
 have HP:Hid (∀w',Fr W1 w' (w.heap.size+1) none→Pow w'):=Lib.hid (fun w' h=>H_pow.out.on (wrote_below h HBW.out (Nat.le_succ _)))
 have c0:=op_cell hb0 0 _ (by rfl)
 clear hb0 ha hbw
 refine wp_region_held_drew (S:=(fun s=>s.cell? ⟨w.heap.size,0,none⟩=some (.int .i64 11))) (by kernel_rfl) c0 (fun hHeld => ?_)
 refine wpAnyH_take (i:=0) (v:=.pointer (some ⟨w.heap.size+1,0,none⟩)) rfl (by kernel_rfl) (by kernel_rfl) (by kernel_rfl) (fun _ _ _ h=>h) (Or.inl ⟨by kernel_rfl,fun s hs=>by have s0c:=hs;go_simp<;>omega⟩) hHeld ?_
 refine wpAnyH_take (i:=1) (v:=.pointer (some ⟨w.heap.size+1,0,none⟩)) rfl (by kernel_rfl) (by kernel_rfl) (by kernel_rfl) (fun _ _ _ h=>h) (Or.inl ⟨by kernel_rfl,fun s hs=>by have s0c:=hs;go_simp<;>omega⟩) hHeld ?_
 refine wpAnyH_take (i:=2) (v:=.pointer (some ⟨w.heap.size+1,0,none⟩)) rfl (by kernel_rfl) (by kernel_rfl) (by kernel_rfl) (fun _ _ _ h=>h) (Or.inl ⟨by kernel_rfl,fun s hs=>by have s0c:=hs;go_simp<;>omega⟩) hHeld ?_
 refine wpAnyH_take (i:=3) (v:=.pointer (some ⟨w.heap.size,0,none⟩)) rfl (by kernel_rfl) (by kernel_rfl) (by kernel_rfl) (fun _ _ _ h=>h) (Or.inl ⟨by kernel_rfl,fun s hs=>by have s0c:=hs;go_simp<;>omega⟩) hHeld ?_
 refine wpAnyH_take (i:=4) (v:=.int .i64 11) rfl (by kernel_rfl) (by kernel_rfl) (by kernel_rfl) (fun _ _ _ h=>h) (Or.inl ⟨by kernel_rfl,fun s hs=>by have s0c:=hs;go_simp<;>omega⟩) hHeld ?_
 clear c0
 refine wpAnyH_ready (rs:=[5]) (by kernel_rfl) (by simp) ?_
 refine AllReadyH.cons rfl (fun K hK => ?_) AllReadyH.nil
 rw [if_pos (by kernel_rfl)]
 go_simp
 refine (first_any _ _).mono ?_
 rintro e w2 ⟨rfl,hb2⟩
 have HW2:=Lib.hid ((HA.out.below (Below.refl _ _).drew).below hb2)
 have c0:=op_cell (HW2.out.keep HB0.out N1.out N2.out) 0 _ (by rfl)
 clear hb2
 refine hK _ _ c0 (fun hHeld => ?_)
 clear c0
 refine wpAnyH_ready (rs:=[6]) (by kernel_rfl) (by simp) ?_
 refine AllReadyH.cons rfl (fun K hK => ?_) AllReadyH.nil
 rw [if_pos (by kernel_rfl)]
 go_simp
 refine (write_first HW2.out (firstS 11) (by decide)).mono ?_
 rintro e w3 ⟨rfl,h3⟩
 have HW3:Hid (Wrote W1 _ none sp.kCustom true w3):=Lib.hid h3
 clear h3
 have c0:=op_cell (HW3.out.keep HB0.out N1.out N2.out) 0 _ (by rfl)
 refine hK _ _ c0 (fun hHeld => ?_)
 refine wpAnyH_done (by kernel_rfl) ?_ _
 clear hHeld
 go_simp
 have c1:=op_cell (HW3.out.keep HB0.out N1.out N2.out) 1 _ (by rfl)
 have c4:=op_cell (HW3.out.keep HB0.out N1.out N2.out) 4 _ (by rfl)
 go_wp2_with (first | (go_at_call 76;refine (numbers_new _ rfl HW3.out node H_node.out (by have:=LK.out;have:=D1.out;have:=D2.out;have:=I1.out;have:=I2.out;have:=I3.out;have:=H_name.out;have:=H_word.out;simp only [List.length_append,List.length_cons,List.length_nil];omega) HP.out).mono ?_;rintro e w4 ⟨rfl,h4⟩;have HW4:=Lib.hid h4;clear h4;clear c4;have c4:=op_cell (HW4.out.keep HB0.out N1.out N2.out) 4 _ (by rfl)) | (go_at_call 79;refine (plain_new _ rfl HW4.out name (by have:=LK.out;have:=D1.out;have:=D2.out;have:=I1.out;have:=I2.out;have:=I3.out;have:=H_name.out;have:=H_word.out;simp only [List.length_append,List.length_cons,List.length_nil];omega) H_name.out).mono ?_;rintro e w5 ⟨rfl,h5⟩;have HW5:=Lib.hid h5;clear h5))
 have c2:=(bld_ok HW5.out.choose_spec.1).1
 refine wp_region_held_drew (S:=(fun s=>s.cell? ⟨w.heap.size+1,2,none⟩=some (.bool (true&&smallB node&&plainV name)))) (by kernel_rfl) c2 (fun hHeld => ?_)
 refine wpAnyH_take (i:=0) (v:=.pointer (some ⟨w.heap.size+1,0,none⟩)) rfl (by kernel_rfl) (by kernel_rfl) (by kernel_rfl) (fun _ _ _ h=>h) (Or.inl ⟨by kernel_rfl,fun s hs=>by have s0c:=hs;go_simp<;>omega⟩) hHeld ?_
 refine wpAnyH_take (i:=1) (v:=.pointer (some ⟨w.heap.size+1,0,none⟩)) rfl (by kernel_rfl) (by kernel_rfl) (by kernel_rfl) (fun _ _ _ h=>h) (Or.inl ⟨by kernel_rfl,fun s hs=>by have s0c:=hs;go_simp<;>omega⟩) hHeld ?_
 refine wpAnyH_take (i:=2) (v:=.pointer (some ⟨w.heap.size+1,0,none⟩)) rfl (by kernel_rfl) (by kernel_rfl) (by kernel_rfl) (fun _ _ _ h=>h) (Or.inl ⟨by kernel_rfl,fun s hs=>by have s0c:=hs;go_simp<;>omega⟩) hHeld ?_
 refine wpAnyH_take (i:=4) (v:=.pointer (some ⟨w.heap.size+1,0,none⟩)) rfl (by kernel_rfl) (by kernel_rfl) (by kernel_rfl) (fun _ _ _ h=>h) (Or.inl ⟨by kernel_rfl,fun s hs=>by have s0c:=hs;go_simp<;>omega⟩) hHeld ?_
 refine wpAnyH_take (i:=5) (v:=.pointer (some ⟨w.heap.size+1,0,none⟩)) rfl (by kernel_rfl) (by kernel_rfl) (by kernel_rfl) (fun _ _ _ h=>h) (Or.inl ⟨by kernel_rfl,fun s hs=>by have s0c:=hs;go_simp<;>omega⟩) hHeld ?_
 refine wpAnyH_take (i:=6) (v:=.pointer (some ⟨w.heap.size+1,2,none⟩)) rfl (by kernel_rfl) (by kernel_rfl) (by kernel_rfl) (fun _ _ _ h=>h) (Or.inl ⟨by kernel_rfl,fun s hs=>by have s0c:=hs;go_simp<;>omega⟩) hHeld ?_
 refine wpAnyH_take (i:=7) (v:=.bool (true&&smallB node&&plainV name)) rfl (by kernel_rfl) (by kernel_rfl) (by kernel_rfl) (fun _ _ _ h=>h) (Or.inl ⟨by kernel_rfl,fun s hs=>by have s0c:=hs;go_simp<;>omega⟩) hHeld ?_
 clear c2
 refine wpAnyH_ready (rs:=[3]) (by kernel_rfl) (by simp) ?_
 refine AllReadyH.cons rfl (fun K hK => ?_) AllReadyH.nil
 rw [if_pos (by kernel_rfl)]
 go_simp
 refine (string_wrote (HW5.out.below (Below.refl _ _).drew)).mono ?_
 rintro e w9 ⟨rfl,hf9,c2⟩
 have HF9:=Lib.hid (wrote_below hf9 HBW.out (Nat.le_succ _))
 clear hf9
 refine hK _ _ c2 (fun hHeld => ?_)
 refine wpAnyH_take (i:=8) (v:=.string (bstr (sp.kCustom++32 :: Lib.itoa node++32 :: name.data.toList))) rfl (by kernel_rfl) (by kernel_rfl) (by kernel_rfl) (fun _ _ _ h=>h) (Or.inl ⟨by kernel_rfl,fun s hs=>by have s0c:=hs;go_simp<;>omega⟩) hHeld ?_
 refine wpAnyH_take (i:=9) (v:=.bool (true&&smallB node&&plainV name)) rfl (by kernel_rfl) (by kernel_rfl) (by kernel_rfl) (fun _ _ _ h=>h) (Or.inl ⟨by kernel_rfl,fun s hs=>by have s0c:=hs;go_simp<;>omega⟩) hHeld ?_
 refine wpAnyH_done (by kernel_rfl) ?_ _
 clear hHeld c2
 go_simp
 go_wp2
 go_ret2
 first
  | exact ⟨rfl,HF9.out⟩
  | (refine ⟨?_,HF9.out⟩;simp)
end
section
variable (node at_ org:Int) (name word:ByteArray) (tv:Value) (tx:List UInt8) (wn wd hn hd bt:Int) (bn:ByteArray) (bwn bwd bhn bhd:Int) (on:Bool) (w:World) (h_node:I64 node) (h_at:I64 at_) (h_org:I64 org) (h_name:name.size≤1048576) (h_word:word.size≤1048576) (h_tx:tx.length≤1048576) (h_row:RowAt w.heap.size w tv tx.length (Lib.byteCells tx)) (h_w:I64 wn∧I64 wd) (h_h:I64 hn∧I64 hd) (h_bn:bn.size≤1048576) (h_bw:I64 bwn∧I64 bwd) (h_bh:I64 bhn∧I64 bhd) (h_pow:Pow w)
include h_node h_at h_org h_name h_word h_tx h_row h_w h_h h_bn h_bw h_bh h_pow
set_option maxRecDepth 100000 in
set_option maxHeartbeats 8000000 in
theorem one_count:Calls Tryz.prog 39 #[.agg #[.int .i64 15,.int .i64 node,.int .i64 at_,.int .i64 org,.string name,.string word,tv,.int .i64 wn,.int .i64 wd,.int .i64 hn,.int .i64 hd,.int .i64 bt,.string bn,.int .i64 bwn,.int .i64 bwd,.int .i64 bhn,.int .i64 bhd,.bool on]] w fun e w'=>e=.returned (.tuple #[.string (bstr (sp.kCount)),.bool (true)])∧Below w.heap.size w w':=by
 have LK:Hid (sp.kCount.length≤10):=Lib.hid (by decide)
 have D1:=Lib.hid (datLen name);have D2:=Lib.hid (datLen word)
 have I1:Hid ((Lib.itoa node).length≤21):=Lib.hid (by have:=itoaLen h_node;rwa [bstr_size] at this)
 have I2:Hid ((Lib.itoa at_).length≤21):=Lib.hid (by have:=itoaLen h_at;rwa [bstr_size] at this)
 have I3:Hid ((Lib.itoa org).length≤21):=Lib.hid (by have:=itoaLen h_org;rwa [bstr_size] at this)
 have H_node:=Lib.hid h_node
 have H_at:=Lib.hid h_at
 have H_org:=Lib.hid h_org
 have H_name:=Lib.hid h_name
 have H_word:=Lib.hid h_word
 have H_tx:=Lib.hid h_tx
 have H_row:=Lib.hid h_row
 have H_w:=Lib.hid h_w
 have H_h:=Lib.hid h_h
 have H_bn:=Lib.hid h_bn
 have H_bw:=Lib.hid h_bw
 have H_bh:=Lib.hid h_bh
 have H_pow:=Lib.hid h_pow
 have hW:=start_facts w #[.int .i64 15,.int .i64 node,.int .i64 at_,.int .i64 org,.string name,.string word,tv,.int .i64 wn,.int .i64 wd,.int .i64 hn,.int .i64 hd,.int .i64 bt,.string bn,.int .i64 bwn,.int .i64 bwd,.int .i64 bhn,.int .i64 bhd,.bool on]
 clear h_node h_at h_org h_name h_word h_tx h_row h_w h_h h_bn h_bw h_bh h_pow
 go_enter Tryz.func39,Tryz.ntmps39
 go_wp2
 generalize (w.alloc (.cells #[.int .i64 15,.int .i64 node,.int .i64 at_,.int .i64 org,.string name,.string word,tv,.int .i64 wn,.int .i64 wd,.int .i64 hn,.int .i64 hd,.int .i64 bt,.string bn,.int .i64 bwn,.int .i64 bwd,.int .i64 bhn,.int .i64 bhd,.bool on] 28)).alloc (.cells #[.pointer none,.slice none 0 0,.bool true] 123)=W1 at hW ⊢
 obtain ⟨hb0,ha,hbw⟩:=hW
 have HB0:=Lib.hid hb0;have HA:=Lib.hid ha;have HBW:=Lib.hid hbw
 have N1:Hid (w.heap.size≠w.heap.size+1):=Lib.hid (by omega)
 have N2:Hid (some w.heap.size≠none):=Lib.hid (by simp)
 have HP:Hid (∀w',Fr W1 w' (w.heap.size+1) none→Pow w'):=Lib.hid (fun w' h=>H_pow.out.on (wrote_below h HBW.out (Nat.le_succ _)))
 have c0:=op_cell hb0 0 _ (by rfl)
 clear hb0 ha hbw
 refine wp_region_held_drew (S:=(fun s=>s.cell? ⟨w.heap.size,0,none⟩=some (.int .i64 15))) (by kernel_rfl) c0 (fun hHeld => ?_)
 refine wpAnyH_take (i:=0) (v:=.pointer (some ⟨w.heap.size+1,0,none⟩)) rfl (by kernel_rfl) (by kernel_rfl) (by kernel_rfl) (fun _ _ _ h=>h) (Or.inl ⟨by kernel_rfl,fun s hs=>by have s0c:=hs;go_simp<;>omega⟩) hHeld ?_
 refine wpAnyH_take (i:=1) (v:=.pointer (some ⟨w.heap.size+1,0,none⟩)) rfl (by kernel_rfl) (by kernel_rfl) (by kernel_rfl) (fun _ _ _ h=>h) (Or.inl ⟨by kernel_rfl,fun s hs=>by have s0c:=hs;go_simp<;>omega⟩) hHeld ?_
 refine wpAnyH_take (i:=2) (v:=.pointer (some ⟨w.heap.size+1,0,none⟩)) rfl (by kernel_rfl) (by kernel_rfl) (by kernel_rfl) (fun _ _ _ h=>h) (Or.inl ⟨by kernel_rfl,fun s hs=>by have s0c:=hs;go_simp<;>omega⟩) hHeld ?_
 refine wpAnyH_take (i:=3) (v:=.pointer (some ⟨w.heap.size,0,none⟩)) rfl (by kernel_rfl) (by kernel_rfl) (by kernel_rfl) (fun _ _ _ h=>h) (Or.inl ⟨by kernel_rfl,fun s hs=>by have s0c:=hs;go_simp<;>omega⟩) hHeld ?_
 refine wpAnyH_take (i:=4) (v:=.int .i64 15) rfl (by kernel_rfl) (by kernel_rfl) (by kernel_rfl) (fun _ _ _ h=>h) (Or.inl ⟨by kernel_rfl,fun s hs=>by have s0c:=hs;go_simp<;>omega⟩) hHeld ?_
 clear c0
 refine wpAnyH_ready (rs:=[5]) (by kernel_rfl) (by simp) ?_
 refine AllReadyH.cons rfl (fun K hK => ?_) AllReadyH.nil
 rw [if_pos (by kernel_rfl)]
 go_simp
 refine (first_any _ _).mono ?_
 rintro e w2 ⟨rfl,hb2⟩
 have HW2:=Lib.hid ((HA.out.below (Below.refl _ _).drew).below hb2)
 have c0:=op_cell (HW2.out.keep HB0.out N1.out N2.out) 0 _ (by rfl)
 clear hb2
 refine hK _ _ c0 (fun hHeld => ?_)
 clear c0
 refine wpAnyH_ready (rs:=[6]) (by kernel_rfl) (by simp) ?_
 refine AllReadyH.cons rfl (fun K hK => ?_) AllReadyH.nil
 rw [if_pos (by kernel_rfl)]
 go_simp
 refine (write_first HW2.out (firstS 15) (by decide)).mono ?_
 rintro e w3 ⟨rfl,h3⟩
 have HW3:Hid (Wrote W1 _ none sp.kCount true w3):=Lib.hid h3
 clear h3
 have c0:=op_cell (HW3.out.keep HB0.out N1.out N2.out) 0 _ (by rfl)
 refine hK _ _ c0 (fun hHeld => ?_)
 refine wpAnyH_done (by kernel_rfl) ?_ _
 clear hHeld
 go_simp
 go_wp2
 have c2:=(bld_ok HW3.out.choose_spec.1).1
 refine wp_region_held_drew (S:=(fun s=>s.cell? ⟨w.heap.size+1,2,none⟩=some (.bool (true)))) (by kernel_rfl) c2 (fun hHeld => ?_)
 refine wpAnyH_take (i:=0) (v:=.pointer (some ⟨w.heap.size+1,0,none⟩)) rfl (by kernel_rfl) (by kernel_rfl) (by kernel_rfl) (fun _ _ _ h=>h) (Or.inl ⟨by kernel_rfl,fun s hs=>by have s0c:=hs;go_simp<;>omega⟩) hHeld ?_
 refine wpAnyH_take (i:=1) (v:=.pointer (some ⟨w.heap.size+1,0,none⟩)) rfl (by kernel_rfl) (by kernel_rfl) (by kernel_rfl) (fun _ _ _ h=>h) (Or.inl ⟨by kernel_rfl,fun s hs=>by have s0c:=hs;go_simp<;>omega⟩) hHeld ?_
 refine wpAnyH_take (i:=2) (v:=.pointer (some ⟨w.heap.size+1,0,none⟩)) rfl (by kernel_rfl) (by kernel_rfl) (by kernel_rfl) (fun _ _ _ h=>h) (Or.inl ⟨by kernel_rfl,fun s hs=>by have s0c:=hs;go_simp<;>omega⟩) hHeld ?_
 refine wpAnyH_take (i:=4) (v:=.pointer (some ⟨w.heap.size+1,0,none⟩)) rfl (by kernel_rfl) (by kernel_rfl) (by kernel_rfl) (fun _ _ _ h=>h) (Or.inl ⟨by kernel_rfl,fun s hs=>by have s0c:=hs;go_simp<;>omega⟩) hHeld ?_
 refine wpAnyH_take (i:=5) (v:=.pointer (some ⟨w.heap.size+1,0,none⟩)) rfl (by kernel_rfl) (by kernel_rfl) (by kernel_rfl) (fun _ _ _ h=>h) (Or.inl ⟨by kernel_rfl,fun s hs=>by have s0c:=hs;go_simp<;>omega⟩) hHeld ?_
 refine wpAnyH_take (i:=6) (v:=.pointer (some ⟨w.heap.size+1,2,none⟩)) rfl (by kernel_rfl) (by kernel_rfl) (by kernel_rfl) (fun _ _ _ h=>h) (Or.inl ⟨by kernel_rfl,fun s hs=>by have s0c:=hs;go_simp<;>omega⟩) hHeld ?_
 refine wpAnyH_take (i:=7) (v:=.bool (true)) rfl (by kernel_rfl) (by kernel_rfl) (by kernel_rfl) (fun _ _ _ h=>h) (Or.inl ⟨by kernel_rfl,fun s hs=>by have s0c:=hs;go_simp<;>omega⟩) hHeld ?_
 clear c2
 refine wpAnyH_ready (rs:=[3]) (by kernel_rfl) (by simp) ?_
 refine AllReadyH.cons rfl (fun K hK => ?_) AllReadyH.nil
 rw [if_pos (by kernel_rfl)]
 go_simp
 refine (string_wrote (HW3.out.below (Below.refl _ _).drew)).mono ?_
 rintro e w9 ⟨rfl,hf9,c2⟩
 have HF9:=Lib.hid (wrote_below hf9 HBW.out (Nat.le_succ _))
 clear hf9
 refine hK _ _ c2 (fun hHeld => ?_)
 refine wpAnyH_take (i:=8) (v:=.string (bstr (sp.kCount))) rfl (by kernel_rfl) (by kernel_rfl) (by kernel_rfl) (fun _ _ _ h=>h) (Or.inl ⟨by kernel_rfl,fun s hs=>by have s0c:=hs;go_simp<;>omega⟩) hHeld ?_
 refine wpAnyH_take (i:=9) (v:=.bool (true)) rfl (by kernel_rfl) (by kernel_rfl) (by kernel_rfl) (fun _ _ _ h=>h) (Or.inl ⟨by kernel_rfl,fun s hs=>by have s0c:=hs;go_simp<;>omega⟩) hHeld ?_
 refine wpAnyH_done (by kernel_rfl) ?_ _
 clear hHeld c2
 go_simp
 go_wp2
 go_ret2
 first
  | exact ⟨rfl,HF9.out⟩
  | (refine ⟨?_,HF9.out⟩;simp)
end
set_option maxRecDepth 100000 in
set_option maxHeartbeats 8000000 in
theorem one_other (kind:Int) (node at_ org:Int) (name word:ByteArray) (tv:Value) (tx:List UInt8) (wn wd hn hd bt:Int) (bn:ByteArray) (bwn bwd bhn bhd:Int) (on:Bool) (w:World) (h_node:I64 node) (h_at:I64 at_) (h_org:I64 org) (h_name:name.size≤1048576) (h_word:word.size≤1048576) (h_tx:tx.length≤1048576) (h_row:RowAt w.heap.size w tv tx.length (Lib.byteCells tx)) (h_w:I64 wn∧I64 wd) (h_h:I64 hn∧I64 hd) (h_bn:bn.size≤1048576) (h_bw:I64 bwn∧I64 bwd) (h_bh:I64 bhn∧I64 bhd) (h_pow:Pow w) (h_no:∀k∈[1,2,3,13,14,4,5,6,12,7,8,10,11,9,15],kind≠k):Calls Tryz.prog 39 #[.agg #[.int .i64 kind,.int .i64 node,.int .i64 at_,.int .i64 org,.string name,.string word,tv,.int .i64 wn,.int .i64 wd,.int .i64 hn,.int .i64 hd,.int .i64 bt,.string bn,.int .i64 bwn,.int .i64 bwd,.int .i64 bhn,.int .i64 bhd,.bool on]] w fun e w'=>e=.returned (.tuple #[.string ⟨#[]⟩,.bool false])∧Below w.heap.size w w':=by
 have z1:(kind==1)=false:=by simpa using h_no 1 (by simp)
 have z2:(kind==2)=false:=by simpa using h_no 2 (by simp)
 have z3:(kind==3)=false:=by simpa using h_no 3 (by simp)
 have z13:(kind==13)=false:=by simpa using h_no 13 (by simp)
 have z14:(kind==14)=false:=by simpa using h_no 14 (by simp)
 have z4:(kind==4)=false:=by simpa using h_no 4 (by simp)
 have z5:(kind==5)=false:=by simpa using h_no 5 (by simp)
 have z6:(kind==6)=false:=by simpa using h_no 6 (by simp)
 have z12:(kind==12)=false:=by simpa using h_no 12 (by simp)
 have z7:(kind==7)=false:=by simpa using h_no 7 (by simp)
 have z8:(kind==8)=false:=by simpa using h_no 8 (by simp)
 have z10:(kind==10)=false:=by simpa using h_no 10 (by simp)
 have z11:(kind==11)=false:=by simpa using h_no 11 (by simp)
 have z9:(kind==9)=false:=by simpa using h_no 9 (by simp)
 have z15:(kind==15)=false:=by simpa using h_no 15 (by simp)
 have HFI:Hid ((firstS kind).length≤1000):=Lib.hid (by rw [first_no];exact Nat.zero_le _;intro p hp;simp [rowsL] at hp;rcases hp with rfl | rfl | rfl | rfl | rfl | rfl | rfl | rfl | rfl | rfl | rfl | rfl | rfl | rfl | rfl<;>exact fun e=>h_no _ (by simp) e.symm)
 clear h_no
 have H_node:=Lib.hid h_node
 have H_at:=Lib.hid h_at
 have H_org:=Lib.hid h_org
 have H_name:=Lib.hid h_name
 have H_word:=Lib.hid h_word
 have H_tx:=Lib.hid h_tx
 have H_row:=Lib.hid h_row
 have H_w:=Lib.hid h_w
 have H_h:=Lib.hid h_h
 have H_bn:=Lib.hid h_bn
 have H_bw:=Lib.hid h_bw
 have H_bh:=Lib.hid h_bh
 have H_pow:=Lib.hid h_pow
 have hW:=start_facts w #[.int .i64 kind,.int .i64 node,.int .i64 at_,.int .i64 org,.string name,.string word,tv,.int .i64 wn,.int .i64 wd,.int .i64 hn,.int .i64 hd,.int .i64 bt,.string bn,.int .i64 bwn,.int .i64 bwd,.int .i64 bhn,.int .i64 bhd,.bool on]
 clear h_node h_at h_org h_name h_word h_tx h_row h_w h_h h_bn h_bw h_bh h_pow
 go_enter Tryz.func39,Tryz.ntmps39
 go_wp2
 generalize (w.alloc (.cells #[.int .i64 kind,.int .i64 node,.int .i64 at_,.int .i64 org,.string name,.string word,tv,.int .i64 wn,.int .i64 wd,.int .i64 hn,.int .i64 hd,.int .i64 bt,.string bn,.int .i64 bwn,.int .i64 bwd,.int .i64 bhn,.int .i64 bhd,.bool on] 28)).alloc (.cells #[.pointer none,.slice none 0 0,.bool true] 123)=W1 at hW ⊢
 obtain ⟨hb0,ha,hbw⟩:=hW
 have HB0:=Lib.hid hb0;have HA:=Lib.hid ha;have HBW:=Lib.hid hbw
 have N1:Hid (w.heap.size≠w.heap.size+1):=Lib.hid (by omega)
 have N2:Hid (some w.heap.size≠none):=Lib.hid (by simp)
 have HP:Hid (∀w',Fr W1 w' (w.heap.size+1) none→Pow w'):=Lib.hid (fun w' h=>H_pow.out.on (wrote_below h HBW.out (Nat.le_succ _)))
 have c0:=op_cell hb0 0 _ (by rfl)
 clear hb0 ha hbw
 refine wp_region_held_drew (S:=(fun s=>s.cell? ⟨w.heap.size,0,none⟩=some (.int .i64 kind))) (by kernel_rfl) c0 (fun hHeld => ?_)
 refine wpAnyH_take (i:=0) (v:=.pointer (some ⟨w.heap.size+1,0,none⟩)) rfl (by kernel_rfl) (by kernel_rfl) (by kernel_rfl) (fun _ _ _ h=>h) (Or.inl ⟨by kernel_rfl,fun s hs=>by have s0c:=hs;go_simp<;>omega⟩) hHeld ?_
 refine wpAnyH_take (i:=1) (v:=.pointer (some ⟨w.heap.size+1,0,none⟩)) rfl (by kernel_rfl) (by kernel_rfl) (by kernel_rfl) (fun _ _ _ h=>h) (Or.inl ⟨by kernel_rfl,fun s hs=>by have s0c:=hs;go_simp<;>omega⟩) hHeld ?_
 refine wpAnyH_take (i:=2) (v:=.pointer (some ⟨w.heap.size+1,0,none⟩)) rfl (by kernel_rfl) (by kernel_rfl) (by kernel_rfl) (fun _ _ _ h=>h) (Or.inl ⟨by kernel_rfl,fun s hs=>by have s0c:=hs;go_simp<;>omega⟩) hHeld ?_
 refine wpAnyH_take (i:=3) (v:=.pointer (some ⟨w.heap.size,0,none⟩)) rfl (by kernel_rfl) (by kernel_rfl) (by kernel_rfl) (fun _ _ _ h=>h) (Or.inl ⟨by kernel_rfl,fun s hs=>by have s0c:=hs;go_simp<;>omega⟩) hHeld ?_
 refine wpAnyH_take (i:=4) (v:=.int .i64 kind) rfl (by kernel_rfl) (by kernel_rfl) (by kernel_rfl) (fun _ _ _ h=>h) (Or.inl ⟨by kernel_rfl,fun s hs=>by have s0c:=hs;go_simp<;>omega⟩) hHeld ?_
 clear c0
 refine wpAnyH_ready (rs:=[5]) (by kernel_rfl) (by simp) ?_
 refine AllReadyH.cons rfl (fun K hK => ?_) AllReadyH.nil
 rw [if_pos (by kernel_rfl)]
 go_simp
 refine (first_any _ _).mono ?_
 rintro e w2 ⟨rfl,hb2⟩
 have HW2:=Lib.hid ((HA.out.below (Below.refl _ _).drew).below hb2)
 have c0:=op_cell (HW2.out.keep HB0.out N1.out N2.out) 0 _ (by rfl)
 clear hb2
 refine hK _ _ c0 (fun hHeld => ?_)
 clear c0
 refine wpAnyH_ready (rs:=[6]) (by kernel_rfl) (by simp) ?_
 refine AllReadyH.cons rfl (fun K hK => ?_) AllReadyH.nil
 rw [if_pos (by kernel_rfl)]
 go_simp
 refine (write_first HW2.out (firstS kind) HFI.out).mono ?_
 rintro e w3 ⟨rfl,h3⟩
 have HW3:=Lib.hid h3
 clear h3
 have c0:=op_cell (HW3.out.keep HB0.out N1.out N2.out) 0 _ (by rfl)
 refine hK _ _ c0 (fun hHeld => ?_)
 refine wpAnyH_done (by kernel_rfl) ?_ _
 clear hHeld
 go_simp
 go_wp2
 go_ret2
 exact ⟨rfl,wrote_below HW3.out.choose_spec.2.1 HBW.out (Nat.le_succ _)⟩
theorem size28':(Tryz.prog.info? 28).map (·.size)=some 18:=by kernel_rfl
section
variable (node at_ org:Int) (name word:ByteArray) (tv:Value) (tx:List UInt8) (wn wd hn hd bt:Int) (bn:ByteArray) (bwn bwd bhn bhd:Int) (on:Bool) (w:World) (h_node:I64 node) (h_at:I64 at_) (h_org:I64 org) (h_name:name.size≤1048576) (h_word:word.size≤1048576) (h_tx:tx.length≤1048576) (h_row:RowAt w.heap.size w tv tx.length (Lib.byteCells tx)) (h_w:I64 wn∧I64 wd) (h_h:I64 hn∧I64 hd) (h_bn:bn.size≤1048576) (h_bw:I64 bwn∧I64 bwd) (h_bh:I64 bhn∧I64 bhd) (h_pow:Pow w)
include h_node h_at h_org h_name h_word h_tx h_row h_w h_h h_bn h_bw h_bh h_pow
set_option maxRecDepth 100000 in
set_option maxHeartbeats 8000000 in
theorem one_boxk:Calls Tryz.prog 39 #[.agg #[.int .i64 9,.int .i64 node,.int .i64 at_,.int .i64 org,.string name,.string word,tv,.int .i64 wn,.int .i64 wd,.int .i64 hn,.int .i64 hd,.int .i64 bt,.string bn,.int .i64 bwn,.int .i64 bwd,.int .i64 bhn,.int .i64 bhd,.bool on]] w fun e w'=>∃t ok',e=.returned (.tuple #[.string (bstr (sp.kBox++t)),.bool ok'])∧ok'=boxB node bt bn (bwn,bwd) (bhn,bhd)∧(boxB node bt bn (bwn,bwd) (bhn,bhd)=true→t=boxS node bt bn (bwn,bwd) (bhn,bhd))∧t.length≤10000000∧Below w.heap.size w w':=by
 have H_node:=Lib.hid h_node
 have H_at:=Lib.hid h_at
 have H_org:=Lib.hid h_org
 have H_name:=Lib.hid h_name
 have H_word:=Lib.hid h_word
 have H_tx:=Lib.hid h_tx
 have H_row:=Lib.hid h_row
 have H_w:=Lib.hid h_w
 have H_h:=Lib.hid h_h
 have H_bn:=Lib.hid h_bn
 have H_bw:=Lib.hid h_bw
 have H_bh:=Lib.hid h_bh
 have H_pow:=Lib.hid h_pow
 have hW:=start_facts w #[.int .i64 9,.int .i64 node,.int .i64 at_,.int .i64 org,.string name,.string word,tv,.int .i64 wn,.int .i64 wd,.int .i64 hn,.int .i64 hd,.int .i64 bt,.string bn,.int .i64 bwn,.int .i64 bwd,.int .i64 bhn,.int .i64 bhd,.bool on]
 clear h_node h_at h_org h_name h_word h_tx h_row h_w h_h h_bn h_bw h_bh h_pow
 go_enter Tryz.func39,Tryz.ntmps39
 go_wp2
 generalize (w.alloc (.cells #[.int .i64 9,.int .i64 node,.int .i64 at_,.int .i64 org,.string name,.string word,tv,.int .i64 wn,.int .i64 wd,.int .i64 hn,.int .i64 hd,.int .i64 bt,.string bn,.int .i64 bwn,.int .i64 bwd,.int .i64 bhn,.int .i64 bhd,.bool on] 28)).alloc (.cells #[.pointer none,.slice none 0 0,.bool true] 123)=W1 at hW ⊢
 obtain ⟨hb0,ha,hbw⟩:=hW
 have HB0:=Lib.hid hb0;have HA:=Lib.hid ha;have HBW:=Lib.hid hbw
 have N1:Hid (w.heap.size≠w.heap.size+1):=Lib.hid (by omega)
 have N2:Hid (some w.heap.size≠none):=Lib.hid (by simp)
 have HP:Hid (∀w',Fr W1 w' (w.heap.size+1) none→Pow w'):=Lib.hid (fun w' h=>H_pow.out.on (wrote_below h HBW.out (Nat.le_succ _)))
 have c0:=op_cell hb0 0 _ (by rfl)
 clear hb0 ha hbw
 refine wp_region_held_drew (S:=(fun s=>s.cell? ⟨w.heap.size,0,none⟩=some (.int .i64 9))) (by kernel_rfl) c0 (fun hHeld => ?_)
 refine wpAnyH_take (i:=0) (v:=.pointer (some ⟨w.heap.size+1,0,none⟩)) rfl (by kernel_rfl) (by kernel_rfl) (by kernel_rfl) (fun _ _ _ h=>h) (Or.inl ⟨by kernel_rfl,fun s hs=>by have s0c:=hs;go_simp<;>omega⟩) hHeld ?_
 refine wpAnyH_take (i:=1) (v:=.pointer (some ⟨w.heap.size+1,0,none⟩)) rfl (by kernel_rfl) (by kernel_rfl) (by kernel_rfl) (fun _ _ _ h=>h) (Or.inl ⟨by kernel_rfl,fun s hs=>by have s0c:=hs;go_simp<;>omega⟩) hHeld ?_
 refine wpAnyH_take (i:=2) (v:=.pointer (some ⟨w.heap.size+1,0,none⟩)) rfl (by kernel_rfl) (by kernel_rfl) (by kernel_rfl) (fun _ _ _ h=>h) (Or.inl ⟨by kernel_rfl,fun s hs=>by have s0c:=hs;go_simp<;>omega⟩) hHeld ?_
 refine wpAnyH_take (i:=3) (v:=.pointer (some ⟨w.heap.size,0,none⟩)) rfl (by kernel_rfl) (by kernel_rfl) (by kernel_rfl) (fun _ _ _ h=>h) (Or.inl ⟨by kernel_rfl,fun s hs=>by have s0c:=hs;go_simp<;>omega⟩) hHeld ?_
 refine wpAnyH_take (i:=4) (v:=.int .i64 9) rfl (by kernel_rfl) (by kernel_rfl) (by kernel_rfl) (fun _ _ _ h=>h) (Or.inl ⟨by kernel_rfl,fun s hs=>by have s0c:=hs;go_simp<;>omega⟩) hHeld ?_
 clear c0
 refine wpAnyH_ready (rs:=[5]) (by kernel_rfl) (by simp) ?_
 refine AllReadyH.cons rfl (fun K hK => ?_) AllReadyH.nil
 rw [if_pos (by kernel_rfl)]
 go_simp
 refine (first_any _ _).mono ?_
 rintro e w2 ⟨rfl,hb2⟩
 have HW2:=Lib.hid ((HA.out.below (Below.refl _ _).drew).below hb2)
 have c0:=op_cell (HW2.out.keep HB0.out N1.out N2.out) 0 _ (by rfl)
 clear hb2
 refine hK _ _ c0 (fun hHeld => ?_)
 clear c0
 refine wpAnyH_ready (rs:=[6]) (by kernel_rfl) (by simp) ?_
 refine AllReadyH.cons rfl (fun K hK => ?_) AllReadyH.nil
 rw [if_pos (by kernel_rfl)]
 go_simp
 refine (write_first HW2.out (firstS 9) (by decide)).mono ?_
 rintro e w3 ⟨rfl,h3⟩
 have HW3:Hid (Wrote W1 _ none sp.kBox true w3):=Lib.hid h3
 clear h3
 have c0:=op_cell (HW3.out.keep HB0.out N1.out N2.out) 0 _ (by rfl)
 refine hK _ _ c0 (fun hHeld => ?_)
 refine wpAnyH_done (by kernel_rfl) ?_ _
 clear hHeld
 go_simp
 have HLD:=Lib.hid (fun j u (hj:(#[.int .i64 9,.int .i64 node,.int .i64 at_,.int .i64 org,.string name,.string word,tv,.int .i64 wn,.int .i64 wd,.int .i64 hn,.int .i64 hd,.int .i64 bt,.string bn,.int .i64 bwn,.int .i64 bwd,.int .i64 bhn,.int .i64 bhd,.bool on]:Array Value).toList[j]?=some u)=>(by rw [Nat.zero_add];exact op_cell (HW3.out.keep HB0.out N1.out N2.out) j u (by simpa using hj):w3.cell? ⟨w.heap.size,0+j,none⟩=some u))
 go_wp2_with (first | (refine wpList_load_range rfl 28 _ rfl w.heap.size 0 rfl #[.int .i64 9,.int .i64 node,.int .i64 at_,.int .i64 org,.string name,.string word,tv,.int .i64 wn,.int .i64 wd,.int .i64 hn,.int .i64 hd,.int .i64 bt,.string bn,.int .i64 bwn,.int .i64 bwd,.int .i64 bhn,.int .i64 bhd,.bool on] _ HLD.out Tryz.underlying28 rfl size28' ?_) | (go_at_call 80;refine (box_any 9 node at_ org name word tv wn wd hn hd bt bn bwn bwd bhn bhd on W1 _ _ _ _ _ HW3.out H_node.out (by decide) H_bn.out H_bw.out H_bh.out HP.out).mono ?_;rintro e w4 ⟨rfl,t,ok',h4,e4,e5,e6⟩;have HW4:=Lib.hid h4;have HE4:=Lib.hid e4;have HE5:=Lib.hid e5;have HE6:=Lib.hid e6;clear h4 e4 e5 e6))
 have c2:=(bld_ok HW4.out.choose_spec.1).1
 refine wp_region_held_drew (S:=(fun s=>s.cell? ⟨w.heap.size+1,2,none⟩=some (.bool (ok')))) (by kernel_rfl) c2 (fun hHeld => ?_)
 refine wpAnyH_take (i:=0) (v:=.pointer (some ⟨w.heap.size+1,0,none⟩)) rfl (by kernel_rfl) (by kernel_rfl) (by kernel_rfl) (fun _ _ _ h=>h) (Or.inl ⟨by kernel_rfl,fun s hs=>by have s0c:=hs;go_simp<;>omega⟩) hHeld ?_
 refine wpAnyH_take (i:=1) (v:=.pointer (some ⟨w.heap.size+1,0,none⟩)) rfl (by kernel_rfl) (by kernel_rfl) (by kernel_rfl) (fun _ _ _ h=>h) (Or.inl ⟨by kernel_rfl,fun s hs=>by have s0c:=hs;go_simp<;>omega⟩) hHeld ?_
 refine wpAnyH_take (i:=2) (v:=.pointer (some ⟨w.heap.size+1,0,none⟩)) rfl (by kernel_rfl) (by kernel_rfl) (by kernel_rfl) (fun _ _ _ h=>h) (Or.inl ⟨by kernel_rfl,fun s hs=>by have s0c:=hs;go_simp<;>omega⟩) hHeld ?_
 refine wpAnyH_take (i:=4) (v:=.pointer (some ⟨w.heap.size+1,0,none⟩)) rfl (by kernel_rfl) (by kernel_rfl) (by kernel_rfl) (fun _ _ _ h=>h) (Or.inl ⟨by kernel_rfl,fun s hs=>by have s0c:=hs;go_simp<;>omega⟩) hHeld ?_
 refine wpAnyH_take (i:=5) (v:=.pointer (some ⟨w.heap.size+1,0,none⟩)) rfl (by kernel_rfl) (by kernel_rfl) (by kernel_rfl) (fun _ _ _ h=>h) (Or.inl ⟨by kernel_rfl,fun s hs=>by have s0c:=hs;go_simp<;>omega⟩) hHeld ?_
 refine wpAnyH_take (i:=6) (v:=.pointer (some ⟨w.heap.size+1,2,none⟩)) rfl (by kernel_rfl) (by kernel_rfl) (by kernel_rfl) (fun _ _ _ h=>h) (Or.inl ⟨by kernel_rfl,fun s hs=>by have s0c:=hs;go_simp<;>omega⟩) hHeld ?_
 refine wpAnyH_take (i:=7) (v:=.bool (ok')) rfl (by kernel_rfl) (by kernel_rfl) (by kernel_rfl) (fun _ _ _ h=>h) (Or.inl ⟨by kernel_rfl,fun s hs=>by have s0c:=hs;go_simp<;>omega⟩) hHeld ?_
 clear c2
 refine wpAnyH_ready (rs:=[3]) (by kernel_rfl) (by simp) ?_
 refine AllReadyH.cons rfl (fun K hK => ?_) AllReadyH.nil
 rw [if_pos (by kernel_rfl)]
 go_simp
 refine (string_wrote (HW4.out.below (Below.refl _ _).drew)).mono ?_
 rintro e w9 ⟨rfl,hf9,c2⟩
 have HF9:=Lib.hid (wrote_below hf9 HBW.out (Nat.le_succ _))
 clear hf9
 refine hK _ _ c2 (fun hHeld => ?_)
 refine wpAnyH_take (i:=8) (v:=.string (bstr (sp.kBox++t))) rfl (by kernel_rfl) (by kernel_rfl) (by kernel_rfl) (fun _ _ _ h=>h) (Or.inl ⟨by kernel_rfl,fun s hs=>by have s0c:=hs;go_simp<;>omega⟩) hHeld ?_
 refine wpAnyH_take (i:=9) (v:=.bool (ok')) rfl (by kernel_rfl) (by kernel_rfl) (by kernel_rfl) (fun _ _ _ h=>h) (Or.inl ⟨by kernel_rfl,fun s hs=>by have s0c:=hs;go_simp<;>omega⟩) hHeld ?_
 refine wpAnyH_done (by kernel_rfl) ?_ _
 clear hHeld c2
 go_simp
 go_wp2
 go_ret2
 exact ⟨t,ok',rfl,by simpa using HE4.out,HE5.out,HE6.out,HF9.out⟩
end
def opCells (o:sp.Op) (tv:Value):Array Value:=#[.int .i64 o.kind,.int .i64 o.node,.int .i64 o.at_,.int .i64 o.origin,.string (bstr o.name),.string (bstr o.word),tv,.int .i64 o.w.1,.int .i64 o.w.2,.int .i64 o.h.1,.int .i64 o.h.2,.int .i64 o.bt,.string (bstr o.bn),.int .i64 o.bw.1,.int .i64 o.bw.2,.int .i64 o.bh.1,.int .i64 o.bh.2,.bool o.on]
structure OpIn (B:Nat) (w:World) (o:sp.Op) (tv:Value):Prop where
 node:I64 o.node
 at_:I64 o.at_
 origin:I64 o.origin
 name:o.name.length≤1048576
 word:o.word.length≤1048576
 text:o.text.length≤1048576
 row:RowAt B w tv o.text.length (Lib.byteCells o.text)
 fw:I64 o.w.1∧I64 o.w.2
 fh:I64 o.h.1∧I64 o.h.2
 bn:o.bn.length≤1048576
 bw:I64 o.bw.1∧I64 o.bw.2
 bh:I64 o.bh.1∧I64 o.bh.2
theorem smallB_iff (n:Int):smallB n=true↔sp.SmallP n:=by unfold smallB sp.SmallP;simp
theorem plainV_bstr (l:List UInt8):plainV (bstr l)=sp.plainB l:=by simp [plainV,bstr]
theorem bstr_data (l:List UInt8):(bstr l).data.toList=l:=by simp [bstr]
def OneIs (o:sp.Op) (s:List UInt8) (ok:Bool):Prop:=(ok=true→sp.oneS o=some s)∧(ok=false→sp.oneS o=none)
theorem one_close {o:sp.Op} {P:Prop} [Decidable P] {S:List UInt8} {ok:Bool} (h:sp.oneS o=if P then some S else none) (hb:ok=true↔P):OneIs o S ok:=by
 constructor
 ·intro e;rw [h,if_pos (hb.1 e)]
 ·intro e;rw [h,if_neg (fun hp=>by rw [hb.2 hp] at e;cases e)]
theorem mayR_iff (r:Int×Int):mayR r=true↔sp.MayP r.1 r.2:=by
 unfold mayR mayB sp.MayP
 rw [Bool.or_eq_true]
 exact or_congr (by simp [zeroB]) (by simp [sureB];exact Iff.rfl)
theorem ones_cong {a b:List UInt8} (h:a=b) {ok:Bool}:Ending.returned (.tuple #[.string (bstr a),.bool ok])=Ending.returned (.tuple #[.string (bstr b),.bool ok]):=by rw [h]
section
variable {o:sp.Op} {tv:Value} {w:World}
theorem at_sheet (h:OpIn w.heap.size w o tv) (hp:Pow w) (hk:o.kind=1):Calls Tryz.prog 39 #[.agg (opCells o tv)] w fun e w'=>∃s ok,e=.returned (.tuple #[.string (bstr s),.bool ok])∧OneIs o s ok∧s.length≤20000000∧Below w.heap.size w w':=by
 have LI1:(Lib.itoa o.node).length≤21:=by have:=itoaLen h.node;rwa [bstr_size] at this
 have LI2:(Lib.itoa o.at_).length≤21:=by have:=itoaLen h.at_;rwa [bstr_size] at this
 have LI3:(Lib.itoa o.origin).length≤21:=by have:=itoaLen h.origin;rwa [bstr_size] at this
 have R1:=rat_len h.fw
 have R2:=rat_len h.fh
 unfold opCells
 rw [hk]
 refine (one_sheet o.node o.at_ o.origin (bstr o.name) (bstr o.word) tv o.text o.w.1 o.w.2 o.h.1 o.h.2 o.bt (bstr o.bn) o.bw.1 o.bw.2 o.bh.1 o.bh.2 o.on w h.node h.at_ h.origin (by rw [bstr_size];exact h.name) (by rw [bstr_size];exact h.word) h.text h.row h.fw h.fh (by rw [bstr_size];exact h.bn) h.bw h.bh hp).mono ?_
 rintro e w' ⟨rfl,hb⟩
 refine ⟨sp.kSheet++32 :: Lib.itoa o.origin++32 :: sp.quoteS o.text,_,ones_cong (by simp only [bstr_data]),one_close (P:=sp.SmallP o.origin) (by unfold sp.oneS;rw [hk];rfl) (by simpa using smallB_iff o.origin),?_,hb⟩
 ·have:=LI1;have:=LI2;have:=LI3;have:=h.name;have:=h.word;have:=h.text;have:=quoteS_len o.word;have:=quoteS_len o.text;simp only [List.length_append,List.length_cons,List.length_nil];omega
theorem at_view (h:OpIn w.heap.size w o tv) (hp:Pow w) (hk:o.kind=2):Calls Tryz.prog 39 #[.agg (opCells o tv)] w fun e w'=>∃s ok,e=.returned (.tuple #[.string (bstr s),.bool ok])∧OneIs o s ok∧s.length≤20000000∧Below w.heap.size w w':=by
 have LI1:(Lib.itoa o.node).length≤21:=by have:=itoaLen h.node;rwa [bstr_size] at this
 have LI2:(Lib.itoa o.at_).length≤21:=by have:=itoaLen h.at_;rwa [bstr_size] at this
 have LI3:(Lib.itoa o.origin).length≤21:=by have:=itoaLen h.origin;rwa [bstr_size] at this
 have R1:=rat_len h.fw
 have R2:=rat_len h.fh
 unfold opCells
 rw [hk]
 refine (one_view o.node o.at_ o.origin (bstr o.name) (bstr o.word) tv o.text o.w.1 o.w.2 o.h.1 o.h.2 o.bt (bstr o.bn) o.bw.1 o.bw.2 o.bh.1 o.bh.2 o.on w h.node h.at_ h.origin (by rw [bstr_size];exact h.name) (by rw [bstr_size];exact h.word) h.text h.row h.fw h.fh (by rw [bstr_size];exact h.bn) h.bw h.bh hp).mono ?_
 rintro e w' ⟨rfl,hb⟩
 refine ⟨sp.kView++32 :: sp.ratS o.w.1 o.w.2++32 :: sp.ratS o.h.1 o.h.2,_,ones_cong (by simp only [bstr_data]),one_close (P:=sp.MayP o.w.1 o.w.2∧sp.MayP o.h.1 o.h.2) (by unfold sp.oneS;rw [hk];rfl) (by simp [mayR_iff]),?_,hb⟩
 ·have:=LI1;have:=LI2;have:=LI3;have:=h.name;have:=h.word;have:=h.text;have:=quoteS_len o.word;have:=quoteS_len o.text;simp only [List.length_append,List.length_cons,List.length_nil];omega
theorem at_font (h:OpIn w.heap.size w o tv) (hp:Pow w) (hk:o.kind=3):Calls Tryz.prog 39 #[.agg (opCells o tv)] w fun e w'=>∃s ok,e=.returned (.tuple #[.string (bstr s),.bool ok])∧OneIs o s ok∧s.length≤20000000∧Below w.heap.size w w':=by
 have LI1:(Lib.itoa o.node).length≤21:=by have:=itoaLen h.node;rwa [bstr_size] at this
 have LI2:(Lib.itoa o.at_).length≤21:=by have:=itoaLen h.at_;rwa [bstr_size] at this
 have LI3:(Lib.itoa o.origin).length≤21:=by have:=itoaLen h.origin;rwa [bstr_size] at this
 have R1:=rat_len h.fw
 have R2:=rat_len h.fh
 unfold opCells
 rw [hk]
 refine (one_font o.node o.at_ o.origin (bstr o.name) (bstr o.word) tv o.text o.w.1 o.w.2 o.h.1 o.h.2 o.bt (bstr o.bn) o.bw.1 o.bw.2 o.bh.1 o.bh.2 o.on w h.node h.at_ h.origin (by rw [bstr_size];exact h.name) (by rw [bstr_size];exact h.word) h.text h.row h.fw h.fh (by rw [bstr_size];exact h.bn) h.bw h.bh hp).mono ?_
 rintro e w' ⟨rfl,hb⟩
 refine ⟨sp.kFont++32 :: sp.ratS o.w.1 o.w.2,_,ones_cong (by simp only [bstr_data]),one_close (P:=sp.MayP o.w.1 o.w.2) (by unfold sp.oneS;rw [hk];rfl) (by simp [mayR_iff]),?_,hb⟩
 ·have:=LI1;have:=LI2;have:=LI3;have:=h.name;have:=h.word;have:=h.text;have:=quoteS_len o.word;have:=quoteS_len o.text;simp only [List.length_append,List.length_cons,List.length_nil];omega
theorem at_color (h:OpIn w.heap.size w o tv) (hp:Pow w) (hk:o.kind=13):Calls Tryz.prog 39 #[.agg (opCells o tv)] w fun e w'=>∃s ok,e=.returned (.tuple #[.string (bstr s),.bool ok])∧OneIs o s ok∧s.length≤20000000∧Below w.heap.size w w':=by
 have LI1:(Lib.itoa o.node).length≤21:=by have:=itoaLen h.node;rwa [bstr_size] at this
 have LI2:(Lib.itoa o.at_).length≤21:=by have:=itoaLen h.at_;rwa [bstr_size] at this
 have LI3:(Lib.itoa o.origin).length≤21:=by have:=itoaLen h.origin;rwa [bstr_size] at this
 have R1:=rat_len h.fw
 have R2:=rat_len h.fh
 unfold opCells
 rw [hk]
 refine (one_color o.node o.at_ o.origin (bstr o.name) (bstr o.word) tv o.text o.w.1 o.w.2 o.h.1 o.h.2 o.bt (bstr o.bn) o.bw.1 o.bw.2 o.bh.1 o.bh.2 o.on w h.node h.at_ h.origin (by rw [bstr_size];exact h.name) (by rw [bstr_size];exact h.word) h.text h.row h.fw h.fh (by rw [bstr_size];exact h.bn) h.bw h.bh hp).mono ?_
 rintro e w' ⟨rfl,hb⟩
 refine ⟨sp.kColor++32 :: sp.ratS o.w.1 o.w.2,_,ones_cong (by simp only [bstr_data]),one_close (P:=sp.MayP o.w.1 o.w.2) (by unfold sp.oneS;rw [hk];rfl) (by simp [mayR_iff]),?_,hb⟩
 ·have:=LI1;have:=LI2;have:=LI3;have:=h.name;have:=h.word;have:=h.text;have:=quoteS_len o.word;have:=quoteS_len o.text;simp only [List.length_append,List.length_cons,List.length_nil];omega
theorem at_print (h:OpIn w.heap.size w o tv) (hp:Pow w) (hk:o.kind=14):Calls Tryz.prog 39 #[.agg (opCells o tv)] w fun e w'=>∃s ok,e=.returned (.tuple #[.string (bstr s),.bool ok])∧OneIs o s ok∧s.length≤20000000∧Below w.heap.size w w':=by
 have LI1:(Lib.itoa o.node).length≤21:=by have:=itoaLen h.node;rwa [bstr_size] at this
 have LI2:(Lib.itoa o.at_).length≤21:=by have:=itoaLen h.at_;rwa [bstr_size] at this
 have LI3:(Lib.itoa o.origin).length≤21:=by have:=itoaLen h.origin;rwa [bstr_size] at this
 have R1:=rat_len h.fw
 have R2:=rat_len h.fh
 unfold opCells
 rw [hk]
 refine (one_print o.node o.at_ o.origin (bstr o.name) (bstr o.word) tv o.text o.w.1 o.w.2 o.h.1 o.h.2 o.bt (bstr o.bn) o.bw.1 o.bw.2 o.bh.1 o.bh.2 o.on w h.node h.at_ h.origin (by rw [bstr_size];exact h.name) (by rw [bstr_size];exact h.word) h.text h.row h.fw h.fh (by rw [bstr_size];exact h.bn) h.bw h.bh hp).mono ?_
 rintro e w' ⟨rfl,hb⟩
 refine ⟨sp.kPrint++32 :: (if o.on then sp.kOn else sp.kOff),_,ones_cong (by simp only [bstr_data]),⟨fun _=>(by unfold sp.oneS;rw [hk];rfl),fun e=>(by cases e)⟩,?_,hb⟩
 ·cases o.on<;>simp
theorem at_word (h:OpIn w.heap.size w o tv) (hp:Pow w) (hk:o.kind=4):Calls Tryz.prog 39 #[.agg (opCells o tv)] w fun e w'=>∃s ok,e=.returned (.tuple #[.string (bstr s),.bool ok])∧OneIs o s ok∧s.length≤20000000∧Below w.heap.size w w':=by
 have LI1:(Lib.itoa o.node).length≤21:=by have:=itoaLen h.node;rwa [bstr_size] at this
 have LI2:(Lib.itoa o.at_).length≤21:=by have:=itoaLen h.at_;rwa [bstr_size] at this
 have LI3:(Lib.itoa o.origin).length≤21:=by have:=itoaLen h.origin;rwa [bstr_size] at this
 have R1:=rat_len h.fw
 have R2:=rat_len h.fh
 unfold opCells
 rw [hk]
 refine (one_word o.node o.at_ o.origin (bstr o.name) (bstr o.word) tv o.text o.w.1 o.w.2 o.h.1 o.h.2 o.bt (bstr o.bn) o.bw.1 o.bw.2 o.bh.1 o.bh.2 o.on w h.node h.at_ h.origin (by rw [bstr_size];exact h.name) (by rw [bstr_size];exact h.word) h.text h.row h.fw h.fh (by rw [bstr_size];exact h.bn) h.bw h.bh hp).mono ?_
 rintro e w' ⟨rfl,hb⟩
 refine ⟨sp.kWord++32 :: o.name++32 :: o.word,_,ones_cong (by simp only [bstr_data]),one_close (P:=sp.plainB o.name∧sp.plainB o.word) (by unfold sp.oneS;rw [hk];rfl) (by simp [plainV_bstr]),?_,hb⟩
 ·have:=LI1;have:=LI2;have:=LI3;have:=h.name;have:=h.word;have:=h.text;have:=quoteS_len o.word;have:=quoteS_len o.text;simp only [List.length_append,List.length_cons,List.length_nil];omega
theorem at_insert (h:OpIn w.heap.size w o tv) (hp:Pow w) (hk:o.kind=5):Calls Tryz.prog 39 #[.agg (opCells o tv)] w fun e w'=>∃s ok,e=.returned (.tuple #[.string (bstr s),.bool ok])∧OneIs o s ok∧s.length≤20000000∧Below w.heap.size w w':=by
 have LI1:(Lib.itoa o.node).length≤21:=by have:=itoaLen h.node;rwa [bstr_size] at this
 have LI2:(Lib.itoa o.at_).length≤21:=by have:=itoaLen h.at_;rwa [bstr_size] at this
 have LI3:(Lib.itoa o.origin).length≤21:=by have:=itoaLen h.origin;rwa [bstr_size] at this
 have R1:=rat_len h.fw
 have R2:=rat_len h.fh
 unfold opCells
 rw [hk]
 refine (one_insert o.node o.at_ o.origin (bstr o.name) (bstr o.word) tv o.text o.w.1 o.w.2 o.h.1 o.h.2 o.bt (bstr o.bn) o.bw.1 o.bw.2 o.bh.1 o.bh.2 o.on w h.node h.at_ h.origin (by rw [bstr_size];exact h.name) (by rw [bstr_size];exact h.word) h.text h.row h.fw h.fh (by rw [bstr_size];exact h.bn) h.bw h.bh hp).mono ?_
 rintro e w' ⟨rfl,hb⟩
 refine ⟨sp.kInsert++32 :: Lib.itoa o.node++32 :: Lib.itoa o.at_++32 :: o.name,_,ones_cong (by simp only [bstr_data]),one_close (P:=sp.SmallP o.node∧sp.SmallP o.at_∧sp.plainB o.name) (by unfold sp.oneS;rw [hk];rfl) (by simp [plainV_bstr,smallB_iff,and_assoc]),?_,hb⟩
 ·have:=LI1;have:=LI2;have:=LI3;have:=h.name;have:=h.word;have:=h.text;have:=quoteS_len o.word;have:=quoteS_len o.text;simp only [List.length_append,List.length_cons,List.length_nil];omega
theorem at_remove (h:OpIn w.heap.size w o tv) (hp:Pow w) (hk:o.kind=6):Calls Tryz.prog 39 #[.agg (opCells o tv)] w fun e w'=>∃s ok,e=.returned (.tuple #[.string (bstr s),.bool ok])∧OneIs o s ok∧s.length≤20000000∧Below w.heap.size w w':=by
 have LI1:(Lib.itoa o.node).length≤21:=by have:=itoaLen h.node;rwa [bstr_size] at this
 have LI2:(Lib.itoa o.at_).length≤21:=by have:=itoaLen h.at_;rwa [bstr_size] at this
 have LI3:(Lib.itoa o.origin).length≤21:=by have:=itoaLen h.origin;rwa [bstr_size] at this
 have R1:=rat_len h.fw
 have R2:=rat_len h.fh
 unfold opCells
 rw [hk]
 refine (one_remove o.node o.at_ o.origin (bstr o.name) (bstr o.word) tv o.text o.w.1 o.w.2 o.h.1 o.h.2 o.bt (bstr o.bn) o.bw.1 o.bw.2 o.bh.1 o.bh.2 o.on w h.node h.at_ h.origin (by rw [bstr_size];exact h.name) (by rw [bstr_size];exact h.word) h.text h.row h.fw h.fh (by rw [bstr_size];exact h.bn) h.bw h.bh hp).mono ?_
 rintro e w' ⟨rfl,hb⟩
 refine ⟨sp.kRemove++32 :: Lib.itoa o.node,_,ones_cong (by simp only [bstr_data]),one_close (P:=sp.SmallP o.node) (by unfold sp.oneS;rw [hk];rfl) (by simpa using smallB_iff o.node),?_,hb⟩
 ·have:=LI1;have:=LI2;have:=LI3;have:=h.name;have:=h.word;have:=h.text;have:=quoteS_len o.word;have:=quoteS_len o.text;simp only [List.length_append,List.length_cons,List.length_nil];omega
theorem at_rules (h:OpIn w.heap.size w o tv) (hp:Pow w) (hk:o.kind=12):Calls Tryz.prog 39 #[.agg (opCells o tv)] w fun e w'=>∃s ok,e=.returned (.tuple #[.string (bstr s),.bool ok])∧OneIs o s ok∧s.length≤20000000∧Below w.heap.size w w':=by
 have LI1:(Lib.itoa o.node).length≤21:=by have:=itoaLen h.node;rwa [bstr_size] at this
 have LI2:(Lib.itoa o.at_).length≤21:=by have:=itoaLen h.at_;rwa [bstr_size] at this
 have LI3:(Lib.itoa o.origin).length≤21:=by have:=itoaLen h.origin;rwa [bstr_size] at this
 have R1:=rat_len h.fw
 have R2:=rat_len h.fh
 unfold opCells
 rw [hk]
 refine (one_rules o.node o.at_ o.origin (bstr o.name) (bstr o.word) tv o.text o.w.1 o.w.2 o.h.1 o.h.2 o.bt (bstr o.bn) o.bw.1 o.bw.2 o.bh.1 o.bh.2 o.on w h.node h.at_ h.origin (by rw [bstr_size];exact h.name) (by rw [bstr_size];exact h.word) h.text h.row h.fw h.fh (by rw [bstr_size];exact h.bn) h.bw h.bh hp).mono ?_
 rintro e w' ⟨rfl,hb⟩
 refine ⟨sp.kRules++32 :: Lib.itoa o.node,_,ones_cong (by simp only [bstr_data]),one_close (P:=sp.SmallP o.node) (by unfold sp.oneS;rw [hk];rfl) (by simpa using smallB_iff o.node),?_,hb⟩
 ·have:=LI1;have:=LI2;have:=LI3;have:=h.name;have:=h.word;have:=h.text;have:=quoteS_len o.word;have:=quoteS_len o.text;simp only [List.length_append,List.length_cons,List.length_nil];omega
theorem at_set (h:OpIn w.heap.size w o tv) (hp:Pow w) (hk:o.kind=7):Calls Tryz.prog 39 #[.agg (opCells o tv)] w fun e w'=>∃s ok,e=.returned (.tuple #[.string (bstr s),.bool ok])∧OneIs o s ok∧s.length≤20000000∧Below w.heap.size w w':=by
 have LI1:(Lib.itoa o.node).length≤21:=by have:=itoaLen h.node;rwa [bstr_size] at this
 have LI2:(Lib.itoa o.at_).length≤21:=by have:=itoaLen h.at_;rwa [bstr_size] at this
 have LI3:(Lib.itoa o.origin).length≤21:=by have:=itoaLen h.origin;rwa [bstr_size] at this
 have R1:=rat_len h.fw
 have R2:=rat_len h.fh
 unfold opCells
 rw [hk]
 refine (one_set o.node o.at_ o.origin (bstr o.name) (bstr o.word) tv o.text o.w.1 o.w.2 o.h.1 o.h.2 o.bt (bstr o.bn) o.bw.1 o.bw.2 o.bh.1 o.bh.2 o.on w h.node h.at_ h.origin (by rw [bstr_size];exact h.name) (by rw [bstr_size];exact h.word) h.text h.row h.fw h.fh (by rw [bstr_size];exact h.bn) h.bw h.bh hp).mono ?_
 rintro e w' ⟨rfl,hb⟩
 refine ⟨sp.kSet++32 :: Lib.itoa o.node++32 :: o.name++32 :: sp.quoteS o.word,_,ones_cong (by simp only [bstr_data]),one_close (P:=sp.SmallP o.node∧sp.plainB o.name) (by unfold sp.oneS;rw [hk];rfl) (by simp [plainV_bstr,smallB_iff]),?_,hb⟩
 ·have:=LI1;have:=LI2;have:=LI3;have:=h.name;have:=h.word;have:=h.text;have:=quoteS_len o.word;have:=quoteS_len o.text;simp only [List.length_append,List.length_cons,List.length_nil];omega
theorem at_unset (h:OpIn w.heap.size w o tv) (hp:Pow w) (hk:o.kind=8):Calls Tryz.prog 39 #[.agg (opCells o tv)] w fun e w'=>∃s ok,e=.returned (.tuple #[.string (bstr s),.bool ok])∧OneIs o s ok∧s.length≤20000000∧Below w.heap.size w w':=by
 have LI1:(Lib.itoa o.node).length≤21:=by have:=itoaLen h.node;rwa [bstr_size] at this
 have LI2:(Lib.itoa o.at_).length≤21:=by have:=itoaLen h.at_;rwa [bstr_size] at this
 have LI3:(Lib.itoa o.origin).length≤21:=by have:=itoaLen h.origin;rwa [bstr_size] at this
 have R1:=rat_len h.fw
 have R2:=rat_len h.fh
 unfold opCells
 rw [hk]
 refine (one_unset o.node o.at_ o.origin (bstr o.name) (bstr o.word) tv o.text o.w.1 o.w.2 o.h.1 o.h.2 o.bt (bstr o.bn) o.bw.1 o.bw.2 o.bh.1 o.bh.2 o.on w h.node h.at_ h.origin (by rw [bstr_size];exact h.name) (by rw [bstr_size];exact h.word) h.text h.row h.fw h.fh (by rw [bstr_size];exact h.bn) h.bw h.bh hp).mono ?_
 rintro e w' ⟨rfl,hb⟩
 refine ⟨sp.kUnset++32 :: Lib.itoa o.node++32 :: o.name,_,ones_cong (by simp only [bstr_data]),one_close (P:=sp.SmallP o.node∧sp.plainB o.name) (by unfold sp.oneS;rw [hk];rfl) (by simp [plainV_bstr,smallB_iff]),?_,hb⟩
 ·have:=LI1;have:=LI2;have:=LI3;have:=h.name;have:=h.word;have:=h.text;have:=quoteS_len o.word;have:=quoteS_len o.text;simp only [List.length_append,List.length_cons,List.length_nil];omega
theorem at_ask (h:OpIn w.heap.size w o tv) (hp:Pow w) (hk:o.kind=10):Calls Tryz.prog 39 #[.agg (opCells o tv)] w fun e w'=>∃s ok,e=.returned (.tuple #[.string (bstr s),.bool ok])∧OneIs o s ok∧s.length≤20000000∧Below w.heap.size w w':=by
 have LI1:(Lib.itoa o.node).length≤21:=by have:=itoaLen h.node;rwa [bstr_size] at this
 have LI2:(Lib.itoa o.at_).length≤21:=by have:=itoaLen h.at_;rwa [bstr_size] at this
 have LI3:(Lib.itoa o.origin).length≤21:=by have:=itoaLen h.origin;rwa [bstr_size] at this
 have R1:=rat_len h.fw
 have R2:=rat_len h.fh
 unfold opCells
 rw [hk]
 refine (one_ask o.node o.at_ o.origin (bstr o.name) (bstr o.word) tv o.text o.w.1 o.w.2 o.h.1 o.h.2 o.bt (bstr o.bn) o.bw.1 o.bw.2 o.bh.1 o.bh.2 o.on w h.node h.at_ h.origin (by rw [bstr_size];exact h.name) (by rw [bstr_size];exact h.word) h.text h.row h.fw h.fh (by rw [bstr_size];exact h.bn) h.bw h.bh hp).mono ?_
 rintro e w' ⟨rfl,hb⟩
 refine ⟨sp.kAsk++32 :: Lib.itoa o.node++32 :: o.name,_,ones_cong (by simp only [bstr_data]),one_close (P:=sp.SmallP o.node∧sp.plainB o.name) (by unfold sp.oneS;rw [hk];rfl) (by simp [plainV_bstr,smallB_iff]),?_,hb⟩
 ·have:=LI1;have:=LI2;have:=LI3;have:=h.name;have:=h.word;have:=h.text;have:=quoteS_len o.word;have:=quoteS_len o.text;simp only [List.length_append,List.length_cons,List.length_nil];omega
theorem at_custom (h:OpIn w.heap.size w o tv) (hp:Pow w) (hk:o.kind=11):Calls Tryz.prog 39 #[.agg (opCells o tv)] w fun e w'=>∃s ok,e=.returned (.tuple #[.string (bstr s),.bool ok])∧OneIs o s ok∧s.length≤20000000∧Below w.heap.size w w':=by
 have LI1:(Lib.itoa o.node).length≤21:=by have:=itoaLen h.node;rwa [bstr_size] at this
 have LI2:(Lib.itoa o.at_).length≤21:=by have:=itoaLen h.at_;rwa [bstr_size] at this
 have LI3:(Lib.itoa o.origin).length≤21:=by have:=itoaLen h.origin;rwa [bstr_size] at this
 have R1:=rat_len h.fw
 have R2:=rat_len h.fh
 unfold opCells
 rw [hk]
 refine (one_custom o.node o.at_ o.origin (bstr o.name) (bstr o.word) tv o.text o.w.1 o.w.2 o.h.1 o.h.2 o.bt (bstr o.bn) o.bw.1 o.bw.2 o.bh.1 o.bh.2 o.on w h.node h.at_ h.origin (by rw [bstr_size];exact h.name) (by rw [bstr_size];exact h.word) h.text h.row h.fw h.fh (by rw [bstr_size];exact h.bn) h.bw h.bh hp).mono ?_
 rintro e w' ⟨rfl,hb⟩
 refine ⟨sp.kCustom++32 :: Lib.itoa o.node++32 :: o.name,_,ones_cong (by simp only [bstr_data]),one_close (P:=sp.SmallP o.node∧sp.plainB o.name) (by unfold sp.oneS;rw [hk];rfl) (by simp [plainV_bstr,smallB_iff]),?_,hb⟩
 ·have:=LI1;have:=LI2;have:=LI3;have:=h.name;have:=h.word;have:=h.text;have:=quoteS_len o.word;have:=quoteS_len o.text;simp only [List.length_append,List.length_cons,List.length_nil];omega
theorem at_count (h:OpIn w.heap.size w o tv) (hp:Pow w) (hk:o.kind=15):Calls Tryz.prog 39 #[.agg (opCells o tv)] w fun e w'=>∃s ok,e=.returned (.tuple #[.string (bstr s),.bool ok])∧OneIs o s ok∧s.length≤20000000∧Below w.heap.size w w':=by
 have LI1:(Lib.itoa o.node).length≤21:=by have:=itoaLen h.node;rwa [bstr_size] at this
 have LI2:(Lib.itoa o.at_).length≤21:=by have:=itoaLen h.at_;rwa [bstr_size] at this
 have LI3:(Lib.itoa o.origin).length≤21:=by have:=itoaLen h.origin;rwa [bstr_size] at this
 have R1:=rat_len h.fw
 have R2:=rat_len h.fh
 unfold opCells
 rw [hk]
 refine (one_count o.node o.at_ o.origin (bstr o.name) (bstr o.word) tv o.text o.w.1 o.w.2 o.h.1 o.h.2 o.bt (bstr o.bn) o.bw.1 o.bw.2 o.bh.1 o.bh.2 o.on w h.node h.at_ h.origin (by rw [bstr_size];exact h.name) (by rw [bstr_size];exact h.word) h.text h.row h.fw h.fh (by rw [bstr_size];exact h.bn) h.bw h.bh hp).mono ?_
 rintro e w' ⟨rfl,hb⟩
 refine ⟨sp.kCount,_,ones_cong (by simp only [bstr_data]),⟨fun _=>(by unfold sp.oneS;rw [hk];rfl),fun e=>(by cases e)⟩,?_,hb⟩
 ·have:=LI1;have:=LI2;have:=LI3;have:=h.name;have:=h.word;have:=h.text;have:=quoteS_len o.word;have:=quoteS_len o.text;simp only [List.length_append,List.length_cons,List.length_nil];omega
theorem boxB_iff (o:sp.Op):boxB o.node o.bt (bstr o.bn) o.bw o.bh=true↔sp.SmallP o.node∧(0≤o.bt∧o.bt≤2)∧o.bn≠[45]∧(o.bn = []∨sp.plainB o.bn)∧sp.MayP o.bw.1 o.bw.2∧sp.MayP o.bh.1 o.bh.2:=by
 have e:(bstr o.bn).toList=o.bn:=by rw [Lib.toList_data,bstr_data]
 unfold boxB
 rw [e]
 simp [smallB_iff,plainV_bstr,mayR_iff,and_assoc]
theorem at_box (h:OpIn w.heap.size w o tv) (hp:Pow w) (hk:o.kind=9):Calls Tryz.prog 39 #[.agg (opCells o tv)] w fun e w'=>∃s ok,e=.returned (.tuple #[.string (bstr s),.bool ok])∧OneIs o s ok∧s.length≤20000000∧Below w.heap.size w w':=by
 have hq:=boxB_iff o
 unfold opCells
 rw [hk]
 refine (one_boxk o.node o.at_ o.origin (bstr o.name) (bstr o.word) tv o.text o.w.1 o.w.2 o.h.1 o.h.2 o.bt (bstr o.bn) o.bw.1 o.bw.2 o.bh.1 o.bh.2 o.on w h.node h.at_ h.origin (by rw [bstr_size];exact h.name) (by rw [bstr_size];exact h.word) h.text h.row h.fw h.fh (by rw [bstr_size];exact h.bn) h.bw h.bh hp).mono ?_
 rintro e w' ⟨t,ok,rfl,h1,h2,h3,hb⟩
 refine ⟨_,ok,rfl,?_,?_,hb⟩
 ·by_cases hB:boxB o.node o.bt (bstr o.bn) o.bw o.bh=true
  ·have e1:ok=true:=h1.trans hB
   subst e1
   refine ⟨fun _ => ?_,fun e=>(by cases e)⟩
   unfold sp.oneS
   rw [hk]
   refine (if_pos (hq.1 hB)).trans ?_
   rw [h2 hB]
   unfold boxS
   rw [bstr_data]
   simp
  ·have e1:ok=false:=h1.trans (Bool.eq_false_iff.2 hB)
   subst e1
   refine ⟨fun e=>(by cases e),fun _ => ?_⟩
   unfold sp.oneS
   rw [hk]
   exact if_neg (fun hP=>hB (hq.2 hP))
 ·rw [List.length_append]
  have:List.length sp.kBox=3:=rfl
  omega
theorem at_other (h:OpIn w.heap.size w o tv) (hp:Pow w) (h_no:∀k∈[1,2,3,13,14,4,5,6,12,7,8,10,11,9,15],o.kind≠k):Calls Tryz.prog 39 #[.agg (opCells o tv)] w fun e w'=>∃s ok,e=.returned (.tuple #[.string (bstr s),.bool ok])∧OneIs o s ok∧s.length≤20000000∧Below w.heap.size w w':=by
 unfold opCells
 refine (one_other o.kind o.node o.at_ o.origin (bstr o.name) (bstr o.word) tv o.text o.w.1 o.w.2 o.h.1 o.h.2 o.bt (bstr o.bn) o.bw.1 o.bw.2 o.bh.1 o.bh.2 o.on w h.node h.at_ h.origin (by rw [bstr_size];exact h.name) (by rw [bstr_size];exact h.word) h.text h.row h.fw h.fh (by rw [bstr_size];exact h.bn) h.bw h.bh hp h_no).mono ?_
 rintro e w' ⟨rfl,hb⟩
 refine ⟨[],false,rfl,⟨fun e=>(by cases e),fun _ => ?_⟩,Nat.zero_le _,hb⟩
 have z:=fun k hk=>h_no k hk
 simp only [List.mem_cons,List.not_mem_nil,or_false] at z
 unfold sp.oneS
 repeat rw [if_neg (z _ (by simp))]
theorem one_any (h:OpIn w.heap.size w o tv) (hp:Pow w):Calls Tryz.prog 39 #[.agg (opCells o tv)] w fun e w'=>∃s ok,e=.returned (.tuple #[.string (bstr s),.bool ok])∧OneIs o s ok∧s.length≤20000000∧Below w.heap.size w w':=by
 by_cases hn:∀k∈[1,2,3,13,14,4,5,6,12,7,8,10,11,9,15],o.kind≠k
 ·exact at_other h hp hn
 ·have hk:o.kind=1∨o.kind=2∨o.kind=3∨o.kind=13∨o.kind=14∨o.kind=4∨o.kind=5∨o.kind=6∨o.kind=12∨o.kind=7∨o.kind=8∨o.kind=10∨o.kind=11∨o.kind=9∨o.kind=15:=by
   refine Classical.byContradiction fun hc=>hn fun k hm e=>hc ?_
   simp only [List.mem_cons,List.not_mem_nil,or_false] at hm
   rw [e]
   exact hm
  rcases hk with hk | hk | hk | hk | hk | hk | hk | hk | hk | hk | hk | hk | hk | hk | hk
  ·exact at_sheet h hp hk
  ·exact at_view h hp hk
  ·exact at_font h hp hk
  ·exact at_color h hp hk
  ·exact at_print h hp hk
  ·exact at_word h hp hk
  ·exact at_insert h hp hk
  ·exact at_remove h hp hk
  ·exact at_rules h hp hk
  ·exact at_set h hp hk
  ·exact at_unset h hp hk
  ·exact at_ask h hp hk
  ·exact at_custom h hp hk
  ·exact at_box h hp hk
  ·exact at_count h hp hk
end
def Writ (w:World) (b:Nat) (l:List UInt8) (w':World):Prop:=∃own',Bld w' 92 [] b own' l∧Fr w w' b none∧Own w none own'
theorem Writ.below {w0 w w1:World} {b:Nat} {l:List UInt8} (h:Writ w0 b l w) (hb:Below w.heap.size w w1):Writ w0 b l w1:=by
 obtain ⟨own1,h1,hf,ho⟩:=h
 exact ⟨own1,h1.below hb,hf.trans (Fr.of_below hb) ho,ho⟩
theorem Writ.str {w0 w:World} {b:Nat} {l:List UInt8} (h:Writ w0 b l w) (s:List UInt8) (hn:l.length+s.length≤140737488355328):Calls Tryz.prog 40 #[.pointer (some ⟨b,0,none⟩),.string (bstr s)] w fun e w'=>e=.returned (.tuple #[.int .i64 (bstr s).size,.nilIface])∧Writ w0 b (l++s) w':=by
 obtain ⟨own,hb,hf,ho⟩:=h
 refine (writeString_any _ 92 [] b own l _ bt92 hb (by rw [bstr_size];exact hn)).mono ?_
 rintro e w3 ⟨rfl,own3,h3,hf3,ho3⟩
 rw [bstr_data] at h3
 exact ⟨rfl,own3,Or.inr h3,hf.trans hf3 ho,ho.trans hf.size ho3⟩
theorem Writ.byte {w0 w:World} {b:Nat} {l:List UInt8} (h:Writ w0 b l w) (hn:l.length+1≤140737488355328):Calls Tryz.prog 41 #[.pointer (some ⟨b,0,none⟩),.int .u8 10] w fun e w'=>e=.returned .nilIface∧Writ w0 b (l++[10]) w':=by
 obtain ⟨own,hb,hf,ho⟩:=h
 refine (writeByte_any _ 92 [] b own l 10 bt92 hb hn).mono ?_
 rintro e w3 ⟨rfl,own3,h3,hf3,ho3⟩
 exact ⟨rfl,own3,Or.inr h3,hf.trans hf3 ho,ho.trans hf.size ho3⟩
theorem Writ.string {w0 w:World} {b:Nat} {l:List UInt8} (h:Writ w0 b l w):Calls Tryz.prog 42 #[.pointer (some ⟨b,0,none⟩)] w fun e w'=>e=.returned (.string (bstr l))∧Fr w0 w' b none:=by
 obtain ⟨own,hb,hf,ho⟩:=h
 refine (string_any _ 92 [] b own l hb).mono ?_
 rintro e w3 ⟨rfl,hf3⟩
 exact ⟨rfl,hf.trans hf3 ho⟩
def pairCells (p:sp.Op×Value):List Value:=(opCells p.1 p.2).toList
theorem pair_len (p:sp.Op×Value):(pairCells p).length=18:=rfl
def OpsIn (B:Nat) (w:World) (v:Value) (L:List (sp.Op×Value)):Prop:=RowAt B w v L.length (L.flatMap pairCells)∧(∀p∈L,OpIn B w p.1 p.2)∧L.length≤1048576
theorem OpIn.keep {B:Nat} {w w':World} {o:sp.Op} {tv:Value} (h:OpIn B w o tv) (hb:Below B w w'):OpIn B w' o tv:={ h with row:=h.row.keep hb }
theorem OpIn.wider {B B':Nat} {w:World} {o:sp.Op} {tv:Value} (h:OpIn B w o tv) (hb:B≤B'):OpIn B' w o tv:={ h with row:=h.row.mono hb }
theorem one_cells {B:Nat} {w:World} {o:sp.Op} {tv:Value} (h:OpIn B w o tv):(opCells o tv).all (·.oneCell')=true:=by
 obtain ⟨_,_,rfl,_⟩:=h.row
 simp [opCells,Value.oneCell']
theorem textS_take (l:List sp.Op) (k:Nat) (h:k<l.length):sp.textS (l.take (k+1))=(sp.textS (l.take k)).bind fun t=>(sp.oneS l[k]).map fun s=>t++s++[10]:=by
 induction l generalizing k with
 | nil=>simp at h
 | cons a l ih =>
  cases k with
  | zero =>
   simp only [List.take_succ_cons,List.take_zero,List.getElem_cons_zero,sp.textS]
   cases sp.oneS a<;>simp
  | succ k =>
   have e:=ih k (by simpa using h)
   simp only [List.take_succ_cons,List.getElem_cons_succ,sp.textS]
   rw [e]
   cases sp.oneS a with
   | none=>simp
   | some x =>
    cases sp.textS (l.take k) with
    | none=>simp
    | some t =>
     have hk:k<l.length:=by simpa using h
     cases sp.oneS (l[k]'hk)<;>simp
theorem textS_none (l:List sp.Op) (k:Nat) (h:sp.textS (l.take k)=none):sp.textS l=none:=by
 induction l generalizing k with
 | nil=>cases k<;>simp [sp.textS] at h
 | cons a l ih =>
  cases k with
  | zero=>simp [sp.textS] at h
  | succ k =>
   simp only [List.take_succ_cons,sp.textS] at h ⊢
   cases ha:sp.oneS a with
   | none=>simp
   | some x =>
    rw [ha] at h
    have h2:sp.textS (l.take k)=none:=by
     cases hq:sp.textS (l.take k) with
     | none=>rfl
     | some t=>rw [hq] at h;simp at h
    rw [ih k h2]
    simp
def TextIs (L:List (sp.Op×Value)) (e:Ending):Prop:=match sp.textS (L.map (·.1)) with
 | some t=>e=.returned (.tuple #[.string (bstr t),.int .i64 0])
 | none=>e=.returned (.tuple #[.string ⟨#[]⟩,.int .i64 1])
set_option maxRecDepth 100000 in
set_option maxHeartbeats 8000000 in
theorem text_any (w:World) (a:Option Addr) (n c:Nat) (L:List (sp.Op×Value)) (h:OpsIn w.heap.size w (.slice a n c) L) (hp:Pow w) :
  Calls Tryz.prog 18 #[.slice a n c] w fun e w'=>TextIs L e∧Below w.heap.size w w':=by
 obtain ⟨hr,ho,hl⟩:=h
 have HR:=Lib.hid hr;have HO:=Lib.hid ho;have HL:=Lib.hid hl;have HP:=Lib.hid hp
 have hA:Writ (w.alloc (.cells #[.pointer none,.slice none 0 0] 92)) w.heap.size [] (w.alloc (.cells #[.pointer none,.slice none 0 0] 92)):=⟨none,bld_new 92 [] _ (heap_alloc_at _ _),Fr.refl _ _ _,Own.refl _ _⟩
 have hB:=below_new w (.cells #[.pointer none,.slice none 0 0] 92)
 have HA:=Lib.hid hA;have HB:=Lib.hid hB
 obtain rfl:n=L.length:=by obtain ⟨_,_,e,_⟩:=hr;cases e;rfl
 clear hr ho hl hp hA hB
 go_enter Tryz.func18,Tryz.ntmps18
 go_wp2
 go_loopw [11] (fun i wr=>∃k:Nat,k≤L.length∧i=.int .i64 k∧∃t,sp.textS ((L.map (·.1)).take k)=some t∧Writ (w.alloc (.cells #[.pointer none,.slice none 0 0] 92)) w.heap.size t wr∧t.length≤k*20000001) (fun i _=>L.length-(intOf i).toNat)
 case atStart=>exact ⟨0,Nat.zero_le _,rfl,[],rfl,HA.out,by simp⟩
 case round =>
  obtain ⟨k,hk,rfl,t,ht,hw,hlen⟩:=hrel
  have hkb:(k:Int)≤1048576:=by have:=HL.out;omega
  have HW:=Lib.hid hw;have HT:=Lib.hid ht;have HLN:=Lib.hid hlen
  have HBW:Hid (Below w.heap.size w wr):=Lib.hid (wrote_below hw.choose_spec.2.1 HB.out (Nat.le_refl _))
  clear hw ht hlen
  by_cases hlt:k<L.length
  ·obtain ⟨bx,off,rfl,hbx,hrg⟩:=HR.out.place (by omega)
   have HEL:=Lib.hid (fun j u (hj:(opCells L[k].1 L[k].2).toList[j]?=some u)=>(by
    have hj18:j<18:=by
     have:=(List.getElem?_eq_some_iff.1 hj).1
     exact this
    have:=rangeAt_below HBW.out hbx hrg (k*18+j) u (by rw [flat_at pair_len L k hlt j hj18];exact hj)
    rw [←Nat.add_assoc] at this
    exact this:wr.cell? ⟨bx,off+k*18+j,none⟩=some u))
   have HO1:=Lib.hid (HO.out L[k] (List.getElem_mem hlt))
   have HTK:=Lib.hid (textS_take (L.map (·.1)) k (by simpa using hlt))
   clear hrg
   generalize hp:L[k]=p at HEL HO1
   obtain ⟨o,tv⟩:=p
   have hsc:(storeCells ⟨wr.heap.size,0,none⟩ (opCells o tv).toList).run Tryz.prog (wr.alloc (.cells #[.int .i64 0,.int .i64 0,.int .i64 0,.int .i64 0,.string ⟨#[]⟩,.string ⟨#[]⟩,.slice none 0 0,.int .i64 0,.int .i64 0,.int .i64 0,.int .i64 0,.int .i64 0,.string ⟨#[]⟩,.int .i64 0,.int .i64 0,.int .i64 0,.int .i64 0,.bool false] 28))=.ok () (wr.alloc (.cells (opCells o tv) 28)):=by
    have:=run_storeCells_new (P:=Tryz.prog) wr 28 #[.int .i64 0,.int .i64 0,.int .i64 0,.int .i64 0,.string ⟨#[]⟩,.string ⟨#[]⟩,.slice none 0 0,.int .i64 0,.int .i64 0,.int .i64 0,.int .i64 0,.int .i64 0,.string ⟨#[]⟩,.int .i64 0,.int .i64 0,.int .i64 0,.int .i64 0,.bool false] (opCells o tv) size28' rfl (one_cells HO1.out)
    simpa using this
   have HLD2:=Lib.hid (fun j u (hj:(opCells o tv).toList[j]?=some u)=>(by rw [Nat.zero_add];exact op_cell (heap_alloc_at wr (.cells (opCells o tv) 28)) j u (by simpa using hj):(wr.alloc (.cells (opCells o tv) 28)).cell? ⟨wr.heap.size,0+j,none⟩=some u))
   have hnb:=below_new wr (.cells (opCells o tv) 28)
   have HW1:=Lib.hid (HW.out.below hnb)
   have HB1:=Lib.hid (HBW.out.trans (hnb.mono HBW.out.size))
   clear hnb
   go_wp2_with (first
    | (refine wpList_load_range rfl 28 _ rfl wr.heap.size 0 rfl (opCells o tv) _ HLD2.out Tryz.underlying28 rfl size28' ?_)
    | (go_at_call 39;refine (one_any ((HO1.out.keep HB1.out).wider (by have:=HB1.out.size;omega)) (HP.out.on HB1.out)).mono ?_;rintro e w3 ⟨s,ok,rfl,hone,hsl,hb3⟩;have HW2:=Lib.hid (HW1.out.below hb3);have HON:=Lib.hid hone;have HSL:=Lib.hid hsl;have HB3:=Lib.hid (HB1.out.trans (hb3.mono HB1.out.size));clear hone hsl hb3 hsc)
    | (go_at_call 40;refine (HW2.out.str s (by have:=HLN.out;have:=HSL.out;omega)).mono ?_;rintro e w4 ⟨rfl,h4⟩;have HW4:=Lib.hid h4;clear h4)
    | (go_at_call 41;refine (HW4.out.byte (by have:=HLN.out;have:=HSL.out;rw [List.length_append];omega)).mono ?_;rintro e w5 ⟨rfl,h5⟩;have HW5:=Lib.hid h5;clear h5)
    | (refine wpList_load_range rfl 28 _ rfl bx (off+k*18) rfl (opCells o tv) _ HEL.out Tryz.underlying28 rfl size28' ?_))
   ·have hok:ok=false:=by simp_all
    go_ret2
    refine ⟨?_,HB3.out⟩
    have e1:sp.oneS o=none:=HON.out.2 hok
    have e2:=HTK.out
    rw [HT.out] at e2
    simp only [List.getElem_map,hp,e1,Option.map_none,Option.bind_some] at e2
    unfold TextIs
    rw [textS_none _ _ e2]
    rfl
   ·have hok:ok=true:=by simp_all
    refine ⟨⟨k+1,by omega,by go_num,t++s++[10],?_,HW5.out,?_⟩,by simp [intOf];omega⟩
    ·have e2:=HTK.out
     rw [HT.out] at e2
     simp only [List.getElem_map,hp,HON.out.1 hok,Option.map_some,Option.bind_some] at e2
     exact e2
    ·have:=HLN.out;have:=HSL.out
     simp only [List.length_append,List.length_cons,List.length_nil]
     omega
  ·obtain rfl:k=L.length:=by omega
   have HE:Hid (sp.textS (L.map (·.1))=some t):=Lib.hid (by have:=HT.out;rwa [List.take_of_length_le (by simp)] at this)
   go_wp2_with (go_at_call 42;refine HW.out.string.mono ?_;rintro e w3 ⟨rfl,hf3⟩;have HB3:=Lib.hid (wrote_below hf3 HB.out (Nat.le_refl _));clear hf3)
   go_ret2
   refine ⟨?_,HB3.out⟩
   unfold TextIs
   rw [HE.out]
   rfl
end Go.Proofs.YtihlneenajlhoaaGreatDoor
set_option linter.unusedSimpArgs false
set_option linter.unusedVariables false
namespace Go.Proofs.YtihlneenajlhoaaGreatDoor
open Go Go.RowKit Go.ChangeShapes Go.WideShapes
theorem len2 {cs:List Value} (h:cs.length=2):∃a0 a1,cs = [a0,a1]:=by
 match cs,h with
 | [a0,a1],_=>exact ⟨a0,a1,rfl⟩
theorem len6 {cs:List Value} (h:cs.length=6):∃a0 a1 a2 a3 a4 a5,cs = [a0,a1,a2,a3,a4,a5]:=by
 match cs,h with
 | [a0,a1,a2,a3,a4,a5],_=>exact ⟨a0,a1,a2,a3,a4,a5,rfl⟩
theorem len18 {cs:List Value} (h:cs.length=18):∃a0 a1 a2 a3 a4 a5 a6 a7 a8 a9 a10 a11 a12 a13 a14 a15 a16 a17,cs = [a0,a1,a2,a3,a4,a5,a6,a7,a8,a9,a10,a11,a12,a13,a14,a15,a16,a17]:=by
 match cs,h with
 | [a0,a1,a2,a3,a4,a5,a6,a7,a8,a9,a10,a11,a12,a13,a14,a15,a16,a17],_=>exact ⟨a0,a1,a2,a3,a4,a5,a6,a7,a8,a9,a10,a11,a12,a13,a14,a15,a16,a17,rfl⟩
section
variable {H:Type} {enc:TypeId×Value→H} {w:World} {held:Bool}
def Bk (N:Nat) (d:DataW H):Prop:=Rows.uptoBulk d≤N
theorem bulk_mem:∀ {l:List (DataW H)} {d:DataW H},d∈l→Rows.uptoBulk d≤Rows.uptoBulkAll l
 | [],_,h=>by cases h
 | a :: l,d,h=>by
  rw [Rows.uptoBulkAll]
  rcases List.mem_cons.1 h with rfl | h
  ·omega
  ·have:=bulk_mem h;omega
theorem bulk_pos (d:DataW H):1≤Rows.uptoBulk d:=by
 unfold Rows.uptoBulk
 split<;>omega
theorem bulk_len:∀(l:List (DataW H)),l.length≤Rows.uptoBulkAll l
 | []=>Nat.zero_le _
 | a :: l=>by
  rw [Rows.uptoBulkAll,List.length_cons]
  have:=bulk_len l
  have:=bulk_pos a
  omega
theorem Bk.elem {N:Nat} {l s:List (DataW H)} (h:Bk N (.slice l s)) {d:DataW H} (hd:d∈l):Bk N d:=by
 unfold Bk at *
 rw [Rows.uptoBulk] at h
 have:=bulk_mem hd
 omega
theorem Bk.len {N:Nat} {l s:List (DataW H)} (h:Bk N (.slice l s)):l.length+s.length≤N:=by
 unfold Bk at h
 rw [Rows.uptoBulk] at h
 have:=bulk_len l
 have:=bulk_len s
 omega
theorem Bk.field {N:Nat} {l:List (DataW H)} (h:Bk N (.agg l)) {i:Nat} {d:DataW H} (hd:l[i]?=some d):Bk N d:=by
 unfold Bk at *
 rw [Rows.uptoBulk] at h
 have:=bulk_mem (List.mem_of_getElem? hd)
 omega
theorem Bk.str {N:Nat} {s:List UInt8} (h:Bk N (.lit (.string s):DataW H)):s.length≤N:=by
 unfold Bk at h
 rw [Rows.uptoBulk] at h
 omega
theorem flat_get {α:Type} {cells:α→List Value} {k:Nat} (hk:0<k) (hl:∀a,(cells a).length=k):∀ {l:List α} {j:Nat} {u:Value},(l.flatMap cells)[j]?=some u→∃i q a,j=i*k+q∧q<k∧l[i]?=some a∧(cells a)[q]?=some u
 | [],j,u,h=>by simp at h
 | b :: l,j,u,h=>by
  rw [List.flatMap_cons] at h
  by_cases hj:j<k
  ·rw [List.getElem?_append_left (by rw [hl];exact hj)] at h
   exact ⟨0,j,b,by omega,hj,rfl,h⟩
  ·rw [List.getElem?_append_right (by rw [hl];omega),hl] at h
   obtain ⟨i,q,a,h1,h2,h3,h4⟩:=flat_get hk hl h
   exact ⟨i+1,q,a,by rw [Nat.succ_mul];omega,h2,h3,h4⟩
theorem add_plain (a:Addr) (n:Nat) (h:a.spot=none):a.add n=⟨a.block,a.off+n,none⟩:=by
 unfold Addr.add
 split
 ·subst_vars
  cases a
  simp at h ⊢
  exact h
 ·rfl
theorem cell_plain {w:World} {a:Addr} {v:Value} (h:w.cell? a=some v):a.spot=none∧a.block<w.heap.size:=by
 unfold World.cell? at h
 split at h
 ·rename_i hb
  refine ⟨?_,(Array.getElem?_eq_some_iff.1 hb).1⟩
  split at h
  ·cases h
  ·rename_i hs
   cases hq:a.spot with
   | none=>rfl
   | some _=>simp [hq] at hs
 ·cases h
theorem open_row {P:Program} {N:Nat} {α:Type} [Inhabited α] (cells:α→List Value) (ok:α→Prop) {k:Nat} (hk:0<k) {t e:TypeId} {fuel:Nat} {cs:List Value} {x:DataW H×List MemPlace} (ht:P.underlying t=some (.slice e)) (hc:P.cellsOf e=k)
  (hl:∀a,(cells a).length=k) (one:∀n cs' y,DataW.trod enc P w 0 (fun _=>true) held n e cs'=some y→Bk N y.1→∃a,cs'=cells a∧ok a)
  (h:DataW.trod enc P w 0 (fun _=>true) held fuel t cs=some x) (hb:Bk N x.1):∃(v:Value) (l:List α),cs = [v]∧RowAt w.heap.size w v l.length (l.flatMap cells)∧(∀a∈l,ok a)∧l.length≤N:=by
 rcases Deep.open_slice ht h with ⟨rfl,rfl⟩ | ⟨a,len,cap,m,n,D,Pl,rfl,_,hle,hcap,hm,rfl,hx⟩
 ·exact ⟨_,[],rfl,⟨none,0,rfl,Nat.le_refl _,Nat.zero_le _,Or.inl ⟨rfl,rfl,fun _=>rfl⟩⟩,(fun _ h=>by cases h),by simp⟩
 ·have hlm:len≤m:=by rw [hm];split<;>omega
  have each:∀i,i<len→∃y:α,w.cells? 0 (a.add (i*k)) k=some (cells y)∧ok y:=fun i hi=>by
   obtain ⟨cs',h1,h2⟩:=hx i (by omega)
   obtain ⟨y,rfl,h3⟩:=one _ _ _ h2 (hb.elem (List.mem_map.2 ⟨i,List.mem_range.2 hi,rfl⟩))
   rw [hc] at h1
   exact ⟨y,h1,h3⟩
  obtain ⟨A,hA⟩:=Deep.choose_lt each
  have hlen:((List.range len).map A).length=len:=by simp
  refine ⟨_,(List.range len).map A,rfl,⟨some a,cap,by rw [hlen],by omega,hcap,?_⟩,fun y hy => ?_,?_⟩
  ·rw [hlen]
   by_cases h0:len=0
   ·subst h0
    exact Or.inl ⟨rfl,rfl,fun h=>by cases h⟩
   ·refine Or.inr ⟨by omega,?_⟩
    have c0:=(World.cells?_some (hA 0 (by omega)).1).2.2 0 hk
    have cA:(cells (A 0))[0]?=some ((cells (A 0))[0]'(by rw [hl];exact hk)):=List.getElem?_eq_getElem _
    rw [Nat.zero_mul] at c0
    rw [cA] at c0
    have ha:(a.add 0).add 0=a:=rfl
    rw [ha] at c0
    obtain ⟨hs,hbl⟩:=cell_plain c0
    refine ⟨a.block,a.off,by cases a;simp at hs ⊢; exact hs,hbl,fun j u hj => ?_⟩
    obtain ⟨i,q,y,rfl,hq,hi,hy⟩:=flat_get hk hl hj
    have hil:i<len:=by
     have:=(List.getElem?_eq_some_iff.1 hi).1
     simpa using this
    have:=(World.cells?_some (hA i hil).1).2.2 q hq
    rw [Deep.add_add,add_plain _ _ hs] at this
    rw [List.getElem?_map,List.getElem?_range hil] at hi
    obtain rfl:A i=y:=by simpa using hi
    rw [this]
    exact hy
  ·obtain ⟨i,hi,rfl⟩:=List.mem_map.1 hy
   exact (hA i (List.mem_range.1 hi)).2
  ·have:=hb.len
   rw [hlen]
   simp only [List.length_map,List.length_range] at this
   omega
variable {n N:Nat} {cs:List Value} {y:DataW H×List MemPlace}
theorem struct_open {P:Program} {t:TypeId} {fs:Array Field} {k:Nat} (ht:P.underlying t=some (.struct fs)) (hc:P.cellsOf t=k) (h:DataW.trod enc P w 0 (fun _=>true) held n t cs=some y) :
  ∃(xs:List (DataW H×List MemPlace)) (m:Nat),y.1=.agg (xs.map (·.1))∧cs.length=k∧xs.length=fs.size ∧
   ∀(i:Nat) (f:Field),fs[i]?=some f→DataW.trod enc P w 0 (fun _=>true) held m f.type ((cs.drop f.offset).take (P.cellsOf f.type))=xs[i]?:=by
 obtain ⟨xs,m,_,e,hl,hx,hf⟩:=DataW.trod_struct ht h
 exact ⟨xs,m,by rw [e],by rw [hl,hc],hx,hf⟩
theorem one_i64 {t:TypeId} (ht:Tryz.prog.underlying t=some (.int .i64)) (h:DataW.trod enc Tryz.prog w 0 (fun _=>true) held n t cs=some y):∃i:Int,cs = [.int .i64 i]∧I64 i:=by
 obtain ⟨i,rfl,_,hw⟩:=DataW.trod_int ht h
 refine ⟨i,rfl,?_⟩
 simp only [Lit.wf,Bool.and_eq_true,decide_eq_true_eq] at hw
 exact hw
theorem one_str (h:DataW.trod enc Tryz.prog w 0 (fun _=>true) held n 9 cs=some y) (hb:Bk N y.1):∃s:ByteArray,cs = [.string s]∧s.size≤N:=by
 obtain ⟨s,rfl,hy,hw⟩:=DataW.trod_string Tryz.underlying9 h
 refine ⟨s,rfl,?_⟩
 rw [hy] at hb
 have:=hb.str
 rw [Array.length_toList] at this
 exact this
theorem one_bool (h:DataW.trod enc Tryz.prog w 0 (fun _=>true) held n 4 cs=some y):∃b:Bool,cs = [.bool b]:=by
 obtain ⟨b,rfl,_⟩:=DataW.trod_bool Tryz.underlying4 h
 exact ⟨b,rfl⟩
theorem one_u8 (h:DataW.trod enc Tryz.prog w 0 (fun _=>true) held n 5 cs=some y):∃b:UInt8,cs = [.int .u8 b.toNat]:=by
 obtain ⟨i,rfl,_,hw⟩:=DataW.trod_int Tryz.underlying5 h
 simp only [Lit.wf,Bool.and_eq_true,decide_eq_true_eq] at hw
 obtain ⟨h0,h1⟩:=hw
 have e0:IntKind.u8.min=0:=rfl
 have e1:IntKind.u8.max=255:=rfl
 obtain ⟨k,hk,_⟩:∃k:UInt8,i=k.toNat∧True:=⟨UInt8.ofNat i.toNat,by
  rw [UInt8.toNat_ofNat']
  have:i.toNat%2 ^ 8=i.toNat:=Nat.mod_eq_of_lt (by omega)
  rw [this];omega,trivial⟩
 exact ⟨k,by rw [hk]⟩
theorem cellsR2:Tryz.prog.cellsOf 2=1:=by kernel_rfl
theorem cellsR3:Tryz.prog.cellsOf 3=1:=by kernel_rfl
theorem cellsR4:Tryz.prog.cellsOf 4=1:=by kernel_rfl
theorem cellsR5:Tryz.prog.cellsOf 5=1:=by kernel_rfl
theorem cellsR9:Tryz.prog.cellsOf 9=1:=by kernel_rfl
theorem cellsR22:Tryz.prog.cellsOf 22=1:=by kernel_rfl
theorem cellsR24:Tryz.prog.cellsOf 24=2:=by kernel_rfl
theorem cellsR26:Tryz.prog.cellsOf 26=6:=by kernel_rfl
theorem cellsR28:Tryz.prog.cellsOf 28=18:=by kernel_rfl
theorem one_rat (h:DataW.trod enc Tryz.prog w 0 (fun _=>true) held n 24 cs=some y):∃a b:Int,cs = [.int .i64 a,.int .i64 b]∧I64 a∧I64 b:=by
 obtain ⟨xs,m,hy,hlen,hx,hf⟩:=struct_open Tryz.underlying24 cellsR24 h
 obtain ⟨a0,a1,rfl⟩:=len2 hlen
 have h0:DataW.trod enc Tryz.prog w 0 (fun _=>true) held m 2 ((([a0,a1]:List Value).drop 0).take (Tryz.prog.cellsOf 2))=xs[0]?:=hf 0 _ rfl
 rw [cellsR2] at h0
 have h1:DataW.trod enc Tryz.prog w 0 (fun _=>true) held m 2 ((([a0,a1]:List Value).drop 1).take (Tryz.prog.cellsOf 2))=xs[1]?:=hf 1 _ rfl
 rw [cellsR2] at h1
 have l2:xs.length=2:=hx
 rw [List.getElem?_eq_getElem (by omega)] at h0 h1
 obtain ⟨s0,e0,z0⟩:=one_i64 Tryz.underlying2 h0
 obtain ⟨s1,e1,z1⟩:=one_i64 Tryz.underlying2 h1
 simp at e0 e1
 exact ⟨s0,s1,by rw [e0,e1],z0,z1⟩
theorem one_box (h:DataW.trod enc Tryz.prog w 0 (fun _=>true) held n 26 cs=some y) (hb:Bk N y.1):∃(bt:Int) (bn:ByteArray) (n1 d1 n2 d2:Int),cs = [.int .i64 bt,.string bn,.int .i64 n1,.int .i64 d1,.int .i64 n2,.int .i64 d2]∧I64 bt∧bn.size≤N∧I64 n1∧I64 d1∧I64 n2∧I64 d2:=by
 obtain ⟨xs,m,hy,hlen,hx,hf⟩:=struct_open Tryz.underlying26 cellsR26 h
 obtain ⟨a0,a1,a2,a3,a4,a5,rfl⟩:=len6 hlen
 have h0:DataW.trod enc Tryz.prog w 0 (fun _=>true) held m 3 ((([a0,a1,a2,a3,a4,a5]:List Value).drop 0).take (Tryz.prog.cellsOf 3))=xs[0]?:=hf 0 _ rfl
 rw [cellsR3] at h0
 have h1:DataW.trod enc Tryz.prog w 0 (fun _=>true) held m 9 ((([a0,a1,a2,a3,a4,a5]:List Value).drop 1).take (Tryz.prog.cellsOf 9))=xs[1]?:=hf 1 _ rfl
 rw [cellsR9] at h1
 have h2:DataW.trod enc Tryz.prog w 0 (fun _=>true) held m 24 ((([a0,a1,a2,a3,a4,a5]:List Value).drop 2).take (Tryz.prog.cellsOf 24))=xs[2]?:=hf 2 _ rfl
 rw [cellsR24] at h2
 have h3:DataW.trod enc Tryz.prog w 0 (fun _=>true) held m 24 ((([a0,a1,a2,a3,a4,a5]:List Value).drop 4).take (Tryz.prog.cellsOf 24))=xs[3]?:=hf 3 _ rfl
 rw [cellsR24] at h3
 have l2:xs.length=4:=hx
 have hb':Bk N (.agg (xs.map (·.1))):=by rw [←hy];exact hb
 clear hb
 have b1:Bk N (xs[1]'(by omega)).1:=hb'.field (i:=1) (by rw [List.getElem?_map,List.getElem?_eq_getElem (by omega)];rfl)
 rw [List.getElem?_eq_getElem (by omega)] at h0 h1 h2 h3
 obtain ⟨s0,e0,z0⟩:=one_i64 Tryz.underlying3 h0
 obtain ⟨s1,e1,z1⟩:=one_str h1 b1
 obtain ⟨s2,s3,e2,z2,z3⟩:=one_rat h2
 obtain ⟨s4,s5,e4,z4,z5⟩:=one_rat h3
 simp at e0 e1 e2 e4
 exact ⟨s0,s1,s2,s3,s4,s5,by rw [e0,e1,e2.1,e2.2,e4.1,e4.2],z0,z1,z2,z3,z4,z5⟩
theorem read_bytes (h:DataW.trod enc Tryz.prog w 0 (fun _=>true) held n 22 cs=some y) (hb:Bk N y.1):∃(v:Value) (l:List UInt8),cs = [v]∧RowAt w.heap.size w v l.length (Lib.byteCells l)∧l.length≤N:=by
 obtain ⟨v,l,rfl,hr,ho,hl⟩:=open_row (fun b:UInt8=>[Value.int .u8 b.toNat]) (fun _=>True) (by omega) Tryz.underlying22 cellsR5 (fun _=>rfl) (fun n cs' y h _=>by obtain ⟨b,e⟩:=one_u8 h;exact ⟨b,e,trivial⟩) h hb
 refine ⟨v,l,rfl,?_,hl⟩
 have e:l.flatMap (fun b:UInt8=>[Value.int .u8 b.toNat])=Lib.byteCells l:=by
  unfold Lib.byteCells
  clear hr ho hl h
  induction l with
  | nil=>rfl
  | cons a l ih=>rw [List.flatMap_cons,ih];rfl
 rw [e] at hr
 exact hr
structure Opx where
 op:sp.Op
 tv:Value
def Opx.cells (x:Opx):List Value:=[.int .i64 x.op.kind,.int .i64 x.op.node,.int .i64 x.op.at_,.int .i64 x.op.origin,.string (bstr x.op.name),.string (bstr x.op.word),x.tv,.int .i64 x.op.w.1,.int .i64 x.op.w.2,.int .i64 x.op.h.1,.int .i64 x.op.h.2,.int .i64 x.op.bt,.string (bstr x.op.bn),.int .i64 x.op.bw.1,.int .i64 x.op.bw.2,.int .i64 x.op.bh.1,.int .i64 x.op.bh.2,.bool x.op.on]
instance:Inhabited Opx:=⟨⟨{},default⟩⟩
structure OpxAt (N B:Nat) (w:World) (x:Opx):Prop where
 kind:I64 x.op.kind
 node:I64 x.op.node
 at_:I64 x.op.at_
 origin:I64 x.op.origin
 name:x.op.name.length≤N
 word:x.op.word.length≤N
 text:x.op.text.length≤N
 row:RowAt B w x.tv x.op.text.length (Lib.byteCells x.op.text)
 ok:x.op.ok
 bt:I64 x.op.bt
 bn:x.op.bn.length≤N
theorem one_op (h:DataW.trod enc Tryz.prog w 0 (fun _=>true) held n 28 cs=some y) (hb:Bk N y.1):∃x:Opx,cs=x.cells∧OpxAt N w.heap.size w x:=by
 obtain ⟨xs,m,hy,hlen,hx,hf⟩:=struct_open Tryz.underlying28 cellsR28 h
 obtain ⟨a0,a1,a2,a3,a4,a5,a6,a7,a8,a9,a10,a11,a12,a13,a14,a15,a16,a17,rfl⟩:=len18 hlen
 have h0:DataW.trod enc Tryz.prog w 0 (fun _=>true) held m 3 ((([a0,a1,a2,a3,a4,a5,a6,a7,a8,a9,a10,a11,a12,a13,a14,a15,a16,a17]:List Value).drop 0).take (Tryz.prog.cellsOf 3))=xs[0]?:=hf 0 _ rfl
 rw [cellsR3] at h0
 have h1:DataW.trod enc Tryz.prog w 0 (fun _=>true) held m 3 ((([a0,a1,a2,a3,a4,a5,a6,a7,a8,a9,a10,a11,a12,a13,a14,a15,a16,a17]:List Value).drop 1).take (Tryz.prog.cellsOf 3))=xs[1]?:=hf 1 _ rfl
 rw [cellsR3] at h1
 have h2:DataW.trod enc Tryz.prog w 0 (fun _=>true) held m 3 ((([a0,a1,a2,a3,a4,a5,a6,a7,a8,a9,a10,a11,a12,a13,a14,a15,a16,a17]:List Value).drop 2).take (Tryz.prog.cellsOf 3))=xs[2]?:=hf 2 _ rfl
 rw [cellsR3] at h2
 have h3:DataW.trod enc Tryz.prog w 0 (fun _=>true) held m 3 ((([a0,a1,a2,a3,a4,a5,a6,a7,a8,a9,a10,a11,a12,a13,a14,a15,a16,a17]:List Value).drop 3).take (Tryz.prog.cellsOf 3))=xs[3]?:=hf 3 _ rfl
 rw [cellsR3] at h3
 have h4:DataW.trod enc Tryz.prog w 0 (fun _=>true) held m 9 ((([a0,a1,a2,a3,a4,a5,a6,a7,a8,a9,a10,a11,a12,a13,a14,a15,a16,a17]:List Value).drop 4).take (Tryz.prog.cellsOf 9))=xs[4]?:=hf 4 _ rfl
 rw [cellsR9] at h4
 have h5:DataW.trod enc Tryz.prog w 0 (fun _=>true) held m 9 ((([a0,a1,a2,a3,a4,a5,a6,a7,a8,a9,a10,a11,a12,a13,a14,a15,a16,a17]:List Value).drop 5).take (Tryz.prog.cellsOf 9))=xs[5]?:=hf 5 _ rfl
 rw [cellsR9] at h5
 have h6:DataW.trod enc Tryz.prog w 0 (fun _=>true) held m 22 ((([a0,a1,a2,a3,a4,a5,a6,a7,a8,a9,a10,a11,a12,a13,a14,a15,a16,a17]:List Value).drop 6).take (Tryz.prog.cellsOf 22))=xs[6]?:=hf 6 _ rfl
 rw [cellsR22] at h6
 have h7:DataW.trod enc Tryz.prog w 0 (fun _=>true) held m 24 ((([a0,a1,a2,a3,a4,a5,a6,a7,a8,a9,a10,a11,a12,a13,a14,a15,a16,a17]:List Value).drop 7).take (Tryz.prog.cellsOf 24))=xs[7]?:=hf 7 _ rfl
 rw [cellsR24] at h7
 have h8:DataW.trod enc Tryz.prog w 0 (fun _=>true) held m 24 ((([a0,a1,a2,a3,a4,a5,a6,a7,a8,a9,a10,a11,a12,a13,a14,a15,a16,a17]:List Value).drop 9).take (Tryz.prog.cellsOf 24))=xs[8]?:=hf 8 _ rfl
 rw [cellsR24] at h8
 have h9:DataW.trod enc Tryz.prog w 0 (fun _=>true) held m 26 ((([a0,a1,a2,a3,a4,a5,a6,a7,a8,a9,a10,a11,a12,a13,a14,a15,a16,a17]:List Value).drop 11).take (Tryz.prog.cellsOf 26))=xs[9]?:=hf 9 _ rfl
 rw [cellsR26] at h9
 have h10:DataW.trod enc Tryz.prog w 0 (fun _=>true) held m 4 ((([a0,a1,a2,a3,a4,a5,a6,a7,a8,a9,a10,a11,a12,a13,a14,a15,a16,a17]:List Value).drop 17).take (Tryz.prog.cellsOf 4))=xs[10]?:=hf 10 _ rfl
 rw [cellsR4] at h10
 have l2:xs.length=11:=hx
 have hb':Bk N (.agg (xs.map (·.1))):=by rw [←hy];exact hb
 clear hb
 have b4:Bk N (xs[4]'(by omega)).1:=hb'.field (i:=4) (by rw [List.getElem?_map,List.getElem?_eq_getElem (by omega)];rfl)
 have b5:Bk N (xs[5]'(by omega)).1:=hb'.field (i:=5) (by rw [List.getElem?_map,List.getElem?_eq_getElem (by omega)];rfl)
 have b6:Bk N (xs[6]'(by omega)).1:=hb'.field (i:=6) (by rw [List.getElem?_map,List.getElem?_eq_getElem (by omega)];rfl)
 have b9:Bk N (xs[9]'(by omega)).1:=hb'.field (i:=9) (by rw [List.getElem?_map,List.getElem?_eq_getElem (by omega)];rfl)
 rw [List.getElem?_eq_getElem (by omega)] at h0 h1 h2 h3 h4 h5 h6 h7 h8 h9 h10
 obtain ⟨s0,e0,z0⟩:=one_i64 Tryz.underlying3 h0
 obtain ⟨s1,e1,z1⟩:=one_i64 Tryz.underlying3 h1
 obtain ⟨s2,e2,z2⟩:=one_i64 Tryz.underlying3 h2
 obtain ⟨s3,e3,z3⟩:=one_i64 Tryz.underlying3 h3
 obtain ⟨s4,e4,z4⟩:=one_str h4 b4
 obtain ⟨s5,e5,z5⟩:=one_str h5 b5
 obtain ⟨tv,tx,e6,z6,y6⟩:=read_bytes h6 b6
 obtain ⟨s7,s8,e7,z7,z8⟩:=one_rat h7
 obtain ⟨s9,s10,e9,z9,z10⟩:=one_rat h8
 obtain ⟨s11,s12,s13,s14,s15,s16,e11,z11,z12,z13,z14,z15,z16⟩:=one_box h9 b9
 obtain ⟨s17,e17⟩:=one_bool h10
 simp at e0 e1 e2 e3 e4 e5 e6 e7 e9 e11 e17
 obtain ⟨e11,e12,e13,e14,e15,e16⟩:=e11
 refine ⟨⟨{ kind:=s0,node:=s1,at_:=s2,origin:=s3,name:=s4.data.toList,word:=s5.data.toList,text:=tx,w:=(s7,s8),h:=(s9,s10),bt:=s11,bn:=s12.data.toList,bw:=(s13,s14),bh:=(s15,s16),on:=s17 },tv⟩,?_,⟨z0,z1,z2,z3,?_,?_,y6,z6,⟨z7,z8,z9,z10,z13,z14,z15,z16⟩,z11,?_⟩⟩
 ·unfold Opx.cells
  rw [bstr_of,bstr_of,bstr_of,e0,e1,e2,e3,e4,e5,e6,e7.1,e7.2,e9.1,e9.2,e11,e12,e13,e14,e15,e16,e17]
 all_goals (rw [Array.length_toList];assumption)
theorem read_ops (h:DataW.trod enc Tryz.prog w 0 (fun _=>true) held n 35 cs=some y) (hb:Bk N y.1):∃(v:Value) (l:List Opx),cs = [v]∧RowAt w.heap.size w v l.length (l.flatMap Opx.cells)∧(∀x∈l,OpxAt N w.heap.size w x)∧l.length≤N :=
 open_row Opx.cells (OpxAt N w.heap.size w) (by omega) Tryz.underlying35 cellsR28 (fun _=>rfl) (fun n cs' y h hb=>one_op h hb) h hb
end
end Go.Proofs.YtihlneenajlhoaaGreatDoor
set_option linter.unusedSimpArgs false
set_option linter.unusedVariables false
namespace Go.Proofs.YtihlneenajlhoaaGreatDoor
open Go Go.RowKit
theorem opIn_of {B:Nat} {w:World} {x:Opx} (h:OpxAt 1048576 B w x):OpIn B w x.op x.tv :=
 ⟨h.node,h.at_,h.origin,h.name,h.word,h.text,h.row,⟨h.ok.w1,h.ok.w2⟩,⟨h.ok.h1,h.ok.h2⟩,h.bn,⟨h.ok.bw1,h.ok.bw2⟩,⟨h.ok.bh1,h.ok.bh2⟩⟩
theorem opsIn_of {B:Nat} {w:World} {v:Value} {l:List Opx} (h:RowAt B w v l.length (l.flatMap Opx.cells)) (hx:∀x∈l,OpxAt 1048576 B w x) (hl:l.length≤1048576):OpsIn B w v (l.map fun x=>(x.op,x.tv)):=by
 refine ⟨?_,fun p hp => ?_,by simpa using hl⟩
 ·rw [List.length_map,List.flatMap_map]
  exact h
 ·obtain ⟨x,hm,rfl⟩:=List.mem_map.1 hp
  exact opIn_of (hx x hm)
end Go.Proofs.YtihlneenajlhoaaGreatDoor
