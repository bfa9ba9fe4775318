/-
 Contracts, for a run of one goroutine, of jalousieref27.operation, kind by kind (part 1). Condition: the reader's block and the words stand; lengths that fit.
-/
import Derived.Test.YtihlneenajlhoaaGreatDoorS5
import Derived.Test.YtihlneenajlhoaaGreatDoorS1
import Derived.Test.YtihlneenajlhoaaGreatDoorS3
import Derived.Maps.OwnSet
set_option linter.unusedSimpArgs false
set_option linter.unusedVariables false
namespace Go.Proofs.YtihlneenajlhoaaGreatDoor
open Go Go.RowKit
set_option maxRecDepth 100000 in
set_option maxHeartbeats 4000000 in
theorem rop_Sheet (w0 w:World) (b g n cap:Nat) (s:RSt) (h:RdR w0 b g n cap s.1 s.2 w) (hlen:(vW (sN (sW s))).length≤1099511627776) (hk:vW s=sp.kSheet):Calls Tryz.prog 30 #[.pointer (some ⟨b,0,none⟩)] w fun e w'=>OpIs w0 b g n cap { kind:=1,origin:=vN (sW s),text:=vW (sN (sW s)) } (sT (sN (sW s))) e w':=by
 have H0:=Lib.hid (OpR.start h)
 have s0:((bstr (vW s)).toList==[115,104,101,101,116])=true:=str_eq hk
 have HLEN:=Lib.hid hlen
 clear h hk hlen
 go_enter Tryz.func30,Tryz.ntmps30
 go_wp2_with (first
  | (have hgd:=H0;clear hgd;go_at_call 64;refine (stW _ _ b g n cap s H0.out.rd.base).mono ?_;rintro e w1 ⟨rfl,h1⟩;have H1:=Lib.hid (H0.out.read h1);clear h1 H0)
  | (have hgd:=H1;clear hgd;go_at_call 65;refine (stN _ _ b g n cap (sW s) H1.out.rd.base).mono ?_;rintro e w2 ⟨rfl,h2⟩;have H2:=Lib.hid (H1.out.read h2);clear h2 H1)
  | (have hgd:=H2;clear hgd;go_at_call 66;refine (stT _ _ b g n cap (sN (sW s)) H2.out.rd.base).mono ?_;rintro e w3 ⟨rfl,h3⟩;have H3:=Lib.hid (H2.out.read h3);obtain ⟨wc,cp,hcv,hbc,hsz,hrow,hc1,hc2⟩:=conv_bytes2 w3 (vW (sN (sW s)));have HCV:=Lib.hid (And.intro hsz (And.intro hrow (And.intro hc1 hc2)));have HZ:=Lib.hid (H3.out.on hbc);have HLT:=Lib.hid (lt_of_block H3.out.res);clear hsz hrow hc1 hc2 hbc;clear h3 H2)
  | (have hgd:=HZ;clear hgd;refine wpList_store_row rfl 28 _ _ rfl w.heap.size #[.int .i64 1,.int .i64 0,.int .i64 0,.int .i64 (vN (sW s)),.string ⟨#[]⟩,.string ⟨#[]⟩,.slice (some ⟨w3.heap.size,0,none⟩) (vW (sN (sW s))).length cp,.int .i64 0,.int .i64 0,.int .i64 0,.int .i64 0,.int .i64 0,.string ⟨#[]⟩,.int .i64 0,.int .i64 0,.int .i64 0,.int .i64 0,.bool false] rfl rfl 28 _ HZ.out.res size28' rfl (by simp [Value.oneCell']) ?_))
 obtain ⟨q1,q2⟩:=HZ.out.fin #[.int .i64 1,.int .i64 0,.int .i64 0,.int .i64 (vN (sW s)),.string ⟨#[]⟩,.string ⟨#[]⟩,.slice (some ⟨w3.heap.size,0,none⟩) (vW (sN (sW s))).length cp,.int .i64 0,.int .i64 0,.int .i64 0,.int .i64 0,.int .i64 0,.string ⟨#[]⟩,.int .i64 0,.int .i64 0,.int .i64 0,.int .i64 0,.bool false]
 obtain ⟨k1,k2,k3,k4⟩:=HCV.out
 have hrow:=rowAt_row2 (rowAt_of k2 rfl k3 (k4 (by unfold maxLen;have:=HLEN.out;omega)) (by omega)) (b:=w.heap.size) (fun g hg=>by have:=HLT.out;cases hg;exact Nat.ne_of_gt this) #[.int .i64 1,.int .i64 0,.int .i64 0,.int .i64 (vN (sW s)),.string ⟨#[]⟩,.string ⟨#[]⟩,.slice (some ⟨w3.heap.size,0,none⟩) (vW (sN (sW s))).length cp,.int .i64 0,.int .i64 0,.int .i64 0,.int .i64 0,.int .i64 0,.string ⟨#[]⟩,.int .i64 0,.int .i64 0,.int .i64 0,.int .i64 0,.bool false]
 exact ret_op rfl rfl q2 rfl ⟨_,rfl,by simpa [World.setRow] using hrow,q1,fun x hx=>by have h1:=HLT.out;have h2:=HZ.out.lo;cases hx;exact Nat.le_trans h2 (Nat.le_of_lt h1)⟩
set_option maxRecDepth 100000 in
set_option maxHeartbeats 4000000 in
theorem rop_View (w0 w:World) (b g n cap:Nat) (s:RSt) (h:RdR w0 b g n cap s.1 s.2 w) (hk:vW s=sp.kView):Calls Tryz.prog 30 #[.pointer (some ⟨b,0,none⟩)] w fun e w'=>OpIs w0 b g n cap { kind:=2,w:=vF (sW s),h:=vF (sF (sW s)) } (sF (sF (sW s))) e w':=by
 have H0:=Lib.hid (OpR.start h)
 have s0:((bstr (vW s)).toList==[115,104,101,101,116])=false:=str_ne (by rw [hk];decide)
 have s1:((bstr (vW s)).toList==[118,105,101,119])=true:=str_eq hk
 clear h hk
 go_enter Tryz.func30,Tryz.ntmps30
 go_wp2_with (first
  | (have hgd:=H0;clear hgd;go_at_call 64;refine (stW _ _ b g n cap s H0.out.rd.base).mono ?_;rintro e w1 ⟨rfl,h1⟩;have H1:=Lib.hid (H0.out.read h1);clear h1 H0)
  | (have hgd:=H1;clear hgd;go_at_call 67;refine (stF _ _ b g n cap (sW s) H1.out.rd.base).mono ?_;rintro e w2 ⟨rfl,h2⟩;have H2:=Lib.hid (H1.out.read h2);clear h2 H1)
  | (have hgd:=H2;clear hgd;go_at_call 67;refine (stF _ _ b g n cap (sF (sW s)) H2.out.rd.base).mono ?_;rintro e w3 ⟨rfl,h3⟩;have H3:=Lib.hid (H2.out.read h3);clear h3 H2)
  | (have hgd:=H3;clear hgd;refine wpList_store_row rfl 28 _ _ rfl w.heap.size #[.int .i64 2,.int .i64 0,.int .i64 0,.int .i64 0,.string ⟨#[]⟩,.string ⟨#[]⟩,.slice none 0 0,.int .i64 (vF (sW s)).1,.int .i64 (vF (sW s)).2,.int .i64 (vF (sF (sW s))).1,.int .i64 (vF (sF (sW s))).2,.int .i64 0,.string ⟨#[]⟩,.int .i64 0,.int .i64 0,.int .i64 0,.int .i64 0,.bool false] rfl rfl 28 _ H3.out.res size28' rfl (by simp [Value.oneCell']) ?_))
 exact ret_op rfl rfl (H3.out.fin _).2 rfl (opIs_plain rfl (H3.out.fin _).1)
set_option maxRecDepth 100000 in
set_option maxHeartbeats 4000000 in
theorem rop_Font (w0 w:World) (b g n cap:Nat) (s:RSt) (h:RdR w0 b g n cap s.1 s.2 w) (hk:vW s=sp.kFont):Calls Tryz.prog 30 #[.pointer (some ⟨b,0,none⟩)] w fun e w'=>OpIs w0 b g n cap { kind:=3,w:=vF (sW s) } (sF (sW s)) e w':=by
 have H0:=Lib.hid (OpR.start h)
 have s0:((bstr (vW s)).toList==[115,104,101,101,116])=false:=str_ne (by rw [hk];decide)
 have s1:((bstr (vW s)).toList==[118,105,101,119])=false:=str_ne (by rw [hk];decide)
 have s2:((bstr (vW s)).toList==[102,111,110,116])=true:=str_eq hk
 clear h hk
 go_enter Tryz.func30,Tryz.ntmps30
 go_wp2_with (first
  | (have hgd:=H0;clear hgd;go_at_call 64;refine (stW _ _ b g n cap s H0.out.rd.base).mono ?_;rintro e w1 ⟨rfl,h1⟩;have H1:=Lib.hid (H0.out.read h1);clear h1 H0)
  | (have hgd:=H1;clear hgd;go_at_call 67;refine (stF _ _ b g n cap (sW s) H1.out.rd.base).mono ?_;rintro e w2 ⟨rfl,h2⟩;have H2:=Lib.hid (H1.out.read h2);clear h2 H1)
  | (have hgd:=H2;clear hgd;refine wpList_store_row rfl 28 _ _ rfl w.heap.size #[.int .i64 3,.int .i64 0,.int .i64 0,.int .i64 0,.string ⟨#[]⟩,.string ⟨#[]⟩,.slice none 0 0,.int .i64 (vF (sW s)).1,.int .i64 (vF (sW s)).2,.int .i64 0,.int .i64 0,.int .i64 0,.string ⟨#[]⟩,.int .i64 0,.int .i64 0,.int .i64 0,.int .i64 0,.bool false] rfl rfl 28 _ H2.out.res size28' rfl (by simp [Value.oneCell']) ?_))
 exact ret_op rfl rfl (H2.out.fin _).2 rfl (opIs_plain rfl (H2.out.fin _).1)
set_option maxRecDepth 100000 in
set_option maxHeartbeats 4000000 in
theorem rop_Color (w0 w:World) (b g n cap:Nat) (s:RSt) (h:RdR w0 b g n cap s.1 s.2 w) (hk:vW s=sp.kColor):Calls Tryz.prog 30 #[.pointer (some ⟨b,0,none⟩)] w fun e w'=>OpIs w0 b g n cap { kind:=13,w:=vF (sW s) } (sF (sW s)) e w':=by
 have H0:=Lib.hid (OpR.start h)
 have s0:((bstr (vW s)).toList==[115,104,101,101,116])=false:=str_ne (by rw [hk];decide)
 have s1:((bstr (vW s)).toList==[118,105,101,119])=false:=str_ne (by rw [hk];decide)
 have s2:((bstr (vW s)).toList==[102,111,110,116])=false:=str_ne (by rw [hk];decide)
 have s3:((bstr (vW s)).toList==[99,111,108,111,114])=true:=str_eq hk
 clear h hk
 go_enter Tryz.func30,Tryz.ntmps30
 go_wp2_with (first
  | (have hgd:=H0;clear hgd;go_at_call 64;refine (stW _ _ b g n cap s H0.out.rd.base).mono ?_;rintro e w1 ⟨rfl,h1⟩;have H1:=Lib.hid (H0.out.read h1);clear h1 H0)
  | (have hgd:=H1;clear hgd;go_at_call 67;refine (stF _ _ b g n cap (sW s) H1.out.rd.base).mono ?_;rintro e w2 ⟨rfl,h2⟩;have H2:=Lib.hid (H1.out.read h2);clear h2 H1)
  | (have hgd:=H2;clear hgd;refine wpList_store_row rfl 28 _ _ rfl w.heap.size #[.int .i64 13,.int .i64 0,.int .i64 0,.int .i64 0,.string ⟨#[]⟩,.string ⟨#[]⟩,.slice none 0 0,.int .i64 (vF (sW s)).1,.int .i64 (vF (sW s)).2,.int .i64 0,.int .i64 0,.int .i64 0,.string ⟨#[]⟩,.int .i64 0,.int .i64 0,.int .i64 0,.int .i64 0,.bool false] rfl rfl 28 _ H2.out.res size28' rfl (by simp [Value.oneCell']) ?_))
 exact ret_op rfl rfl (H2.out.fin _).2 rfl (opIs_plain rfl (H2.out.fin _).1)
set_option maxRecDepth 100000 in
set_option maxHeartbeats 4000000 in
theorem rop_Print_on_false (w0 w:World) (b g n cap:Nat) (s:RSt) (h:RdR w0 b g n cap s.1 s.2 w) (hk:vW s=sp.kPrint) (hbd:(sW (sW s)).2=false) (hw:vW (sW s)=sp.kOn):Calls Tryz.prog 30 #[.pointer (some ⟨b,0,none⟩)] w fun e w'=>OpIs w0 b g n cap { kind:=14,on:=vW (sW s)==sp.kOn } (sP (sW s)) e w':=by
 have H0:=Lib.hid (OpR.start h)
 have s0:((bstr (vW s)).toList==[115,104,101,101,116])=false:=str_ne (by rw [hk];decide)
 have s1:((bstr (vW s)).toList==[118,105,101,119])=false:=str_ne (by rw [hk];decide)
 have s2:((bstr (vW s)).toList==[102,111,110,116])=false:=str_ne (by rw [hk];decide)
 have s3:((bstr (vW s)).toList==[99,111,108,111,114])=false:=str_ne (by rw [hk];decide)
 have s4:((bstr (vW s)).toList==[112,114,105,110,116])=true:=str_eq hk
 have t0:((bstr (vW (sW s))).toList==[111,110])=true:=str_eq hw
 have t1:((bstr (vW (sW s))).toList==[111,102,102])=false:=str_ne (by rw [hw];decide)
 have e1:(vW (sW s)==sp.kOn)=true:=by rw [hw];decide
 have e2:(vW (sW s)==sp.kOn||vW (sW s)==sp.kOff)=true:=by rw [hw];decide
 have HBD:=Lib.hid hbd
 have HEQ:Hid (sP (sW s)=((sW (sW s)).1,false)∧({ kind:=14,on:=vW (sW s)==sp.kOn }:sp.Op)={ kind:=14,on:=true }):=Lib.hid ⟨by unfold sP;rw [hbd,e2];rfl,by rw [e1]⟩
 clear e1 e2 hbd hw
 clear h hk
 go_enter Tryz.func30,Tryz.ntmps30
 go_wp2_with (first
  | (have hgd:=H0;clear hgd;go_at_call 64;refine (stW _ _ b g n cap s H0.out.rd.base).mono ?_;rintro e w1 ⟨rfl,h1⟩;have H1:=Lib.hid (H0.out.read h1);clear h1 H0)
  | (have hgd:=H1;clear hgd;go_at_call 64;refine (stW _ _ b g n cap (sW s) H1.out.rd.base).mono ?_;rintro e w2 ⟨rfl,h2⟩;have H2:=Lib.hid (H1.out.read h2);have c2:=H2.out.rd.c2;rw [HBD.out] at c2;have z2:=H2.out.rd.z 2;clear h2 H1)
  | (have hgd:=H2;clear hgd;refine wpList_store_row rfl 28 _ _ rfl w.heap.size #[.int .i64 14,.int .i64 0,.int .i64 0,.int .i64 0,.string ⟨#[]⟩,.string ⟨#[]⟩,.slice none 0 0,.int .i64 0,.int .i64 0,.int .i64 0,.int .i64 0,.int .i64 0,.string ⟨#[]⟩,.int .i64 0,.int .i64 0,.int .i64 0,.int .i64 0,.bool true] rfl rfl 28 _ (H2.out.setBad false).res size28' rfl (by simp [Value.oneCell']) ?_))
 rw [HEQ.out.1,HEQ.out.2]
 exact ret_op rfl rfl ((H2.out.setBad false).fin _).2 rfl (opIs_plain rfl ((H2.out.setBad false).fin _).1)
set_option maxRecDepth 100000 in
set_option maxHeartbeats 4000000 in
theorem rop_Print_off_false (w0 w:World) (b g n cap:Nat) (s:RSt) (h:RdR w0 b g n cap s.1 s.2 w) (hk:vW s=sp.kPrint) (hbd:(sW (sW s)).2=false) (hw:vW (sW s)=sp.kOff):Calls Tryz.prog 30 #[.pointer (some ⟨b,0,none⟩)] w fun e w'=>OpIs w0 b g n cap { kind:=14,on:=vW (sW s)==sp.kOn } (sP (sW s)) e w':=by
 have H0:=Lib.hid (OpR.start h)
 have s0:((bstr (vW s)).toList==[115,104,101,101,116])=false:=str_ne (by rw [hk];decide)
 have s1:((bstr (vW s)).toList==[118,105,101,119])=false:=str_ne (by rw [hk];decide)
 have s2:((bstr (vW s)).toList==[102,111,110,116])=false:=str_ne (by rw [hk];decide)
 have s3:((bstr (vW s)).toList==[99,111,108,111,114])=false:=str_ne (by rw [hk];decide)
 have s4:((bstr (vW s)).toList==[112,114,105,110,116])=true:=str_eq hk
 have t0:((bstr (vW (sW s))).toList==[111,110])=false:=str_ne (by rw [hw];decide)
 have t1:((bstr (vW (sW s))).toList==[111,102,102])=true:=str_eq hw
 have e1:(vW (sW s)==sp.kOn)=false:=by rw [hw];decide
 have e2:(vW (sW s)==sp.kOn||vW (sW s)==sp.kOff)=true:=by rw [hw];decide
 have HBD:=Lib.hid hbd
 have HEQ:Hid (sP (sW s)=((sW (sW s)).1,false)∧({ kind:=14,on:=vW (sW s)==sp.kOn }:sp.Op)={ kind:=14,on:=false }):=Lib.hid ⟨by unfold sP;rw [hbd,e2];rfl,by rw [e1]⟩
 clear e1 e2 hbd hw
 clear h hk
 go_enter Tryz.func30,Tryz.ntmps30
 go_wp2_with (first
  | (have hgd:=H0;clear hgd;go_at_call 64;refine (stW _ _ b g n cap s H0.out.rd.base).mono ?_;rintro e w1 ⟨rfl,h1⟩;have H1:=Lib.hid (H0.out.read h1);clear h1 H0)
  | (have hgd:=H1;clear hgd;go_at_call 64;refine (stW _ _ b g n cap (sW s) H1.out.rd.base).mono ?_;rintro e w2 ⟨rfl,h2⟩;have H2:=Lib.hid (H1.out.read h2);have c2:=H2.out.rd.c2;rw [HBD.out] at c2;have z2:=H2.out.rd.z 2;clear h2 H1)
  | (have hgd:=H2;clear hgd;refine wpList_store_row rfl 28 _ _ rfl w.heap.size #[.int .i64 14,.int .i64 0,.int .i64 0,.int .i64 0,.string ⟨#[]⟩,.string ⟨#[]⟩,.slice none 0 0,.int .i64 0,.int .i64 0,.int .i64 0,.int .i64 0,.int .i64 0,.string ⟨#[]⟩,.int .i64 0,.int .i64 0,.int .i64 0,.int .i64 0,.bool false] rfl rfl 28 _ (H2.out.setBad false).res size28' rfl (by simp [Value.oneCell']) ?_))
 rw [HEQ.out.1,HEQ.out.2]
 exact ret_op rfl rfl ((H2.out.setBad false).fin _).2 rfl (opIs_plain rfl ((H2.out.setBad false).fin _).1)
set_option maxRecDepth 100000 in
set_option maxHeartbeats 4000000 in
theorem rop_Print_other_false (w0 w:World) (b g n cap:Nat) (s:RSt) (h:RdR w0 b g n cap s.1 s.2 w) (hk:vW s=sp.kPrint) (hbd:(sW (sW s)).2=false) (hw1:vW (sW s)≠sp.kOn) (hw2:vW (sW s)≠sp.kOff):Calls Tryz.prog 30 #[.pointer (some ⟨b,0,none⟩)] w fun e w'=>OpIs w0 b g n cap { kind:=14,on:=vW (sW s)==sp.kOn } (sP (sW s)) e w':=by
 have H0:=Lib.hid (OpR.start h)
 have s0:((bstr (vW s)).toList==[115,104,101,101,116])=false:=str_ne (by rw [hk];decide)
 have s1:((bstr (vW s)).toList==[118,105,101,119])=false:=str_ne (by rw [hk];decide)
 have s2:((bstr (vW s)).toList==[102,111,110,116])=false:=str_ne (by rw [hk];decide)
 have s3:((bstr (vW s)).toList==[99,111,108,111,114])=false:=str_ne (by rw [hk];decide)
 have s4:((bstr (vW s)).toList==[112,114,105,110,116])=true:=str_eq hk
 have t0:((bstr (vW (sW s))).toList==[111,110])=false:=str_ne hw1
 have t1:((bstr (vW (sW s))).toList==[111,102,102])=false:=str_ne hw2
 have e1:(vW (sW s)==sp.kOn)=false:=by simp [hw1]
 have e2:(vW (sW s)==sp.kOn||vW (sW s)==sp.kOff)=false:=by simp [hw1,hw2]
 have HBD:=Lib.hid hbd
 have HEQ:Hid (sP (sW s)=((sW (sW s)).1,true)∧({ kind:=14,on:=vW (sW s)==sp.kOn }:sp.Op)={ kind:=14,on:=false }):=Lib.hid ⟨by unfold sP;rw [hbd,e2];rfl,by rw [e1]⟩
 clear e1 e2 hbd hw1 hw2
 clear h hk
 go_enter Tryz.func30,Tryz.ntmps30
 go_wp2_with (first
  | (have hgd:=H0;clear hgd;go_at_call 64;refine (stW _ _ b g n cap s H0.out.rd.base).mono ?_;rintro e w1 ⟨rfl,h1⟩;have H1:=Lib.hid (H0.out.read h1);clear h1 H0)
  | (have hgd:=H1;clear hgd;go_at_call 64;refine (stW _ _ b g n cap (sW s) H1.out.rd.base).mono ?_;rintro e w2 ⟨rfl,h2⟩;have H2:=Lib.hid (H1.out.read h2);have c2:=H2.out.rd.c2;rw [HBD.out] at c2;have z2:=H2.out.rd.z 2;clear h2 H1)
  | (have hgd:=H2;clear hgd;refine wpList_store_row rfl 28 _ _ rfl w.heap.size #[.int .i64 14,.int .i64 0,.int .i64 0,.int .i64 0,.string ⟨#[]⟩,.string ⟨#[]⟩,.slice none 0 0,.int .i64 0,.int .i64 0,.int .i64 0,.int .i64 0,.int .i64 0,.string ⟨#[]⟩,.int .i64 0,.int .i64 0,.int .i64 0,.int .i64 0,.bool false] rfl rfl 28 _ (H2.out.setBad true).res size28' rfl (by simp [Value.oneCell']) ?_))
 rw [HEQ.out.1,HEQ.out.2]
 exact ret_op rfl rfl ((H2.out.setBad true).fin _).2 rfl (opIs_plain rfl ((H2.out.setBad true).fin _).1)
set_option maxRecDepth 100000 in
set_option maxHeartbeats 4000000 in
theorem rop_Print_on_true (w0 w:World) (b g n cap:Nat) (s:RSt) (h:RdR w0 b g n cap s.1 s.2 w) (hk:vW s=sp.kPrint) (hbd:(sW (sW s)).2=true) (hw:vW (sW s)=sp.kOn):Calls Tryz.prog 30 #[.pointer (some ⟨b,0,none⟩)] w fun e w'=>OpIs w0 b g n cap { kind:=14,on:=vW (sW s)==sp.kOn } (sP (sW s)) e w':=by
 have H0:=Lib.hid (OpR.start h)
 have s0:((bstr (vW s)).toList==[115,104,101,101,116])=false:=str_ne (by rw [hk];decide)
 have s1:((bstr (vW s)).toList==[118,105,101,119])=false:=str_ne (by rw [hk];decide)
 have s2:((bstr (vW s)).toList==[102,111,110,116])=false:=str_ne (by rw [hk];decide)
 have s3:((bstr (vW s)).toList==[99,111,108,111,114])=false:=str_ne (by rw [hk];decide)
 have s4:((bstr (vW s)).toList==[112,114,105,110,116])=true:=str_eq hk
 have t0:((bstr (vW (sW s))).toList==[111,110])=true:=str_eq hw
 have t1:((bstr (vW (sW s))).toList==[111,102,102])=false:=str_ne (by rw [hw];decide)
 have e1:(vW (sW s)==sp.kOn)=true:=by rw [hw];decide
 have e2:(vW (sW s)==sp.kOn||vW (sW s)==sp.kOff)=true:=by rw [hw];decide
 have HBD:=Lib.hid hbd
 have HEQ:Hid (sP (sW s)=((sW (sW s)).1,true)∧({ kind:=14,on:=vW (sW s)==sp.kOn }:sp.Op)={ kind:=14,on:=true }):=Lib.hid ⟨by unfold sP;rw [hbd,e2];rfl,by rw [e1]⟩
 clear e1 e2 hbd hw
 clear h hk
 go_enter Tryz.func30,Tryz.ntmps30
 go_wp2_with (first
  | (have hgd:=H0;clear hgd;go_at_call 64;refine (stW _ _ b g n cap s H0.out.rd.base).mono ?_;rintro e w1 ⟨rfl,h1⟩;have H1:=Lib.hid (H0.out.read h1);clear h1 H0)
  | (have hgd:=H1;clear hgd;go_at_call 64;refine (stW _ _ b g n cap (sW s) H1.out.rd.base).mono ?_;rintro e w2 ⟨rfl,h2⟩;have H2:=Lib.hid (H1.out.read h2);have c2:=H2.out.rd.c2;rw [HBD.out] at c2;have z2:=H2.out.rd.z 2;clear h2 H1)
  | (have hgd:=H2;clear hgd;refine wpList_store_row rfl 28 _ _ rfl w.heap.size #[.int .i64 14,.int .i64 0,.int .i64 0,.int .i64 0,.string ⟨#[]⟩,.string ⟨#[]⟩,.slice none 0 0,.int .i64 0,.int .i64 0,.int .i64 0,.int .i64 0,.int .i64 0,.string ⟨#[]⟩,.int .i64 0,.int .i64 0,.int .i64 0,.int .i64 0,.bool true] rfl rfl 28 _ (H2.out.setBad true).res size28' rfl (by simp [Value.oneCell']) ?_))
 rw [HEQ.out.1,HEQ.out.2]
 exact ret_op rfl rfl ((H2.out.setBad true).fin _).2 rfl (opIs_plain rfl ((H2.out.setBad true).fin _).1)
set_option maxRecDepth 100000 in
set_option maxHeartbeats 4000000 in
theorem rop_Print_off_true (w0 w:World) (b g n cap:Nat) (s:RSt) (h:RdR w0 b g n cap s.1 s.2 w) (hk:vW s=sp.kPrint) (hbd:(sW (sW s)).2=true) (hw:vW (sW s)=sp.kOff):Calls Tryz.prog 30 #[.pointer (some ⟨b,0,none⟩)] w fun e w'=>OpIs w0 b g n cap { kind:=14,on:=vW (sW s)==sp.kOn } (sP (sW s)) e w':=by
 have H0:=Lib.hid (OpR.start h)
 have s0:((bstr (vW s)).toList==[115,104,101,101,116])=false:=str_ne (by rw [hk];decide)
 have s1:((bstr (vW s)).toList==[118,105,101,119])=false:=str_ne (by rw [hk];decide)
 have s2:((bstr (vW s)).toList==[102,111,110,116])=false:=str_ne (by rw [hk];decide)
 have s3:((bstr (vW s)).toList==[99,111,108,111,114])=false:=str_ne (by rw [hk];decide)
 have s4:((bstr (vW s)).toList==[112,114,105,110,116])=true:=str_eq hk
 have t0:((bstr (vW (sW s))).toList==[111,110])=false:=str_ne (by rw [hw];decide)
 have t1:((bstr (vW (sW s))).toList==[111,102,102])=true:=str_eq hw
 have e1:(vW (sW s)==sp.kOn)=false:=by rw [hw];decide
 have e2:(vW (sW s)==sp.kOn||vW (sW s)==sp.kOff)=true:=by rw [hw];decide
 have HBD:=Lib.hid hbd
 have HEQ:Hid (sP (sW s)=((sW (sW s)).1,true)∧({ kind:=14,on:=vW (sW s)==sp.kOn }:sp.Op)={ kind:=14,on:=false }):=Lib.hid ⟨by unfold sP;rw [hbd,e2];rfl,by rw [e1]⟩
 clear e1 e2 hbd hw
 clear h hk
 go_enter Tryz.func30,Tryz.ntmps30
 go_wp2_with (first
  | (have hgd:=H0;clear hgd;go_at_call 64;refine (stW _ _ b g n cap s H0.out.rd.base).mono ?_;rintro e w1 ⟨rfl,h1⟩;have H1:=Lib.hid (H0.out.read h1);clear h1 H0)
  | (have hgd:=H1;clear hgd;go_at_call 64;refine (stW _ _ b g n cap (sW s) H1.out.rd.base).mono ?_;rintro e w2 ⟨rfl,h2⟩;have H2:=Lib.hid (H1.out.read h2);have c2:=H2.out.rd.c2;rw [HBD.out] at c2;have z2:=H2.out.rd.z 2;clear h2 H1)
  | (have hgd:=H2;clear hgd;refine wpList_store_row rfl 28 _ _ rfl w.heap.size #[.int .i64 14,.int .i64 0,.int .i64 0,.int .i64 0,.string ⟨#[]⟩,.string ⟨#[]⟩,.slice none 0 0,.int .i64 0,.int .i64 0,.int .i64 0,.int .i64 0,.int .i64 0,.string ⟨#[]⟩,.int .i64 0,.int .i64 0,.int .i64 0,.int .i64 0,.bool false] rfl rfl 28 _ (H2.out.setBad true).res size28' rfl (by simp [Value.oneCell']) ?_))
 rw [HEQ.out.1,HEQ.out.2]
 exact ret_op rfl rfl ((H2.out.setBad true).fin _).2 rfl (opIs_plain rfl ((H2.out.setBad true).fin _).1)
set_option maxRecDepth 100000 in
set_option maxHeartbeats 4000000 in
theorem rop_Print_other_true (w0 w:World) (b g n cap:Nat) (s:RSt) (h:RdR w0 b g n cap s.1 s.2 w) (hk:vW s=sp.kPrint) (hbd:(sW (sW s)).2=true) (hw1:vW (sW s)≠sp.kOn) (hw2:vW (sW s)≠sp.kOff):Calls Tryz.prog 30 #[.pointer (some ⟨b,0,none⟩)] w fun e w'=>OpIs w0 b g n cap { kind:=14,on:=vW (sW s)==sp.kOn } (sP (sW s)) e w':=by
 have H0:=Lib.hid (OpR.start h)
 have s0:((bstr (vW s)).toList==[115,104,101,101,116])=false:=str_ne (by rw [hk];decide)
 have s1:((bstr (vW s)).toList==[118,105,101,119])=false:=str_ne (by rw [hk];decide)
 have s2:((bstr (vW s)).toList==[102,111,110,116])=false:=str_ne (by rw [hk];decide)
 have s3:((bstr (vW s)).toList==[99,111,108,111,114])=false:=str_ne (by rw [hk];decide)
 have s4:((bstr (vW s)).toList==[112,114,105,110,116])=true:=str_eq hk
 have t0:((bstr (vW (sW s))).toList==[111,110])=false:=str_ne hw1
 have t1:((bstr (vW (sW s))).toList==[111,102,102])=false:=str_ne hw2
 have e1:(vW (sW s)==sp.kOn)=false:=by simp [hw1]
 have e2:(vW (sW s)==sp.kOn||vW (sW s)==sp.kOff)=false:=by simp [hw1,hw2]
 have HBD:=Lib.hid hbd
 have HEQ:Hid (sP (sW s)=((sW (sW s)).1,true)∧({ kind:=14,on:=vW (sW s)==sp.kOn }:sp.Op)={ kind:=14,on:=false }):=Lib.hid ⟨by unfold sP;rw [hbd,e2];rfl,by rw [e1]⟩
 clear e1 e2 hbd hw1 hw2
 clear h hk
 go_enter Tryz.func30,Tryz.ntmps30
 go_wp2_with (first
  | (have hgd:=H0;clear hgd;go_at_call 64;refine (stW _ _ b g n cap s H0.out.rd.base).mono ?_;rintro e w1 ⟨rfl,h1⟩;have H1:=Lib.hid (H0.out.read h1);clear h1 H0)
  | (have hgd:=H1;clear hgd;go_at_call 64;refine (stW _ _ b g n cap (sW s) H1.out.rd.base).mono ?_;rintro e w2 ⟨rfl,h2⟩;have H2:=Lib.hid (H1.out.read h2);have c2:=H2.out.rd.c2;rw [HBD.out] at c2;have z2:=H2.out.rd.z 2;clear h2 H1)
  | (have hgd:=H2;clear hgd;refine wpList_store_row rfl 28 _ _ rfl w.heap.size #[.int .i64 14,.int .i64 0,.int .i64 0,.int .i64 0,.string ⟨#[]⟩,.string ⟨#[]⟩,.slice none 0 0,.int .i64 0,.int .i64 0,.int .i64 0,.int .i64 0,.int .i64 0,.string ⟨#[]⟩,.int .i64 0,.int .i64 0,.int .i64 0,.int .i64 0,.bool false] rfl rfl 28 _ (H2.out.setBad true).res size28' rfl (by simp [Value.oneCell']) ?_))
 rw [HEQ.out.1,HEQ.out.2]
 exact ret_op rfl rfl ((H2.out.setBad true).fin _).2 rfl (opIs_plain rfl ((H2.out.setBad true).fin _).1)
set_option maxRecDepth 100000 in
set_option maxHeartbeats 4000000 in
theorem rop_Word (w0 w:World) (b g n cap:Nat) (s:RSt) (h:RdR w0 b g n cap s.1 s.2 w) (hk:vW s=sp.kWord):Calls Tryz.prog 30 #[.pointer (some ⟨b,0,none⟩)] w fun e w'=>OpIs w0 b g n cap { kind:=4,name:=vW (sW s),word:=vW (sW (sW s)) } (sW (sW (sW s))) e w':=by
 have H0:=Lib.hid (OpR.start h)
 have s0:((bstr (vW s)).toList==[115,104,101,101,116])=false:=str_ne (by rw [hk];decide)
 have s1:((bstr (vW s)).toList==[118,105,101,119])=false:=str_ne (by rw [hk];decide)
 have s2:((bstr (vW s)).toList==[102,111,110,116])=false:=str_ne (by rw [hk];decide)
 have s3:((bstr (vW s)).toList==[99,111,108,111,114])=false:=str_ne (by rw [hk];decide)
 have s4:((bstr (vW s)).toList==[112,114,105,110,116])=false:=str_ne (by rw [hk];decide)
 have s5:((bstr (vW s)).toList==[119,111,114,100])=true:=str_eq hk
 clear h hk
 go_enter Tryz.func30,Tryz.ntmps30
 go_wp2_with (first
  | (have hgd:=H0;clear hgd;go_at_call 64;refine (stW _ _ b g n cap s H0.out.rd.base).mono ?_;rintro e w1 ⟨rfl,h1⟩;have H1:=Lib.hid (H0.out.read h1);clear h1 H0)
  | (have hgd:=H1;clear hgd;go_at_call 64;refine (stW _ _ b g n cap (sW s) H1.out.rd.base).mono ?_;rintro e w2 ⟨rfl,h2⟩;have H2:=Lib.hid (H1.out.read h2);clear h2 H1)
  | (have hgd:=H2;clear hgd;go_at_call 64;refine (stW _ _ b g n cap (sW (sW s)) H2.out.rd.base).mono ?_;rintro e w3 ⟨rfl,h3⟩;have H3:=Lib.hid (H2.out.read h3);clear h3 H2)
  | (have hgd:=H3;clear hgd;refine wpList_store_row rfl 28 _ _ rfl w.heap.size #[.int .i64 4,.int .i64 0,.int .i64 0,.int .i64 0,.string (bstr (vW (sW s))),.string (bstr (vW (sW (sW s)))),.slice none 0 0,.int .i64 0,.int .i64 0,.int .i64 0,.int .i64 0,.int .i64 0,.string ⟨#[]⟩,.int .i64 0,.int .i64 0,.int .i64 0,.int .i64 0,.bool false] rfl rfl 28 _ H3.out.res size28' rfl (by simp [Value.oneCell']) ?_))
 exact ret_op rfl rfl (H3.out.fin _).2 rfl (opIs_plain rfl (H3.out.fin _).1)
set_option maxRecDepth 100000 in
set_option maxHeartbeats 4000000 in
theorem rop_Insert (w0 w:World) (b g n cap:Nat) (s:RSt) (h:RdR w0 b g n cap s.1 s.2 w) (hk:vW s=sp.kInsert):Calls Tryz.prog 30 #[.pointer (some ⟨b,0,none⟩)] w fun e w'=>OpIs w0 b g n cap { kind:=5,node:=vN (sW s),at_:=vN (sN (sW s)),name:=vW (sN (sN (sW s))) } (sW (sN (sN (sW s)))) e w':=by
 have H0:=Lib.hid (OpR.start h)
 have s0:((bstr (vW s)).toList==[115,104,101,101,116])=false:=str_ne (by rw [hk];decide)
 have s1:((bstr (vW s)).toList==[118,105,101,119])=false:=str_ne (by rw [hk];decide)
 have s2:((bstr (vW s)).toList==[102,111,110,116])=false:=str_ne (by rw [hk];decide)
 have s3:((bstr (vW s)).toList==[99,111,108,111,114])=false:=str_ne (by rw [hk];decide)
 have s4:((bstr (vW s)).toList==[112,114,105,110,116])=false:=str_ne (by rw [hk];decide)
 have s5:((bstr (vW s)).toList==[119,111,114,100])=false:=str_ne (by rw [hk];decide)
 have s6:((bstr (vW s)).toList==[105,110,115,101,114,116])=true:=str_eq hk
 clear h hk
 go_enter Tryz.func30,Tryz.ntmps30
 go_wp2_with (first
  | (have hgd:=H0;clear hgd;go_at_call 64;refine (stW _ _ b g n cap s H0.out.rd.base).mono ?_;rintro e w1 ⟨rfl,h1⟩;have H1:=Lib.hid (H0.out.read h1);clear h1 H0)
  | (have hgd:=H1;clear hgd;go_at_call 65;refine (stN _ _ b g n cap (sW s) H1.out.rd.base).mono ?_;rintro e w2 ⟨rfl,h2⟩;have H2:=Lib.hid (H1.out.read h2);clear h2 H1)
  | (have hgd:=H2;clear hgd;go_at_call 65;refine (stN _ _ b g n cap (sN (sW s)) H2.out.rd.base).mono ?_;rintro e w3 ⟨rfl,h3⟩;have H3:=Lib.hid (H2.out.read h3);clear h3 H2)
  | (have hgd:=H3;clear hgd;go_at_call 64;refine (stW _ _ b g n cap (sN (sN (sW s))) H3.out.rd.base).mono ?_;rintro e w4 ⟨rfl,h4⟩;have H4:=Lib.hid (H3.out.read h4);clear h4 H3)
  | (have hgd:=H4;clear hgd;refine wpList_store_row rfl 28 _ _ rfl w.heap.size #[.int .i64 5,.int .i64 (vN (sW s)),.int .i64 (vN (sN (sW s))),.int .i64 0,.string (bstr (vW (sN (sN (sW s))))),.string ⟨#[]⟩,.slice none 0 0,.int .i64 0,.int .i64 0,.int .i64 0,.int .i64 0,.int .i64 0,.string ⟨#[]⟩,.int .i64 0,.int .i64 0,.int .i64 0,.int .i64 0,.bool false] rfl rfl 28 _ H4.out.res size28' rfl (by simp [Value.oneCell']) ?_))
 exact ret_op rfl rfl (H4.out.fin _).2 rfl (opIs_plain rfl (H4.out.fin _).1)
set_option maxRecDepth 100000 in
set_option maxHeartbeats 4000000 in
theorem rop_Remove (w0 w:World) (b g n cap:Nat) (s:RSt) (h:RdR w0 b g n cap s.1 s.2 w) (hk:vW s=sp.kRemove):Calls Tryz.prog 30 #[.pointer (some ⟨b,0,none⟩)] w fun e w'=>OpIs w0 b g n cap { kind:=6,node:=vN (sW s) } (sN (sW s)) e w':=by
 have H0:=Lib.hid (OpR.start h)
 have s0:((bstr (vW s)).toList==[115,104,101,101,116])=false:=str_ne (by rw [hk];decide)
 have s1:((bstr (vW s)).toList==[118,105,101,119])=false:=str_ne (by rw [hk];decide)
 have s2:((bstr (vW s)).toList==[102,111,110,116])=false:=str_ne (by rw [hk];decide)
 have s3:((bstr (vW s)).toList==[99,111,108,111,114])=false:=str_ne (by rw [hk];decide)
 have s4:((bstr (vW s)).toList==[112,114,105,110,116])=false:=str_ne (by rw [hk];decide)
 have s5:((bstr (vW s)).toList==[119,111,114,100])=false:=str_ne (by rw [hk];decide)
 have s6:((bstr (vW s)).toList==[105,110,115,101,114,116])=false:=str_ne (by rw [hk];decide)
 have s7:((bstr (vW s)).toList==[114,101,109,111,118,101])=true:=str_eq hk
 clear h hk
 go_enter Tryz.func30,Tryz.ntmps30
 go_wp2_with (first
  | (have hgd:=H0;clear hgd;go_at_call 64;refine (stW _ _ b g n cap s H0.out.rd.base).mono ?_;rintro e w1 ⟨rfl,h1⟩;have H1:=Lib.hid (H0.out.read h1);clear h1 H0)
  | (have hgd:=H1;clear hgd;go_at_call 65;refine (stN _ _ b g n cap (sW s) H1.out.rd.base).mono ?_;rintro e w2 ⟨rfl,h2⟩;have H2:=Lib.hid (H1.out.read h2);clear h2 H1)
  | (have hgd:=H2;clear hgd;refine wpList_store_row rfl 28 _ _ rfl w.heap.size #[.int .i64 6,.int .i64 (vN (sW s)),.int .i64 0,.int .i64 0,.string ⟨#[]⟩,.string ⟨#[]⟩,.slice none 0 0,.int .i64 0,.int .i64 0,.int .i64 0,.int .i64 0,.int .i64 0,.string ⟨#[]⟩,.int .i64 0,.int .i64 0,.int .i64 0,.int .i64 0,.bool false] rfl rfl 28 _ H2.out.res size28' rfl (by simp [Value.oneCell']) ?_))
 exact ret_op rfl rfl (H2.out.fin _).2 rfl (opIs_plain rfl (H2.out.fin _).1)
set_option maxRecDepth 100000 in
set_option maxHeartbeats 4000000 in
theorem rop_Set (w0 w:World) (b g n cap:Nat) (s:RSt) (h:RdR w0 b g n cap s.1 s.2 w) (hk:vW s=sp.kSet):Calls Tryz.prog 30 #[.pointer (some ⟨b,0,none⟩)] w fun e w'=>OpIs w0 b g n cap { kind:=7,node:=vN (sW s),name:=vW (sN (sW s)),word:=vW (sW (sN (sW s))) } (sT (sW (sN (sW s)))) e w':=by
 have H0:=Lib.hid (OpR.start h)
 have s0:((bstr (vW s)).toList==[115,104,101,101,116])=false:=str_ne (by rw [hk];decide)
 have s1:((bstr (vW s)).toList==[118,105,101,119])=false:=str_ne (by rw [hk];decide)
 have s2:((bstr (vW s)).toList==[102,111,110,116])=false:=str_ne (by rw [hk];decide)
 have s3:((bstr (vW s)).toList==[99,111,108,111,114])=false:=str_ne (by rw [hk];decide)
 have s4:((bstr (vW s)).toList==[112,114,105,110,116])=false:=str_ne (by rw [hk];decide)
 have s5:((bstr (vW s)).toList==[119,111,114,100])=false:=str_ne (by rw [hk];decide)
 have s6:((bstr (vW s)).toList==[105,110,115,101,114,116])=false:=str_ne (by rw [hk];decide)
 have s7:((bstr (vW s)).toList==[114,101,109,111,118,101])=false:=str_ne (by rw [hk];decide)
 have s8:((bstr (vW s)).toList==[115,101,116])=true:=str_eq hk
 clear h hk
 go_enter Tryz.func30,Tryz.ntmps30
 go_wp2_with (first
  | (have hgd:=H0;clear hgd;go_at_call 64;refine (stW _ _ b g n cap s H0.out.rd.base).mono ?_;rintro e w1 ⟨rfl,h1⟩;have H1:=Lib.hid (H0.out.read h1);clear h1 H0)
  | (have hgd:=H1;clear hgd;go_at_call 65;refine (stN _ _ b g n cap (sW s) H1.out.rd.base).mono ?_;rintro e w2 ⟨rfl,h2⟩;have H2:=Lib.hid (H1.out.read h2);clear h2 H1)
  | (have hgd:=H2;clear hgd;go_at_call 64;refine (stW _ _ b g n cap (sN (sW s)) H2.out.rd.base).mono ?_;rintro e w3 ⟨rfl,h3⟩;have H3:=Lib.hid (H2.out.read h3);clear h3 H2)
  | (have hgd:=H3;clear hgd;go_at_call 66;refine (stT _ _ b g n cap (sW (sN (sW s))) H3.out.rd.base).mono ?_;rintro e w4 ⟨rfl,h4⟩;have H4:=Lib.hid (H3.out.read h4);clear h4 H3)
  | (have hgd:=H4;clear hgd;refine wpList_store_row rfl 28 _ _ rfl w.heap.size #[.int .i64 7,.int .i64 (vN (sW s)),.int .i64 0,.int .i64 0,.string (bstr (vW (sN (sW s)))),.string (bstr (vW (sW (sN (sW s))))),.slice none 0 0,.int .i64 0,.int .i64 0,.int .i64 0,.int .i64 0,.int .i64 0,.string ⟨#[]⟩,.int .i64 0,.int .i64 0,.int .i64 0,.int .i64 0,.bool false] rfl rfl 28 _ H4.out.res size28' rfl (by simp [Value.oneCell']) ?_))
 exact ret_op rfl rfl (H4.out.fin _).2 rfl (opIs_plain rfl (H4.out.fin _).1)
set_option maxRecDepth 100000 in
set_option maxHeartbeats 4000000 in
theorem rop_Unset (w0 w:World) (b g n cap:Nat) (s:RSt) (h:RdR w0 b g n cap s.1 s.2 w) (hk:vW s=sp.kUnset):Calls Tryz.prog 30 #[.pointer (some ⟨b,0,none⟩)] w fun e w'=>OpIs w0 b g n cap { kind:=8,node:=vN (sW s),name:=vW (sN (sW s)) } (sW (sN (sW s))) e w':=by
 have H0:=Lib.hid (OpR.start h)
 have s0:((bstr (vW s)).toList==[115,104,101,101,116])=false:=str_ne (by rw [hk];decide)
 have s1:((bstr (vW s)).toList==[118,105,101,119])=false:=str_ne (by rw [hk];decide)
 have s2:((bstr (vW s)).toList==[102,111,110,116])=false:=str_ne (by rw [hk];decide)
 have s3:((bstr (vW s)).toList==[99,111,108,111,114])=false:=str_ne (by rw [hk];decide)
 have s4:((bstr (vW s)).toList==[112,114,105,110,116])=false:=str_ne (by rw [hk];decide)
 have s5:((bstr (vW s)).toList==[119,111,114,100])=false:=str_ne (by rw [hk];decide)
 have s6:((bstr (vW s)).toList==[105,110,115,101,114,116])=false:=str_ne (by rw [hk];decide)
 have s7:((bstr (vW s)).toList==[114,101,109,111,118,101])=false:=str_ne (by rw [hk];decide)
 have s8:((bstr (vW s)).toList==[115,101,116])=false:=str_ne (by rw [hk];decide)
 have s9:((bstr (vW s)).toList==[117,110,115,101,116])=true:=str_eq hk
 clear h hk
 go_enter Tryz.func30,Tryz.ntmps30
 go_wp2_with (first
  | (have hgd:=H0;clear hgd;go_at_call 64;refine (stW _ _ b g n cap s H0.out.rd.base).mono ?_;rintro e w1 ⟨rfl,h1⟩;have H1:=Lib.hid (H0.out.read h1);clear h1 H0)
  | (have hgd:=H1;clear hgd;go_at_call 65;refine (stN _ _ b g n cap (sW s) H1.out.rd.base).mono ?_;rintro e w2 ⟨rfl,h2⟩;have H2:=Lib.hid (H1.out.read h2);clear h2 H1)
  | (have hgd:=H2;clear hgd;go_at_call 64;refine (stW _ _ b g n cap (sN (sW s)) H2.out.rd.base).mono ?_;rintro e w3 ⟨rfl,h3⟩;have H3:=Lib.hid (H2.out.read h3);clear h3 H2)
  | (have hgd:=H3;clear hgd;refine wpList_store_row rfl 28 _ _ rfl w.heap.size #[.int .i64 8,.int .i64 (vN (sW s)),.int .i64 0,.int .i64 0,.string (bstr (vW (sN (sW s)))),.string ⟨#[]⟩,.slice none 0 0,.int .i64 0,.int .i64 0,.int .i64 0,.int .i64 0,.int .i64 0,.string ⟨#[]⟩,.int .i64 0,.int .i64 0,.int .i64 0,.int .i64 0,.bool false] rfl rfl 28 _ H3.out.res size28' rfl (by simp [Value.oneCell']) ?_))
 exact ret_op rfl rfl (H3.out.fin _).2 rfl (opIs_plain rfl (H3.out.fin _).1)
set_option maxRecDepth 100000 in
set_option maxHeartbeats 4000000 in
theorem rop_Box (w0 w:World) (b g n cap:Nat) (s:RSt) (h:RdR w0 b g n cap s.1 s.2 w) (hk:vW s=sp.kBox):Calls Tryz.prog 30 #[.pointer (some ⟨b,0,none⟩)] w fun e w'=>OpIs w0 b g n cap { kind:=9,node:=vN (sW s),bt:=(sp.boxOf (vW (sN (sW s)))).getD 0,bn:=sp.boxName (vW (sK (sN (sW s)))),bw:=vF (sW (sK (sN (sW s)))),bh:=vF (sF (sW (sK (sN (sW s))))) } (sB (sN (sW s))) e w':=by
 have H0:=Lib.hid (OpR.start h)
 have s0:((bstr (vW s)).toList==[115,104,101,101,116])=false:=str_ne (by rw [hk];decide)
 have s1:((bstr (vW s)).toList==[118,105,101,119])=false:=str_ne (by rw [hk];decide)
 have s2:((bstr (vW s)).toList==[102,111,110,116])=false:=str_ne (by rw [hk];decide)
 have s3:((bstr (vW s)).toList==[99,111,108,111,114])=false:=str_ne (by rw [hk];decide)
 have s4:((bstr (vW s)).toList==[112,114,105,110,116])=false:=str_ne (by rw [hk];decide)
 have s5:((bstr (vW s)).toList==[119,111,114,100])=false:=str_ne (by rw [hk];decide)
 have s6:((bstr (vW s)).toList==[105,110,115,101,114,116])=false:=str_ne (by rw [hk];decide)
 have s7:((bstr (vW s)).toList==[114,101,109,111,118,101])=false:=str_ne (by rw [hk];decide)
 have s8:((bstr (vW s)).toList==[115,101,116])=false:=str_ne (by rw [hk];decide)
 have s9:((bstr (vW s)).toList==[117,110,115,101,116])=false:=str_ne (by rw [hk];decide)
 have s10:((bstr (vW s)).toList==[98,111,120])=true:=str_eq hk
 clear h hk
 go_enter Tryz.func30,Tryz.ntmps30
 go_wp2_with (first
  | (have hgd:=H0;clear hgd;go_at_call 64;refine (stW _ _ b g n cap s H0.out.rd.base).mono ?_;rintro e w1 ⟨rfl,h1⟩;have H1:=Lib.hid (H0.out.read h1);clear h1 H0)
  | (have hgd:=H1;clear hgd;go_at_call 65;refine (stN _ _ b g n cap (sW s) H1.out.rd.base).mono ?_;rintro e w2 ⟨rfl,h2⟩;have H2:=Lib.hid (H1.out.read h2);clear h2 H1)
  | (have hgd:=H2;clear hgd;go_at_call 68;refine (stB _ _ b g n cap (sN (sW s)) H2.out.rd.base).mono ?_;rintro e w3 ⟨rfl,h3⟩;have H3:=Lib.hid (H2.out.read h3);clear h3 H2)
  | (have hgd:=H3;clear hgd;refine wpList_store_row rfl 28 _ _ rfl w.heap.size #[.int .i64 9,.int .i64 (vN (sW s)),.int .i64 0,.int .i64 0,.string ⟨#[]⟩,.string ⟨#[]⟩,.slice none 0 0,.int .i64 0,.int .i64 0,.int .i64 0,.int .i64 0,.int .i64 ((sp.boxOf (vW (sN (sW s)))).getD 0),.string (bstr (sp.boxName (vW (sK (sN (sW s)))))),.int .i64 (vF (sW (sK (sN (sW s))))).1,.int .i64 (vF (sW (sK (sN (sW s))))).2,.int .i64 (vF (sF (sW (sK (sN (sW s)))))).1,.int .i64 (vF (sF (sW (sK (sN (sW s)))))).2,.bool false] rfl rfl 28 _ H3.out.res size28' rfl (by simp [Value.oneCell']) ?_))
 exact ret_op rfl rfl (H3.out.fin _).2 rfl (opIs_plain rfl (H3.out.fin _).1)
set_option maxRecDepth 100000 in
set_option maxHeartbeats 4000000 in
theorem rop_Ask (w0 w:World) (b g n cap:Nat) (s:RSt) (h:RdR w0 b g n cap s.1 s.2 w) (hk:vW s=sp.kAsk):Calls Tryz.prog 30 #[.pointer (some ⟨b,0,none⟩)] w fun e w'=>OpIs w0 b g n cap { kind:=10,node:=vN (sW s),name:=vW (sN (sW s)) } (sW (sN (sW s))) e w':=by
 have H0:=Lib.hid (OpR.start h)
 have s0:((bstr (vW s)).toList==[115,104,101,101,116])=false:=str_ne (by rw [hk];decide)
 have s1:((bstr (vW s)).toList==[118,105,101,119])=false:=str_ne (by rw [hk];decide)
 have s2:((bstr (vW s)).toList==[102,111,110,116])=false:=str_ne (by rw [hk];decide)
 have s3:((bstr (vW s)).toList==[99,111,108,111,114])=false:=str_ne (by rw [hk];decide)
 have s4:((bstr (vW s)).toList==[112,114,105,110,116])=false:=str_ne (by rw [hk];decide)
 have s5:((bstr (vW s)).toList==[119,111,114,100])=false:=str_ne (by rw [hk];decide)
 have s6:((bstr (vW s)).toList==[105,110,115,101,114,116])=false:=str_ne (by rw [hk];decide)
 have s7:((bstr (vW s)).toList==[114,101,109,111,118,101])=false:=str_ne (by rw [hk];decide)
 have s8:((bstr (vW s)).toList==[115,101,116])=false:=str_ne (by rw [hk];decide)
 have s9:((bstr (vW s)).toList==[117,110,115,101,116])=false:=str_ne (by rw [hk];decide)
 have s10:((bstr (vW s)).toList==[98,111,120])=false:=str_ne (by rw [hk];decide)
 have s11:((bstr (vW s)).toList==[97,115,107])=true:=str_eq hk
 clear h hk
 go_enter Tryz.func30,Tryz.ntmps30
 go_wp2_with (first
  | (have hgd:=H0;clear hgd;go_at_call 64;refine (stW _ _ b g n cap s H0.out.rd.base).mono ?_;rintro e w1 ⟨rfl,h1⟩;have H1:=Lib.hid (H0.out.read h1);clear h1 H0)
  | (have hgd:=H1;clear hgd;go_at_call 65;refine (stN _ _ b g n cap (sW s) H1.out.rd.base).mono ?_;rintro e w2 ⟨rfl,h2⟩;have H2:=Lib.hid (H1.out.read h2);clear h2 H1)
  | (have hgd:=H2;clear hgd;go_at_call 64;refine (stW _ _ b g n cap (sN (sW s)) H2.out.rd.base).mono ?_;rintro e w3 ⟨rfl,h3⟩;have H3:=Lib.hid (H2.out.read h3);clear h3 H2)
  | (have hgd:=H3;clear hgd;refine wpList_store_row rfl 28 _ _ rfl w.heap.size #[.int .i64 10,.int .i64 (vN (sW s)),.int .i64 0,.int .i64 0,.string (bstr (vW (sN (sW s)))),.string ⟨#[]⟩,.slice none 0 0,.int .i64 0,.int .i64 0,.int .i64 0,.int .i64 0,.int .i64 0,.string ⟨#[]⟩,.int .i64 0,.int .i64 0,.int .i64 0,.int .i64 0,.bool false] rfl rfl 28 _ H3.out.res size28' rfl (by simp [Value.oneCell']) ?_))
 exact ret_op rfl rfl (H3.out.fin _).2 rfl (opIs_plain rfl (H3.out.fin _).1)
set_option maxRecDepth 100000 in
set_option maxHeartbeats 4000000 in
theorem rop_Custom (w0 w:World) (b g n cap:Nat) (s:RSt) (h:RdR w0 b g n cap s.1 s.2 w) (hk:vW s=sp.kCustom):Calls Tryz.prog 30 #[.pointer (some ⟨b,0,none⟩)] w fun e w'=>OpIs w0 b g n cap { kind:=11,node:=vN (sW s),name:=vW (sN (sW s)) } (sW (sN (sW s))) e w':=by
 have H0:=Lib.hid (OpR.start h)
 have s0:((bstr (vW s)).toList==[115,104,101,101,116])=false:=str_ne (by rw [hk];decide)
 have s1:((bstr (vW s)).toList==[118,105,101,119])=false:=str_ne (by rw [hk];decide)
 have s2:((bstr (vW s)).toList==[102,111,110,116])=false:=str_ne (by rw [hk];decide)
 have s3:((bstr (vW s)).toList==[99,111,108,111,114])=false:=str_ne (by rw [hk];decide)
 have s4:((bstr (vW s)).toList==[112,114,105,110,116])=false:=str_ne (by rw [hk];decide)
 have s5:((bstr (vW s)).toList==[119,111,114,100])=false:=str_ne (by rw [hk];decide)
 have s6:((bstr (vW s)).toList==[105,110,115,101,114,116])=false:=str_ne (by rw [hk];decide)
 have s7:((bstr (vW s)).toList==[114,101,109,111,118,101])=false:=str_ne (by rw [hk];decide)
 have s8:((bstr (vW s)).toList==[115,101,116])=false:=str_ne (by rw [hk];decide)
 have s9:((bstr (vW s)).toList==[117,110,115,101,116])=false:=str_ne (by rw [hk];decide)
 have s10:((bstr (vW s)).toList==[98,111,120])=false:=str_ne (by rw [hk];decide)
 have s11:((bstr (vW s)).toList==[97,115,107])=false:=str_ne (by rw [hk];decide)
 have s12:((bstr (vW s)).toList==[99,117,115,116,111,109])=true:=str_eq hk
 clear h hk
 go_enter Tryz.func30,Tryz.ntmps30
 go_wp2_with (first
  | (have hgd:=H0;clear hgd;go_at_call 64;refine (stW _ _ b g n cap s H0.out.rd.base).mono ?_;rintro e w1 ⟨rfl,h1⟩;have H1:=Lib.hid (H0.out.read h1);clear h1 H0)
  | (have hgd:=H1;clear hgd;go_at_call 65;refine (stN _ _ b g n cap (sW s) H1.out.rd.base).mono ?_;rintro e w2 ⟨rfl,h2⟩;have H2:=Lib.hid (H1.out.read h2);clear h2 H1)
  | (have hgd:=H2;clear hgd;go_at_call 64;refine (stW _ _ b g n cap (sN (sW s)) H2.out.rd.base).mono ?_;rintro e w3 ⟨rfl,h3⟩;have H3:=Lib.hid (H2.out.read h3);clear h3 H2)
  | (have hgd:=H3;clear hgd;refine wpList_store_row rfl 28 _ _ rfl w.heap.size #[.int .i64 11,.int .i64 (vN (sW s)),.int .i64 0,.int .i64 0,.string (bstr (vW (sN (sW s)))),.string ⟨#[]⟩,.slice none 0 0,.int .i64 0,.int .i64 0,.int .i64 0,.int .i64 0,.int .i64 0,.string ⟨#[]⟩,.int .i64 0,.int .i64 0,.int .i64 0,.int .i64 0,.bool false] rfl rfl 28 _ H3.out.res size28' rfl (by simp [Value.oneCell']) ?_))
 exact ret_op rfl rfl (H3.out.fin _).2 rfl (opIs_plain rfl (H3.out.fin _).1)
set_option maxRecDepth 100000 in
set_option maxHeartbeats 4000000 in
theorem rop_Rules (w0 w:World) (b g n cap:Nat) (s:RSt) (h:RdR w0 b g n cap s.1 s.2 w) (hk:vW s=sp.kRules):Calls Tryz.prog 30 #[.pointer (some ⟨b,0,none⟩)] w fun e w'=>OpIs w0 b g n cap { kind:=12,node:=vN (sW s) } (sN (sW s)) e w':=by
 have H0:=Lib.hid (OpR.start h)
 have s0:((bstr (vW s)).toList==[115,104,101,101,116])=false:=str_ne (by rw [hk];decide)
 have s1:((bstr (vW s)).toList==[118,105,101,119])=false:=str_ne (by rw [hk];decide)
 have s2:((bstr (vW s)).toList==[102,111,110,116])=false:=str_ne (by rw [hk];decide)
 have s3:((bstr (vW s)).toList==[99,111,108,111,114])=false:=str_ne (by rw [hk];decide)
 have s4:((bstr (vW s)).toList==[112,114,105,110,116])=false:=str_ne (by rw [hk];decide)
 have s5:((bstr (vW s)).toList==[119,111,114,100])=false:=str_ne (by rw [hk];decide)
 have s6:((bstr (vW s)).toList==[105,110,115,101,114,116])=false:=str_ne (by rw [hk];decide)
 have s7:((bstr (vW s)).toList==[114,101,109,111,118,101])=false:=str_ne (by rw [hk];decide)
 have s8:((bstr (vW s)).toList==[115,101,116])=false:=str_ne (by rw [hk];decide)
 have s9:((bstr (vW s)).toList==[117,110,115,101,116])=false:=str_ne (by rw [hk];decide)
 have s10:((bstr (vW s)).toList==[98,111,120])=false:=str_ne (by rw [hk];decide)
 have s11:((bstr (vW s)).toList==[97,115,107])=false:=str_ne (by rw [hk];decide)
 have s12:((bstr (vW s)).toList==[99,117,115,116,111,109])=false:=str_ne (by rw [hk];decide)
 have s13:((bstr (vW s)).toList==[114,117,108,101,115])=true:=str_eq hk
 clear h hk
 go_enter Tryz.func30,Tryz.ntmps30
 go_wp2_with (first
  | (have hgd:=H0;clear hgd;go_at_call 64;refine (stW _ _ b g n cap s H0.out.rd.base).mono ?_;rintro e w1 ⟨rfl,h1⟩;have H1:=Lib.hid (H0.out.read h1);clear h1 H0)
  | (have hgd:=H1;clear hgd;go_at_call 65;refine (stN _ _ b g n cap (sW s) H1.out.rd.base).mono ?_;rintro e w2 ⟨rfl,h2⟩;have H2:=Lib.hid (H1.out.read h2);clear h2 H1)
  | (have hgd:=H2;clear hgd;refine wpList_store_row rfl 28 _ _ rfl w.heap.size #[.int .i64 12,.int .i64 (vN (sW s)),.int .i64 0,.int .i64 0,.string ⟨#[]⟩,.string ⟨#[]⟩,.slice none 0 0,.int .i64 0,.int .i64 0,.int .i64 0,.int .i64 0,.int .i64 0,.string ⟨#[]⟩,.int .i64 0,.int .i64 0,.int .i64 0,.int .i64 0,.bool false] rfl rfl 28 _ H2.out.res size28' rfl (by simp [Value.oneCell']) ?_))
 exact ret_op rfl rfl (H2.out.fin _).2 rfl (opIs_plain rfl (H2.out.fin _).1)
set_option maxRecDepth 100000 in
set_option maxHeartbeats 4000000 in
theorem rop_Count (w0 w:World) (b g n cap:Nat) (s:RSt) (h:RdR w0 b g n cap s.1 s.2 w) (hk:vW s=sp.kCount):Calls Tryz.prog 30 #[.pointer (some ⟨b,0,none⟩)] w fun e w'=>OpIs w0 b g n cap { kind:=15 } (sW s) e w':=by
 have H0:=Lib.hid (OpR.start h)
 have s0:((bstr (vW s)).toList==[115,104,101,101,116])=false:=str_ne (by rw [hk];decide)
 have s1:((bstr (vW s)).toList==[118,105,101,119])=false:=str_ne (by rw [hk];decide)
 have s2:((bstr (vW s)).toList==[102,111,110,116])=false:=str_ne (by rw [hk];decide)
 have s3:((bstr (vW s)).toList==[99,111,108,111,114])=false:=str_ne (by rw [hk];decide)
 have s4:((bstr (vW s)).toList==[112,114,105,110,116])=false:=str_ne (by rw [hk];decide)
 have s5:((bstr (vW s)).toList==[119,111,114,100])=false:=str_ne (by rw [hk];decide)
 have s6:((bstr (vW s)).toList==[105,110,115,101,114,116])=false:=str_ne (by rw [hk];decide)
 have s7:((bstr (vW s)).toList==[114,101,109,111,118,101])=false:=str_ne (by rw [hk];decide)
 have s8:((bstr (vW s)).toList==[115,101,116])=false:=str_ne (by rw [hk];decide)
 have s9:((bstr (vW s)).toList==[117,110,115,101,116])=false:=str_ne (by rw [hk];decide)
 have s10:((bstr (vW s)).toList==[98,111,120])=false:=str_ne (by rw [hk];decide)
 have s11:((bstr (vW s)).toList==[97,115,107])=false:=str_ne (by rw [hk];decide)
 have s12:((bstr (vW s)).toList==[99,117,115,116,111,109])=false:=str_ne (by rw [hk];decide)
 have s13:((bstr (vW s)).toList==[114,117,108,101,115])=false:=str_ne (by rw [hk];decide)
 have s14:((bstr (vW s)).toList==[99,111,117,110,116])=true:=str_eq hk
 clear h hk
 go_enter Tryz.func30,Tryz.ntmps30
 go_wp2_with (first
  | (have hgd:=H0;clear hgd;go_at_call 64;refine (stW _ _ b g n cap s H0.out.rd.base).mono ?_;rintro e w1 ⟨rfl,h1⟩;have H1:=Lib.hid (H0.out.read h1);clear h1 H0)
  | (have hgd:=H1;clear hgd;refine wpList_store_row rfl 28 _ _ rfl w.heap.size #[.int .i64 15,.int .i64 0,.int .i64 0,.int .i64 0,.string ⟨#[]⟩,.string ⟨#[]⟩,.slice none 0 0,.int .i64 0,.int .i64 0,.int .i64 0,.int .i64 0,.int .i64 0,.string ⟨#[]⟩,.int .i64 0,.int .i64 0,.int .i64 0,.int .i64 0,.bool false] rfl rfl 28 _ H1.out.res size28' rfl (by simp [Value.oneCell']) ?_))
 exact ret_op rfl rfl (H1.out.fin _).2 rfl (opIs_plain rfl (H1.out.fin _).1)
set_option maxRecDepth 100000 in
set_option maxHeartbeats 4000000 in
theorem rop_None (w0 w:World) (b g n cap:Nat) (s:RSt) (h:RdR w0 b g n cap s.1 s.2 w) (h0:vW s≠sp.kSheet) (h1:vW s≠sp.kView) (h2:vW s≠sp.kFont) (h3:vW s≠sp.kColor) (h4:vW s≠sp.kPrint) (h5:vW s≠sp.kWord) (h6:vW s≠sp.kInsert) (h7:vW s≠sp.kRemove) (h8:vW s≠sp.kSet) (h9:vW s≠sp.kUnset) (h10:vW s≠sp.kBox) (h11:vW s≠sp.kAsk) (h12:vW s≠sp.kCustom) (h13:vW s≠sp.kRules) (h14:vW s≠sp.kCount):Calls Tryz.prog 30 #[.pointer (some ⟨b,0,none⟩)] w fun e w'=>OpIs w0 b g n cap { } ((sW s).1,true) e w':=by
 have H0:=Lib.hid (OpR.start h)
 have s0:((bstr (vW s)).toList==[115,104,101,101,116])=false:=str_ne h0
 have s1:((bstr (vW s)).toList==[118,105,101,119])=false:=str_ne h1
 have s2:((bstr (vW s)).toList==[102,111,110,116])=false:=str_ne h2
 have s3:((bstr (vW s)).toList==[99,111,108,111,114])=false:=str_ne h3
 have s4:((bstr (vW s)).toList==[112,114,105,110,116])=false:=str_ne h4
 have s5:((bstr (vW s)).toList==[119,111,114,100])=false:=str_ne h5
 have s6:((bstr (vW s)).toList==[105,110,115,101,114,116])=false:=str_ne h6
 have s7:((bstr (vW s)).toList==[114,101,109,111,118,101])=false:=str_ne h7
 have s8:((bstr (vW s)).toList==[115,101,116])=false:=str_ne h8
 have s9:((bstr (vW s)).toList==[117,110,115,101,116])=false:=str_ne h9
 have s10:((bstr (vW s)).toList==[98,111,120])=false:=str_ne h10
 have s11:((bstr (vW s)).toList==[97,115,107])=false:=str_ne h11
 have s12:((bstr (vW s)).toList==[99,117,115,116,111,109])=false:=str_ne h12
 have s13:((bstr (vW s)).toList==[114,117,108,101,115])=false:=str_ne h13
 have s14:((bstr (vW s)).toList==[99,111,117,110,116])=false:=str_ne h14
 clear h h0 h1 h2 h3 h4 h5 h6 h7 h8 h9 h10 h11 h12 h13 h14
 go_enter Tryz.func30,Tryz.ntmps30
 go_wp2_with (first
  | (have hgd:=H0;clear hgd;go_at_call 64;refine (stW _ _ b g n cap s H0.out.rd.base).mono ?_;rintro e w1 ⟨rfl,h1⟩;have H1:=Lib.hid (H0.out.read h1);have c2:=H1.out.rd.c2;have z2:=H1.out.rd.z 2;have H2:=Lib.hid (H1.out.setBad true);clear h1 H0)
  | (have hgd:=H2;clear hgd;refine wpList_store_row rfl 28 _ _ rfl w.heap.size #[.int .i64 0,.int .i64 0,.int .i64 0,.int .i64 0,.string ⟨#[]⟩,.string ⟨#[]⟩,.slice none 0 0,.int .i64 0,.int .i64 0,.int .i64 0,.int .i64 0,.int .i64 0,.string ⟨#[]⟩,.int .i64 0,.int .i64 0,.int .i64 0,.int .i64 0,.bool false] rfl rfl 28 _ H2.out.res size28' rfl (by simp [Value.oneCell']) ?_))
 exact ret_op rfl rfl (H2.out.fin _).2 rfl (opIs_plain rfl (H2.out.fin _).1)
theorem LineR.step {w:World} {b:Nat} {s:ByteArray} {c:UInt8} {r:List UInt8} (h:LineR w b s (c :: r)):∃n:Nat,w.cell? ⟨b,1,none⟩=some (.int .i64 n)∧w.frozen? ⟨b,1,none⟩=false∧n<s.size∧LineR (w.setCell ⟨b,1,none⟩ (.int .i64 ((n:Int)+1))) b s r:=by
 obtain ⟨p,h1,h2⟩:=h
 refine ⟨p.length,by rw [Lib.cell_of_heap h2];rfl,blk_free h2 1,by have:=line_size h1;simp at this;omega,p++[c],by rw [h1];simp,?_⟩
 have:=blk_set h2 1 (.int .i64 ((p.length:Int)+1))
 rw [this]
 simp
structure WordsR (w:World) (b:Nat) (s:ByteArray) (u:List UInt8) (l:List (List UInt8×Bool)) (v:Value) (r:List UInt8) (wr:World):Prop where
 line:LineR wr b s r
 own:wr.ownsRow w.heap.size 71 2 v l.length (wdCells l)
 fr:Fr w wr b none
 hb:b<w.heap.size
 eq:sp.words u=(sp.words r).map fun m=>l++m
 len:l.length+r.length≤s.size
section
variable {w wr w':World} {b:Nat} {s:ByteArray} {u r r':List UInt8} {l:List (List UInt8×Bool)} {v:Value}
theorem WordsR.move (h:WordsR w b s u l v r wr) (hl:LineR w' b s r') (hf:Fr wr w' b none) (he:sp.words r=sp.words r') (hn:r'.length≤r.length):WordsR w b s u l v r' w' :=
 ⟨hl,ownsRow_fr h.own hf h.hb,h.fr.trans hf (Own.refl _ _),h.hb,by rw [h.eq,he],by have:=h.len;omega⟩
theorem WordsR.below (h:WordsR w b s u l v r wr) (hb:Below wr.heap.size wr w'):WordsR w b s u l v r w':=h.move (h.line.below hb) (Fr.of_below hb) rfl (Nat.le_refl _)
end
structure WordsM (w:World) (b:Nat) (s:ByteArray) (u:List UInt8) (l:List (List UInt8×Bool)) (v:Value) (p:List UInt8×Bool) (r:List UInt8) (wr:World):Prop where
 line:LineR wr b s r
 own:wr.ownsRow w.heap.size 71 2 v l.length (wdCells l)
 fr:Fr w wr b none
 hb:b<w.heap.size
 eq:sp.words u=if r.head?=none∨r.head?=some 32 then (sp.words r).map fun m=>l++p :: m else none
 len:l.length+1+r.length≤s.size
section
variable {w wr w':World} {b:Nat} {s:ByteArray} {u r r' t:List UInt8} {l:List (List UInt8×Bool)} {v:Value} {p:List UInt8×Bool}
theorem WordsR.quoted {r2:List UInt8} (h:WordsR w b s u l v (34 :: r2) wr) (hq:sp.qread r2=some (t,r')) (hl:LineR w' b s r') (hf:Fr wr w' b none):WordsM w b s u l v (t,true) r' w':=by
 have hn:=sp.qread_shorter _ _ hq
 refine ⟨hl,ownsRow_fr h.own hf h.hb,h.fr.trans hf (Own.refl _ _),h.hb,?_,by have:=h.len;simp only [List.length_cons] at this;simp only at hn;omega⟩
 rw [h.eq,words_q_some hq]
 split
 ·rw [Option.map_map];rfl
 ·rfl
theorem WordsR.plain {c:UInt8} {r2:List UInt8} (h:WordsR w b s u l v (c :: r2) wr) (h1:c≠32) (h2:c≠34) (hl:LineR w' b s ((c :: r2).dropWhile sp.wordB)) (hf:Fr wr w' b none):WordsM w b s u l v ((c :: r2).takeWhile sp.wordB,false) ((c :: r2).dropWhile sp.wordB) w':=by
 have hcw:sp.wordB c=true:=by simp [sp.wordB,h1,h2]
 have hle:((c :: r2).dropWhile sp.wordB).length≤r2.length:=by
  rw [List.dropWhile_cons,if_pos hcw]
  exact (List.dropWhile_sublist sp.wordB).length_le
 refine ⟨hl,ownsRow_fr h.own hf h.hb,h.fr.trans hf (Own.refl _ _),h.hb,?_,by have:=h.len;simp only [List.length_cons] at this;omega⟩
 rw [h.eq,words_p h1 h2]
 have hhd:((c :: r2).dropWhile sp.wordB).head?=none∨((c :: r2).dropWhile sp.wordB).head?=some 32∨((c :: r2).dropWhile sp.wordB).head?=some 34:=by
  have:=List.head?_dropWhile_not sp.wordB (c :: r2)
  cases he:((c :: r2).dropWhile sp.wordB).head? with
  | none=>exact .inl rfl
  | some x =>
   rw [he] at this
   have hx:sp.wordB x=false:=by simpa using this
   right
   by_cases q:x=32
   ·rw [q];exact .inl rfl
   ·right
    have:x=34:=by
     unfold sp.wordB at hx
     simp [q] at hx
     exact hx
    rw [this]
 rcases hhd with e | e | e
 ·rw [e];simp [Function.comp_def]
 ·rw [e];simp [Function.comp_def]
 ·rw [e];simp
theorem WordsM.lay {v':Value} (h:WordsM w b s u l v p r wr) (hown:w'.ownsRow w.heap.size 71 2 v' (l++[p]).length (wdCells (l++[p]))) (hg:(wr.alloc (.cells #[.string (bstr p.1),.bool p.2] 71)).grownBy w' v.ownBlock) (hh:r.head?=none∨r.head?=some 32):WordsR w b s u (l++[p]) v' r w':=by
 have hsz:=h.fr.size
 have old:∀k,k<w.heap.size→w'.heap[k]?=wr.heap[k]?:=fun k hk=>by
  rw [hg.block k (by simp;omega) (fun e=>by have:=h.own.lt k e.symm;omega),Below.heap_alloc _ _ _ (by omega)]
 refine ⟨h.line.keep (old b h.hb),hown,⟨hg.os.trans h.fr.os,hg.tape.trans h.fr.tape,hg.output.trans h.fr.output,?_,fun k hk hb hn=>(old k hk).trans (h.fr.block k hk hb hn)⟩,h.hb,?_,?_⟩
 ·have:=hg.size;simp at this;omega
 ·rw [h.eq,if_pos hh];simp
 ·have:=h.len;rw [List.length_append];simp;omega
theorem WordsM.after (h:WordsM w b s u l v p r wr) (hg:(wr.alloc (.cells #[.string (bstr p.1),.bool p.2] 71)).grownBy w' v.ownBlock):LineR w' b s r∧Fr w w' b none:=by
 have hsz:=h.fr.size
 have old:∀k,k<w.heap.size→w'.heap[k]?=wr.heap[k]?:=fun k hk=>by
  rw [hg.block k (by simp;omega) (fun e=>by have:=h.own.lt k e.symm;omega),Below.heap_alloc _ _ _ (by omega)]
 exact ⟨h.line.keep (old b h.hb),⟨hg.os.trans h.fr.os,hg.tape.trans h.fr.tape,hg.output.trans h.fr.output,by have:=hg.size;simp at this;omega,fun k hk hb hn=>(old k hk).trans (h.fr.block k hk hb hn)⟩⟩
theorem WordsM.bad (h:WordsM w b s u l v p r wr) (hh:¬(r.head?=none∨r.head?=some 32)):sp.words u=none:=by rw [h.eq,if_neg hh]
end
def WordsIs (w w':World) (u:List UInt8) (e:Ending):Prop:=match sp.words u with
 | some l=>∃v,e=.returned v∧w'.ownsRow w.heap.size 71 2 v l.length (wdCells l)
 | none=>e=.panicked bar
set_option maxRecDepth 100000 in
set_option maxHeartbeats 4000000 in
theorem words_any (w:World) (b:Nat) (s:ByteArray) (u:List UInt8) (h:LineR w b s u) (hs:s.size≤1099511627776):Calls Tryz.prog 26 #[.pointer (some ⟨b,0,none⟩)] w fun e w'=>WordsIs w w' u e∧Fr w w' b none:=by
 have HS:=Lib.hid hs
 have HR:Hid (WordsR w b s u [] (.slice none 0 0) u w):=Lib.hid ⟨h,World.ownsRow_nil _ _ _ _,Fr.refl _ _ _,h.lt,by cases sp.words u<;>simp,by have:=h.len;simpa using this⟩
 clear h hs
 go_enter Tryz.func26,Tryz.ntmps26
 go_wp2
 go_loopw [3] (fun v wr=>∃l r,WordsR w b s u l v r wr) (fun _ wr=>leftOf wr b s)
 case atStart=>exact ⟨[],u,HR.out⟩
 case round =>
  obtain ⟨l,r,hr⟩:=hrel
  have HR1:=Lib.hid hr
  clear hr HR
  obtain ⟨c0,o0,hpv,hc0,ho0⟩:=peekV_ex r
  have HPV:=Lib.hid hpv;have HC0:=Lib.hid hc0;have HO0:=Lib.hid ho0
  have HP:=Lib.hid (peek_any wr b s r HR1.out.line)
  clear hpv hc0 ho0
  go_wp2_with (go_at_call 46;refine HP.out.mono ?_;rintro e w1 ⟨rfl,hb1⟩;rw [HPV.out])
  have HR2:=Lib.hid (HR1.out.below hb1)
  have HLF:Hid (leftOf wr b s=r.length):=Lib.hid HR1.out.line.left
  clear HR1 HP hb1
  obtain ⟨wo,hwo⟩:∃wo,wo=wr:=⟨_,rfl⟩
  subst hwo
  go_loopw [4,5] (fun c ok w2=>∃r1,WordsR w b s u l u3 r1 w2∧r1.length≤r.length∧c=.int .u8 (peekC r1)∧ok=.bool (peekB r1)) (fun _ _ w2=>leftOf w2 b s)
  case atStart=>exact ⟨r,HR2.out,Nat.le_refl _,by rw [HC0.out],by rw [HO0.out]⟩
  case round =>
   obtain ⟨r1,hr,hle,rfl,rfl⟩:=hrel
   have HR3:=Lib.hid hr;have HLE:=Lib.hid hle
   have HP:=Lib.hid (peek_any wr b s r1 HR3.out.line)
   clear hr hle HR2 HC0 HO0 HPV
   match r1 with
   | [] =>
    simp only [peekC,peekB]
    have HW:Hid (sp.words u=some l):=Lib.hid (by rw [HR3.out.eq,sp.words_nil];simp)
    go_wp2_with (go_at_call 46;refine HP.out.mono ?_;rintro e w2 ⟨rfl,hb2⟩;simp only [peekV])
    go_ret
    have HR4:=HR3.out.below hb2
    refine ⟨?_,HR4.fr⟩
    unfold WordsIs
    rw [HW.out]
    exact ⟨_,rfl,HR4.own⟩
   | c :: r2 =>
    simp only [peekC,peekB]
    by_cases e32:c=32
    ·subst e32
     obtain ⟨n,d1,z1,hn,hl2⟩:=HR3.out.line.step
     have hn63:(n:Int)≤1099511627776:=by have:=HS.out;omega
     have HR4:=Lib.hid (HR3.out.move hl2 (Fr.set 1 _) (sp.words_space r2) (by simp))
     have HP2:=Lib.hid (peek_any _ b s _ HR4.out.line)
     have HLN:Hid (r2.length≤r.length):=Lib.hid (by have:=HLE.out;simp at this;omega)
     obtain ⟨c1',o1,hpv,hc1,ho1⟩:=peekV_ex r2
     have HPV:=Lib.hid hpv;have HC0:=Lib.hid hc1;have HO0:=Lib.hid ho1
     clear hpv hc1 ho1 hl2 hn HP
     go_wp2_with (go_at_call 46;refine HP2.out.mono ?_;rintro e w2 ⟨rfl,hb2⟩;rw [HPV.out])
     have HR5:=HR4.out.below hb2
     refine ⟨⟨r2,HR5,HLN.out,by rw [HC0.out];rfl,by rw [HO0.out];rfl⟩,?_⟩
     rw [HR5.line.left,HR3.out.line.left]
     simp
    ·have t1':((c.toNat:Int)==32)=false:=u8ne c 32 e32
     by_cases e34:c=34
     ·subst e34
      cases hq:sp.qread r2 with
      | none =>
       have HW:Hid (sp.words u=none):=Lib.hid (by rw [HR3.out.eq,words_q_none hq];rfl)
       have HQ:=Lib.hid hq
       clear hq
       go_wp2_with (first
        | (go_at_call 46;refine HP.out.mono ?_;rintro e w2 ⟨rfl,hb2⟩;simp only [peekV];have HR4:=Lib.hid (HR3.out.below hb2);clear HP hb2)
        | (go_at_call 47;refine (text_word _ b s 34 r2 HR4.out.line HS.out).mono ?_;rintro e w3 ⟨he,hf3⟩;unfold QIs at he;rw [HQ.out] at he;subst he))
       exact ⟨rfl,by unfold WordsIs;rw [HW.out],HR4.out.fr.trans hf3 (Own.refl _ _)⟩
      | some q =>
       obtain ⟨t,r3⟩:=q
       have HQ:=Lib.hid hq
       clear hq
       go_wp2_with (first
        | (go_at_call 46;refine HP.out.mono ?_;rintro e w2 ⟨rfl,hb2⟩;simp only [peekV];have HR4:=Lib.hid (HR3.out.below hb2);clear HP hb2)
        | (go_at_call 47;refine (text_word _ b s 34 r2 HR4.out.line HS.out).mono ?_;rintro e w3 ⟨he,hf3⟩;unfold QIs at he;rw [HQ.out] at he;obtain ⟨rfl,hl3⟩:=he;have HM:=Lib.hid (HR4.out.quoted HQ.out hl3 hf3);clear hl3 hf3)
        | (at_builtin;refine wpl_append_wd wt58 rfl _ _ rfl w.heap.size l _ rfl (HM.out.own.alloc _) w3.heap.size (t,true) (0,0) rfl (heap_alloc_at _ _) (by have:=HM.out.len;have:=HS.out;omega) (by have:=HM.out.fr.size;simp;omega) ?_;intro v' w4 hown hg _))
       have HN:Hid (r3.length≤r2.length):=Lib.hid (by have:=sp.qread_shorter _ _ HQ.out;simp only at this;omega)
       have HO:=Lib.hid hown;have HG:Hid ((w3.alloc (.cells #[.string (bstr (t,true).1),.bool (t,true).2] 71)).grownBy w4 u3.ownBlock):=Lib.hid hg
       have HA:=Lib.hid (HM.out.after HG.out)
       have HP3:=Lib.hid (peek_any _ b s _ HA.out.1)
       clear hown hg
       match r3 with
       | [] =>
        go_wp2_with (go_at_call 46;refine HP3.out.mono ?_;rintro e w5 ⟨rfl,hb5⟩;simp only [peekV])
        have HR6:=(HM.out.lay HO.out HG.out (Or.inl rfl)).below hb5
        refine ⟨⟨_,_,HR6⟩,?_⟩
        rw [HR6.line.left,HLF.out]
        have:=HLE.out
        simp only [List.length_cons,List.length_nil] at this ⊢
        omega
       | c4 :: r4 =>
        by_cases e4:c4=32
        ·subst e4
         go_wp2_with (go_at_call 46;refine HP3.out.mono ?_;rintro e w5 ⟨rfl,hb5⟩;simp only [peekV])
         have HR6:=(HM.out.lay HO.out HG.out (Or.inr rfl)).below hb5
         refine ⟨⟨_,_,HR6⟩,?_⟩
         rw [HR6.line.left,HLF.out]
         have:=HLE.out
         have:=HN.out
         simp only [List.length_cons] at *
         omega
        ·have t4:((c4.toNat:Int)==32)=false:=u8ne c4 32 e4
         have t4n:((c4.toNat:Int) != 32)=true:=by rw [bne,t4];rfl
         have HW:Hid (sp.words u=none):=Lib.hid (HM.out.bad (by simp [e4]))
         clear e4
         go_wp2_with (go_at_call 46;refine HP3.out.mono ?_;rintro e w5 ⟨rfl,hb5⟩;simp only [peekV])
         exact ⟨rfl,by unfold WordsIs;rw [HW.out];exact rfl,HA.out.2.trans (Fr.of_below hb5) (Own.refl _ _)⟩
     ·have t2':((c.toNat:Int)==34)=false:=u8ne c 34 e34
      obtain ⟨t,ht⟩:∃t,t=(c :: r2).takeWhile sp.wordB:=⟨_,rfl⟩
      obtain ⟨r3,hr3⟩:∃r3,r3=(c :: r2).dropWhile sp.wordB:=⟨_,rfl⟩
      have HC:=Lib.hid (And.intro e32 e34)
      have HN:Hid (r3.length≤r2.length):=Lib.hid (by
       have hcw:sp.wordB c=true:=by simp [sp.wordB,e32,e34]
       rw [hr3,List.dropWhile_cons,if_pos hcw]
       exact (List.dropWhile_sublist sp.wordB).length_le)
      have HT:=Lib.hid ht;have HRR:=Lib.hid hr3
      have HPW:Hid (∀W,LineR W b s (c :: r2)→Calls Tryz.prog 48 #[.pointer (some ⟨b,0,none⟩)] W fun e w'=>e=.returned (.string (bstr t))∧LineR w' b s r3∧Fr W w' b none):=Lib.hid (fun W hW=>by rw [ht,hr3];exact plain_word W b s _ hW HS.out)
      clear ht hr3 e32 e34
      go_wp2_with (first
        | (go_at_call 46;refine HP.out.mono ?_;rintro e w2 ⟨rfl,hb2⟩;simp only [peekV];have HR4:=Lib.hid (HR3.out.below hb2);clear HP hb2)
        | (go_at_call 48;refine (HPW.out _ HR4.out.line).mono ?_;rintro e w3 ⟨rfl,hl3,hf3⟩;have HM:Hid (WordsM w b s u l u3 (t,false) r3 w3):=Lib.hid (by rw [HT.out,HRR.out];exact HR4.out.plain HC.out.1 HC.out.2 (by rw [←HRR.out];exact hl3) hf3);clear hl3 hf3)
        | (at_builtin;refine wpl_append_wd wt58 rfl _ _ rfl w.heap.size l _ rfl (HM.out.own.alloc _) w3.heap.size (t,false) (0,0) rfl (heap_alloc_at _ _) (by have:=HM.out.len;have:=HS.out;omega) (by have:=HM.out.fr.size;simp;omega) ?_;intro v' w4 hown hg _))
      have HO:=Lib.hid hown;have HG:Hid ((w3.alloc (.cells #[.string (bstr (t,false).1),.bool (t,false).2] 71)).grownBy w4 u3.ownBlock):=Lib.hid hg
      have HA:=Lib.hid (HM.out.after HG.out)
      have HP3:=Lib.hid (peek_any _ b s _ HA.out.1)
      clear hown hg
      match r3 with
      | [] =>
       go_wp2_with (go_at_call 46;refine HP3.out.mono ?_;rintro e w5 ⟨rfl,hb5⟩;simp only [peekV])
       have HR6:=(HM.out.lay HO.out HG.out (Or.inl rfl)).below hb5
       refine ⟨⟨_,_,HR6⟩,?_⟩
       rw [HR6.line.left,HLF.out]
       have:=HLE.out
       simp only [List.length_cons,List.length_nil] at this ⊢
       omega
      | c4 :: r4 =>
       by_cases e4:c4=32
       ·subst e4
        go_wp2_with (go_at_call 46;refine HP3.out.mono ?_;rintro e w5 ⟨rfl,hb5⟩;simp only [peekV])
        have HR6:=(HM.out.lay HO.out HG.out (Or.inr rfl)).below hb5
        refine ⟨⟨_,_,HR6⟩,?_⟩
        rw [HR6.line.left,HLF.out]
        have:=HLE.out
        have:=HN.out
        simp only [List.length_cons] at *
        omega
       ·have t4:((c4.toNat:Int)==32)=false:=u8ne c4 32 e4
        have t4n:((c4.toNat:Int) != 32)=true:=by rw [bne,t4];rfl
        have HW:Hid (sp.words u=none):=Lib.hid (HM.out.bad (by simp [e4]))
        clear e4
        go_wp2_with (go_at_call 46;refine HP3.out.mono ?_;rintro e w5 ⟨rfl,hb5⟩;simp only [peekV])
        exact ⟨rfl,by unfold WordsIs;rw [HW.out];exact rfl,HA.out.2.trans (Fr.of_below hb5) (Own.refl _ _)⟩
/-! ### The map of the rows, with its second answer -/
theorem MapIs.lookOk_some {w:World} {B:Nat} {f:List (List UInt8×Rw)} (h:MapIs w B f) {x:List UInt8} {b:Rw} (hx:(x,b)∈f):(Instr.lookup 67 (.map (some B)) (.string (bstr x)) true).run Tryz.prog w=.ok (.tuple #[b.v,.bool true]) w:=by
 obtain ⟨D,h1,hr⟩:=h.own
 obtain ⟨v,ps,hrun,hv⟩:=h1.look_ok keyed Tryz.underlying67 (Tryz.zeroValue65 w) (zd:=.nil) (zp:=[]) rfl (keyOf_ok (h.wf _ hx))
 have hh:Maps.has D (KL x)=true:=(hr.has _).2 ⟨(x,b),hx,rfl⟩
 rw [hr.at_ x b hx] at hv
 rw [hrun,rowE_at hv,hh]
theorem MapIs.lookOk_none {w:World} {B:Nat} {f:List (List UInt8×Rw)} (h:MapIs w B f) {x:List UInt8} (hi:x.length≤maxLen) (hx:x∉f.map (·.1)):(Instr.lookup 67 (.map (some B)) (.string (bstr x)) true).run Tryz.prog w=.ok (.tuple #[noRow,.bool false]) w:=by
 obtain ⟨D,h1,hr⟩:=h.own
 obtain ⟨v,ps,hrun,hv⟩:=h1.look_ok keyed Tryz.underlying67 (Tryz.zeroValue65 w) (zd:=.nil) (zp:=[]) rfl (keyOf_ok hi)
 have hno:Maps.has D (KL x)=false:=by
  cases hh:Maps.has D (KL x) with
  | false=>rfl
  | true =>
   obtain ⟨p,hp,e⟩:=(hr.has _).1 hh
   simp only [KL,Lit.string.injEq] at e
   exact absurd (e ▸ List.mem_map_of_mem (f:=(·.1)) hp) hx
 rw [Maps.atKey_of_not_has hno] at hv
 rw [hrun,rowE_nil hv,hno]
/-! ### The rows' functions in one law -/
theorem row_any (name:List UInt8) (r:Rw) (hr:(name,r)∈rowsL) (a:List (List UInt8×Bool)) (hn:(a.length:Int)=r.n) (ad:Option Addr) (c:Nat) (w0 w:World) (B g:Nat) (had:0<a.length→ad=some ⟨g,2,none⟩) (hl:∀p∈a,p.1.length≤1099511627776) (h:RowS w0 B g a (zeroC r.k) w) :
  Calls Tryz.prog r.g #[.pointer (some ⟨B,0,none⟩),.slice ad a.length c] w fun e w'=>RowIs w0 B (sp.opS name a) e w':=by
 simp only [rowsL,List.mem_cons,List.not_mem_nil,or_false,Prod.mk.injEq] at hr
 rcases hr with ⟨rfl,rfl⟩ | ⟨rfl,rfl⟩ | ⟨rfl,rfl⟩ | ⟨rfl,rfl⟩ | ⟨rfl,rfl⟩ | ⟨rfl,rfl⟩ | ⟨rfl,rfl⟩ | ⟨rfl,rfl⟩ | ⟨rfl,rfl⟩ | ⟨rfl,rfl⟩ | ⟨rfl,rfl⟩ | ⟨rfl,rfl⟩ | ⟨rfl,rfl⟩ | ⟨rfl,rfl⟩ | ⟨rfl,rfl⟩
 all_goals simp only at hn h
 ·obtain ⟨x,y,rfl⟩:∃x y,a = [x,y]:=by
   match a,hn with
   | [x,y],_=>exact ⟨x,y,rfl⟩
  obtain rfl:=had (by simp)
  exact row_sheet 1 w0 w B g c x y (hl _ (by simp)) h
 ·obtain ⟨x,y,rfl⟩:∃x y,a = [x,y]:=by
   match a,hn with
   | [x,y],_=>exact ⟨x,y,rfl⟩
  obtain rfl:=had (by simp)
  exact row_view 2 w0 w B g c x y (hl _ (by simp)) (hl _ (by simp)) h
 ·obtain ⟨x,rfl⟩:∃x,a = [x]:=by
   match a,hn with
   | [x],_=>exact ⟨x,rfl⟩
  obtain rfl:=had (by simp)
  exact (row_size 3 w0 w B g c x (hl _ (by simp)) h).mono fun e w' q=>by
   have e2:(sp.wFrac x).map (fun q=>({ kind:=3,w:=q }:sp.Op))=(sp.wFrac x).bind fun p=>some { kind:=3,w:=p }:=by cases sp.wFrac x<;>rfl
   rw [e2] at q
   exact q
 ·obtain ⟨x,rfl⟩:∃x,a = [x]:=by
   match a,hn with
   | [x],_=>exact ⟨x,rfl⟩
  obtain rfl:=had (by simp)
  exact (row_size 13 w0 w B g c x (hl _ (by simp)) h).mono fun e w' q=>by
   have e2:(sp.wFrac x).map (fun q=>({ kind:=13,w:=q }:sp.Op))=(sp.wFrac x).bind fun p=>some { kind:=13,w:=p }:=by cases sp.wFrac x<;>rfl
   rw [e2] at q
   exact q
 ·obtain ⟨x,rfl⟩:∃x,a = [x]:=by
   match a,hn with
   | [x],_=>exact ⟨x,rfl⟩
  obtain rfl:=had (by simp)
  exact row_print 14 w0 w B g c x h
 ·obtain ⟨x,y,rfl⟩:∃x y,a = [x,y]:=by
   match a,hn with
   | [x,y],_=>exact ⟨x,y,rfl⟩
  obtain rfl:=had (by simp)
  exact row_word 4 w0 w B g c x y h
 ·obtain ⟨x,y,z,rfl⟩:∃x y z,a = [x,y,z]:=by
   match a,hn with
   | [x,y,z],_=>exact ⟨x,y,z,rfl⟩
  obtain rfl:=had (by simp)
  exact row_insert 5 w0 w B g c x y z h
 ·obtain ⟨x,rfl⟩:∃x,a = [x]:=by
   match a,hn with
   | [x],_=>exact ⟨x,rfl⟩
  obtain rfl:=had (by simp)
  exact (row_node 6 w0 w B g c x h).mono fun e w' q=>by
   have e2:(sp.wNum x).map (fun n=>({ kind:=6,node:=n }:sp.Op))=(sp.wNum x).bind fun n=>some { kind:=6,node:=n }:=by cases sp.wNum x<;>rfl
   rw [e2] at q
   exact q
 ·obtain ⟨x,y,z,rfl⟩:∃x y z,a = [x,y,z]:=by
   match a,hn with
   | [x,y,z],_=>exact ⟨x,y,z,rfl⟩
  obtain rfl:=had (by simp)
  exact row_set 7 w0 w B g c x y z h
 ·obtain ⟨x,y,rfl⟩:∃x y,a = [x,y]:=by
   match a,hn with
   | [x,y],_=>exact ⟨x,y,rfl⟩
  obtain rfl:=had (by simp)
  exact row_named 8 w0 w B g c x y h
 ·obtain ⟨x,y,z,u,v,rfl⟩:∃x y z u v,a = [x,y,z,u,v]:=by
   match a,hn with
   | [x,y,z,u,v],_=>exact ⟨x,y,z,u,v,rfl⟩
  obtain rfl:=had (by simp)
  exact row_box 9 w0 w B g c x y z u v (hl _ (by simp)) (hl _ (by simp)) h
 ·obtain ⟨x,y,rfl⟩:∃x y,a = [x,y]:=by
   match a,hn with
   | [x,y],_=>exact ⟨x,y,rfl⟩
  obtain rfl:=had (by simp)
  exact row_named 10 w0 w B g c x y h
 ·obtain ⟨x,y,rfl⟩:∃x y,a = [x,y]:=by
   match a,hn with
   | [x,y],_=>exact ⟨x,y,rfl⟩
  obtain rfl:=had (by simp)
  exact row_named 11 w0 w B g c x y h
 ·obtain ⟨x,rfl⟩:∃x,a = [x]:=by
   match a,hn with
   | [x],_=>exact ⟨x,rfl⟩
  obtain rfl:=had (by simp)
  exact (row_node 12 w0 w B g c x h).mono fun e w' q=>by
   have e2:(sp.wNum x).map (fun n=>({ kind:=12,node:=n }:sp.Op))=(sp.wNum x).bind fun n=>some { kind:=12,node:=n }:=by cases sp.wNum x<;>rfl
   rw [e2] at q
   exact q
 ·obtain rfl:a = []:=List.length_eq_zero_iff.1 (by omega)
  exact row_count 15 w0 w B g c ad h
theorem line_nl {s:List UInt8} (h:10∈s):sp.lineS s=none:=by unfold sp.lineS;rw [if_pos h]
theorem line_silent {s:List UInt8} (h:10∉s) (h2:sp.silentB s=true):sp.lineS s=some none:=by unfold sp.lineS;rw [if_neg h,if_pos h2]
theorem line_words {s:List UInt8} (h:10∉s) (h2:sp.silentB s=false):sp.lineS s=match sp.words s with | some ((w,false) :: a)=>(sp.opS w a).map some | _=>none:=by
 unfold sp.lineS
 rw [if_neg h,if_neg (by rw [h2];decide)]
 rfl
theorem words_some_ne {s:List UInt8} (h2:sp.silentB s=false):sp.words s≠some []:=by
 intro e
 rw [sp.words.eq_def] at e
 split at e
 ·rename_i h
  unfold sp.silentB at h2
  rw [h] at h2
  cases h2
 ·split at e
  ·split at e
   ·cases e
   ·split at e
    ·rw [Option.map_eq_some_iff] at e
     obtain ⟨_,_,h⟩:=e
     cases h
    ·cases e
  ·split at e
   ·cases e
   ·rw [Option.map_eq_some_iff] at e
    obtain ⟨_,_,h⟩:=e
    cases h
theorem op_unknown {name:List UInt8} (h:name∉rowsL.map (·.1)) (a:List (List UInt8×Bool)):sp.opS name a=none:=by
 simp only [rowsL,List.map_cons,List.map_nil,List.mem_cons,List.not_mem_nil,or_false,not_or] at h
 obtain ⟨h1,h2,h3,h4,h5,h6,h7,h8,h9,h10,h11,h12,h13,h14,h15⟩:=h
 unfold sp.opS
 rw [if_neg h1,if_neg h2,if_neg h3,if_neg h4,if_neg h5,if_neg h6,if_neg h7,if_neg h8,if_neg h9,if_neg h10,if_neg h11,if_neg h12,if_neg h13,if_neg h14,if_neg h15]
theorem op_count {name:List UInt8} {r:Rw} (hr:(name,r)∈rowsL) {a:List (List UInt8×Bool)} (hn:(a.length:Int)≠r.n):sp.opS name a=none:=by
 simp only [rowsL,List.mem_cons,List.not_mem_nil,or_false,Prod.mk.injEq] at hr
 rcases hr with ⟨rfl,rfl⟩ | ⟨rfl,rfl⟩ | ⟨rfl,rfl⟩ | ⟨rfl,rfl⟩ | ⟨rfl,rfl⟩ | ⟨rfl,rfl⟩ | ⟨rfl,rfl⟩ | ⟨rfl,rfl⟩ | ⟨rfl,rfl⟩ | ⟨rfl,rfl⟩ | ⟨rfl,rfl⟩ | ⟨rfl,rfl⟩ | ⟨rfl,rfl⟩ | ⟨rfl,rfl⟩ | ⟨rfl,rfl⟩
 all_goals
  match a,hn with
  | [],hn=>first | rfl | exact absurd rfl hn
  | [_],hn=>first | rfl | exact absurd rfl hn
  | [_,_],hn=>first | rfl | exact absurd rfl hn
  | [_,_,_],hn=>first | rfl | exact absurd rfl hn
  | [_,_,_,_],hn=>first | rfl | exact absurd rfl hn
  | [_,_,_,_,_],hn=>first | rfl | exact absurd rfl hn
  | _ :: _ :: _ :: _ :: _ :: _ :: _,hn=>rfl
def capL (n:Nat):Array Value:=#[.pointer (some ⟨n,0,none⟩),.pointer (some ⟨n+1,0,none⟩),.pointer (some ⟨n+2,0,none⟩)]
def LineIs (B:Nat) (s:List UInt8) (w':World) (e:Ending):Prop:=match sp.lineS s with
 | none=>e=.returned (.tuple #[.agg (zeroC 0),.bool false,.int .i64 12])
 | some none=>e=.returned (.tuple #[.agg (zeroC 0),.bool false,.int .i64 0])
 | some (some o)=>∃tv,e=.returned (.tuple #[.agg (opCells o tv),.bool true,.int .i64 0])∧RowAt w'.heap.size w' tv o.text.length (Lib.byteCells o.text)∧∀x,tv.ownBlock=some x→B≤x
theorem und4':Tryz.prog.underlying 4=some .bool:=by kernel_rfl
theorem und29:Tryz.prog.underlying 29=some (.int .i64):=by kernel_rfl
set_option maxRecDepth 100000 in
theorem results_line {n:Nat} {tmps:Array Value} {W:World} {cs:Array Value} {sy:Bool} {er:Int} (hr:Res n (n+1) (n+2) cs sy er W) (hc:cs.size=18) (h2:tmps.getD 2 undef=.pointer (some ⟨n,0,none⟩)) (h3:tmps.getD 3 undef=.pointer (some ⟨n+1,0,none⟩)) (h4:tmps.getD 4 undef=.pointer (some ⟨n+2,0,none⟩)) :
  (results Tryz.f9 tmps).run Tryz.prog W=.ok (.tuple #[.agg cs,.bool sy,.int .i64 er]) W:=by
 have hl:=run_loadVar_row (P:=Tryz.prog) W n 28 28 cs (0,0) _ hr.op Tryz.underlying28 rfl (by rw [hc];exact size28')
 obtain ⟨c3,c4,_,_⟩:=hr.cells
 have e:Tryz.f9.results=#[.cell 2 28,.cell 3 4,.cell 4 29]:=rfl
 have l3:(loadVar 4 ⟨n+1,0,none⟩).run Tryz.prog W=.ok (.bool sy) W:=by
  unfold loadVar
  simp [Sem.run_bind,run_isAgg_plain und4' rfl,go_sem,c3,Result.andThen]
 have l4:(loadVar 29 ⟨n+2,0,none⟩).run Tryz.prog W=.ok (.int .i64 er) W:=by
  unfold loadVar
  simp [Sem.run_bind,run_isAgg_plain und29 rfl,go_sem,c4,Result.andThen]
 have h2':tmps[2]?.getD undef=.pointer (some ⟨n,0,none⟩):=by simpa using h2
 have h3':tmps[3]?.getD undef=.pointer (some ⟨n+1,0,none⟩):=by simpa using h3
 have h4':tmps[4]?.getD undef=.pointer (some ⟨n+2,0,none⟩):=by simpa using h4
 simp only [results,e]
 simp [Sem.run_bind,Result.andThen,h2',h3',h4',asAddr,hl,l3,l4]
structure SlotsL (n:Nat) (tmps:Array Value):Prop where
 s2:tmps.getD 2 undef=.pointer (some ⟨n,0,none⟩)
 s3:tmps.getD 3 undef=.pointer (some ⟨n+1,0,none⟩)
 s4:tmps.getD 4 undef=.pointer (some ⟨n+2,0,none⟩)
def defL (n:Nat):List Deferred:=[{ target:=.fn (.func 22) (capL n),args:=#[] }]
theorem ne12 (n:Nat):n≠n+1∧n≠n+2∧n+1≠n+2:=by omega
theorem leave_ok {n:Nat} {tmps:Array Value} {W:World} {cs:Array Value} {sy:Bool} {er:Int} {R:Ending→World→Prop} (hr:Res n (n+1) (n+2) cs sy er W) (hc:cs.size=18) (hs:SlotsL n tmps) (hR:R (.returned (.tuple #[.agg cs,.bool sy,.int .i64 er])) W) :
  Leaves Tryz.prog Tryz.f9 tmps R (defL n) .returning W:=by
 refine leaves_cons (f:=22) (args:=capL n) (by simp) (by simp [go_sem,capL]) ?_
 refine (line_idle _ _ _ W).mono ?_
 rintro e u' w'' ⟨rfl,rfl,rfl⟩
 exact ⟨_,results_line hr hc hs.s2 hs.s3 hs.s4,hR⟩
theorem leave_bar {n:Nat} {tmps:Array Value} {W:World} {cs:Array Value} {sy:Bool} {er:Int} {R:Ending→World→Prop} (hr:Res n (n+1) (n+2) cs sy er W) (hc:cs.size=18) (hs:SlotsL n tmps) (hR:∀W',Below n W W'→R (.returned (.tuple #[.agg (zeroC 0),.bool false,.int .i64 12])) W') :
  Leaves Tryz.prog Tryz.f9 tmps R (defL n) (.panicking bar) W:=by
 obtain ⟨n1,n2,n3⟩:=ne12 n
 refine leaves_cons (f:=22) (args:=capL n) (by simp) (by simp [go_sem,capL]) ?_
 refine (line_bar n (n+1) (n+2) cs sy er W hr hc n1 n2 n3).mono ?_
 rintro e u' w'' ⟨rfl,rfl,hr2,hb⟩
 exact ⟨_,results_line hr2 rfl hs.s2 hs.s3 hs.s4,hR _ (hb n (Nat.le_refl _) (by omega) (by omega))⟩
structure PanSt (n:Nat) (w:World) (c:List PanicEntry) (a:Act) (W:World):Prop where
 bar:c=bar
 defers:a.defers=defL n
 slots:SlotsL n a.tmps
 res:∃cs sy er,cs.size=18∧Res n (n+1) (n+2) cs sy er W
 bel:Below w.heap.size w W
theorem slot_put (a:Act) (d i:Nat) (v:Value) (h:d≠i):(a.put (some d) v).tmps.getD i undef=a.tmps.getD i undef:=by
 show (a.tmps.setIfInBounds d v).getD i undef=_
 simp [Array.getElem?_setIfInBounds,h]
theorem PanSt.unput {n:Nat} {w:World} {c:List PanicEntry} {a:Act} {W:World} {d:Nat} {v:Value} (h:PanSt n w c (a.put (some d) v) W) (hd:4<d):PanSt n w c a W :=
 ⟨h.bar,h.defers,⟨by rw [←slot_put a d 2 v (by omega)];exact h.slots.s2,by rw [←slot_put a d 3 v (by omega)];exact h.slots.s3,by rw [←slot_put a d 4 v (by omega)];exact h.slots.s4⟩,h.res,h.bel⟩
def PanQ (PS:List PanicEntry→Act→World→Prop) (Q:Exit→Act→World→Prop):Exit→Act→World→Prop
 | .panic c,a,w=>PS c a w
 | e,a,w=>Q e a w
theorem wp_pan {P:Program} {c:Code} {PS:List PanicEntry→Act→World→Prop} {Q:Exit→Act→World→Prop} {a:Act} {w:World} (hp:∀c a W,PS c a W→Q (.panic c) a W) (h:c.wp P (PanQ PS Q) a w):c.wp P Q a w :=
 wp_mono h fun e a W hX=>by
  cases e with
  | panic c=>exact hp c a W hX
  | normal=>exact hX
  | ret=>exact hX
  | exit _=>exact hX
  | goto _=>exact hX
  | outgrown=>exact hX
theorem PanQ.normal {PS:List PanicEntry→Act→World→Prop} {Q:Exit→Act→World→Prop} {a:Act} {w:World} (h:Q .normal a w):PanQ PS Q .normal a w:=h
theorem lineIs_none {B:Nat} {s:List UInt8} (h:sp.lineS s=none) (W:World):LineIs B s W (.returned (.tuple #[.agg (zeroC 0),.bool false,.int .i64 12])):=by unfold LineIs;rw [h]
theorem lineIs_silent {B:Nat} {s:List UInt8} (h:sp.lineS s=some none) (W:World):LineIs B s W (.returned (.tuple #[.agg (zeroC 0),.bool false,.int .i64 0])):=by unfold LineIs;rw [h]
def startL (w:World):World:=((w.alloc (.cells (zeroC 0) 28)).alloc (.cells #[.bool false] 4)).alloc (.cells #[.int .i64 0] 29)
theorem start_res (w:World):Res w.heap.size (w.heap.size+1) (w.heap.size+2) (zeroC 0) false 0 (startL w)∧Below w.heap.size w (startL w)∧(startL w).heap.size=w.heap.size+3:=by
 have h1:=heap_alloc_at w (.cells (zeroC 0) 28)
 have h2:=heap_alloc_at (w.alloc (.cells (zeroC 0) 28)) (.cells #[.bool false] 4)
 have h3:=heap_alloc_at ((w.alloc (.cells (zeroC 0) 28)).alloc (.cells #[.bool false] 4)) (.cells #[.int .i64 0] 29)
 have e1:(w.alloc (.cells (zeroC 0) 28)).heap.size=w.heap.size+1:=by simp
 have e2:((w.alloc (.cells (zeroC 0) 28)).alloc (.cells #[.bool false] 4)).heap.size=w.heap.size+2:=by simp
 rw [e1] at h2
 rw [e2] at h3
 refine ⟨⟨heap_old _ _ _ (heap_old _ _ _ h1),heap_old _ _ _ h2,h3⟩,(((below_new w _).alloc (by simp) _).alloc (by simp;omega) _),by simp [startL]⟩
theorem Res.on {n:Nat} {cs:Array Value} {sy:Bool} {er:Int} {W W':World} (h:Res n (n+1) (n+2) cs sy er W) (hb:Below W.heap.size W W'):Res n (n+1) (n+2) cs sy er W' :=
 ⟨(hb.block _ (lt_of_block h.op)).trans h.op,(hb.block _ (lt_of_block h.says)).trans h.says,(hb.block _ (lt_of_block h.err)).trans h.err⟩
set_option maxRecDepth 100000 in
set_option maxHeartbeats 4000000 in
theorem line_has_nl (s:List UInt8) (w:World) (h:10∈s):Calls Tryz.prog 9 #[.string (bstr s)] w fun e w'=>LineIs w.heap.size s w' e∧Below w.heap.size w w':=by
 have hmf:∀(fn:Fn) (first cap:Array Value) (w:World),(Instr.makeFunc fn first cap).run Tryz.prog w=.ok (.func fn first cap) w:=fun _ _ _ _=>rfl
 obtain ⟨hr,hb,_⟩:=start_res w
 have HR:=Lib.hid hr;have HB:=Lib.hid hb
 have HF:=Lib.hid (fun W=>lineIs_none (B:=w.heap.size) (line_nl h) W)
 have HC:=Lib.hid (fun W=>contains_nl s W)
 rw [show decide (10∈s)=true by simpa using h] at HC
 clear hr hb h
 go_enter_defers Tryz.func9,Tryz.ntmps9
 go_wp2_with (first
  | (go_at_call 24;refine (HC.out _).mono ?_;rintro e w1 ⟨rfl,rfl⟩)
  | (go_at_call 23;refine (must_no _).mono ?_;rintro e w1 ⟨rfl,rfl⟩))
 refine leave_bar HR.out rfl ⟨rfl,rfl,rfl⟩ fun W' hW=>⟨HF.out _,?_⟩
 exact HB.out.trans hW
theorem next_short {w W:World} {b g n cap:Nat} {r:List (List UInt8×Bool)} {bad:Bool} (h:RdR w b g n cap r bad W):(nextW r.tail.tail).1.length≤1099511627776:=by
 match r,h with
 | [],_=>simp [nextW]
 | [_],_=>simp [nextW]
 | [_,_],_=>simp [nextW]
 | _ :: _ :: x :: _,h=>exact h.short x (by simp)
theorem rop_print (w0 w:World) (b g n cap:Nat) (s:RSt) (h:RdR w0 b g n cap s.1 s.2 w) (hk:vW s=sp.kPrint):Calls Tryz.prog 30 #[.pointer (some ⟨b,0,none⟩)] w fun e w'=>OpIs w0 b g n cap { kind:=14,on:=vW (sW s)==sp.kOn } (sP (sW s)) e w':=by
 by_cases h1:vW (sW s)=sp.kOn
 ·cases hb:(sW (sW s)).2 with
  | false=>exact rop_Print_on_false w0 w b g n cap s h hk hb h1
  | true=>exact rop_Print_on_true w0 w b g n cap s h hk hb h1
 by_cases h2:vW (sW s)=sp.kOff
 ·cases hb:(sW (sW s)).2 with
  | false=>exact rop_Print_off_false w0 w b g n cap s h hk hb h2
  | true=>exact rop_Print_off_true w0 w b g n cap s h hk hb h2
 cases hb:(sW (sW s)).2 with
 | false=>exact rop_Print_other_false w0 w b g n cap s h hk hb h1 h2
 | true=>exact rop_Print_other_true w0 w b g n cap s h hk hb h1 h2
theorem rop_any (w0 w:World) (b g n cap:Nat) (s:RSt) (h:RdR w0 b g n cap s.1 s.2 w):Calls Tryz.prog 30 #[.pointer (some ⟨b,0,none⟩)] w fun e w'=>OpIs w0 b g n cap (opR s).1 (opR s).2 e w':=by
 by_cases h0:vW s=sp.kSheet
 ·rw [show opR s=({ kind:=1,origin:=vN (sW s),text:=vW (sN (sW s)) },(sT (sN (sW s)))) from by unfold opR;rw [if_pos h0]]
  exact rop_Sheet w0 w b g n cap s h (next_short h) h0
 by_cases h1:vW s=sp.kView
 ·rw [show opR s=({ kind:=2,w:=vF (sW s),h:=vF (sF (sW s)) },(sF (sF (sW s)))) from by unfold opR;rw [if_neg h0,if_pos h1]]
  exact rop_View w0 w b g n cap s h h1
 by_cases h2:vW s=sp.kFont
 ·rw [show opR s=({ kind:=3,w:=vF (sW s) },(sF (sW s))) from by unfold opR;rw [if_neg h0,if_neg h1,if_pos h2]]
  exact rop_Font w0 w b g n cap s h h2
 by_cases h3:vW s=sp.kColor
 ·rw [show opR s=({ kind:=13,w:=vF (sW s) },(sF (sW s))) from by unfold opR;rw [if_neg h0,if_neg h1,if_neg h2,if_pos h3]]
  exact rop_Color w0 w b g n cap s h h3
 by_cases h4:vW s=sp.kPrint
 ·rw [show opR s=({ kind:=14,on:=vW (sW s)==sp.kOn },(sP (sW s))) from by unfold opR;rw [if_neg h0,if_neg h1,if_neg h2,if_neg h3,if_pos h4]]
  exact rop_print w0 w b g n cap s h h4
 by_cases h5:vW s=sp.kWord
 ·rw [show opR s=({ kind:=4,name:=vW (sW s),word:=vW (sW (sW s)) },(sW (sW (sW s)))) from by unfold opR;rw [if_neg h0,if_neg h1,if_neg h2,if_neg h3,if_neg h4,if_pos h5]]
  exact rop_Word w0 w b g n cap s h h5
 by_cases h6:vW s=sp.kInsert
 ·rw [show opR s=({ kind:=5,node:=vN (sW s),at_:=vN (sN (sW s)),name:=vW (sN (sN (sW s))) },(sW (sN (sN (sW s))))) from by unfold opR;rw [if_neg h0,if_neg h1,if_neg h2,if_neg h3,if_neg h4,if_neg h5,if_pos h6]]
  exact rop_Insert w0 w b g n cap s h h6
 by_cases h7:vW s=sp.kRemove
 ·rw [show opR s=({ kind:=6,node:=vN (sW s) },(sN (sW s))) from by unfold opR;rw [if_neg h0,if_neg h1,if_neg h2,if_neg h3,if_neg h4,if_neg h5,if_neg h6,if_pos h7]]
  exact rop_Remove w0 w b g n cap s h h7
 by_cases h8:vW s=sp.kSet
 ·rw [show opR s=({ kind:=7,node:=vN (sW s),name:=vW (sN (sW s)),word:=vW (sW (sN (sW s))) },(sT (sW (sN (sW s))))) from by unfold opR;rw [if_neg h0,if_neg h1,if_neg h2,if_neg h3,if_neg h4,if_neg h5,if_neg h6,if_neg h7,if_pos h8]]
  exact rop_Set w0 w b g n cap s h h8
 by_cases h9:vW s=sp.kUnset
 ·rw [show opR s=({ kind:=8,node:=vN (sW s),name:=vW (sN (sW s)) },(sW (sN (sW s)))) from by unfold opR;rw [if_neg h0,if_neg h1,if_neg h2,if_neg h3,if_neg h4,if_neg h5,if_neg h6,if_neg h7,if_neg h8,if_pos h9]]
  exact rop_Unset w0 w b g n cap s h h9
 by_cases h10:vW s=sp.kBox
 ·rw [show opR s=({ kind:=9,node:=vN (sW s),bt:=(sp.boxOf (vW (sN (sW s)))).getD 0,bn:=sp.boxName (vW (sK (sN (sW s)))),bw:=vF (sW (sK (sN (sW s)))),bh:=vF (sF (sW (sK (sN (sW s))))) },(sB (sN (sW s)))) from by unfold opR;rw [if_neg h0,if_neg h1,if_neg h2,if_neg h3,if_neg h4,if_neg h5,if_neg h6,if_neg h7,if_neg h8,if_neg h9,if_pos h10]]
  exact rop_Box w0 w b g n cap s h h10
 by_cases h11:vW s=sp.kAsk
 ·rw [show opR s=({ kind:=10,node:=vN (sW s),name:=vW (sN (sW s)) },(sW (sN (sW s)))) from by unfold opR;rw [if_neg h0,if_neg h1,if_neg h2,if_neg h3,if_neg h4,if_neg h5,if_neg h6,if_neg h7,if_neg h8,if_neg h9,if_neg h10,if_pos h11]]
  exact rop_Ask w0 w b g n cap s h h11
 by_cases h12:vW s=sp.kCustom
 ·rw [show opR s=({ kind:=11,node:=vN (sW s),name:=vW (sN (sW s)) },(sW (sN (sW s)))) from by unfold opR;rw [if_neg h0,if_neg h1,if_neg h2,if_neg h3,if_neg h4,if_neg h5,if_neg h6,if_neg h7,if_neg h8,if_neg h9,if_neg h10,if_neg h11,if_pos h12]]
  exact rop_Custom w0 w b g n cap s h h12
 by_cases h13:vW s=sp.kRules
 ·rw [show opR s=({ kind:=12,node:=vN (sW s) },(sN (sW s))) from by unfold opR;rw [if_neg h0,if_neg h1,if_neg h2,if_neg h3,if_neg h4,if_neg h5,if_neg h6,if_neg h7,if_neg h8,if_neg h9,if_neg h10,if_neg h11,if_neg h12,if_pos h13]]
  exact rop_Rules w0 w b g n cap s h h13
 by_cases h14:vW s=sp.kCount
 ·rw [show opR s=({ kind:=15 },(sW s)) from by unfold opR;rw [if_neg h0,if_neg h1,if_neg h2,if_neg h3,if_neg h4,if_neg h5,if_neg h6,if_neg h7,if_neg h8,if_neg h9,if_neg h10,if_neg h11,if_neg h12,if_neg h13,if_pos h14]]
  exact rop_Count w0 w b g n cap s h h14
 rw [show opR s=({ },((sW s).1,true)) from by unfold opR;rw [if_neg h0,if_neg h1,if_neg h2,if_neg h3,if_neg h4,if_neg h5,if_neg h6,if_neg h7,if_neg h8,if_neg h9,if_neg h10,if_neg h11,if_neg h12,if_neg h13,if_neg h14]]
 exact rop_None w0 w b g n cap s h h0 h1 h2 h3 h4 h5 h6 h7 h8 h9 h10 h11 h12 h13 h14
theorem opR_line (w:List UInt8) (a:List (List UInt8×Bool)):OpOk (sp.opS w a) (opR ((w,false) :: a,false)):=by
 by_cases h0:w=sp.kSheet
 ·subst h0;exact opR_Sheet a
 by_cases h1:w=sp.kView
 ·subst h1;exact opR_View a
 by_cases h2:w=sp.kFont
 ·subst h2;exact opR_Font a
 by_cases h3:w=sp.kColor
 ·subst h3;exact opR_Color a
 by_cases h4:w=sp.kPrint
 ·subst h4;exact opR_Print a
 by_cases h5:w=sp.kWord
 ·subst h5;exact opR_Word a
 by_cases h6:w=sp.kInsert
 ·subst h6;exact opR_Insert a
 by_cases h7:w=sp.kRemove
 ·subst h7;exact opR_Remove a
 by_cases h8:w=sp.kSet
 ·subst h8;exact opR_Set a
 by_cases h9:w=sp.kUnset
 ·subst h9;exact opR_Unset a
 by_cases h10:w=sp.kBox
 ·subst h10;exact opR_Box a
 by_cases h11:w=sp.kAsk
 ·subst h11;exact opR_Ask a
 by_cases h12:w=sp.kCustom
 ·subst h12;exact opR_Custom a
 by_cases h13:w=sp.kRules
 ·subst h13;exact opR_Rules a
 by_cases h14:w=sp.kCount
 ·subst h14;exact opR_Count a
 unfold sp.opS opR
 rw [show vW ((w,false) :: a,false)=w from rfl]
 rw [if_neg h0,if_neg h1,if_neg h2,if_neg h3,if_neg h4,if_neg h5,if_neg h6,if_neg h7,if_neg h8,if_neg h9,if_neg h10,if_neg h11,if_neg h12,if_neg h13,if_neg h14]
 rw [if_neg h0,if_neg h1,if_neg h2,if_neg h3,if_neg h4,if_neg h5,if_neg h6,if_neg h7,if_neg h8,if_neg h9,if_neg h10,if_neg h11,if_neg h12,if_neg h13,if_neg h14]
 exact opOk_none (.inl rfl)
theorem opR_quoted (w:List UInt8) (a:List (List UInt8×Bool)):(opR ((w,true) :: a,false)).2.2=true:=by
 have e:sW ((w,true) :: a,false)=(a,true):=by simp [sW,nextW]
 unfold opR
 rw [e]
 have key:∀(c:Prop) [Decidable c] (p q:sp.Op×RSt),p.2.2=true→q.2.2=true→(if c then p else q).2.2=true:=fun c _ p q hp hq=>by split<;>assumption
 repeat' apply key
 all_goals simp only [sW_bad,sT_bad,sN_bad,sF_bad,sP_bad,sK_bad,sB_bad]
noncomputable def resOf (l:List (List UInt8×Bool)):Option sp.Op:=match l with
 | (w,false) :: a=>sp.opS w a
 | _=>none
theorem opR_words (l:List (List UInt8×Bool)) (h0:l≠[]):OpOk (resOf l) (opR (l,false)):=by
 match l with
 | []=>exact absurd rfl h0
 | (w,false) :: a=>exact opR_line w a
 | (w,true) :: a=>exact opOk_none (.inl (opR_quoted w a))
theorem words_spc {p:List UInt8} (h:∀x∈p,x=32) (r:List UInt8):sp.words (p++r)=sp.words r:=by
 induction p with
 | nil=>rfl
 | cons x p ih =>
  rw [h x List.mem_cons_self,List.cons_append,sp.words_space]
  exact ih fun y hy=>h y (List.mem_cons_of_mem _ hy)
theorem drop_spc {p:List UInt8} (h:∀x∈p,x=32) (r:List UInt8):(p++r).dropWhile (· == 32)=r.dropWhile (· == 32):=by
 rw [List.dropWhile_append_of_pos fun x hx=>by simp [h x hx]]
theorem silent_hash {p:List UInt8} (h:∀x∈p,x=32) (r:List UInt8):sp.silentB (p++35 :: r)=true:=by
 unfold sp.silentB
 rw [drop_spc h]
 simp
theorem silent_spc {p:List UInt8} (h:∀x∈p,x=32):sp.silentB p=true:=by
 have:=drop_spc h []
 rw [List.append_nil] at this
 unfold sp.silentB
 rw [this]
 rfl
theorem silent_not {p:List UInt8} (h:∀x∈p,x=32) {c:UInt8} (h1:c≠32) (h2:c≠35) (r:List UInt8):sp.silentB (p++c :: r)=false:=by
 unfold sp.silentB
 rw [drop_spc h]
 simp [h1,h2]
theorem results_rline {n:Nat} {fn:Func} {tmps:Array Value} {W:World} {cs:Array Value} {y e:Value} (hr:fn.results=#[.cell 2 28,.tmp 3,.tmp 4]) (h2:tmps.getD 2 undef=.pointer (some ⟨n,0,none⟩)) (h3:tmps.getD 3 undef=y) (h4:tmps.getD 4 undef=e) (hg:W.heap[n]?=some (.cells cs 28 (0,0))) (hc:cs.size=18) :
  (results fn tmps).run Tryz.prog W=.ok (.tuple #[.agg cs,y,e]) W:=by
 have hl:=run_loadVar_row (P:=Tryz.prog) W n 28 28 cs (0,0) _ hg Tryz.underlying28 rfl (by rw [hc];exact size28')
 have h2':tmps[2]?.getD undef=.pointer (some ⟨n,0,none⟩):=by simpa using h2
 have h3':tmps[3]?.getD undef=y:=by simpa using h3
 have h4':tmps[4]?.getD undef=e:=by simpa using h4
 simp only [results,hr]
 simp [Sem.run_bind,Result.andThen,h2',h3',h4',asAddr,hl]
theorem ret_rline {n:Nat} {fn:Func} {tmps:Array Value} {W:World} {cs:Array Value} {y e:Value} {R:Ending→World→Prop} (hr:fn.results=#[.cell 2 28,.tmp 3,.tmp 4]) (h2:tmps.getD 2 undef=.pointer (some ⟨n,0,none⟩)) (h3:tmps.getD 3 undef=y) (h4:tmps.getD 4 undef=e) (hg:W.heap[n]?=some (.cells cs 28 (0,0))) (hc:cs.size=18)
  (h:R (.returned (.tuple #[.agg cs,y,e])) W):bodyPost Tryz.prog fn R .ret ⟨tmps,[]⟩ W :=
 bodyPost_ret (results_rline hr h2 h3 h4 hg hc) rfl h
theorem rd_start {W:World} {l:List (List UInt8×Bool)} {g cap:Nat} {cur:Array Value} (hg:W.heap[g]?=some (.cells cur 110 (0,0))) (ht:cur.toList.take (l.length*2)=wdCells l) (hn:l.length≤1099511627776) (hs:∀p∈l,p.1.length≤1099511627776) :
  RdR (W.alloc (.cells #[.slice (some ⟨g,0,none⟩) l.length cap,.int .i64 0,.bool false] 78)) W.heap.size g l.length cap l false (W.alloc (.cells #[.slice (some ⟨g,0,none⟩) l.length cap,.int .i64 0,.bool false] 78)) :=
 ⟨by rw [Nat.sub_self];exact heap_alloc_at _ _,Nat.le_refl _,fun j u hu=>by
   rw [Nat.sub_self,Nat.mul_zero,Nat.zero_add]
   have h2:=heap_old W (.cells #[.slice (some ⟨g,0,none⟩) l.length cap,.int .i64 0,.bool false] 78) _ hg
   refine blk_cell h2 j u ?_
   rw [←ht] at hu
   have hj:j<l.length*2:=by
    have:=(List.getElem?_eq_some_iff.1 hu).1
    rw [List.length_take] at this
    omega
   rw [List.getElem?_take_of_lt hj] at hu
   simpa using hu,by have:=lt_of_block hg;simp;omega,Nat.ne_of_lt (lt_of_block hg),by simp,Fr.refl _ _ _,hn,hs⟩
end Go.Proofs.YtihlneenajlhoaaGreatDoor
