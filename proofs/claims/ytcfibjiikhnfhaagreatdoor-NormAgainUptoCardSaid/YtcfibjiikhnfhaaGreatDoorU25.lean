/-
 law13's awake. Helper lemmas;no statement of the seat is proved here.
-/
import Derived.Test.YtcfibjiikhnfhaaGreatDoorU24
import Derived.Lib.SlBytesConst
import Derived.Test.YtcfibjiikhnfhaaGreatDoorU5
namespace Go.Proofs.YtcfibjiikhnfhaaGreatDoor
open Go.RowKit
set_option maxHeartbeats 32000000
set_option maxRecDepth 100000
set_option linter.unusedVariables false
set_option linter.unusedSimpArgs false
theorem rep_litm {w:World} {cs:Array Value} {e:TypeId} {fz:Nat×Nat} {n z:Nat} {es:List DV} (hs:cs.size=n*z) (hl:es.length=n*z) (hn:n≤9223372036854775807) (hr:Reps w (fun _=>True) cs.toList es):
  Rep (w.alloc (.cells cs e fz)) (fun _=>True) (.slice (some ⟨w.heap.size,0,none⟩) n n) (.s z es):=by
 have hr':=hr.ext ((Ext.refl w).alloc (.cells cs e fz))
 refine .row w.heap.size 0 n n z cs.toList es (fun _=>trivial) hl (by simpa using hs) (Nat.le_refl _) hn (fun k u hk=> ?_) hr'.2
 rw[Nat.zero_add]
 have h:=World.cell?_alloc_mark w cs e fz k
 rw[h,←hk];simp
theorem norm_ok (l:List Rule) (hb:∀r∈l,r.path.length≤1048576∧r.keys.length≤1048576∧(∀x∈r.path,x.length≤1048576)∧∀x∈r.keys,x.length≤1048576) (hll:l.length≤1048576) (n m:Node) (hcnt:cntN n≤1048576) (hm:nrP l n= .inr m) (p q:Nat→Prop) (v va vk:Value) (w:World)
  (hT:EN w) (h:Rep w q v (rulesD l)) (hva:Rep w p va (attrsD n.attrs)) (hvk:Rep w p vk (nodesD n.kids)):
  Calls Tryz.prog 6 #[v,.agg #[.int .i64 n.kind,.string (bs n.name),.string (bs n.text),va,vk]] w fun e w'=>∃(xa:Option Addr) (xac:Nat) (xk:Option Addr) (xkc:Nat),e= .returned (.tuple #[.agg #[.int .i64 m.kind,.string (bs m.name),.string (bs m.text),.slice xa m.attrs.length xac,.slice xk m.kids.length xkc],.nilIface])∧
   Rep w' (fun b=>w.heap.size≤b) (.slice xa m.attrs.length xac) (attrsD m.attrs)∧Rep w' (fun b=>w.heap.size≤b) (.slice xk m.kids.length xkc) (nodesD m.kids)∧Ext w w':=by
 refine(normal_any l hb hll n hcnt p q v va vk w hT h hva hvk).mono ?_
 rintro e w' ⟨hr,hX⟩
 rw[hm]at hr
 obtain⟨xa,xk,he,h1,h2⟩:=hr
 obtain⟨a,c,rfl,_,_⟩:=h1.count z_attr (by omega)
 obtain⟨a2,c2,rfl,_,_⟩:=h2.count z_node (by omega)
 exact⟨a,c,a2,c2,he,h1,h2,hX⟩
theorem awR_b:∀r∈awR,r.path.length≤1048576∧r.keys.length≤1048576∧(∀x∈r.path,x.length≤1048576)∧∀x∈r.keys,x.length≤1048576:=by
 intro r hr
 simp only[awR,List.mem_cons,List.not_mem_nil,or_false]at hr
 rcases hr with rfl | rfl
 ·
  exact⟨by decide,by decide,fun x hx=>by simp at hx;subst hx;decide,fun x hx=>by cases hx⟩
 ·
  exact⟨by decide,by decide,fun x hx=>by simp at hx;rcases hx with rfl | rfl<;> decide,fun x hx=>by simp at hx;subst hx;decide⟩
theorem awake_any (w:World) (hE:EN w) (hG:GlobE w):Calls Tryz.prog 4 #[] w fun e w'=>e= .returned (.bool true)∧Ext w w':=by
 obtain⟨a1,ha1⟩:∃W,w.alloc (.cells #[.int .u8 60,.int .u8 100,.int .u8 98,.int .u8 62,.int .u8 60,.int .u8 101,.int .u8 32,.int .u8 105,.int .u8 100,.int .u8 61,.int .u8 39,.int .u8 50,.int .u8 39,.int .u8 47,.int .u8 62,.int .u8 32,.int .u8 60,.int .u8 101,.int .u8 32,.int .u8 105,.int .u8 100,.int .u8 61,.int .u8 39,.int .u8 49,.int .u8 39,.int .u8 47,.int .u8 62,.int .u8 60,.int .u8 47,.int .u8 100,.int .u8 98,.int .u8 62] 5 (32,33))=W:=⟨_,rfl⟩
 have ea1:Ext w a1:=by rw[←ha1];exact(Ext.refl _).alloc _
 have ra1:Rep a1 (fun _=>True) (.slice (some ⟨w.heap.size,0,none⟩) 32 32) (numsD .u8 (byI awT)):=by rw[←ha1];exact rep_litm rfl (by kernel_rfl) (by decide) (nums_reps w _ .u8 (byI awT))
 have hcv:(convert 43 43 (.slice (some ⟨w.heap.size,0,none⟩) 32 32)).run Tryz.prog (w.alloc (.cells #[.int .u8 60,.int .u8 100,.int .u8 98,.int .u8 62,.int .u8 60,.int .u8 101,.int .u8 32,.int .u8 105,.int .u8 100,.int .u8 61,.int .u8 39,.int .u8 50,.int .u8 39,.int .u8 47,.int .u8 62,.int .u8 32,.int .u8 60,.int .u8 101,.int .u8 32,.int .u8 105,.int .u8 100,.int .u8 61,.int .u8 39,.int .u8 49,.int .u8 39,.int .u8 47,.int .u8 62,.int .u8 60,.int .u8 47,.int .u8 100,.int .u8 98,.int .u8 62] 5))= .ok (.slice (some ⟨w.heap.size,0,none⟩) 32 32) (w.alloc (.cells #[.int .u8 60,.int .u8 100,.int .u8 98,.int .u8 62,.int .u8 60,.int .u8 101,.int .u8 32,.int .u8 105,.int .u8 100,.int .u8 61,.int .u8 39,.int .u8 50,.int .u8 39,.int .u8 47,.int .u8 62,.int .u8 32,.int .u8 60,.int .u8 101,.int .u8 32,.int .u8 105,.int .u8 100,.int .u8 61,.int .u8 39,.int .u8 49,.int .u8 39,.int .u8 47,.int .u8 62,.int .u8 60,.int .u8 47,.int .u8 100,.int .u8 98,.int .u8 62] 5 (32,33))):=Lib.run_convert_bytes_const w 43 5 #[.int .u8 60,.int .u8 100,.int .u8 98,.int .u8 62,.int .u8 60,.int .u8 101,.int .u8 32,.int .u8 105,.int .u8 100,.int .u8 61,.int .u8 39,.int .u8 50,.int .u8 39,.int .u8 47,.int .u8 62,.int .u8 32,.int .u8 60,.int .u8 101,.int .u8 32,.int .u8 105,.int .u8 100,.int .u8 61,.int .u8 39,.int .u8 49,.int .u8 39,.int .u8 47,.int .u8 62,.int .u8 60,.int .u8 47,.int .u8 100,.int .u8 98,.int .u8 62] 32 32 (by kernel_rfl) (by kernel_rfl)
 rw[ha1]at hcv
 have HP:=Lh (show Calls Tryz.prog 12 #[.slice (some ⟨w.heap.size,0,none⟩) 32 32] a1 fun ed w'=>∃ra rk,ed= .returned (.tuple #[.agg #[.slice none 0 0,.int .i64 1,.string ⟨#[100,98]⟩,.string ⟨#[]⟩,ra,rk,.slice none 0 0],.nilIface])∧Rep w' (fun _=>True) ra (attrsD awA.attrs)∧Rep w' (fun _=>True) rk (nodesD awA.kids)∧Ext a1 w' from
  parse_any awT (by decide) (by decide) aw_bad (by kernel_rfl) awK aw_ts awA 6 aw_f (by decide) (fun _=>True) _ a1 (hE.ext ea1) ra1)
 have HE:=Lh (And.intro hE (And.intro hG ea1))
 clear ra1 ea1 hE hG
 go_enter Tryz.func4,Tryz.ntmps4
 go_wp2_with fail
 refine HP.out.mono ?_
 rintro e w2 ⟨ra,rk,rfl,hra,hrk,hX2⟩
 clear HP ha1
 obtain⟨ra0,rc,rfl⟩:∃a c,ra= .slice a 0 c:=by obtain⟨a,c,e,_⟩:=hra.count z_attr (by omega);exact⟨a,c,e⟩
 obtain⟨rk0,kc,rfl⟩:∃a c,rk= .slice a 3 c:=by obtain⟨a,c,e,_⟩:=hrk.count z_node (by omega);exact⟨a,c,e⟩
 replace hra:Rep w2 (fun _=>True) (.slice ra0 0 rc) (attrsD awA.attrs):=hra
 replace hrk:Rep w2 (fun _=>True) (.slice rk0 3 kc) (nodesD awA.kids):=hrk
 have HR:=Lh (And.intro (HE.out.2.2.trans hX2) (And.intro hra hrk))
 clear hra hrk hX2
 go_wp2_with fail
 obtain⟨wz,hwz⟩:∃X,w2.alloc (.cells #[.slice none 0 0,.int .i64 1,.string ⟨#[100,98]⟩,.string ⟨#[]⟩,.slice ra0 0 rc,.slice rk0 3 kc,.slice none 0 0] 39)=X:=⟨_,rfl⟩
 obtain⟨d,hd⟩:∃d,w2.heap.size=d:=⟨_,rfl⟩
 have hEz:Ext w2 wz:=by rw[←hwz];exact(Ext.refl w2).alloc _
 have hbz:wz.heap[d]? =some (.cells #[.slice none 0 0,.int .i64 1,.string ⟨#[100,98]⟩,.string ⟨#[]⟩,.slice ra0 0 rc,.slice rk0 3 kc,.slice none 0 0] 39 (0,0)):=by rw[←hwz,←hd];exact Array.getElem?_push_size ..
 rw[hwz,hd]
 have d1:=blk_cell hbz (k:=1) rfl;have d2:=blk_cell hbz (k:=2) rfl;have d3:=blk_cell hbz (k:=3) rfl;have d4:=blk_cell hbz (k:=4) rfl;have d5:=blk_cell hbz (k:=5) rfl
 have hld:=blk_lt hbz
 have HN:=Lh (show∀(W:World) (a:Option Addr) (c:Nat),Ext wz W→Rep W (fun _=>True) (.slice a 2 c) (rulesD awR)→Calls Tryz.prog 6 #[.slice a 2 c,.agg #[.int .i64 1,.string ⟨#[100,98]⟩,.string ⟨#[]⟩,.slice ra0 0 rc,.slice rk0 3 kc]] W fun e w'=>∃(xa:Option Addr) (xac:Nat) (xk:Option Addr) (xkc:Nat),e= .returned (.tuple #[.agg #[.int .i64 1,.string ⟨#[100,98]⟩,.string ⟨#[]⟩,.slice xa 0 xac,.slice xk 2 xkc],.nilIface])∧Rep w' (fun b=>W.heap.size≤b) (.slice xa 0 xac) (attrsD awS.attrs)∧Rep w' (fun b=>W.heap.size≤b) (.slice xk 2 xkc) (nodesD awS.kids)∧Ext W w' from
  fun W a c hX hv=>norm_ok awR awR_b (by decide) awA awS (by decide) aw_a (fun _=>True) (fun _=>True) _ _ _ W (HE.out.1.ext ((HR.out.1.trans hEz).trans hX)) hv ((HR.out.2.1.ext hEz).ext hX) ((HR.out.2.2.ext hEz).ext hX))
 have HWZ:=Lh (HR.out.1.trans hEz)
 clear hwz hd hEz hbz HR
 refine region_merge (fun ac ac' w'=>∃(b3:Nat) (xa:Option Addr) (xk:Option Addr) (xac:Nat) (xkc:Nat) (qa:Option Addr) (qc:Nat),ac'=(((((((((ac.put (some 14) (.slice qa 2 qc)).put (some 15) (.pointer (some ⟨d,1,none⟩))).put (some 16) (.agg #[.int .i64 1,.string ⟨#[100,98]⟩,.string ⟨#[]⟩,.slice ra0 0 rc,.slice rk0 3 kc])).put (some 17) (.tuple #[.agg #[.int .i64 1,.string ⟨#[100,98]⟩,.string ⟨#[]⟩,.slice xa 0 xac,.slice xk 2 xkc],.nilIface])).put (some 13) (.tuple #[.agg #[.int .i64 1,.string ⟨#[100,98]⟩,.string ⟨#[]⟩,.slice xa 0 xac,.slice xk 2 xkc],.nilIface])).put (some 18) (.agg #[.int .i64 1,.string ⟨#[100,98]⟩,.string ⟨#[]⟩,.slice xa 0 xac,.slice xk 2 xkc])).put (some 19) (.nilIface)).put (some 3) (.pointer (some ⟨b3,0,none⟩))).put (some 4) (.nilIface))∧Sx wz w'∧w'.heap[b3]? =some (.cells #[.int .i64 1,.string ⟨#[100,98]⟩,.string ⟨#[]⟩,.slice xa 0 xac,.slice xk 2 xkc] 26 (0,0))∧wz.heap.size≤b3∧Rep w' (fun b=>b≠b3) (.slice xa 0 xac) (attrsD awS.attrs)∧Rep w' (fun b=>b≠b3) (.slice xk 2 xkc) (nodesD awS.kids)) ?_ ?_
 ·
  refine rg_begin (S:=Sx wz) (by kernel_rfl) (Sx.begin _) ?_
  have hSy:Sx wz (World.drew wz):=(Sx.begin _)
  refine rg_t 1 (some 15) (.pointer (some ⟨d,1,none⟩)) rfl hSy (fun w' hs=>by first | rfl | go_simp) ?_
  simp only[Act.put,sA,sZ,sS]
  refine rg_t 2 (some 16) (.agg #[.int .i64 1,.string ⟨#[100,98]⟩,.string ⟨#[]⟩,.slice ra0 0 rc,.slice rk0 3 kc]) rfl hSy (fun w' hs=>by(have h0:=hs.cell hld d1;have h1:=hs.cell hld d2;have h2:=hs.cell hld d3;have h3:=hs.cell hld d4;have h4:=hs.cell hld d5;go_simp)) ?_
  simp only[Act.put,sA,sZ,sS]
  refine rg_two 0 7 (by kernel_rfl) ?_ ?_
  ·
   refine tk_call 0 (some 14) 13 #[] rfl rfl (by rfl) (fun w'=>by first | rfl | go_simp) (R:=fun v w'=>∃(qa:Option Addr) (qc:Nat),v= .slice qa 2 qc∧Rep w' (fun _=>True) (.slice qa 2 qc) (rulesD awR)∧Ext ((World.drew wz)) w') ?_ ?_
   ·
    exact(rules_any ((World.drew wz))).mono fun e w' ⟨⟨a,c,he,h1⟩,h2⟩=>⟨_,he,a,c,rfl,h1,h2⟩
   rintro _ x1 ⟨qa,qc,rfl,hv1,hB1⟩
   have hS1:Sx wz x1:=hSy.ext hB1
   refine⟨hS1,?_⟩
   simp only[Act.put,sA,sZ,sS]
   refine rg_two 3 7 (by kernel_rfl) ?_ ?_
   ·
    refine tk_call 3 (some 17) 6 #[.slice qa 2 qc,.agg #[.int .i64 1,.string ⟨#[100,98]⟩,.string ⟨#[]⟩,.slice ra0 0 rc,.slice rk0 3 kc]] rfl rfl (by rfl) (fun w'=>by first | rfl | go_simp) (R:=fun v w'=>∃(xa:Option Addr) (xac:Nat) (xk:Option Addr) (xkc:Nat),v= .tuple #[.agg #[.int .i64 1,.string ⟨#[100,98]⟩,.string ⟨#[]⟩,.slice xa 0 xac,.slice xk 2 xkc],.nilIface]∧Rep w' (fun b=>(x1).heap.size≤b) (.slice xa 0 xac) (attrsD awS.attrs)∧Rep w' (fun b=>(x1).heap.size≤b) (.slice xk 2 xkc) (nodesD awS.kids)∧Ext (x1) w') ?_ ?_
    ·
     exact(HN.out (x1) qa qc (show Ext wz (x1) from hS1) hv1).mono fun e w' ⟨xa,xac,xk,xkc,he,h1,h2,h3⟩=>⟨_,he,xa,xac,xk,xkc,rfl,h1,h2,h3⟩
    rintro _ x2 ⟨xa,xac,xk,xkc,rfl,hq1,hq2,hB2⟩
    have hS2:Sx wz x2:=hS1.ext hB2
    refine⟨hS2,?_⟩
    simp only[Act.put,sA,sZ,sS]
    refine rg_t 4 (some 13) (.tuple #[.agg #[.int .i64 1,.string ⟨#[100,98]⟩,.string ⟨#[]⟩,.slice xa 0 xac,.slice xk 2 xkc],.nilIface]) rfl hS2 (fun w' hs=>by rfl) ?_
    simp only[Act.put,sA,sZ,sS]
    refine rg_t 5 (some 18) (.agg #[.int .i64 1,.string ⟨#[100,98]⟩,.string ⟨#[]⟩,.slice xa 0 xac,.slice xk 2 xkc]) rfl hS2 (fun w' hs=>by first | rfl | go_simp) ?_
    simp only[Act.put,sA,sZ,sS]
    refine rg_t 6 (some 19) (.nilIface) rfl hS2 (fun w' hs=>by first | rfl | go_simp) ?_
    simp only[Act.put,sA,sZ,sS]
    refine rg_one 7 (by kernel_rfl) ?_
    refine tk_new 7 (some 3) (.cells #[.int .i64 0,.string ⟨#[]⟩,.string ⟨#[]⟩,.slice none 0 0,.slice none 0 0] 26) (fun n=> .pointer (some ⟨n,0,none⟩)) rfl rfl (by rfl) (by first | rfl | go_simp) ?_
    intro b3 x3 eb3 hB3 hz3 hb3
    have hl3:wz.heap.size≤b3:=by rw[eb3];exact(show Ext wz _ from hS2).size
    have hS3:Sx wz x3:=hS2.ext hB3
    refine⟨hS3,?_⟩
    simp only[Act.put,sA,sZ,sS]
    replace hq1:=(hq1.lt.ext hB3).ok (q:=fun b=>b≠b3) fun b hb=>by have h:=hb.2;omega
    replace hq2:=(hq2.lt.ext hB3).ok (q:=fun b=>b≠b3) fun b hb=>by have h:=hb.2;omega
    refine rg_one 8 (by kernel_rfl) ?_
    refine tk_write 8 none (st5o x3 b3 0 (.int .i64 1) (.string ⟨#[100,98]⟩) (.string ⟨#[]⟩) (.slice xa 0 xac) (.slice xk 2 xkc)) rfl rfl (by rfl) (exec_store rfl (store_nin hb3 (by decide) _ _ _ _ _ _ _ _ _)) ?_
    have hS8:Sx wz (st5o x3 b3 0 (.int .i64 1) (.string ⟨#[100,98]⟩) (.string ⟨#[]⟩) (.slice xa 0 xac) (.slice xk 2 xkc)):=(((((show Ext wz x3 from hS3).set (p:=⟨b3,0,none⟩) hl3 _).set (p:=⟨b3,0+1,none⟩) hl3 _).set (p:=⟨b3,0+2,none⟩) hl3 _).set (p:=⟨b3,0+3,none⟩) hl3 _).set (p:=⟨b3,0+4,none⟩) hl3 _
    refine⟨hS8,?_⟩
    simp only[Act.put,sA,sZ,sS]
    have hb8:(st5o x3 b3 0 (.int .i64 1) (.string ⟨#[100,98]⟩) (.string ⟨#[]⟩) (.slice xa 0 xac) (.slice xk 2 xkc)).heap[b3]? =some (.cells #[.int .i64 1,.string ⟨#[100,98]⟩,.string ⟨#[]⟩,.slice xa 0 xac,.slice xk 2 xkc] 26 (0,0)):=st5o_blk hb3 0 _ _ _ _ _
    have hq18:=hq1.kept (w':=st5o x3 b3 0 (.int .i64 1) (.string ⟨#[100,98]⟩) (.string ⟨#[]⟩) (.slice xa 0 xac) (.slice xk 2 xkc)) fun b hb _=>st5o_keep x3 hb 0 _ _ _ _ _
    have hq28:=hq2.kept (w':=st5o x3 b3 0 (.int .i64 1) (.string ⟨#[100,98]⟩) (.string ⟨#[]⟩) (.slice xa 0 xac) (.slice xk 2 xkc)) fun b hb _=>st5o_keep x3 hb 0 _ _ _ _ _
    refine rg_t 9 (some 4) (.nilIface) rfl hS8 (fun w' hs=>by rfl) ?_
    simp only[Act.put,sA,sZ,sS]
    refine rg_done (by kernel_rfl) ?_
    exact⟨b3,xa,xk,xac,xkc,qa,qc,(by first | rfl | simp only[Act.put,sA,sZ,sS]),hS8,hb8,hl3,hq18,hq28⟩
   ·
    refine tk_new 7 (some 3) (.cells #[.int .i64 0,.string ⟨#[]⟩,.string ⟨#[]⟩,.slice none 0 0,.slice none 0 0] 26) (fun n=> .pointer (some ⟨n,0,none⟩)) rfl rfl (by rfl) (by first | rfl | go_simp) ?_
    intro b3 x3 eb3 hB3 hz3 hb3
    have hl3:wz.heap.size≤b3:=by rw[eb3];exact(show Ext wz _ from hS1).size
    have hS3:Sx wz x3:=hS1.ext hB3
    refine⟨hS3,?_⟩
    simp only[Act.put,sA,sZ,sS]
    replace hv1:=hv1.ext hB3
    refine rg_one 3 (by kernel_rfl) ?_
    refine tk_call 3 (some 17) 6 #[.slice qa 2 qc,.agg #[.int .i64 1,.string ⟨#[100,98]⟩,.string ⟨#[]⟩,.slice ra0 0 rc,.slice rk0 3 kc]] rfl rfl (by rfl) (fun w'=>by first | rfl | go_simp) (R:=fun v w'=>∃(xa:Option Addr) (xac:Nat) (xk:Option Addr) (xkc:Nat),v= .tuple #[.agg #[.int .i64 1,.string ⟨#[100,98]⟩,.string ⟨#[]⟩,.slice xa 0 xac,.slice xk 2 xkc],.nilIface]∧Rep w' (fun b=>(x3).heap.size≤b) (.slice xa 0 xac) (attrsD awS.attrs)∧Rep w' (fun b=>(x3).heap.size≤b) (.slice xk 2 xkc) (nodesD awS.kids)∧Ext (x3) w') ?_ ?_
    ·
     exact(HN.out (x3) qa qc (show Ext wz (x3) from hS3) hv1).mono fun e w' ⟨xa,xac,xk,xkc,he,h1,h2,h3⟩=>⟨_,he,xa,xac,xk,xkc,rfl,h1,h2,h3⟩
    rintro _ x2 ⟨xa,xac,xk,xkc,rfl,hq1,hq2,hB2⟩
    have hS2:Sx wz x2:=hS3.ext hB2
    refine⟨hS2,?_⟩
    simp only[Act.put,sA,sZ,sS]
    have hl3':=blk_lt hb3
    replace hq1:=hq1.ok (q:=fun b=>b≠b3) fun b hb=>by have h:=(hb:x3.heap.size≤b);omega
    replace hq2:=hq2.ok (q:=fun b=>b≠b3) fun b hb=>by have h:=(hb:x3.heap.size≤b);omega
    replace hb3:=(Below.block hB2 b3 (blk_lt hb3)).trans hb3
    refine rg_t 4 (some 13) (.tuple #[.agg #[.int .i64 1,.string ⟨#[100,98]⟩,.string ⟨#[]⟩,.slice xa 0 xac,.slice xk 2 xkc],.nilIface]) rfl hS2 (fun w' hs=>by rfl) ?_
    simp only[Act.put,sA,sZ,sS]
    refine rg_t 5 (some 18) (.agg #[.int .i64 1,.string ⟨#[100,98]⟩,.string ⟨#[]⟩,.slice xa 0 xac,.slice xk 2 xkc]) rfl hS2 (fun w' hs=>by first | rfl | go_simp) ?_
    simp only[Act.put,sA,sZ,sS]
    refine rg_t 6 (some 19) (.nilIface) rfl hS2 (fun w' hs=>by first | rfl | go_simp) ?_
    simp only[Act.put,sA,sZ,sS]
    refine rg_one 8 (by kernel_rfl) ?_
    refine tk_write 8 none (st5o x2 b3 0 (.int .i64 1) (.string ⟨#[100,98]⟩) (.string ⟨#[]⟩) (.slice xa 0 xac) (.slice xk 2 xkc)) rfl rfl (by rfl) (exec_store rfl (store_nin hb3 (by decide) _ _ _ _ _ _ _ _ _)) ?_
    have hS8:Sx wz (st5o x2 b3 0 (.int .i64 1) (.string ⟨#[100,98]⟩) (.string ⟨#[]⟩) (.slice xa 0 xac) (.slice xk 2 xkc)):=(((((show Ext wz x2 from hS2).set (p:=⟨b3,0,none⟩) hl3 _).set (p:=⟨b3,0+1,none⟩) hl3 _).set (p:=⟨b3,0+2,none⟩) hl3 _).set (p:=⟨b3,0+3,none⟩) hl3 _).set (p:=⟨b3,0+4,none⟩) hl3 _
    refine⟨hS8,?_⟩
    simp only[Act.put,sA,sZ,sS]
    have hb8:(st5o x2 b3 0 (.int .i64 1) (.string ⟨#[100,98]⟩) (.string ⟨#[]⟩) (.slice xa 0 xac) (.slice xk 2 xkc)).heap[b3]? =some (.cells #[.int .i64 1,.string ⟨#[100,98]⟩,.string ⟨#[]⟩,.slice xa 0 xac,.slice xk 2 xkc] 26 (0,0)):=st5o_blk hb3 0 _ _ _ _ _
    have hq18:=hq1.kept (w':=st5o x2 b3 0 (.int .i64 1) (.string ⟨#[100,98]⟩) (.string ⟨#[]⟩) (.slice xa 0 xac) (.slice xk 2 xkc)) fun b hb _=>st5o_keep x2 hb 0 _ _ _ _ _
    have hq28:=hq2.kept (w':=st5o x2 b3 0 (.int .i64 1) (.string ⟨#[100,98]⟩) (.string ⟨#[]⟩) (.slice xa 0 xac) (.slice xk 2 xkc)) fun b hb _=>st5o_keep x2 hb 0 _ _ _ _ _
    refine rg_t 9 (some 4) (.nilIface) rfl hS8 (fun w' hs=>by rfl) ?_
    simp only[Act.put,sA,sZ,sS]
    refine rg_done (by kernel_rfl) ?_
    exact⟨b3,xa,xk,xac,xkc,qa,qc,(by first | rfl | simp only[Act.put,sA,sZ,sS]),hS8,hb8,hl3,hq18,hq28⟩
  ·
   refine tk_new 7 (some 3) (.cells #[.int .i64 0,.string ⟨#[]⟩,.string ⟨#[]⟩,.slice none 0 0,.slice none 0 0] 26) (fun n=> .pointer (some ⟨n,0,none⟩)) rfl rfl (by rfl) (by first | rfl | go_simp) ?_
   intro b3 x3 eb3 hB3 hz3 hb3
   have hl3:wz.heap.size≤b3:=by rw[eb3];exact(show Ext wz _ from hSy).size
   have hS3:Sx wz x3:=hSy.ext hB3
   refine⟨hS3,?_⟩
   simp only[Act.put,sA,sZ,sS]
   refine rg_one 0 (by kernel_rfl) ?_
   refine tk_call 0 (some 14) 13 #[] rfl rfl (by rfl) (fun w'=>by first | rfl | go_simp) (R:=fun v w'=>∃(qa:Option Addr) (qc:Nat),v= .slice qa 2 qc∧Rep w' (fun _=>True) (.slice qa 2 qc) (rulesD awR)∧Ext (x3) w') ?_ ?_
   ·
    exact(rules_any (x3)).mono fun e w' ⟨⟨a,c,he,h1⟩,h2⟩=>⟨_,he,a,c,rfl,h1,h2⟩
   rintro _ x1 ⟨qa,qc,rfl,hv1,hB1⟩
   have hS1:Sx wz x1:=hS3.ext hB1
   refine⟨hS1,?_⟩
   simp only[Act.put,sA,sZ,sS]
   replace hb3:=(Below.block hB1 b3 (blk_lt hb3)).trans hb3
   refine rg_one 3 (by kernel_rfl) ?_
   refine tk_call 3 (some 17) 6 #[.slice qa 2 qc,.agg #[.int .i64 1,.string ⟨#[100,98]⟩,.string ⟨#[]⟩,.slice ra0 0 rc,.slice rk0 3 kc]] rfl rfl (by rfl) (fun w'=>by first | rfl | go_simp) (R:=fun v w'=>∃(xa:Option Addr) (xac:Nat) (xk:Option Addr) (xkc:Nat),v= .tuple #[.agg #[.int .i64 1,.string ⟨#[100,98]⟩,.string ⟨#[]⟩,.slice xa 0 xac,.slice xk 2 xkc],.nilIface]∧Rep w' (fun b=>(x1).heap.size≤b) (.slice xa 0 xac) (attrsD awS.attrs)∧Rep w' (fun b=>(x1).heap.size≤b) (.slice xk 2 xkc) (nodesD awS.kids)∧Ext (x1) w') ?_ ?_
   ·
    exact(HN.out (x1) qa qc (show Ext wz (x1) from hS1) hv1).mono fun e w' ⟨xa,xac,xk,xkc,he,h1,h2,h3⟩=>⟨_,he,xa,xac,xk,xkc,rfl,h1,h2,h3⟩
   rintro _ x2 ⟨xa,xac,xk,xkc,rfl,hq1,hq2,hB2⟩
   have hS2:Sx wz x2:=hS1.ext hB2
   refine⟨hS2,?_⟩
   simp only[Act.put,sA,sZ,sS]
   have hl3':=blk_lt hb3
   replace hq1:=hq1.ok (q:=fun b=>b≠b3) fun b hb=>by have h:=(hb:x1.heap.size≤b);omega
   replace hq2:=hq2.ok (q:=fun b=>b≠b3) fun b hb=>by have h:=(hb:x1.heap.size≤b);omega
   replace hb3:=(Below.block hB2 b3 (blk_lt hb3)).trans hb3
   refine rg_t 4 (some 13) (.tuple #[.agg #[.int .i64 1,.string ⟨#[100,98]⟩,.string ⟨#[]⟩,.slice xa 0 xac,.slice xk 2 xkc],.nilIface]) rfl hS2 (fun w' hs=>by rfl) ?_
   simp only[Act.put,sA,sZ,sS]
   refine rg_t 5 (some 18) (.agg #[.int .i64 1,.string ⟨#[100,98]⟩,.string ⟨#[]⟩,.slice xa 0 xac,.slice xk 2 xkc]) rfl hS2 (fun w' hs=>by first | rfl | go_simp) ?_
   simp only[Act.put,sA,sZ,sS]
   refine rg_t 6 (some 19) (.nilIface) rfl hS2 (fun w' hs=>by first | rfl | go_simp) ?_
   simp only[Act.put,sA,sZ,sS]
   refine rg_one 8 (by kernel_rfl) ?_
   refine tk_write 8 none (st5o x2 b3 0 (.int .i64 1) (.string ⟨#[100,98]⟩) (.string ⟨#[]⟩) (.slice xa 0 xac) (.slice xk 2 xkc)) rfl rfl (by rfl) (exec_store rfl (store_nin hb3 (by decide) _ _ _ _ _ _ _ _ _)) ?_
   have hS8:Sx wz (st5o x2 b3 0 (.int .i64 1) (.string ⟨#[100,98]⟩) (.string ⟨#[]⟩) (.slice xa 0 xac) (.slice xk 2 xkc)):=(((((show Ext wz x2 from hS2).set (p:=⟨b3,0,none⟩) hl3 _).set (p:=⟨b3,0+1,none⟩) hl3 _).set (p:=⟨b3,0+2,none⟩) hl3 _).set (p:=⟨b3,0+3,none⟩) hl3 _).set (p:=⟨b3,0+4,none⟩) hl3 _
   refine⟨hS8,?_⟩
   simp only[Act.put,sA,sZ,sS]
   have hb8:(st5o x2 b3 0 (.int .i64 1) (.string ⟨#[100,98]⟩) (.string ⟨#[]⟩) (.slice xa 0 xac) (.slice xk 2 xkc)).heap[b3]? =some (.cells #[.int .i64 1,.string ⟨#[100,98]⟩,.string ⟨#[]⟩,.slice xa 0 xac,.slice xk 2 xkc] 26 (0,0)):=st5o_blk hb3 0 _ _ _ _ _
   have hq18:=hq1.kept (w':=st5o x2 b3 0 (.int .i64 1) (.string ⟨#[100,98]⟩) (.string ⟨#[]⟩) (.slice xa 0 xac) (.slice xk 2 xkc)) fun b hb _=>st5o_keep x2 hb 0 _ _ _ _ _
   have hq28:=hq2.kept (w':=st5o x2 b3 0 (.int .i64 1) (.string ⟨#[100,98]⟩) (.string ⟨#[]⟩) (.slice xa 0 xac) (.slice xk 2 xkc)) fun b hb _=>st5o_keep x2 hb 0 _ _ _ _ _
   refine rg_t 9 (some 4) (.nilIface) rfl hS8 (fun w' hs=>by rfl) ?_
   simp only[Act.put,sA,sZ,sS]
   refine rg_done (by kernel_rfl) ?_
   exact⟨b3,xa,xk,xac,xkc,qa,qc,(by first | rfl | simp only[Act.put,sA,sZ,sS]),hS8,hb8,hl3,hq18,hq28⟩
 rintro _ w9 ⟨b3,xa,xk,xac,xkc,qa,qc,rfl,hX9,hb9,hl9,hq19,hq29⟩
 simp only[Act.put,sA,sZ,sS]
 have H9:=Lh (And.intro (HWZ.out.trans hX9) (And.intro hb9 (And.intro hq19 hq29)))
 clear HN d1 d2 d3 d4 d5 hld hX9 hb9 hl9 hq19 hq29 HWZ
 go_wp2_with fail
 refine(rules_any w9).mono ?_
 rintro e wr ⟨⟨qa2,qc2,rfl,hv2⟩,hX10⟩
 obtain⟨a5,ha5⟩:∃W,wr.alloc (.cells #[.int .i64 1,.string ⟨#[101]⟩,.string ⟨#[]⟩,.slice none 0 0,.slice none 0 0] 26)=W:=⟨_,rfl⟩
 have ea5:Ext wr a5:=by rw[←ha5];exact(Ext.refl _).alloc _
 have ra5:Rep a5 (fun _=>True) (.slice (some ⟨wr.heap.size,0,none⟩) 1 1) (nodesD awB.kids):=by rw[←ha5];exact rep_lit rfl rfl (by decide) (Reps.cons (Rep.int _ _ _ _) (Reps.cons (Rep.string _ _ (bs [101]) (by decide)) (Reps.cons (Rep.string _ _ (bs []) (by decide)) (Reps.cons (.nil 2) (Reps.cons (.nil 5) (Reps.nil _ _))))))
 have hE5:=(H9.out.1.trans hX10).trans ea5
 have HN:=Lh (show Calls Tryz.prog 6 #[.slice qa2 2 qc2,.agg #[.int .i64 1,.string ⟨#[100,98]⟩,.string ⟨#[]⟩,.slice none 0 0,.slice (some ⟨wr.heap.size,0,none⟩) 1 1]] a5 fun e w'=>(∃v,e= .returned (.tuple #[.agg #[.int .i64 0,.string ⟨#[]⟩,.string ⟨#[]⟩,.slice none 0 0,.slice none 0 0],v])∧ErrV w' a5.heap.size 22 1 v)∧Ext a5 w' from
  (normal_any awR awR_b (by decide) awB (by decide) (fun _=>True) (fun _=>True) _ _ _ a5 (HE.out.1.ext hE5) (hv2.ext ea5) (.nil 2) ra5).mono fun e w' ⟨h1,h2⟩=>⟨by rw[aw_b]at h1;exact h1,h2⟩)
 have HB:=Lh (And.intro hE5 ((Below.block (hX10.trans ea5) b3 (blk_lt H9.out.2.1)).trans H9.out.2.1))
 have HQ:=Lh (And.intro ((H9.out.2.2.1.ext hX10).ext ea5) ((H9.out.2.2.2.ext hX10).ext ea5))
 clear hv2 hX10 ea5 ra5 hE5 H9
 go_wp2_with fail
 refine HN.out.mono ?_
 rintro e w11 ⟨⟨ev,rfl,hev⟩,hX11⟩
 clear HN ha5
 obtain⟨w12,hw12⟩:∃X,w11.alloc (.cells #[.int .i64 0,.string ⟨#[]⟩,.string ⟨#[]⟩,.slice none 0 0,.slice none 0 0] 26)=X:=⟨_,rfl⟩
 have hE12:Ext w11 w12:=by rw[←hw12];exact(Ext.refl _).alloc _
 have hb12:=(Below.block (hX11.trans hE12) b3 (blk_lt HB.out.2)).trans HB.out.2
 have k0:=blk_cell hb12 (k:=0) rfl;have k1:=blk_cell hb12 (k:=1) rfl;have k2:=blk_cell hb12 (k:=2) rfl;have k3:=blk_cell hb12 (k:=3) rfl;have k4:=blk_cell hb12 (k:=4) rfl
 have HT:=Lh (show Calls Tryz.prog 14 #[.agg #[.int .i64 1,.string ⟨#[100,98]⟩,.string ⟨#[]⟩,.slice xa 0 xac,.slice xk 2 xkc]] w12 fun e w'=>e= .returned (.string (bs (txtL [awS])))∧Ext w12 w' from
  nodeX_any awS (fun b=>b≠b3) _ _ w12 (by decide) (by rw[aw_tx];decide) (by decide) (by decide) ((HQ.out.1.ext hX11).ext hE12) ((HQ.out.2.ext hX11).ext hE12))
 obtain⟨T,hT⟩:∃T,txtL [awS]=T:=⟨_,rfl⟩
 have ht1:((bs T).toList==([60,100,98,62,60,101,32,105,100,61,34,49,34,47,62,60,101,32,105,100,61,34,50,34,47,62,60,47,100,98,62]:List UInt8))=true:=by rw[bs_toList,←hT,aw_tx];rfl
 have ht2:(bs T).toList=([60,100,98,62,60,101,32,105,100,61,34,49,34,47,62,60,101,32,105,100,61,34,50,34,47,62,60,47,100,98,62]:List UInt8):=by rw[bs_toList,←hT,aw_tx]
 rw[hT]at HT
 have HV:=Lh (And.intro (hev.ext hE12) (HB.out.1.trans (hX11.trans hE12)))
 clear hev hE12 hb12 hX11 HB HQ hT
 subst hw12
 go_wp2_with fail
 refine HT.out.mono ?_
 rintro e w13 ⟨rfl,hX13⟩
 clear HT
 have HC:=Lh (code_any 22 1 _ ev w13 (HE.out.2.1.ext (HV.out.2.trans hX13)) (HV.out.1.ext hX13))
 go_wp2_with fail
 refine HC.out.mono ?_
 rintro e w14 ⟨rfl,hX14⟩
 have HC2:=Lh (at_any 22 1 _ ev w14 (HE.out.2.1.ext ((HV.out.2.trans hX13).trans hX14)) ((HV.out.1.ext hX13).ext hX14))
 go_wp2_with fail
 refine HC2.out.mono ?_
 rintro e w15 ⟨rfl,hX15⟩
 go_wp2_with fail
 go_ret
 exact⟨rfl,((HV.out.2.trans hX13).trans hX14).trans hX15⟩
mutual
def nodesN:Node→Nat
 | .mk _ _ _ la ks=>1+la.length+nodesL ks
def nodesL:List Node→Nat
 | []=>0
 | k::r=>nodesN k+nodesL r
end
mutual
def depN:Node→Nat
 | .mk k _ _ _ ks=>if k≠1 then 0 else depL ks+1
def depL:List Node→Nat
 | []=>0
 | k::r=>max (depN k) (depL r)
end
theorem take_one (l:List Node) (i:Nat) (h:i< l.length):l.take (i+1)=l.take i++ [l[i]]:=List.take_succ_eq_append_getElem h
theorem nodesL_app:∀a b:List Node,nodesL (a++b)=nodesL a+nodesL b
 | [],b=>by rw[List.nil_append,nodesL,Nat.zero_add]
 | x::r,b=>by rw[List.cons_append,nodesL,nodesL,nodesL_app r b];omega
theorem depL_app:∀a b:List Node,depL (a++b)=max (depL a) (depL b)
 | [],b=>by rw[List.nil_append,depL];omega
 | x::r,b=>by rw[List.cons_append,depL,depL,depL_app r b];omega
theorem nodesN_eq (n:Node):nodesN n=1+n.attrs.length+nodesL n.kids:=by cases n;rw[nodesN];rfl
theorem depN_eq (n:Node) (h:n.kind=1):depN n=depL n.kids+1:=by
 cases n;rw[depN,if_neg (fun e=>e h)];rfl
theorem attrs_cnt:∀l:List Attr,l.length≤cntA l
 | []=>Nat.le_refl _
 | a::r=>by have:=attrs_cnt r;rw[cntA,List.length_cons];omega
mutual
theorem nodesN_cnt:∀n:Node,nodesN n≤cntN n
 | .mk k nm t la ks=>by have:=nodesL_cnt ks;have:=attrs_cnt la;rw[nodesN,cntN];omega
theorem nodesL_cnt:∀l:List Node,nodesL l≤cntL l
 | []=>Nat.le_refl _
 | n::r=>by have:=nodesN_cnt n;have:=nodesL_cnt r;rw[nodesL,cntL];omega
end
mutual
theorem depN_cnt:∀n:Node,depN n≤cntN n
 | .mk k nm t la ks=>by have:=depL_cnt ks;rw[depN,cntN];split<;> omega
theorem depL_cnt:∀l:List Node,depL l≤cntL l
 | []=>Nat.le_refl _
 | n::r=>by have:=depN_cnt n;have:=depL_cnt r;rw[depL,cntL];omega
end
theorem cntN_parts (n:Node):n.kids.length≤cntN n∧n.attrs.length≤cntN n:=by
 have h1:=cntL_len n.kids
 have h2:=attrs_cnt n.attrs
 cases n with
 | mk k nm t la ks=>rw[cntN];simp only[Node.kids,Node.attrs]at*;omega
theorem Ext.ext' {a b c:World} (h:Ext a b) (k:Ext b c):Ext a c:=h.trans k
def XCountP (N:Nat):Prop:=∀(n:Node) (p:Nat→Prop) (va vk:Value) (w:World),nsz n≤N→cntN n≤1048576→Rep w p va (attrsD n.attrs)→Rep w p vk (nodesD n.kids)→
  Calls Tryz.prog 60 #[.agg #[.int .i64 n.kind,.string (bs n.name),.string (bs n.text),va,vk]] w fun e w'=>e= .returned (.int .i64 (nodesN n:Nat))∧Ext w w'
theorem xcount_step (N:Nat) (ih:XCountP N):XCountP (N+1):=by
 intro n p va vk w hN hcnt hva hvk
 obtain⟨xa,xac,rfl,_,_⟩:=hva.count z_attr (by omega)
 obtain⟨xk,xkc,rfl,hkc,hkc2⟩:=hvk.count z_node (by omega)
 obtain⟨w1,hw1⟩:∃X,w.alloc (.cells #[.int .i64 n.kind,.string (bs n.name),.string (bs n.text),.slice xa n.attrs.length xac,.slice xk n.kids.length xkc] 26)=X:=⟨_,rfl⟩
 obtain⟨t1,ht1⟩:∃t,w.heap.size=t:=⟨_,rfl⟩
 have hE1:Ext w w1:=by rw[←hw1];exact(Ext.refl w).alloc _
 have hb1:w1.heap[t1]? =some (.cells #[.int .i64 n.kind,.string (bs n.name),.string (bs n.text),.slice xa n.attrs.length xac,.slice xk n.kids.length xkc] 26 (0,0)):=by rw[←hw1,←ht1];exact Array.getElem?_push_size ..
 have n0:=blk_cell hb1 (k:=0) rfl;have n3:=blk_cell hb1 (k:=3) rfl;have n4:=blk_cell hb1 (k:=4) rfl
 have hlt1:=blk_lt hb1
 have hcl:=cntN_parts n
 have HV:=Lh (hvk.ext hE1)
 have HN:=Lh hN
 have HC:=Lh hcnt
 have HE1:=Lh hE1
 have hkl:n.kids.length≤1048576:=by omega
 have hal:n.attrs.length≤1048576:=by omega
 clear hN hva hvk hb1 hE1 hcl hcnt
 go_enter Tryz.func60,Tryz.ntmps60
 go_wp2_with fail
 try rw[hw1]
 try rw[ht1]
 clear hw1 ht1
 go_loopw [3,5,13] (fun u3 _ t wr=>∃i S:Nat,u3= .int .i64 S∧t= .int .i64 i∧i≤n.kids.length∧S≤4194304∧Hid (1+n.attrs.length+nodesL (n.kids.take i)=S∧Ext w1 wr)) (fun _ _ t _=>downV n.kids.length t)
 case atStart=>exact⟨0,1+n.attrs.length,by first | rfl | (congr 1),rfl,Nat.zero_le _,by omega,Lh ⟨by rw[List.take_zero];rfl,Ext.refl _⟩⟩
 case round=>
  obtain⟨i,S,rfl,rfl,hi,hS,HI⟩:=hrel
  have hi0:(0:Int)≤(i:Int):=by omega
  by_cases hlt:i< n.kids.length
  ·
   have hlI:(i:Int)< (n.kids.length:Int):=by omega
   have n4:=HI.out.2.keep hlt1 n4
   obtain⟨gk,ok,za,zk,hka,lgk,_,e0,e1,e2,e3,e4,hza,hzk⟩:=node_at (HV.out.ext HI.out.2) i hlt
   subst hka
   have hnz:=nszL_get n.kids i hlt
   have hck:=kid_le n.kids i hlt
   have htk:=take_one n.kids i hlt
   obtain⟨y,hy⟩:∃y,n.kids[i]=y:=⟨_,rfl⟩
   rw[hy]at e0 e1 e2 hza hzk hnz hck htk
   obtain⟨zab,zac,rfl,_,_⟩:=hza.count z_attr (by omega)
   obtain⟨zkb,zkc,rfl,_,_⟩:=hzk.count z_node (by omega)
   obtain⟨w5,hw5⟩:∃W,wr.alloc (.cells #[.int .i64 y.kind,.string (bs y.name),.string (bs y.text),.slice zab y.attrs.length zac,.slice zkb y.kids.length zkc] 26)=W:=⟨_,rfl⟩
   obtain⟨g5,hg5⟩:∃g,wr.heap.size=g:=⟨_,rfl⟩
   have hE5:Ext wr w5:=by rw[←hw5];exact(Ext.refl wr).alloc _
   have hb5:B5 w5 g5 y (.slice zab y.attrs.length zac) (.slice zkb y.kids.length zkc):=by rw[←hw5,←hg5];exact b5_box wr y _ _
   have hk1:=nsz_kids n
   have hk2:=cnt_kids n
   have HIH:=Lh (ih y p _ _ w5 (by have:=HN.out;omega) (by have:=HC.out;omega) (hza.ext hE5) (hzk.ext hE5))
   have HX5:=Lh (And.intro (HI.out.2.ext' hE5) (And.intro HI.out.1 htk))
   obtain⟨D,hD⟩:∃D,nodesN y=D:=⟨_,rfl⟩
   have hD2:D≤1048576:=by have:=nodesN_cnt y;have:=HC.out;omega
   rw[hD]at HIH
   have HD:=Lh hD
   clear htk hD hk1 hk2
   have HW5:=Lh (And.intro hw5 hg5)
   have m0:=hb5.c0;have m1:=hb5.c1;have m2:=hb5.c2;have m3:=hb5.c3;have m4:=hb5.c4
   have n4:=hE5.keep (Nat.lt_of_lt_of_le hlt1 HI.out.2.size) n4
   clear hy hw5 hg5 hE5 hb5 hnz hck hza hzk HI
   go_upto_region 5 with fail
   rw[HW5.out.1,HW5.out.2]
   clear e0 e1 e2 e3 e4
   go_wp2_with fail
   refine HIH.out.mono ?_
   rintro e w6 ⟨rfl,hE6⟩
   have HN6:=Lh (And.intro (HX5.out.1.trans hE6) HX5.out.2)
   clear HIH hE6
   go_wp2_with fail
   go_roundw
   case rel=>exact⟨i+1,S+D,by first | rfl | go_num,by go_num,by omega,by have h1:=nodesL_app (n.kids.take (i+1)) (n.kids.drop (i+1));rw[List.take_append_drop,HN6.out.2.2,nodesL_app,nodesL,nodesL,HD.out]at h1;have h2:=nodesN_cnt n;rw[nodesN_eq]at h2;have h3:=HC.out;have:=HN6.out.2.1;omega,Lh ⟨by rw[HN6.out.2.2,nodesL_app,nodesL,nodesL,HD.out];have:=HN6.out.2.1;omega,HN6.out.1⟩⟩
   case measure=>simp only[downV];omega
  ·
   have hlI:¬(i:Int)< (n.kids.length:Int):=by omega
   have n4:=HI.out.2.keep hlt1 n4
   have HN6:=Lh (And.intro HI.out (show n.kids.take i=n.kids from List.take_of_length_le (by omega)))
   clear HI
   go_wp2_with fail
   go_ret
   refine⟨?_,HE1.out.trans HN6.out.1.2⟩
   have h:=HN6.out.1.1
   rw[HN6.out.2]at h
   rw[nodesN_eq,h];rfl
theorem xcount_any:∀N:Nat,XCountP N:=by
 intro N
 induction N with
 | zero=>intro n p va vk w hN;have:=nsz_pos n;omega
 | succ N ih=>exact xcount_step N ih
def XDepthP (N:Nat):Prop:=∀(n:Node) (p:Nat→Prop) (va vk:Value) (w:World),nsz n≤N→cntN n≤1048576→Rep w p va (attrsD n.attrs)→Rep w p vk (nodesD n.kids)→
  Calls Tryz.prog 61 #[.agg #[.int .i64 n.kind,.string (bs n.name),.string (bs n.text),va,vk]] w fun e w'=>e= .returned (.int .i64 (depN n:Nat))∧Ext w w'
theorem xdepth_step (N:Nat) (ih:XDepthP N):XDepthP (N+1):=by
 intro n p va vk w hN hcnt hva hvk
 obtain⟨xa,xac,rfl,_,_⟩:=hva.count z_attr (by omega)
 obtain⟨xk,xkc,rfl,hkc,hkc2⟩:=hvk.count z_node (by omega)
 obtain⟨w1,hw1⟩:∃X,w.alloc (.cells #[.int .i64 n.kind,.string (bs n.name),.string (bs n.text),.slice xa n.attrs.length xac,.slice xk n.kids.length xkc] 26)=X:=⟨_,rfl⟩
 obtain⟨t1,ht1⟩:∃t,w.heap.size=t:=⟨_,rfl⟩
 have hE1:Ext w w1:=by rw[←hw1];exact(Ext.refl w).alloc _
 have hb1:w1.heap[t1]? =some (.cells #[.int .i64 n.kind,.string (bs n.name),.string (bs n.text),.slice xa n.attrs.length xac,.slice xk n.kids.length xkc] 26 (0,0)):=by rw[←hw1,←ht1];exact Array.getElem?_push_size ..
 have n0:=blk_cell hb1 (k:=0) rfl;have n3:=blk_cell hb1 (k:=3) rfl;have n4:=blk_cell hb1 (k:=4) rfl
 have hlt1:=blk_lt hb1
 have hcl:=cntN_parts n
 have HV:=Lh (hvk.ext hE1)
 have HN:=Lh hN
 have HC:=Lh hcnt
 have HE1:=Lh hE1
 have hkl:n.kids.length≤1048576:=by omega
 have hal:n.attrs.length≤1048576:=by omega
 clear hN hva hvk hb1 hE1 hcl hcnt
 by_cases hk1:n.kind=1
 rotate_left
 ·
  have hq:(n.kind !=1)=true:=by unfold bne;rw[beq_eq_false_iff_ne.2 hk1];rfl
  have HR:=Lh (show depN n=0 by cases n;rw[depN];exact if_pos hk1)
  clear hk1
  go_enter Tryz.func61,Tryz.ntmps61
  go_wp2_with fail
  go_ret
  exact⟨by rw[HR.out];rfl,by first | exact HE1.out | (rw[hw1];exact HE1.out)⟩
 have hq:(n.kind !=1)=false:=by rw[hk1];rfl
 have HK:=Lh hk1
 clear hk1
 go_enter Tryz.func61,Tryz.ntmps61
 go_wp2_with fail
 try rw[hw1]
 try rw[ht1]
 clear hw1 ht1
 go_loopw [3,5,12] (fun u3 _ t wr=>∃i S:Nat,u3= .int .i64 S∧t= .int .i64 i∧i≤n.kids.length∧S≤4194304∧Hid (depL (n.kids.take i)=S∧Ext w1 wr)) (fun _ _ t _=>downV n.kids.length t)
 case atStart=>exact⟨0,0,by first | rfl | (congr 1),rfl,Nat.zero_le _,by omega,Lh ⟨by rw[List.take_zero];rfl,Ext.refl _⟩⟩
 case round=>
  obtain⟨i,S,rfl,rfl,hi,hS,HI⟩:=hrel
  have hi0:(0:Int)≤(i:Int):=by omega
  by_cases hlt:i< n.kids.length
  ·
   have hlI:(i:Int)< (n.kids.length:Int):=by omega
   have n4:=HI.out.2.keep hlt1 n4
   obtain⟨gk,ok,za,zk,hka,lgk,_,e0,e1,e2,e3,e4,hza,hzk⟩:=node_at (HV.out.ext HI.out.2) i hlt
   subst hka
   have hnz:=nszL_get n.kids i hlt
   have hck:=kid_le n.kids i hlt
   have htk:=take_one n.kids i hlt
   obtain⟨y,hy⟩:∃y,n.kids[i]=y:=⟨_,rfl⟩
   rw[hy]at e0 e1 e2 hza hzk hnz hck htk
   obtain⟨zab,zac,rfl,_,_⟩:=hza.count z_attr (by omega)
   obtain⟨zkb,zkc,rfl,_,_⟩:=hzk.count z_node (by omega)
   obtain⟨w5,hw5⟩:∃W,wr.alloc (.cells #[.int .i64 y.kind,.string (bs y.name),.string (bs y.text),.slice zab y.attrs.length zac,.slice zkb y.kids.length zkc] 26)=W:=⟨_,rfl⟩
   obtain⟨g5,hg5⟩:∃g,wr.heap.size=g:=⟨_,rfl⟩
   have hE5:Ext wr w5:=by rw[←hw5];exact(Ext.refl wr).alloc _
   have hb5:B5 w5 g5 y (.slice zab y.attrs.length zac) (.slice zkb y.kids.length zkc):=by rw[←hw5,←hg5];exact b5_box wr y _ _
   have hk1:=nsz_kids n
   have hk2:=cnt_kids n
   have HIH:=Lh (ih y p _ _ w5 (by have:=HN.out;omega) (by have:=HC.out;omega) (hza.ext hE5) (hzk.ext hE5))
   have HX5:=Lh (And.intro (HI.out.2.ext' hE5) (And.intro HI.out.1 htk))
   obtain⟨D,hD⟩:∃D,depN y=D:=⟨_,rfl⟩
   have hD2:D≤1048576:=by have:=depN_cnt y;have:=HC.out;omega
   rw[hD]at HIH
   have HD:=Lh hD
   clear htk hD hk1 hk2
   have HW5:=Lh (And.intro hw5 hg5)
   have m0:=hb5.c0;have m1:=hb5.c1;have m2:=hb5.c2;have m3:=hb5.c3;have m4:=hb5.c4
   have n4:=hE5.keep (Nat.lt_of_lt_of_le hlt1 HI.out.2.size) n4
   clear hy hw5 hg5 hE5 hb5 hnz hck hza hzk HI
   go_upto_region 7 with fail
   rw[HW5.out.1,HW5.out.2]
   clear e0 e1 e2 e3 e4
   go_wp2_with fail
   refine HIH.out.mono ?_
   rintro e w6 ⟨rfl,hE6⟩
   have HN6:=Lh (And.intro (HX5.out.1.trans hE6) HX5.out.2)
   clear HIH hE6
   have hmx:max (S:Int) (D:Int)=((max S D:Nat):Int):=by omega
   go_wp2_with fail
   go_roundw
   case rel=>exact⟨i+1,max S D,by first | rfl | go_num,by go_num,by omega,by omega,Lh ⟨by rw[HN6.out.2.2,depL_app,depL,depL,HD.out];have:=HN6.out.2.1;omega,HN6.out.1⟩⟩
   case measure=>simp only[downV];omega
  ·
   have hlI:¬(i:Int)< (n.kids.length:Int):=by omega
   have n4:=HI.out.2.keep hlt1 n4
   have HN6:=Lh (And.intro HI.out (show n.kids.take i=n.kids from List.take_of_length_le (by omega)))
   clear HI
   go_wp2_with fail
   go_ret
   refine⟨?_,HE1.out.trans HN6.out.1.2⟩
   have h:=HN6.out.1.1
   rw[HN6.out.2]at h
   rw[depN_eq n HK.out,h];rfl
theorem xdepth_any:∀N:Nat,XDepthP N:=by
 intro N
 induction N with
 | zero=>intro n p va vk w hN;have:=nsz_pos n;omega
 | succ N ih=>exact xdepth_step N ih
def RDepthP (N:Nat):Prop:=∀(n:Node) (p:Nat→Prop) (va vk:Value) (w:World),nsz n≤N→cntN n≤1048576→Rep w p va (attrsD n.attrs)→Rep w p vk (nodesD n.kids)→
  Calls Tryz.prog 11 #[.agg #[.int .i64 n.kind,.string (bs n.name),.string (bs n.text),va,vk]] w fun e w'=>e= .returned (.int .i64 (depN n:Nat))∧Ext w w'
theorem rdepth_step (N:Nat) (ih:RDepthP N):RDepthP (N+1):=by
 intro n p va vk w hN hcnt hva hvk
 obtain⟨xa,xac,rfl,_,_⟩:=hva.count z_attr (by omega)
 obtain⟨xk,xkc,rfl,hkc,hkc2⟩:=hvk.count z_node (by omega)
 obtain⟨w1,hw1⟩:∃X,w.alloc (.cells #[.int .i64 n.kind,.string (bs n.name),.string (bs n.text),.slice xa n.attrs.length xac,.slice xk n.kids.length xkc] 26)=X:=⟨_,rfl⟩
 obtain⟨t1,ht1⟩:∃t,w.heap.size=t:=⟨_,rfl⟩
 have hE1:Ext w w1:=by rw[←hw1];exact(Ext.refl w).alloc _
 have hb1:w1.heap[t1]? =some (.cells #[.int .i64 n.kind,.string (bs n.name),.string (bs n.text),.slice xa n.attrs.length xac,.slice xk n.kids.length xkc] 26 (0,0)):=by rw[←hw1,←ht1];exact Array.getElem?_push_size ..
 have n0:=blk_cell hb1 (k:=0) rfl;have n3:=blk_cell hb1 (k:=3) rfl;have n4:=blk_cell hb1 (k:=4) rfl
 have hlt1:=blk_lt hb1
 have hcl:=cntN_parts n
 have HV:=Lh (hvk.ext hE1)
 have HN:=Lh hN
 have HC:=Lh hcnt
 have HE1:=Lh hE1
 have hkl:n.kids.length≤1048576:=by omega
 have hal:n.attrs.length≤1048576:=by omega
 clear hN hva hvk hb1 hE1 hcl hcnt
 by_cases hk1:n.kind=1
 rotate_left
 ·
  have hq:(n.kind !=1)=true:=by unfold bne;rw[beq_eq_false_iff_ne.2 hk1];rfl
  have HR:=Lh (show depN n=0 by cases n;rw[depN];exact if_pos hk1)
  clear hk1
  go_enter Tryz.func11,Tryz.ntmps11
  go_wp2_with fail
  go_ret
  exact⟨by rw[HR.out];rfl,by first | exact HE1.out | (rw[hw1];exact HE1.out)⟩
 have hq:(n.kind !=1)=false:=by rw[hk1];rfl
 have HK:=Lh hk1
 clear hk1
 go_enter Tryz.func11,Tryz.ntmps11
 go_wp2_with fail
 try rw[hw1]
 try rw[ht1]
 clear hw1 ht1
 go_loopw [3,4] (fun u3 t wr=>∃i S:Nat,u3= .int .i64 S∧t= .int .i64 i∧i≤n.kids.length∧S≤4194304∧Hid (depL (n.kids.take i)=S∧Ext w1 wr)) (fun _ t _=>downV n.kids.length t)
 case atStart=>exact⟨0,0,by first | rfl | (congr 1),rfl,Nat.zero_le _,by omega,Lh ⟨by rw[List.take_zero];rfl,Ext.refl _⟩⟩
 case round=>
  obtain⟨i,S,rfl,rfl,hi,hS,HI⟩:=hrel
  have hi0:(0:Int)≤(i:Int):=by omega
  by_cases hlt:i< n.kids.length
  ·
   have hlI:(i:Int)< (n.kids.length:Int):=by omega
   have n4:=HI.out.2.keep hlt1 n4
   obtain⟨gk,ok,za,zk,hka,lgk,_,e0,e1,e2,e3,e4,hza,hzk⟩:=node_at (HV.out.ext HI.out.2) i hlt
   subst hka
   have hnz:=nszL_get n.kids i hlt
   have hck:=kid_le n.kids i hlt
   have htk:=take_one n.kids i hlt
   obtain⟨y,hy⟩:∃y,n.kids[i]=y:=⟨_,rfl⟩
   rw[hy]at e0 e1 e2 hza hzk hnz hck htk
   obtain⟨zab,zac,rfl,_,_⟩:=hza.count z_attr (by omega)
   obtain⟨zkb,zkc,rfl,_,_⟩:=hzk.count z_node (by omega)
   obtain⟨w5,hw5⟩:∃W,W=wr:=⟨_,rfl⟩
   have hE5:Ext wr w5:=by rw[hw5];exact Ext.refl _
   have hk1:=nsz_kids n
   have hk2:=cnt_kids n
   have HIH:=Lh (ih y p _ _ w5 (by have:=HN.out;omega) (by have:=HC.out;omega) (hza.ext hE5) (hzk.ext hE5))
   have HX5:=Lh (And.intro (HI.out.2.ext' hE5) (And.intro HI.out.1 htk))
   obtain⟨D,hD⟩:∃D,depN y=D:=⟨_,rfl⟩
   have hD2:D≤1048576:=by have:=depN_cnt y;have:=HC.out;omega
   rw[hD]at HIH
   have HD:=Lh hD
   clear htk hD hk1 hk2
   subst hw5
   clear hy hE5 hnz hck hza hzk HI
   go_wp2_with fail
   refine HIH.out.mono ?_
   rintro e w6 ⟨rfl,hE6⟩
   have HN6:=Lh (And.intro (HX5.out.1.trans hE6) HX5.out.2)
   clear HIH hE6
   have hmx:max (S:Int) (D:Int)=((max S D:Nat):Int):=by omega
   go_wp2_with fail
   go_roundw
   case rel=>exact⟨i+1,max S D,by first | rfl | go_num,by go_num,by omega,by omega,Lh ⟨by rw[HN6.out.2.2,depL_app,depL,depL,HD.out];have:=HN6.out.2.1;omega,HN6.out.1⟩⟩
   case measure=>simp only[downV];omega
  ·
   have hlI:¬(i:Int)< (n.kids.length:Int):=by omega
   have n4:=HI.out.2.keep hlt1 n4
   have HN6:=Lh (And.intro HI.out (show n.kids.take i=n.kids from List.take_of_length_le (by omega)))
   clear HI
   go_wp2_with fail
   go_ret
   refine⟨?_,HE1.out.trans HN6.out.1.2⟩
   have h:=HN6.out.1.1
   rw[HN6.out.2]at h
   rw[depN_eq n HK.out,h];rfl
theorem rdepth_any:∀N:Nat,RDepthP N:=by
 intro N
 induction N with
 | zero=>intro n p va vk w hN;have:=nsz_pos n;omega
 | succ N ih=>exact rdepth_step N ih
end Go.Proofs.YtcfibjiikhnfhaaGreatDoor
