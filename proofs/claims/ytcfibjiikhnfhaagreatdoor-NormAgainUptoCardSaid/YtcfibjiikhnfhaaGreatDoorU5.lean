/-
 keys:twice,Find,placed,Frontier. Helper lemmas;no statement of the seat is proved here.
-/
import Derived.Test.YtcfibjiikhnfhaaGreatDoorU4
import Derived.Test.YtcfibjiikhnfhaaGreatDoorZhelf
import Derived.Deep.DeepCutAuto
namespace Go.Proofs.YtcfibjiikhnfhaaGreatDoor
open Go.RowKit
set_option maxHeartbeats 32000000
set_option maxRecDepth 100000
set_option linter.unusedVariables false
set_option linter.unusedSimpArgs false
theorem contains_any (l:List Bytes) (x:Bytes) (p:Nat→Prop) (v:Value) (w:World) (hl:l.length≤16777216) (h:Rep w p v (strsD l)):
  Calls Tryz.prog 112 #[v,.string (bs x)] w fun e w'=>e= .returned (.bool (decide (x∈l)))∧w'=w:=by
 obtain⟨a,c,rfl,_,_⟩:=h.count z_str (by omega)
 by_cases h0:l= []
 ·
  subst h0
  have:=Tryz.slices_Contains_string_empty a c (bs x) w
  simpa using this
 ·
  have hn:0< l.length:=List.length_pos_iff.2 h0
  obtain⟨b,off,rfl,_⟩:=str_at h 0 hn
  have:=Tryz.slices_Contains_string b off l.length c (l.map bs) (bs x) w (by simp) (by omega) (fun j hj=>by
   have hj2:j< l.length:=by simpa using hj
   obtain⟨b',o',e,_,_,k⟩:=str_at h j hj2
   cases e
   rw[k,List.getD_eq_getElem?_getD,List.getElem?_map,List.getElem?_eq_getElem hj2];rfl)
  have e:Lib.containsS ((l.map bs).take l.length) (bs x)=decide (x∈l):=by
   rw[List.take_of_length_le (by simp),Bool.eq_iff_iff,Lib.containsS_iff,decide_eq_true_eq,List.mem_map]
   exact⟨fun⟨y,hy,e⟩=>bs_inj' e ▸ hy,fun hx=>⟨x,hx,rfl⟩⟩
  rw[e]at this
  exact this
def twG:List Bytes→List Bytes→Bool
 | _,[]=>false
 | p,s::r=>if s∈p then true else twG (p++ [s]) r
theorem twice_any (x:List Bytes) (p:Nat→Prop) (v:Value) (w:World) (hx:x.length≤16777216) (h:Rep w p v (strsD x)):
  Calls Tryz.prog 71 #[v] w fun e w'=>e= .returned (.bool (twG [] x))∧Ext w w':=by
 obtain⟨a,c,rfl,hc1,hc2⟩:=h.count z_str (by omega)
 obtain⟨R,hR⟩:∃R,twG [] x=R:=⟨_,rfl⟩
 rw[hR]
 have HR:=Lh hR
 clear hR
 go_enter Tryz.func71,Tryz.ntmps71
 go_wp2_with fail
 go_loopw [7] (fun t wr=>∃i:Nat,t= .int .i64 i∧i≤x.length∧Ext w wr∧Hid (twG (x.take i) (x.drop i)=R)) (fun t _=>downV x.length t)
 case atStart=>exact⟨0,rfl,Nat.zero_le _,Ext.refl _,Lh (by rw[List.take_zero,List.drop_zero];exact HR.out)⟩
 case round=>
  obtain⟨i,rfl,hi,hX,HI⟩:=hrel
  by_cases hlt:i< x.length
  ·
   have hlI:(i:Int)< (x.length:Int):=by omega
   have hi0:(0:Int)≤(i:Int):=by omega
   obtain⟨g,o,rfl,hb,hp,hc⟩:=str_at (h.ext hX) i hlt
   have hsub:Rep wr p (.slice (some ⟨g,o,none⟩) i c) (strsD (x.take i)):=by
    have:=(h.ext hX).take i (by omega)
    rw[flat_take _ 1 z_str]at this;exact this
   have HS:Hid (twG (x.take i) (x.drop i)=if x[i]∈x.take i then true else twG (x.take (i+1)) (x.drop (i+1))):=Lh (by rw[drop_one x i hlt,←List.take_append_getElem hlt];rfl)
   obtain⟨s,hs⟩:∃s,x[i]=s:=⟨_,rfl⟩
   rw[hs]at hc HS
   have HC:=Lh fun W (hE:Ext wr W)=>contains_any (x.take i) s p _ W (by rw[List.length_take];omega) (hsub.ext hE)
   clear hs hsub
   by_cases ht:s∈x.take i
   ·
    have HN:Hid (true=R):=Lh (by have:=HS.out;rw[if_pos ht]at this;rw[←this];exact HI.out)
    simp only[ht,decide_true]at HC
    clear HS HI ht
    go_wp2_with fail
    refine(HC.out _ (Ext.refl _)).mono ?_
    rintro e w1 ⟨rfl,rfl⟩
    go_wp2_with fail
    go_ret
    exact⟨ret_bool HN.out,hX⟩
   ·
    have HN:Hid (twG (x.take (i+1)) (x.drop (i+1))=R):=Lh (by have:=HS.out;rw[if_neg ht]at this;rw[←this];exact HI.out)
    simp only[ht,decide_false]at HC
    clear HS HI ht
    go_wp2_with fail
    refine(HC.out _ (Ext.refl _)).mono ?_
    rintro e w1 ⟨rfl,rfl⟩
    go_wp2_with fail
    go_roundw
    case rel=>exact⟨i+1,by go_num,by omega,hX,HN⟩
    case measure=>simp only[downV];omega
  ·
   have hlI:¬(i:Int)< (x.length:Int):=by omega
   have HN:Hid (false=R):=Lh (by
    have:=HI.out
    rw[List.drop_of_length_le (by omega)]at this
    exact this)
   clear HI
   go_wp2_with fail
   go_ret
   exact⟨ret_bool HN.out,hX⟩
theorem store_rule {W:World} {b:Nat} {u v:Value} (c0:W.cell? ⟨b,0,none⟩=some u) (c1:W.cell? ⟨b,1,none⟩=some v) (f0:W.frozen? ⟨b,0,none⟩=false) (f1:W.frozen? ⟨b,1,none⟩=false) (x y:Option Addr) (n c n' c':Nat):
  (Instr.storeAt 53 (.pointer (some ⟨b,0,none⟩)) (.agg #[.slice x n c,.slice y n' c'])).run Tryz.prog W= .ok () ((W.setCell ⟨b,0,none⟩ (.slice x n c)).setCell ⟨b,1,none⟩ (.slice y n' c')):=by
 go_simp
theorem load_rule {W:World} {b:Nat} {u v:Value} (c0:W.cell? ⟨b,0,none⟩=some u) (c1:W.cell? ⟨b,1,none⟩=some v):(loadVar 53 ⟨b,0,none⟩).run Tryz.prog W= .ok (.agg #[u,v]) W:=by
 go_simp
def ruleR (path:List Bytes) (l:List Rule):Rule:=if findS path l 0< 0 then noRule else l.getD (findS path l 0).toNat noRule
def RetK (p:Nat→Prop) (r:Rule) (b:Bool) (e:Ending) (w:World):Prop:=
 ∃xa xk,e= .returned (.tuple #[.agg #[xa,xk],.bool b])∧Rep w p xa (strsD r.path)∧Rep w p xk (strsD r.keys)
theorem findK_any (p q:Nat→Prop) (x:List Rule) (path:List Bytes) (v u:Value) (w:World) (hb:∀r∈x,r.path.length≤16777216∧r.keys.length≤16777216) (h:Rep w p v (rulesD x)) (k:Rep w q u (strsD path)):
  Calls Tryz.prog 73 #[v,u] w fun e w'=>RetK (fun b=>w.heap.size≤b) (ruleR path x) (decide (0≤findS path x 0)) e w'∧Ext w w':=by
 obtain⟨a,c,rfl,hc1,hc2⟩:=h.count z_rule (by omega)
 obtain⟨b,d,rfl,_,_⟩:=k.count z_str (by omega)
 obtain⟨Rr,hRr⟩:∃R,ruleR path x=R:=⟨_,rfl⟩
 obtain⟨Rb,hRb⟩:∃R,decide (0≤findS path x 0)=R:=⟨_,rfl⟩
 rw[hRr,hRb]
 have HR:=Lh (And.intro hRr hRb)
 clear hRr hRb
 go_enter Tryz.func73,Tryz.ntmps73
 go_wp2_with fail
 obtain⟨g4,hg4⟩:∃g,w.heap.size=g:=⟨_,rfl⟩
 obtain⟨w1,hw1⟩:∃W,w.alloc (.cells #[.slice none 0 0,.slice none 0 0] 53)=W:=⟨_,rfl⟩
 have hE1:Ext w w1:=by rw[←hw1];exact(Ext.refl w).alloc _
 have l41:g4< w1.heap.size:=by rw[←hw1,←hg4];simp
 have z0:w1.cell? ⟨g4,0,none⟩=some (.slice none 0 0):=by rw[←hw1,←hg4];simp[go_sem]
 have z1:w1.cell? ⟨g4,1,none⟩=some (.slice none 0 0):=by rw[←hw1,←hg4];simp[go_sem]
 have y0:w1.frozen? ⟨g4,0,none⟩=false:=by rw[←hw1,←hg4];simp[go_sem]
 have y1:w1.frozen? ⟨g4,1,none⟩=false:=by rw[←hw1,←hg4];simp[go_sem]
 have HZ:=Lh (And.intro l41 (And.intro z0 (And.intro z1 (And.intro y0 y1))))
 have HG:=Lh hg4
 have HE1:=Lh hE1
 rw[hw1,hg4]
 clear l41 z0 z1 y0 y1 hw1 hg4 hE1
 go_loopw [10] (fun t wr=>∃i:Nat,t= .int .i64 i∧i≤x.length∧Ext w1 wr∧Hid (findS path (x.drop i) i=findS path x 0)) (fun t _=>downV x.length t)
 case atStart=>exact⟨0,rfl,Nat.zero_le _,Ext.refl _,Lh rfl⟩
 case round=>
  obtain⟨i,rfl,hi,hX,HI⟩:=hrel
  obtain⟨l41,z01,z11,y01,y11⟩:=HZ.out
  by_cases hlt:i< x.length
  ·
   have hlI:(i:Int)< (x.length:Int):=by omega
   have hi0:(0:Int)≤(i:Int):=by omega
   have hXw:=HE1.out.trans hX
   obtain⟨g,o,vp,vk,rfl,hgb,hp,hcp,hck,hrp,hrk⟩:=rule_at (h.ext hXw) i hlt
   have hbr:=hb _ (List.getElem_mem hlt)
   have HS:Hid (findS path (x.drop i) i=if textsS x[i].path path=true then(i:Int)else findS path (x.drop (i+1)) (i+1)):=Lh (by rw[drop_one x i hlt];rfl)
   have HXI:=Lh (show x.getD i noRule=x[i] by rw[List.getD_eq_getElem?_getD,List.getElem?_eq_getElem hlt];rfl)
   obtain⟨r,hr⟩:∃r,x[i]=r:=⟨_,rfl⟩
   rw[hr]at hrp hrk HS HXI hbr
   obtain⟨a1,c1,rfl,_,_⟩:=hrp.count z_str (by omega)
   obtain⟨a2,c2,rfl,_,_⟩:=hrk.count z_str (by omega)
   obtain⟨g7,hg7⟩:∃g,wr.heap.size=g:=⟨_,rfl⟩
   obtain⟨w2,hw2⟩:∃W,wr.alloc (.cells #[.slice a1 r.path.length c1,.slice a2 r.keys.length c2] 53)=W:=⟨_,rfl⟩
   have hE2:Ext wr w2:=by rw[←hw2];exact(Ext.refl wr).alloc _
   have l72:g7< w2.heap.size:=by rw[←hw2,←hg7];simp
   have b02:w2.cell? ⟨g7,0,none⟩=some (.slice a1 r.path.length c1):=by rw[←hw2,←hg7];simp[go_sem]
   have b12:w2.cell? ⟨g7,1,none⟩=some (.slice a2 r.keys.length c2):=by rw[←hw2,←hg7];simp[go_sem]
   have HC:=Lh fun W (hE:Ext w2 W)=>sequal_q p q r.path path _ _ W (hrp.ext (hE2.trans hE)) (k.ext (hXw.trans (hE2.trans hE)))
   have HP:=Lh (And.intro (hrp.ext hE2) (hrk.ext hE2))
   have HX2:=Lh (hX.trans hE2)
   have HW:=Lh (And.intro hg7 hw2)
   clear hr hrp hrk hXw
   cases ht:textsS r.path path with
   | true=>
    have HN:Hid (r=Rr∧true=Rb):=Lh (by
     have h1:=HI.out
     rw[HS.out,ht,if_pos rfl]at h1
     obtain⟨h2,h3⟩:=HR.out
     unfold ruleR at h2
     rw[←h1]at h2 h3
     rw[if_neg (by omega)]at h2
     rw[Int.toNat_natCast,HXI.out]at h2
     exact⟨h2,by rw[←h3];simp⟩)
    rw[ht]at HC
    clear HS HI ht hg7 hw2 hE2
    go_wp2_with fail
    rw[HW.out.1,HW.out.2]
    have b0:=b02
    refine(HC.out _ (Ext.refl _)).mono ?_
    rintro e w3 ⟨rfl,hB3⟩
    have hX3:=HX2.out.trans hB3.ext
    have l7:g7< w3.heap.size:=Nat.lt_of_lt_of_le l72 hB3.ext.size
    have b0:=hB3.ext.keep l72 b02
    have b1:=hB3.ext.keep l72 b12
    have l4:g4< w3.heap.size:=Nat.lt_of_lt_of_le l41 hX3.size
    have z0:=hX3.keep l41 z01
    have z1:=hX3.keep l41 z11
    have y0:=hX3.free l41 y01
    have y1:=hX3.free l41 y11
    have HA:=Lh fun W (hE:Ext w3 W)=>(clonestr_any r.path p _ W hbr.1 ((HP.out.1.ext hB3.ext).ext hE)).mono fun e w' (h:Ret _ _ e w'∧Ext W w')=>show∃(ua:Option Addr) (uc:Nat),e= .returned (.slice ua r.path.length uc)∧Rep w' (fun b=>w3.heap.size≤b) (.slice ua r.path.length uc) (strsD r.path)∧Ext W w' by
     obtain⟨⟨u,he,hu⟩,hB⟩:=h
     obtain⟨ua,uc,rfl,_,_⟩:=hu.count z_str (by omega)
     exact⟨ua,uc,he,hu.ok fun b hb=>Nat.le_trans hE.size hb,hB⟩
    have HK:=Lh fun W (hE:Ext w3 W)=>(clonestr_any r.keys p _ W hbr.2 ((HP.out.2.ext hB3.ext).ext hE)).mono fun e w' (h:Ret _ _ e w'∧Ext W w')=>show∃(ua:Option Addr) (uc:Nat),e= .returned (.slice ua r.keys.length uc)∧Rep w' (fun b=>w3.heap.size≤b) (.slice ua r.keys.length uc) (strsD r.keys)∧Ext W w' by
     obtain⟨⟨u,he,hu⟩,hB⟩:=h
     obtain⟨ua,uc,rfl,_,_⟩:=hu.count z_str (by omega)
     exact⟨ua,uc,he,hu.ok fun b hb=>Nat.le_trans hE.size hb,hB⟩
    clear HC
    go_wp2_with fail
    refine rg_cut (S:=Sx w3) 7 (by kernel_rfl) (by kernel_rfl) (by kernel_rfl) (by kernel_rfl) (Sx.begin _) ?_
    have hSc:Sx w3 (World.drew w3):=(Sx.begin _)
    refine rg_t 0 (some 18) (.pointer (some ⟨g7,0,none⟩)) rfl hSc (fun w' hs=>by first | rfl | go_simp) ?_
    simp only[Act.put,sA,sZ,sS]
    refine rg_t 1 (some 19) (.slice a1 r.path.length c1) rfl hSc (fun w' hs=>by(have h0:=hs.cell l7 b0;go_simp)) ?_
    simp only[Act.put,sA,sZ,sS]
    refine rg_t 3 (some 21) (.pointer (some ⟨g7,1,none⟩)) rfl hSc (fun w' hs=>by first | rfl | go_simp) ?_
    simp only[Act.put,sA,sZ,sS]
    refine rg_t 4 (some 22) (.slice a2 r.keys.length c2) rfl hSc (fun w' hs=>by(have h0:=hs.cell l7 b1;go_simp)) ?_
    simp only[Act.put,sA,sZ,sS]
    refine rg_call 2 (some 20) 92 #[.slice a1 r.path.length c1] rfl rfl (by kernel_rfl) (by rfl) (fun w'=>by first | rfl | go_simp) (R:=fun v w'=>∃(ua:Option Addr) (uc:Nat),v= .slice ua r.path.length uc∧Rep w' (fun b=>w3.heap.size≤b) (.slice ua r.path.length uc) (strsD r.path)∧Ext (World.drew w3) w') ?_ ?_
    ·
     refine(HA.out (World.drew w3) hSc).mono ?_
     rintro e w' ⟨ua,uc,rfl,hu,hB⟩
     exact⟨_,rfl,ua,uc,rfl,hu,hB⟩
    rintro _ wrc1 ⟨uaa,uac,rfl,hua,hBrc1⟩
    have hSc1:=hSc.ext hBrc1
    refine⟨hSc1,?_⟩
    simp only[Act.put,sA,sZ,sS]
    refine rg_call 5 (some 23) 92 #[.slice a2 r.keys.length c2] rfl rfl (by kernel_rfl) (by rfl) (fun w'=>by first | rfl | go_simp) (R:=fun v w'=>∃(ua:Option Addr) (uc:Nat),v= .slice ua r.keys.length uc∧Rep w' (fun b=>w3.heap.size≤b) (.slice ua r.keys.length uc) (strsD r.keys)∧Ext wrc1 w') ?_ ?_
    ·
     refine(HK.out wrc1 hSc1).mono ?_
     rintro e w' ⟨ua,uc,rfl,hu,hB⟩
     exact⟨_,rfl,ua,uc,rfl,hu,hB⟩
    rintro _ wrc2 ⟨uka,ukc,rfl,huk,hBrc2⟩
    have hSc2:=hSc1.ext hBrc2
    refine⟨hSc2,?_⟩
    simp only[Act.put,sA,sZ,sS]
    refine rg_t 6 (some 24) (.agg #[.slice uaa r.path.length uac,.slice uka r.keys.length ukc]) rfl hSc2 (fun w' hs=>by first | rfl | go_simp) ?_
    simp only[Act.put,sA,sZ,sS]
    have hua2:=hua.ext hBrc2
    have c0:=hSc2.keep l4 z0
    have c1':=hSc2.keep l4 z1
    have f0:=hSc2.free l4 y0
    have f1:=hSc2.free l4 y1
    have hE3:Ext w3 wrc2:=hSc2
    refine rg_done (by kernel_rfl) ?_
    refine rg_go 2 #[true,true,true,true,true,true,true,false,false] (by kernel_rfl) (by kernel_rfl) fun m=> ?_
    refine rg_write 7 none ((wrc2.setCell ⟨g4,0,none⟩ (.slice uaa r.path.length uac)).setCell ⟨g4,1,none⟩ (.slice uka r.keys.length ukc)) rfl rfl (by kernel_rfl) (by rfl) (exec_store rfl (store_rule c0 c1' f0 f1 _ _ _ _ _ _)) trivial ?_
    simp only[Act.put,sA,sZ,sS]
    refine rg_t 8 (some 5) (.bool true) rfl trivial (fun w' hs=>by rfl) ?_
    simp only[Act.put,sA,sZ,sS]
    refine rg_done (by kernel_rfl) ?_
    have HD:Hid (((wrc2.setCell ⟨g4,0,none⟩ (.slice uaa r.path.length uac)).setCell ⟨g4,1,none⟩ (.slice uka r.keys.length ukc)).cell? ⟨g4,0,none⟩=some (.slice uaa r.path.length uac)∧((wrc2.setCell ⟨g4,0,none⟩ (.slice uaa r.path.length uac)).setCell ⟨g4,1,none⟩ (.slice uka r.keys.length ukc)).cell? ⟨g4,1,none⟩=some (.slice uka r.keys.length ukc)):=Lh ⟨by simp[go_sem,c0,c1'],by simp[go_sem,c0,c1']⟩
    have hge:w.heap.size≤g4:=by rw[HG.out];exact Nat.le_refl _
    have hEf:Ext w ((wrc2.setCell ⟨g4,0,none⟩ (.slice uaa r.path.length uac)).setCell ⟨g4,1,none⟩ (.slice uka r.keys.length ukc)):=(((HE1.out.trans hX3).trans hE3).set hge _).set hge _
    have hsz3:=(HE1.out.trans hX3).size
    have hEX:Exc g4 wrc2 ((wrc2.setCell ⟨g4,0,none⟩ (.slice uaa r.path.length uac)).setCell ⟨g4,1,none⟩ (.slice uka r.keys.length ukc)):=((Exc.refl _ _).set (p:=⟨g4,0,none⟩) rfl _).set (p:=⟨g4,1,none⟩) rfl _
    have hp1:Rep ((wrc2.setCell ⟨g4,0,none⟩ (.slice uaa r.path.length uac)).setCell ⟨g4,1,none⟩ (.slice uka r.keys.length ukc)) (fun b=>w.heap.size≤b) (.slice uaa r.path.length uac) (strsD r.path):=(hua2.exc (fun b hb=>by omega) hEX).ok fun b hb=>Nat.le_trans hsz3 hb
    have hp2:Rep ((wrc2.setCell ⟨g4,0,none⟩ (.slice uaa r.path.length uac)).setCell ⟨g4,1,none⟩ (.slice uka r.keys.length ukc)) (fun b=>w.heap.size≤b) (.slice uka r.keys.length ukc) (strsD r.keys):=(huk.exc (fun b hb=>by omega) hEX).ok fun b hb=>Nat.le_trans hsz3 hb
    have HF:=Lh (And.intro hEf (And.intro hp1 hp2))
    generalize (wrc2.setCell ⟨g4,0,none⟩ (.slice uaa r.path.length uac)).setCell ⟨g4,1,none⟩ (.slice uka r.keys.length ukc)=w9 at HF HD⊢
    clear hEX hp1 hp2 hEf c0 c1' f0 f1 hua hua2 huk
    go_wp2_with fail
    refine bodyPost_ret (res_node rfl _ _ _ ⟨g4,0,none⟩ ?_ (load_rule HD.out.1 HD.out.2)) rfl ?_
    ·
     rfl
    rw[←HN.out.1,←HN.out.2]
    exact⟨⟨_,_,rfl,HF.out.2.1,HF.out.2.2⟩,HF.out.1⟩
   | false=>
    have HN:Hid (findS path (x.drop (i+1)) (i+1)=findS path x 0):=Lh (by have:=HS.out;rw[ht,if_neg (by decide)]at this;rw[←this];exact HI.out)
    rw[ht]at HC
    clear HS HI ht hg7 hw2 hE2
    go_wp2_with fail
    rw[HW.out.1,HW.out.2]
    have b0:=b02
    refine(HC.out _ (Ext.refl _)).mono ?_
    rintro e w3 ⟨rfl,hB3⟩
    have hX3:=HX2.out.trans hB3.ext
    clear HC
    go_wp2_with fail
    go_roundw
    case rel=>exact⟨i+1,by go_num,by omega,hX3,HN⟩
    case measure=>simp only[downV];omega
  ·
   have hlI:¬(i:Int)< (x.length:Int):=by omega
   have HN:Hid (noRule=Rr∧false=Rb):=Lh (by
    have h1:=HI.out
    rw[List.drop_of_length_le (by omega)]at h1
    obtain⟨h2,h3⟩:=HR.out
    unfold ruleR at h2
    rw[←h1]at h2 h3
    exact⟨h2,h3⟩)
   clear HI
   have z0:=hX.keep l41 z01
   have z1:=hX.keep l41 z11
   have y0:=hX.free l41 y01
   have y1:=hX.free l41 y11
   have HD:Hid (((wr.setCell ⟨g4,0,none⟩ (.slice none 0 0)).setCell ⟨g4,1,none⟩ (.slice none 0 0)).cell? ⟨g4,0,none⟩=some (.slice none 0 0)∧((wr.setCell ⟨g4,0,none⟩ (.slice none 0 0)).setCell ⟨g4,1,none⟩ (.slice none 0 0)).cell? ⟨g4,1,none⟩=some (.slice none 0 0)):=Lh ⟨by simp[go_sem,z0,z1],by simp[go_sem,z0,z1]⟩
   have hge:w.heap.size≤g4:=by rw[HG.out];exact Nat.le_refl _
   have HF:Hid (Ext w ((wr.setCell ⟨g4,0,none⟩ (.slice none 0 0)).setCell ⟨g4,1,none⟩ (.slice none 0 0))):=Lh (((HE1.out.trans hX).set hge _).set hge _)
   clear z01 z11 y01 y11
   go_wp2_with fail
   generalize (wr.setCell ⟨g4,0,none⟩ (.slice none 0 0)).setCell ⟨g4,1,none⟩ (.slice none 0 0)=w9 at HF HD⊢
   refine bodyPost_ret (res_node rfl _ _ _ ⟨g4,0,none⟩ ?_ (load_rule HD.out.1 HD.out.2)) rfl ?_
   ·
    rfl
   rw[←HN.out.1,←HN.out.2]
   exact⟨⟨_,_,rfl,.nil 1,.nil 1⟩,HF.out⟩
theorem findS_in (path:List Bytes):∀(l:List Rule) (i:Nat),decide (0≤findS path l i)=l.any fun r=>textsS r.path path
 | [],_=>rfl
 | r::l,i=>by
  unfold findS
  rw[List.any_cons]
  cases textsS r.path path with
  | true=>simp
  | false=>rw[if_neg (by decide),Bool.false_or];exact findS_in path l (i+1)
theorem frontK_any (p q:Nat→Prop) (x:List Rule) (path:List Bytes) (v u:Value) (w:World) (hne:∀r∈x,r.path≠ []) (h:Rep w p v (rulesD x)) (k:Rep w q u (strsD path)):
  Calls Tryz.prog 46 #[v,u] w fun e w'=>e= .returned (.bool (frontS x path))∧Ext w w':=by
 obtain⟨a,c,rfl,hc1,hc2⟩:=h.count z_rule (by omega)
 obtain⟨b,d,rfl,hd1,hd2⟩:=k.count z_str (by omega)
 obtain⟨R,hR⟩:∃R,frontS x path=R:=⟨_,rfl⟩
 rw[hR]
 have HR:=Lh hR
 clear hR
 go_enter Tryz.func46,Tryz.ntmps46
 go_wp2_with fail
 go_loopw [5,11] (fun ov t wr=>∃(i:Nat) (ok:Bool),ov= .bool ok∧t= .int .i64 i∧i≤x.length∧Ext w wr∧Hid ((!aboveS path (x.drop i) && (ok || (x.drop i).any fun r=>textsS r.path path))=R)) (fun _ t _=>downV x.length t)
 case atStart=>exact⟨0,false,rfl,rfl,Nat.zero_le _,Ext.refl _,Lh (by rw[←HR.out];unfold frontS;rw[findS_in,List.drop_zero,Bool.false_or])⟩
 case round=>
  obtain⟨i,ok,rfl,rfl,hi,hX,HI⟩:=hrel
  by_cases hlt:i< x.length
  ·
   have hlI:(i:Int)< (x.length:Int):=by omega
   have hi0:(0:Int)≤(i:Int):=by omega
   obtain⟨g,o,vp,vk,rfl,hb,hp,hc,hd,hrp,hrk⟩:=rule_at (h.ext hX) i hlt
   have hnr:=hne _ (List.getElem_mem hlt)
   have HS:Hid (aboveS path (x.drop i)=((decide (path.length< x[i].path.length) && textsS (x[i].path.take path.length) path) || aboveS path (x.drop (i+1)))∧((x.drop i).any fun r=>textsS r.path path)=(textsS x[i].path path || (x.drop (i+1)).any fun r=>textsS r.path path)):=Lh (by rw[drop_one x i hlt,above_step,List.any_cons];exact⟨rfl,rfl⟩)
   obtain⟨r,hr⟩:∃r,x[i]=r:=⟨_,rfl⟩
   rw[hr]at hrp hrk HS hnr
   have hn0:0< r.path.length:=List.length_pos_iff.2 hnr
   obtain⟨a1,c1,rfl,hq1,hq2⟩:=hrp.count z_str (by omega)
   obtain⟨a2,c2,rfl,_,_⟩:=hrk.count z_str (by omega)
   obtain⟨g2,o2,rfl, -⟩:=str_at hrp 0 hn0
   obtain⟨g7,hg7⟩:∃g,wr.heap.size=g:=⟨_,rfl⟩
   obtain⟨w2,hw2⟩:∃W,wr.alloc (.cells #[.slice (some ⟨g2,o2,none⟩) r.path.length c1,.slice a2 r.keys.length c2] 53)=W:=⟨_,rfl⟩
   have hE2:Ext wr w2:=by rw[←hw2];exact(Ext.refl wr).alloc _
   have l7:g7< w2.heap.size:=by rw[←hw2,←hg7];simp
   have b0:w2.cell? ⟨g7,0,none⟩=some (.slice (some ⟨g2,o2,none⟩) r.path.length c1):=by rw[←hw2,←hg7];simp[go_sem]
   have HW:=Lh (And.intro hg7 hw2)
   have HX2:=Lh (hX.trans hE2)
   have HNZ:=Lh (And.intro hnr hn0)
   by_cases hlen:path.length< r.path.length
   ·
    have hlenI:(path.length:Int)< (r.path.length:Int):=by omega
    have hsub:Rep wr p (.slice (some ⟨g2,o2,none⟩) path.length c1) (strsD (r.path.take path.length)):=by
     have:=hrp.take path.length (by omega)
     rw[flat_take _ 1 z_str]at this;exact this
    have hmin:Hid (min (r.path.length:Int) (path.length:Int)=(path.length:Int)):=Lh (by omega)
    have HC:=Lh fun W (hE:Ext w2 W)=>sequal_q p q (r.path.take path.length) path _ _ W (hsub.ext (hE2.trans hE)) (k.ext (hX.trans (hE2.trans hE)))
    have HL:=Lh hlen
    clear hr hrp hrk hsub hnr hn0 hE2 hg7 hw2
    cases ht:textsS (r.path.take path.length) path with
    | true=>
     have HN:Hid (false=R):=Lh (by have:=HS.out.1;rw[ht,decide_eq_true hlen]at this;rw[←HI.out,this];rfl)
     rw[ht]at HC
     clear HS HI ht
     go_wp2_with fail
     rw[HW.out.1,HW.out.2]
     (try simp only[hmin.out,Int.toNat_natCast])
     refine(HC.out _ (Ext.refl _)).mono ?_
     rintro e w3 ⟨rfl,hB3⟩
     have b0:=hB3.ext.keep l7 b0
     have hX3:=HX2.out.trans hB3.ext
     clear HC
     go_wp2_with fail
     go_ret
     exact⟨ret_bool HN.out,hX3⟩
    | false=>
     have HN:Hid ((!aboveS path (x.drop (i+1)) && (ok || (x.drop (i+1)).any fun r=>textsS r.path path))=R):=Lh (by
      have h1:=HS.out.1
      have h2:=HS.out.2
      have h3:textsS r.path path=false:=textsS_ne _ _ (by omega)
      rw[ht,Bool.and_false,Bool.false_or]at h1
      rw[h3,Bool.false_or]at h2
      rw[←HI.out,h1,h2])
     rw[ht]at HC
     clear HS HI ht
     go_wp2_with fail
     rw[HW.out.1,HW.out.2]
     (try simp only[hmin.out,Int.toNat_natCast])
     refine(HC.out _ (Ext.refl _)).mono ?_
     rintro e w3 ⟨rfl,hB3⟩
     have b0:=hB3.ext.keep l7 b0
     have hX3:=HX2.out.trans hB3.ext
     clear HC
     go_wp2_with fail
     go_roundw
     case rel=>exact⟨i+1,ok,rfl,by go_num,by omega,hX3,HN⟩
     case measure=>simp only[downV];omega
   ·
    have hlenI:¬(path.length:Int)< (r.path.length:Int):=by omega
    have hmin:Hid (min (r.path.length:Int) (path.length:Int)=(r.path.length:Int)):=Lh (by omega)
    have HC:=Lh fun W (hE:Ext w2 W)=>sequal_q p q r.path path _ _ W (hrp.ext (hE2.trans hE)) (k.ext (hX.trans (hE2.trans hE)))
    have HL:=Lh hlen
    clear hr hrp hrk hnr hn0 hE2 hg7 hw2
    cases ht:textsS r.path path with
    | true=>
     have HN:Hid ((!aboveS path (x.drop (i+1)) && (true || (x.drop (i+1)).any fun r=>textsS r.path path))=R):=Lh (by
      have h1:=HS.out.1
      have h2:=HS.out.2
      rw[decide_eq_false hlen,Bool.false_and,Bool.false_or]at h1
      rw[ht,Bool.true_or]at h2
      rw[←HI.out,h1,h2,Bool.true_or,Bool.or_true])
     rw[ht]at HC
     clear HS HI ht
     go_wp2_with fail
     rw[HW.out.1,HW.out.2]
     (try simp only[hmin.out,Int.toNat_natCast])
     refine(HC.out _ (Ext.refl _)).mono ?_
     rintro e w3 ⟨rfl,hB3⟩
     have b0:=hB3.ext.keep l7 b0
     have hX3:=HX2.out.trans hB3.ext
     clear HC
     go_wp2_with fail
     go_roundw
     case rel=>exact⟨i+1,true,rfl,by go_num,by omega,hX3,HN⟩
     case measure=>simp only[downV];omega
    | false=>
     have HN:Hid ((!aboveS path (x.drop (i+1)) && (ok || (x.drop (i+1)).any fun r=>textsS r.path path))=R):=Lh (by
      have h1:=HS.out.1
      have h2:=HS.out.2
      rw[decide_eq_false hlen,Bool.false_and,Bool.false_or]at h1
      rw[ht,Bool.false_or]at h2
      rw[←HI.out,h1,h2])
     rw[ht]at HC
     clear HS HI ht
     go_wp2_with fail
     rw[HW.out.1,HW.out.2]
     (try simp only[hmin.out,Int.toNat_natCast])
     refine(HC.out _ (Ext.refl _)).mono ?_
     rintro e w3 ⟨rfl,hB3⟩
     have b0:=hB3.ext.keep l7 b0
     have hX3:=HX2.out.trans hB3.ext
     clear HC
     go_wp2_with fail
     go_roundw
     case rel=>exact⟨i+1,ok,rfl,by go_num,by omega,hX3,HN⟩
     case measure=>simp only[downV];omega
  ·
   have hlI:¬(i:Int)< (x.length:Int):=by omega
   have HN:Hid (ok=R):=Lh (by
    have:=HI.out
    rw[List.drop_of_length_le (by omega)]at this
    rw[←this];simp[aboveS])
   clear HI
   go_wp2_with fail
   go_ret
   exact⟨ret_bool HN.out,hX⟩
theorem placed_any (p q:Nat→Prop) (x:List Rule) (r:Rule) (v vp vk:Value) (w:World) (hb:∀r∈x,r.path.length≤16777216∧r.keys.length≤16777216) (hne:r.path≠ []) (h:Rep w p v (rulesD x)) (kp:Rep w q vp (strsD r.path)) (kk:Rep w q vk (strsD r.keys)):
  Calls Tryz.prog 34 #[v,.agg #[vp,vk]] w fun e w'=>e= .returned (.bool (placedS x r))∧Ext w w':=by
 obtain⟨a,c,rfl,hc1,hc2⟩:=h.count z_rule (by omega)
 obtain⟨b,d,rfl,hd1,hd2⟩:=kp.count z_str (by omega)
 obtain⟨b2,d2,rfl,_,_⟩:=kk.count z_str (by omega)
 have hn0:0< r.path.length:=List.length_pos_iff.2 hne
 obtain⟨g2,o2,rfl, -⟩:=str_at kp 0 hn0
 obtain⟨R,hR⟩:∃R,placedS x r=R:=⟨_,rfl⟩
 rw[hR]
 obtain⟨m,hm⟩:∃m,r.path.length - 1=m:=⟨_,rfl⟩
 have hzm:(r.path.length:Int) - 1=(m:Int):=by omega
 have hm2:m≤r.path.length∧m< 9223372036854775807:=by omega
 have HM:=Lh hm
 obtain⟨g3,hg3⟩:∃g,w.heap.size=g:=⟨_,rfl⟩
 obtain⟨w2,hw2⟩:∃W,w.alloc (.cells #[.slice (some ⟨g2,o2,none⟩) r.path.length d,.slice b2 r.keys.length d2] 53)=W:=⟨_,rfl⟩
 have hE2:Ext w w2:=by rw[←hw2];exact(Ext.refl w).alloc _
 have l3:g3< w2.heap.size:=by rw[←hw2,←hg3];simp
 have b0:w2.cell? ⟨g3,0,none⟩=some (.slice (some ⟨g2,o2,none⟩) r.path.length d):=by rw[←hw2,←hg3];simp[go_sem]
 have HW:=Lh (And.intro hg3 hw2)
 have HC:=Lh fun W (hE:Ext w W)=>findK_any p q x r.path _ _ W hb (h.ext hE) (kp.ext hE)
 have HC2:Hid (∀W,Ext w W→Calls Tryz.prog 73 #[.slice a x.length c,.slice (some ⟨g2,o2,none⟩) m d] W fun e w'=>RetK (fun b=>W.heap.size≤b) (ruleR (r.path.take m) x) (decide (0≤findS (r.path.take m) x 0)) e w'∧Ext W w'):=Lh fun W hE=>by
  have hsub:=kp.take m hm2.1
  rw[flat_take _ 1 z_str]at hsub
  exact findK_any p q x (r.path.take m) _ _ W hb (h.ext hE) (hsub.ext hE)
 have HN:Hid ((if 0≤findS r.path x 0 then false else if m=0 then decide (x.length=0)else decide (0≤findS (r.path.take m) x 0))=R):=Lh (by
  rw[←hR];unfold placedS;rw[hm]
  split
  ·
   rfl
  ·
   by_cases h1:m=0
   ·
    rw[if_pos h1,if_pos (by omega)]
   ·
    rw[if_neg h1,if_neg (by omega)])
 have HE2:=Lh hE2
 clear hR hm h kp kk hne hn0 hg3 hw2 hE2
 obtain⟨F1,hF1⟩:∃F,decide (0≤findS r.path x 0)=F:=⟨_,rfl⟩
 obtain⟨F2,hF2⟩:∃F,decide (0≤findS (r.path.take m) x 0)=F:=⟨_,rfl⟩
 rw[hF1]at HC
 rw[hF2]at HC2
 have HF:=Lh (And.intro hF1 hF2)
 clear hF1 hF2
 go_enter Tryz.func34,Tryz.ntmps34
 go_wp2_with fail
 rw[HW.out.1,HW.out.2]
 go_wp2_with fail
 refine(HC.out _ HE2.out).mono ?_
 rintro e w3 ⟨⟨xa,xk,rfl,hxa,hxk⟩,hB3⟩
 obtain⟨ua,uc,rfl,_,_⟩:=hxa.count z_str (by omega)
 obtain⟨ka,kc,rfl,_,_⟩:=hxk.count z_str (by omega)
 have b0:=hB3.keep l3 b0
 have l3:=Nat.lt_of_lt_of_le l3 hB3.size
 have HX3:=Lh (HE2.out.trans hB3)
 clear HC hxa hxk hB3
 cases F1 with
 | true=>
  have HN2:Hid (false=R):=Lh (by have:=HN.out;rw[if_pos (of_decide_eq_true HF.out.1)]at this;exact this)
  go_wp2_with fail
  go_ret
  exact⟨ret_bool HN2.out,HX3.out.alloc _⟩
 | false=>
  have HN2:Hid ((if m=0 then decide (x.length=0)else F2)=R):=Lh (by have:=HN.out;rw[if_neg (of_decide_eq_false HF.out.1),HF.out.2]at this;exact this)
  clear HN
  obtain⟨w4,hw4⟩:∃W,w3.alloc (.cells #[.slice ua (ruleR r.path x).path.length uc,.slice ka (ruleR r.path x).keys.length kc] 53)=W:=⟨_,rfl⟩
  have hE4:Ext w3 w4:=by rw[←hw4];exact(Ext.refl w3).alloc _
  have b0':=hE4.keep l3 b0
  have HX4:=Lh (HX3.out.trans hE4)
  have HW4:=Lh hw4
  clear hE4 hw4
  by_cases hm0:m=0
  ·
   have HN3:Hid (decide (x.length=0)=R):=Lh (by have:=HN2.out;rwa [if_pos hm0]at this)
   subst hm0
   by_cases hx0:x.length=0
   ·
    have hx1:((x.length:Int)==0)=true:=by rw[hx0];rfl
    have HN4:Hid (true=R):=Lh (by rw[←HN3.out,hx0];rfl)
    clear HN3 HN2
    have HX0:=Lh hx0
    clear hx0
    go_wp2_with fail
    rw[HW4.out]
    go_wp2_with fail
    go_ret
    exact⟨ret_bool HN4.out,HX4.out⟩
   ·
    have hx1:((x.length:Int)==0)=false:=by rw[beq_eq_false_iff_ne];omega
    have HN4:Hid (false=R):=Lh (by rw[←HN3.out,decide_eq_false hx0])
    clear HN3 HN2
    go_wp2_with fail
    rw[HW4.out]
    go_wp2_with fail
    go_ret
    exact⟨ret_bool HN4.out,HX4.out⟩
  ·
   have HN3:Hid (F2=R):=Lh (by have:=HN2.out;rwa [if_neg hm0]at this)
   have hm1:((m:Int)==0)=false:=by rw[beq_eq_false_iff_ne];omega
   clear HN2
   go_wp2_with fail
   rw[HW4.out]
   go_wp2_with fail
   refine(HC2.out _ HX4.out).mono ?_
   rintro e w5 ⟨⟨xa,xk,rfl,hxa,hxk⟩,hB5⟩
   obtain⟨ua2,uc2,rfl,_,_⟩:=hxa.count z_str (by omega)
   obtain⟨ka2,kc2,rfl,_,_⟩:=hxk.count z_str (by omega)
   have HX5:=Lh (HX4.out.trans hB5)
   clear HC2 hxa hxk hB5
   go_wp2_with fail
   go_ret
   exact⟨ret_bool HN3.out,HX5.out.alloc _⟩
theorem manyK_cnt (x:Bytes):∀(l:List Node) (m:Nat) (n:Node) (C:Nat),cntL l≤C→cntN n≤C→cntN (manyK x l m n).2≤C
 | [],m,n,C,_,h=>h
 | k::r,m,n,C,hl,h=>by
  unfold manyK
  rw[cntL]at hl
  split
  ·
   exact manyK_cnt x r _ _ C (by omega) (by omega)
  ·
   exact manyK_cnt x r _ _ C (by omega) h
theorem cnt_kids (n:Node):cntL n.kids+cntA n.attrs+1≤cntN n:=by cases n;rw[cntN];simp only[Node.kids,Node.attrs];omega
theorem cntL_len:∀l:List Node,l.length≤cntL l
 | []=>Nat.zero_le _
 | n::r=>by have:=cntL_len r;have:=cntN_pos n;rw[cntL,List.length_cons];omega
def OutV (r:Option Bytes):Value:= .tuple #[.string (bs (r.getD [])),.bool r.isSome]
theorem bs_eqf {a b:Bytes} (h:a≠b):((bs a).toList==(bs b).toList)=false:=by rw[bs_toList,bs_toList,beq_eq_false_iff_ne];exact h
theorem bs_eqt (a:Bytes):((bs a).toList==(bs a).toList)=true:=beq_self_eq_true _
theorem attribute_any (m:Node) (x:Bytes) (p:Nat→Prop) (va vk:Value) (w:World) (hcnt:cntN m≤1048576)
  (hva:Rep w p va (attrsD m.attrs)) (hvk:Rep w p vk (nodesD m.kids)):
  Calls Tryz.prog 216 #[.agg #[.int .i64 m.kind,.string (bs m.name),.string (bs m.text),va,vk],.string (bs x)] w fun e w'=>e= .returned (OutV (attrGet x m.attrs))∧Ext w w':=by
 obtain⟨ba,ca,rfl,_,_⟩:=hva.count z_attr (by omega)
 obtain⟨bk,ck,rfl,_,_⟩:=hvk.count z_node (by omega)
 obtain⟨R,hR⟩:∃R,attrGet x m.attrs=R:=⟨_,rfl⟩
 rw[hR]
 have HR:=Lh hR
 clear hR
 go_enter Tryz.func216,Tryz.ntmps216
 go_wp2_with fail
 obtain⟨w1,hw1⟩:∃w1,(w.alloc (.cells #[.int .i64 m.kind,.string (bs m.name),.string (bs m.text),.slice ba m.attrs.length ca,.slice bk m.kids.length ck] 26))=w1:=⟨_,rfl⟩
 have hE1:Ext w w1:=by rw[←hw1];exact(Ext.refl w).alloc _
 rw[hw1]
 clear hw1
 go_loopw [11] (fun t wq=>∃k:Nat,t= .int .i64 k∧k≤m.attrs.length∧Ext w wq∧Hid (attrGet x (m.attrs.drop k)=R)) (fun t _=>downV m.attrs.length t)
 case atStart=>exact⟨0,rfl,Nat.zero_le _,hE1,HR⟩
 case round=>
  obtain⟨k,rfl,hk,hD,HK⟩:=hrel
  have hk0:(0:Int)≤(k:Int):=by omega
  by_cases hkl:k< m.attrs.length
  ·
   have hkI:(k:Int)< (m.attrs.length:Int):=by omega
   obtain⟨ga,oa,rfl,lga,_,d1,d2⟩:=attr_at (hva.ext hD) k hkl
   have HKS:Hid (attrGet x (m.attrs.drop k)=if m.attrs[k].n=x then some m.attrs[k].v else attrGet x (m.attrs.drop (k+1))):=Lh (by rw[drop_one m.attrs k hkl,attrGet])
   obtain⟨y,hy⟩:∃y,m.attrs[k]=y:=⟨_,rfl⟩
   rw[hy]at d1 d2 HKS
   have HD:=Lh hD
   clear hy hD
   by_cases hyx:y.n=x
   ·
    have q1:((bs y.n).toList==(bs x).toList)=true:=by rw[hyx];exact bs_eqt _
    have HN:Hid (some y.v=R):=Lh (by rw[←HK.out,HKS.out,if_pos hyx])
    clear HK HKS hyx
    go_wp2_with fail
    go_ret2
    exact⟨by rw[←HN.out];rfl,HD.out.alloc _⟩
   ·
    have q1:=bs_eqf hyx
    have HN:Hid (attrGet x (m.attrs.drop (k+1))=R):=Lh (by rw[←HK.out,HKS.out,if_neg hyx])
    clear HK HKS hyx
    go_wp2_with fail
    go_roundw
    case rel=>exact⟨k+1,by go_num,by omega,HD.out.alloc _,HN⟩
    case measure=>simp only[downV];omega
  ·
   have hkI:¬(k:Int)< (m.attrs.length:Int):=by omega
   have HN:Hid (none=R):=Lh (by rw[←HK.out,List.drop_of_length_le (by omega)];rfl)
   clear HK
   go_wp2_with fail
   go_ret2
   exact⟨by rw[←HN.out];rfl,hD⟩
def RetO (p:Nat→Prop) (r:Node) (b:Bool) (e:Ending) (w:World):Prop:=
 ∃xa xk,e= .returned (.tuple #[.agg #[.int .i64 r.kind,.string (bs r.name),.string (bs r.text),xa,xk],.bool b])∧Rep w p xa (attrsD r.attrs)∧Rep w p xk (nodesD r.kids)
theorem b5_zero (W:World):B5 (W.alloc (.cells #[.int .i64 0,.string ⟨#[]⟩,.string ⟨#[]⟩,.slice none 0 0,.slice none 0 0] 26)) W.heap.size zeroN (.slice none 0 0) (.slice none 0 0):=
 ⟨by simp,by simp[go_sem,zeroN,Node.kind],by simp[go_sem,zeroN,Node.name];rfl,by simp[go_sem,zeroN,Node.text];rfl,by simp[go_sem],by simp[go_sem],by simp[go_sem],by simp[go_sem],by simp[go_sem],by simp[go_sem],by simp[go_sem]⟩
theorem b5_box (W:World) (m:Node) (va vk:Value):B5 (W.alloc (.cells #[.int .i64 m.kind,.string (bs m.name),.string (bs m.text),va,vk] 26)) W.heap.size m va vk:=
 ⟨by simp,by simp[go_sem],by simp[go_sem],by simp[go_sem],by simp[go_sem],by simp[go_sem],by simp[go_sem],by simp[go_sem],by simp[go_sem],by simp[go_sem],by simp[go_sem]⟩
theorem only_any (m:Node) (c:Bytes) (p:Nat→Prop) (va vk:Value) (w0 w:World) (hE0:Ext w0 w) (hcnt:cntN m≤1048576)
  (hva:Rep w0 p va (attrsD m.attrs)) (hvk:Rep w0 p vk (nodesD m.kids)):
  Calls Tryz.prog 217 #[.agg #[.int .i64 m.kind,.string (bs m.name),.string (bs m.text),va,vk],.string (bs c)] w fun e w'=>RetO p (manyK c m.kids 0 zeroN).2 (decide ((manyK c m.kids 0 zeroN).1=1)) e w0∧Ext w w':=by
 have HE0:=Lh hE0
 clear hE0
 obtain⟨ba,ca,rfl,_,_⟩:=hva.count z_attr (by omega)
 obtain⟨bk,ck,rfl,_,_⟩:=hvk.count z_node (by omega)
 have hck:=cnt_kids m
 have hckl:=cntL_len m.kids
 have hkids:m.kids.length≤1048576:=by omega
 obtain⟨M,hM⟩:∃M,manyK c m.kids 0 zeroN=M:=⟨_,rfl⟩
 rw[hM]
 have HM:=Lh hM
 clear hM hck hckl
 go_enter Tryz.func217,Tryz.ntmps217
 go_wp2_with fail
 obtain⟨wz,hwz⟩:∃W,((w.alloc (.cells #[.int .i64 m.kind,.string (bs m.name),.string (bs m.text),.slice ba m.attrs.length ca,.slice bk m.kids.length ck] 26)).alloc (.cells #[.int .i64 0,.string ⟨#[]⟩,.string ⟨#[]⟩,.slice none 0 0,.slice none 0 0] 26))=W:=⟨_,rfl⟩
 have hX:Ext w wz:=by rw[←hwz];exact((Ext.refl w).alloc _).alloc _
 have h4:B5 wz (w.heap.size+1) zeroN (.slice none 0 0) (.slice none 0 0):=by
  rw[←hwz]
  have:=b5_zero (w.alloc (.cells #[.int .i64 m.kind,.string (bs m.name),.string (bs m.text),.slice ba m.attrs.length ca,.slice bk m.kids.length ck] 26))
  simpa using this
 have hsz:wz.heap.size=w.heap.size+2:=by rw[←hwz];simp
 obtain⟨g4,hg4⟩:∃g,w.heap.size+1=g:=⟨_,rfl⟩
 obtain⟨g6,hg6⟩:∃g,g4+1=g:=⟨_,rfl⟩
 obtain⟨w3,hw3⟩:∃W,(wz.alloc (.cells #[.int .i64 0,.string ⟨#[]⟩,.string ⟨#[]⟩,.slice none 0 0,.slice none 0 0] 26))=W:=⟨_,rfl⟩
 have hE3:Ext wz w3:=by rw[←hw3];exact(Ext.refl wz).alloc _
 have h6:B5 w3 g6 zeroN (.slice none 0 0) (.slice none 0 0):=by
  rw[←hw3,show g6=wz.heap.size by omega];exact b5_zero wz
 have hz6:wz.heap.size=g6:=by omega
 have hz4:w.heap.size≤g4∧g4< g6:=by omega
 rw[hwz,hw3]
 simp only[hg4]
 simp only[hg6]
 rw[hg4]at h4
 have H4:=Lh (And.intro h4 (And.intro hz6 hz4))
 have H6:=Lh h6
 have HX:=Lh hX
 clear hwz hw3 h4 h6 hz6 hz4 hsz hg4 hg6 hX
 go_loopw [7,13] (fun mm t wq=>∃(k j:Nat) (nx:Node) (ya yk:Value),t= .int .i64 k∧mm= .int .i64 j∧k≤m.kids.length∧j≤k∧Ext wz wq∧Hid (B5 wq g6 nx ya yk∧Rep w0 p ya (attrsD nx.attrs)∧Rep w0 p yk (nodesD nx.kids)∧manyK c (m.kids.drop k) j nx=M)) (fun _ t _=>downV m.kids.length t)
 case atStart=>exact⟨0,0,zeroN,_,_,rfl,rfl,Nat.zero_le _,Nat.le_refl _,hE3,Lh ⟨H6.out,.nil 2,.nil 5,HM.out⟩⟩
 case round=>
  obtain⟨k,j,nx,ya,yk,rfl,rfl,hk,hj,hQ,HQ⟩:=hrel
  have hk0:(0:Int)≤(k:Int):=by omega
  have hj0:(0:Int)≤(j:Int):=by omega
  have hjk:(j:Int)≤(k:Int):=by omega
  have hkb:(k:Int)≤1048576:=by omega
  obtain⟨hnx,hya,hyk,hmk⟩:=HQ.out
  by_cases hkl:k< m.kids.length
  ·
   have hkI:(k:Int)< (m.kids.length:Int):=by omega
   obtain⟨gk,ok,za,zk,rfl,lgk,_,d0,d1,d2,d3,d4,hza,hzk⟩:=node_at hvk k hkl
   have hEw:=HE0.out.trans (HX.out.trans hQ)
   have e0:=hEw.keep lgk d0
   have e1:=hEw.keep lgk d1
   have e2:=hEw.keep lgk d2
   have e3:=hEw.keep lgk d3
   have e4:=hEw.keep lgk d4
   have HKS:Hid (manyK c (m.kids.drop k) j nx=if m.kids[k].kind=1∧m.kids[k].name=c then manyK c (m.kids.drop (k+1)) (j+1) m.kids[k]else manyK c (m.kids.drop (k+1)) j nx):=Lh (by rw[drop_one m.kids k hkl,manyK])
   obtain⟨x,hx⟩:∃x,m.kids[k]=x:=⟨_,rfl⟩
   rw[hx]at e0 e1 e2 hza hzk HKS
   obtain⟨zab,zac,rfl,_,_⟩:=hza.count z_attr (by omega)
   obtain⟨zkb,zkc,rfl,_,_⟩:=hzk.count z_node (by omega)
   obtain⟨w9,hw9⟩:∃W,wr.alloc (.cells #[.int .i64 x.kind,.string (bs x.name),.string (bs x.text),.slice zab x.attrs.length zac,.slice zkb x.kids.length zkc] 26)=W:=⟨_,rfl⟩
   have hE9:Ext wr w9:=by rw[←hw9];exact(Ext.refl wr).alloc _
   obtain⟨g9,hg9⟩:∃g,wr.heap.size=g:=⟨_,rfl⟩
   have hb9:B5 w9 g9 x (.slice zab x.attrs.length zac) (.slice zkb x.kids.length zkc):=by rw[←hw9,←hg9];exact b5_box wr x _ _
   have hn9:=hnx.ext hE9
   have HB9:=Lh (And.intro hn9 (hQ.trans hE9))
   have HG6:Hid (wz.heap.size≤g6):=Lh (by rw[H4.out.2.1];exact Nat.le_refl _)
   have HW9:=Lh (And.intro hw9 hg9)
   clear hw9 hg9
   go_upto_region 6 with fail
   rw[HW9.out.1,HW9.out.2]
   have n0:=hn9.c0;have n1:=hn9.c1;have n2:=hn9.c2;have n3:=hn9.c3;have n4:=hn9.c4
   have z0:=hn9.f0;have z1:=hn9.f1;have z2:=hn9.f2;have z3:=hn9.f3;have z4:=hn9.f4
   have b0:=hb9.c0;have b1:=hb9.c1;have b2:=hb9.c2;have b3:=hb9.c3;have b4:=hb9.c4
   clear hx d0 d1 d2 d3 d4 e0 e1 e2 e3 e4 HQ hEw HM hE9 hn9 hnx hb9 hQ
   by_cases hk1:x.kind=1
   ·
    have q1:(x.kind==1)=true:=by rw[hk1];rfl
    by_cases hnm:x.name=c
    ·
     have q2:((bs x.name).toList==(bs c).toList)=true:=by rw[hnm];exact bs_eqt _
     have HN:Hid (manyK c (m.kids.drop (k+1)) (j+1) x=M):=Lh (by rw[←hmk,HKS.out,if_pos ⟨hk1,hnm⟩])
     clear HKS hmk hk1 hnm
     go_wp2_with fail
     go_roundw
     case rel=>exact⟨k+1,j+1,x,_,_,by go_num,by go_num,by omega,by omega,HB9.out.2.st5 HG6.out x _ _,Lh ⟨HB9.out.1.put,hza,hzk,HN.out⟩⟩
     case measure=>simp only[downV];omega
    ·
     have q2:=bs_eqf hnm
     have HN:Hid (manyK c (m.kids.drop (k+1)) j nx=M):=Lh (by rw[←hmk,HKS.out,if_neg (fun h=>hnm h.2)])
     clear HKS hmk hk1 hnm
     go_wp2_with fail
     go_roundw
     case rel=>exact⟨k+1,j,nx,_,_,by go_num,rfl,by omega,by omega,HB9.out.2,Lh ⟨HB9.out.1,hya,hyk,HN.out⟩⟩
     case measure=>simp only[downV];omega
   ·
    have q1:(x.kind==1)=false:=by rw[beq_eq_false_iff_ne];exact hk1
    have HN:Hid (manyK c (m.kids.drop (k+1)) j nx=M):=Lh (by rw[←hmk,HKS.out,if_neg (fun h=>hk1 h.1)])
    clear HKS hmk hk1
    go_wp2_with fail
    go_roundw
    case rel=>exact⟨k+1,j,nx,_,_,by go_num,rfl,by omega,by omega,HB9.out.2,Lh ⟨HB9.out.1,hya,hyk,HN.out⟩⟩
    case measure=>simp only[downV];omega
  ·
   have hkI:¬(k:Int)< (m.kids.length:Int):=by omega
   rw[List.drop_of_length_le (by omega)]at hmk
   have hM:M=(j,nx):=by rw[←hmk];rfl
   subst hM
   obtain⟨yab,yac,rfl,_,_⟩:=hya.count z_attr (by omega)
   obtain⟨ykb,ykc,rfl,_,_⟩:=hyk.count z_node (by omega)
   have n0:=hnx.c0;have n1:=hnx.c1;have n2:=hnx.c2;have n3:=hnx.c3;have n4:=hnx.c4
   have h4:=H4.out.1.ext hQ
   have p0:=h4.c0;have p1:=h4.c1;have p2:=h4.c2;have p3:=h4.c3;have p4:=h4.c4
   have t0:=h4.f0;have t1:=h4.f1;have t2:=h4.f2;have t3:=h4.f3;have t4:=h4.f4
   have h4n:=h4.put (n:=nx) (xa:= .slice yab nx.attrs.length yac) (xk:= .slice ykb nx.kids.length ykc)
   have hXf:Ext w (st5 wr g4 nx (.slice yab nx.attrs.length yac) (.slice ykb nx.kids.length ykc)):=(HX.out.trans hQ).st5 H4.out.2.2.1 _ _ _
   have hEc:Exc g4 wr (st5 wr g4 nx (.slice yab nx.attrs.length yac) (.slice ykb nx.kids.length ykc)):=(Exc.refl _ _).st5 _ _ _
   have HF:=Lh (And.intro h4n (And.intro hXf (And.intro hya hyk)))
   clear HQ HM hmk h4 h4n hXf hya hyk hQ hEc
   by_cases hj1:j=1
   ·
    have hj1I:((j:Int)==1)=true:=by rw[hj1];rfl
    have HJ:=Lh hj1
    clear hj1
    go_wp2_with fail
    refine bodyPost_ret (res_node rfl _ _ _ ⟨g4,0,none⟩ ?_ (load_node HF.out.1)) rfl ?_
    ·
     rfl
    exact⟨⟨_,_,by rw[show decide ((j,nx).1=1)=true from decide_eq_true HJ.out];rfl,HF.out.2.2.1,HF.out.2.2.2⟩,HF.out.2.1⟩
   ·
    have hj1I:((j:Int)==1)=false:=by rw[beq_eq_false_iff_ne];omega
    have HJ:=Lh hj1
    clear hj1
    go_wp2_with fail
    refine bodyPost_ret (res_node rfl _ _ _ ⟨g4,0,none⟩ ?_ (load_node HF.out.1)) rfl ?_
    ·
     rfl
    exact⟨⟨_,_,by rw[show decide ((j,nx).1=1)=false from decide_eq_false HJ.out];rfl,HF.out.2.2.1,HF.out.2.2.2⟩,HF.out.2.1⟩
theorem sameN_eq (a b:Node):sameN a b=(decide (a.kind=b.kind) && decide (a.name=b.name) && decide (a.text=b.text) && attrsS a.attrs b.attrs && sameL a.kids b.kids):=by
 cases a;cases b;rw[sameN];rfl
theorem eqfn_of (N:Nat) (HN0:Hid (XSame N)) (ks ks':List Node) (p q:Nat→Prop) (v u:Value) (w:World) (hN:∀(i:Nat) (h:i< ks.length),nsz ks[i]≤N) (h:Rep w p v (nodesD ks)) (k:Rep w q u (nodesD ks')):
  Calls Tryz.prog 58 #[v,u,.func (.func 23) #[] #[]] w fun e w'=>e= .returned (.bool (sameL ks ks'))∧Ext w w':=by
 obtain⟨a,c,rfl,hc1,hc2⟩:=h.count z_node (by omega)
 obtain⟨b,d,rfl,hd1,hd2⟩:=k.count z_node (by omega)
 obtain⟨R,hR⟩:∃R,sameL ks ks'=R:=⟨_,rfl⟩
 rw[hR]
 have HR:=Lh hR
 have HM:=Lh hN
 clear hN
 by_cases hl:ks.length=ks'.length
 ·
  have hl1:((ks.length:Int) !=(ks'.length:Int))=false:=by rw[hl];exact bne_self_eq_false _
  have HL:=Lh hl
  clear hR hl
  go_enter Tryz.func58,Tryz.ntmps58
  go_wp2_with fail
  go_loopw [7,8,9,17] (fun _ _ _ t wr=>∃i:Nat,t= .int .i64 i∧i≤ks.length∧Ext w wr∧Hid (sameL (ks.drop i) (ks'.drop i)=R)) (fun _ _ _ t _=>downV ks.length t)
  case atStart=>exact⟨0,rfl,Nat.zero_le _,Ext.refl _,HR⟩
  case round=>
   obtain⟨i,rfl,hi,hX,HI⟩:=hrel
   have hi0:(0:Int)≤(i:Int):=by omega
   by_cases hlt:i< ks.length
   ·
    have hlI:(i:Int)< (ks.length:Int):=by omega
    have hly:i< ks'.length:=by have:=HL.out;omega
    have hyI:(i:Int)< (ks'.length:Int):=by omega
    obtain⟨g1,o1,xa,xk,rfl,lg1,_,d0,d1,d2,d3,d4,hxa,hxk⟩:=node_at (h.ext hX) i hlt
    obtain⟨g2,o2,ya,yk,rfl,lg2,_,e0,e1,e2,e3,e4,hya,hyk⟩:=node_at (k.ext hX) i hly
    have hm:=HM.out i hlt
    have HS:Hid (sameL (ks.drop i) (ks'.drop i)=(sameN ks[i] ks'[i] && sameL (ks.drop (i+1)) (ks'.drop (i+1)))):=Lh (by rw[drop_one ks i hlt,drop_one ks' i hly,sameL])
    obtain⟨x,hx⟩:∃x,ks[i]=x:=⟨_,rfl⟩
    obtain⟨y,hy⟩:∃y,ks'[i]=y:=⟨_,rfl⟩
    rw[hx]at d0 d1 d2 hxa hxk hm HS
    rw[hy]at e0 e1 e2 hya hyk HS
    obtain⟨xab,xac,rfl,_,_⟩:=hxa.count z_attr (by omega)
    obtain⟨xkb,xkc,rfl,_,_⟩:=hxk.count z_node (by omega)
    obtain⟨yab,yac,rfl,_,_⟩:=hya.count z_attr (by omega)
    obtain⟨ykb,ykc,rfl,_,_⟩:=hyk.count z_node (by omega)
    obtain⟨wo,hwo⟩:∃wo,wo=wr:=⟨_,rfl⟩
    subst hwo
    have hEa:Ext wo (wo.alloc (.cells #[.int .i64 x.kind,.string (bs x.name),.string (bs x.text),.slice xab x.attrs.length xac,.slice xkb x.kids.length xkc] 26)):=(Ext.refl wo).alloc _
    have e0':=hEa.keep lg2 e0;have e1':=hEa.keep lg2 e1;have e2':=hEa.keep lg2 e2;have e3':=hEa.keep lg2 e3;have e4':=hEa.keep lg2 e4
    have HC:=Lh fun W (hE:Ext wo W)=>HN0.out x y p q _ _ _ _ W hm (hxa.ext hE) (hxk.ext hE) (hya.ext hE) (hyk.ext hE)
    obtain⟨B,hB⟩:∃B,sameN x y=B:=⟨_,rfl⟩
    rw[hB]at HC HS
    have b0:((wo.alloc (.cells #[.int .i64 x.kind,.string (bs x.name),.string (bs x.text),.slice xab x.attrs.length xac,.slice xkb x.kids.length xkc] 26)).alloc (.cells #[.int .i64 y.kind,.string (bs y.name),.string (bs y.text),.slice yab y.attrs.length yac,.slice ykb y.kids.length ykc] 26)).heap[wo.heap.size]? =some (.cells [.int .i64 x.kind,.string (bs x.name),.string (bs x.text),.slice xab x.attrs.length xac,.slice xkb x.kids.length xkc].toArray 26 (0,0)):=
     (Below.block ((Ext.refl _).alloc _) _ (by simp)).trans Array.getElem?_push_size
    have k0:=blk_cells b0 0 rfl;have k1:=blk_cells b0 1 rfl;have k2:=blk_cells b0 2 rfl;have k3:=blk_cells b0 3 rfl;have k4:=blk_cells b0 4 rfl
    have HE2:=Lh ((((Ext.refl wo).alloc (.cells #[.int .i64 x.kind,.string (bs x.name),.string (bs x.text),.slice xab x.attrs.length xac,.slice xkb x.kids.length xkc] 26))).alloc (.cells #[.int .i64 y.kind,.string (bs y.name),.string (bs y.text),.slice yab y.attrs.length yac,.slice ykb y.kids.length ykc] 26))
    clear hx hy hB hxa hxk hya hyk hm hEa e0 e1 e2 e3 e4 b0
    go_wp2_with fail
    refine(HC.out _ HE2.out).mono ?_
    rintro e w1 ⟨rfl,hB1⟩
    clear k0 k1 k2 k3 k4 d0 d1 d2 d3 d4 e0' e1' e2' e3' e4'
    have HX1:=Lh (hX.trans (HE2.out.trans hB1))
    clear hX HE2 hB1 HC
    cases B with
    | true=>
     have HN:Hid (sameL (ks.drop (i+1)) (ks'.drop (i+1))=R):=Lh (by have:=HS.out;rw[Bool.true_and]at this;rw[←this];exact HI.out)
     clear HS HI
     go_wp2_with fail
     go_roundw
     case rel=>exact⟨i+1,by go_num,by omega,HX1.out,HN⟩
     case measure=>simp only[downV];omega
    | false=>
     have HN:Hid (false=R):=Lh (by have:=HS.out;rw[Bool.false_and]at this;rw[←this];exact HI.out)
     clear HS HI
     go_wp2_with fail
     go_ret
     exact⟨ret_bool HN.out,HX1.out⟩
   ·
    have hlI:¬(i:Int)< (ks.length:Int):=by omega
    have HN:Hid (true=R):=Lh (by
     have:=HI.out
     rw[List.drop_of_length_le (by omega),List.drop_of_length_le (by have:=HL.out;omega)]at this
     exact this)
    clear HI
    go_wp2_with fail
    go_ret
    exact⟨ret_bool HN.out,hX⟩
 ·
  have hl1:((ks.length:Int) !=(ks'.length:Int))=true:=by rw[bne_iff_ne];omega
  have HN:Hid (false=R):=Lh (by rw[←hR,sameL_ne ks ks' hl])
  clear hR hl HR
  go_enter Tryz.func58,Tryz.ntmps58
  go_wp2_with fail
  go_ret
  exact⟨ret_bool HN.out,Ext.refl _⟩
theorem xsame_any:∀N,XSame N:=by
 intro N
 induction N with
 | zero=>intro a b p q va vk ua uk w hm;cases a;rw[nsz]at hm;omega
 | succ N ih=>
  intro a b p q va vk ua uk w hm hva hvk hua huk
  have hEQ:=Lh fun W (hE:Ext w W)=>eqfn_of N (Lh ih) a.kids b.kids p q vk uk W (fun i h=>by have:=kid_lt a i h;omega) (hvk.ext hE) (huk.ext hE)
  have HAT:=Lh fun W (hE:Ext w W)=>aequal_any p q a.attrs b.attrs va ua W (hva.ext hE) (hua.ext hE)
  obtain⟨ba,ca,rfl,_,_⟩:=hva.count z_attr (by omega)
  obtain⟨bk,c,rfl,hc1,hc2⟩:=hvk.count z_node (by omega)
  obtain⟨da,ea,rfl,_,_⟩:=hua.count z_attr (by omega)
  obtain⟨dk,d,rfl,hd1,hd2⟩:=huk.count z_node (by omega)
  obtain⟨R,hR⟩:∃R,sameN a b=R:=⟨_,rfl⟩
  rw[hR]
  rw[sameN_eq]at hR
  have hE1:Ext w (w.alloc (.cells #[.int .i64 a.kind,.string (bs a.name),.string (bs a.text),.slice ba a.attrs.length ca,.slice bk a.kids.length c] 26)):=(Ext.refl w).alloc _
  have hE2:Ext w ((w.alloc (.cells #[.int .i64 a.kind,.string (bs a.name),.string (bs a.text),.slice ba a.attrs.length ca,.slice bk a.kids.length c] 26)).alloc (.cells #[.int .i64 b.kind,.string (bs b.name),.string (bs b.text),.slice da b.attrs.length ea,.slice dk b.kids.length d] 26)):=hE1.alloc _
  have b0:((w.alloc (.cells #[.int .i64 a.kind,.string (bs a.name),.string (bs a.text),.slice ba a.attrs.length ca,.slice bk a.kids.length c] 26)).alloc (.cells #[.int .i64 b.kind,.string (bs b.name),.string (bs b.text),.slice da b.attrs.length ea,.slice dk b.kids.length d] 26)).heap[w.heap.size]? =some (.cells [.int .i64 a.kind,.string (bs a.name),.string (bs a.text),.slice ba a.attrs.length ca,.slice bk a.kids.length c].toArray 26 (0,0)):=
   (Below.block ((Ext.refl _).alloc _) _ (by simp)).trans Array.getElem?_push_size
  have b1:((w.alloc (.cells #[.int .i64 a.kind,.string (bs a.name),.string (bs a.text),.slice ba a.attrs.length ca,.slice bk a.kids.length c] 26)).alloc (.cells #[.int .i64 b.kind,.string (bs b.name),.string (bs b.text),.slice da b.attrs.length ea,.slice dk b.kids.length d] 26)).heap[w.heap.size+1]? =some (.cells [.int .i64 b.kind,.string (bs b.name),.string (bs b.text),.slice da b.attrs.length ea,.slice dk b.kids.length d].toArray 26 (0,0)):=by
   obtain⟨wA,hwA⟩:∃W,w.alloc (.cells #[.int .i64 a.kind,.string (bs a.name),.string (bs a.text),.slice ba a.attrs.length ca,.slice bk a.kids.length c] 26)=W:=⟨_,rfl⟩
   have hz:w.heap.size+1=wA.heap.size:=by rw[←hwA];simp
   rw[hwA,hz]
   exact Array.getElem?_push_size
  obtain⟨wb,hwb⟩:∃W,(w.alloc (.cells #[.int .i64 a.kind,.string (bs a.name),.string (bs a.text),.slice ba a.attrs.length ca,.slice bk a.kids.length c] 26)).alloc (.cells #[.int .i64 b.kind,.string (bs b.name),.string (bs b.text),.slice da b.attrs.length ea,.slice dk b.kids.length d] 26)=W:=⟨_,rfl⟩
  rw[hwb]at hE2 b0 b1
  have k0:=blk_cells b0 0 rfl;have k1:=blk_cells b0 1 rfl;have k2:=blk_cells b0 2 rfl;have k3:=blk_cells b0 3 rfl;have k4:=blk_cells b0 4 rfl
  have j0:=blk_cells b1 0 rfl;have j1:=blk_cells b1 1 rfl;have j2:=blk_cells b1 2 rfl;have j3:=blk_cells b1 3 rfl;have j4:=blk_cells b1 4 rfl
  have l0:=blk_lt b0;have l1:=blk_lt b1
  have HE2:=Lh hE2
  have HNE:Hid (¬(a.kind=b.kind∧a.name=b.name∧a.text=b.text)→R=false):=Lh fun h=>by
   rw[←hR]
   by_cases c1:a.kind=b.kind
   ·
    by_cases c2:a.name=b.name
    ·
     have c3:¬a.text=b.text:=fun e=>h ⟨c1,c2,e⟩
     rw[decide_eq_false c3];simp
    ·
     rw[decide_eq_false c2];simp
   ·
    rw[decide_eq_false c1];simp
  have HYE:Hid (a.kind=b.kind∧a.name=b.name∧a.text=b.text→R=(attrsS a.attrs b.attrs && sameL a.kids b.kids)):=Lh fun⟨h1,h2,h3⟩=>by
   rw[←hR,decide_eq_true h1,decide_eq_true h2,decide_eq_true h3];simp
  obtain⟨A,hA⟩:∃A,attrsS a.attrs b.attrs=A:=⟨_,rfl⟩
  obtain⟨K,hK⟩:∃K,sameL a.kids b.kids=K:=⟨_,rfl⟩
  rw[hA]at HAT HYE
  rw[hK]at hEQ HYE
  clear hR hA hK hva hvk hua huk b0 b1 hE1 hE2 ih hm
  by_cases h1:a.kind=b.kind
  ·
   have f1:(a.kind==b.kind)=true:=by rw[h1];exact beq_self_eq_true _
   by_cases h2:a.name=b.name
   ·
    have f2:((bs a.name).toList==(bs b.name).toList)=true:=by rw[h2];exact beq_self_eq_true _
    by_cases h3:a.text=b.text
    ·
     have f3:((bs a.text).toList==(bs b.text).toList)=true:=by rw[h3];exact beq_self_eq_true _
     have HR:=Lh (HYE.out ⟨h1,h2,h3⟩)
     clear h1 h2 h3 HYE HNE
     cases A with
     | false=>
      go_enter Tryz.func23,Tryz.ntmps23
      go_wp2_with fail
      refine(HAT.out _ HE2.out).mono ?_
      rintro e w1 ⟨rfl,hB1⟩
      clear HAT hEQ
      go_wp2_with fail
      go_ret
      exact⟨ret_bool (by rw[HR.out];rfl),HE2.out.trans hB1⟩
     | true=>
      go_enter Tryz.func23,Tryz.ntmps23
      go_wp2_with fail
      refine(HAT.out _ HE2.out).mono ?_
      rintro e w1 ⟨rfl,hB1⟩
      clear HAT
      have m4:=hB1.keep l0 k4
      have n4:=hB1.keep l1 j4
      go_wp2_with fail
      refine(hEQ.out _ (HE2.out.trans hB1)).mono ?_
      rintro e w2 ⟨rfl,hB2⟩
      clear hEQ
      go_wp2_with fail
      go_ret
      exact⟨ret_bool (by rw[HR.out];rfl),(HE2.out.trans hB1).trans hB2⟩
    ·
     have f3:((bs a.text).toList==(bs b.text).toList)=false:=by rw[bs_toList,bs_toList,beq_eq_false_iff_ne];exact h3
     have HR:=Lh (HNE.out fun h=>h3 h.2.2)
     clear h1 h2 h3 HYE HNE HAT hEQ
     go_enter Tryz.func23,Tryz.ntmps23
     go_wp2_with fail
     go_ret
     exact⟨ret_bool HR.out.symm,HE2.out⟩
   ·
    have f2:((bs a.name).toList==(bs b.name).toList)=false:=by rw[bs_toList,bs_toList,beq_eq_false_iff_ne];exact h2
    have HR:=Lh (HNE.out fun h=>h2 h.2.1)
    clear h1 h2 HYE HNE HAT hEQ
    go_enter Tryz.func23,Tryz.ntmps23
    go_wp2_with fail
    go_ret
    exact⟨ret_bool HR.out.symm,HE2.out⟩
  ·
   have f1:(a.kind==b.kind)=false:=by rw[beq_eq_false_iff_ne];exact h1
   have HR:=Lh (HNE.out fun h=>h1 h.1)
   clear h1 HYE HNE HAT hEQ
   go_enter Tryz.func23,Tryz.ntmps23
   go_wp2_with fail
   go_ret
   exact⟨ret_bool HR.out.symm,HE2.out⟩
end Go.Proofs.YtcfibjiikhnfhaaGreatDoor
