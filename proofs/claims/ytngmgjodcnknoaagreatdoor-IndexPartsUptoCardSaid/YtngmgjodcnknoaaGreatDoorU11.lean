/-
 Laws drawn from elder texts. Helper lemmas;no statement of the seat is proved here.
-/
import Derived.Test.YtngmgjodcnknoaaGreatDoorU9
namespace Go.Proofs.YtngmgjodcnknoaaGreatDoor
open Go.RowKit
set_option maxHeartbeats 32000000
set_option maxRecDepth 100000
set_option linter.unusedVariables false
set_option linter.unusedSimpArgs false
theorem may_any (l:List Rule) (p:Nat→Prop) (v:Value) (w:World) (hb:RulesB l) (hll:l.length≤1048576) (h:Rep w p v (rulesD l)):
  Calls Tryz.prog 44 #[v] w fun e w'=>SomeB (fun b=>b=true→MayOk l) e∧Ext w w':=by
 obtain⟨a,c,rfl,hc1,hc2⟩:=h.count z_rule (by omega)
 have HB:=Lh hb
 clear hb
 go_enter Tryz.func44,Tryz.ntmps44
 go_wp2_with fail
 go_loopw [3] (fun t wr=>∃i:Nat,t= .int .i64 i∧i≤l.length∧Ext w wr∧Hid (∀(j:Nat) (hj:j< l.length),j< i→RuleOk l[j]∧placedS (l.take j) l[j]=true)) (fun t _=>downV l.length t)
 case atStart=>exact⟨0,rfl,Nat.zero_le _,Ext.refl _,Lh fun j hj h=>absurd h (Nat.not_lt_zero _)⟩
 case round=>
  obtain⟨i,rfl,hi,hX,HI⟩:=hrel
  have hi0:(0:Int)≤(i:Int):=by omega
  by_cases hlt:i< l.length
  ·
   have hlI:(i:Int)< (l.length:Int):=by omega
   obtain⟨g,o,xp,xk,rfl,lg,_,c0,c1,hrp,hrk⟩:=rule_at (h.ext hX) i hlt
   have hbi:=HB.out _ (List.getElem_mem hlt)
   have hic:i≤c:=by omega
   have hicI:(i:Int)≤(c:Int):=by omega
   have hsub:Rep wr p (.slice (some ⟨g,o,none⟩) i c) (rulesD (l.take i)):=by
    have:=(h.ext hX).take i (by omega)
    rw[flat_take _ 2 z_rule]at this;exact this
   have HT:Hid (RuleOk l[i]→placedS (l.take i) l[i]=true→∀(j:Nat) (hj:j< l.length),j< i+1→RuleOk l[j]∧placedS (l.take j) l[j]=true):=Lh fun h1 h2 j hj hji=>by
    by_cases e:j=i
    ·
     subst e;exact⟨h1,h2⟩
    ·
     exact HI.out j hj (by omega)
   obtain⟨x,hx⟩:∃x,l[i]=x:=⟨_,rfl⟩
   rw[hx]at hrp hrk hbi HT
   obtain⟨xpa,xpc,rfl,_,_⟩:=hrp.count z_str (by omega)
   obtain⟨xka,xkc,rfl,_,_⟩:=hrk.count z_str (by omega)
   have HR:=Lh fun W (hE:Ext wr W)=>rule_any x p _ _ W hbi.1 hbi.2.1 hbi.2.2.1 hbi.2.2.2 (hrp.ext hE) (hrk.ext hE)
   have HPL:=Lh fun W (hE:Ext wr W) (hne:x.path≠ [])=>placed_any (l.take i) x p _ _ (.slice xka x.keys.length xkc) W hne (hsub.ext hE) (hrp.ext hE)
   obtain⟨PB,hPB⟩:∃b,placedS (l.take i) x=b:=⟨_,rfl⟩
   rw[hPB]at HPL HT
   clear hx HI hrp hrk hbi hsub hPB
   obtain⟨wz,hwz⟩:∃wz,wz=wr:=⟨_,rfl⟩
   subst hwz
   go_wp2_with fail
   refine rg_begin (S:=Sx wz) (by kernel_rfl) (Sx.begin _) ?_
   have hS:Sx wz (World.drew wz):=(Sx.begin _)
   refine rg_t 0 (some 10) (.slice (some ⟨g,o,none⟩) l.length c) rfl hS (fun w' hs=>by rfl) ?_
   simp only[Act.put,sA,sZ,sS]
   refine rg_t 1 (some 11) (.int .i64 i) rfl hS (fun w' hs=>by rfl) ?_
   simp only[Act.put,sA,sZ,sS]
   refine rg_t 2 (some 12) (.pointer (some ⟨g,o+i*2,none⟩)) rfl hS (fun w' hs=>by first | rfl | go_simp) ?_
   simp only[Act.put,sA,sZ,sS]
   refine rg_t 3 (some 13) (.agg #[.slice xpa x.path.length xpc,.slice xka x.keys.length xkc]) rfl hS (fun w' hs=>by(have h0:=hs.cell lg c0;have h1:=hs.cell lg c1;go_simp)) ?_
   simp only[Act.put,sA,sZ,sS]
   refine rg_call 4 (some 14) 73 #[.agg #[.slice xpa x.path.length xpc,.slice xka x.keys.length xkc]] rfl rfl (by kernel_rfl) (by rfl) (fun w'=>by first | rfl | go_simp) (R:=fun v w'=>(∃b1,v= .bool b1∧(b1=true→RuleOk x))∧Ext (World.drew wz) w') ?_ ?_
   ·
    refine(HR.out (World.drew wz) hS).mono ?_
    rintro e w' ⟨⟨b1,rfl,hb1⟩,h⟩
    exact⟨_,rfl,⟨b1,rfl,hb1⟩,h⟩
   rintro _ wr1 ⟨⟨b1,rfl,hb1⟩,hBr1⟩
   have hS1:=hS.ext hBr1
   refine⟨hS1,?_⟩
   simp only[Act.put,sA,sZ,sS]
   cases b1 with
   | true=>
    refine rg_t 5 (some 15) (.bool false) rfl hS1 (fun w' hs=>by first | rfl | go_simp) ?_
    simp only[Act.put,sA,sZ,sS]
    refine rg_t 6 (some 16) (.bool false) rfl hS1 (fun w' hs=>by rfl) ?_
    simp only[Act.put,sA,sZ,sS]
    refine rg_t 7 (some 17) (.slice (some ⟨g,o,none⟩) l.length c) rfl hS1 (fun w' hs=>by rfl) ?_
    simp only[Act.put,sA,sZ,sS]
    refine rg_t 8 (some 18) (.int .i64 i) rfl hS1 (fun w' hs=>by rfl) ?_
    simp only[Act.put,sA,sZ,sS]
    refine rg_t 9 (some 19) (.slice (some ⟨g,o,none⟩) i c) rfl hS1 (fun w' hs=>by first | rfl | go_simp) ?_
    simp only[Act.put,sA,sZ,sS]
    refine rg_t 10 (some 20) (.slice (some ⟨g,o,none⟩) l.length c) rfl hS1 (fun w' hs=>by rfl) ?_
    simp only[Act.put,sA,sZ,sS]
    refine rg_t 11 (some 21) (.int .i64 i) rfl hS1 (fun w' hs=>by rfl) ?_
    simp only[Act.put,sA,sZ,sS]
    refine rg_t 12 (some 22) (.pointer (some ⟨g,o+i*2,none⟩)) rfl hS1 (fun w' hs=>by first | rfl | go_simp) ?_
    simp only[Act.put,sA,sZ,sS]
    refine rg_t 13 (some 23) (.agg #[.slice xpa x.path.length xpc,.slice xka x.keys.length xkc]) rfl hS1 (fun w' hs=>by(have h0:=hs.cell lg c0;have h1:=hs.cell lg c1;go_simp)) ?_
    simp only[Act.put,sA,sZ,sS]
    refine rg_call 14 (some 24) 74 #[.slice (some ⟨g,o,none⟩) i c,.agg #[.slice xpa x.path.length xpc,.slice xka x.keys.length xkc]] rfl rfl (by kernel_rfl) (by rfl) (fun w'=>by first | rfl | go_simp) (R:=fun v w'=>v= .bool PB∧Ext wr1 w') ?_ ?_
    ·
     refine(HPL.out wr1 hS1 (hb1 rfl).1).mono ?_
     rintro e w' ⟨rfl,h⟩
     exact⟨_,rfl,rfl,h⟩
    rintro _ wr2 ⟨rfl,hBr2⟩
    have hS2:=hS1.ext hBr2
    refine⟨hS2,?_⟩
    simp only[Act.put,sA,sZ,sS]
    refine rg_t 15 (some 25) (.bool (!PB)) rfl hS2 (fun w' hs=>by first | rfl | go_simp) ?_
    simp only[Act.put,sA,sZ,sS]
    refine rg_t 16 (some 26) (.bool (!PB)) rfl hS2 (fun w' hs=>by rfl) ?_
    simp only[Act.put,sA,sZ,sS]
    refine rg_done (by kernel_rfl) ?_
    cases PB with
    | false=>
     go_wp2_with fail
     go_ret
     exact⟨⟨_,rfl,fun h=>by cases h⟩,hX.trans hS2⟩
    | true=>
     have HN:=Lh (HT.out (hb1 rfl) rfl)
     clear hb1 HT
     go_wp2_with fail
     go_roundw
     case rel=>exact⟨i+1,by go_num,by omega,hX.trans hS2,HN⟩
     case measure=>simp only[downV];omega
   | false=>
    refine rg_t 5 (some 15) (.bool true) rfl hS1 (fun w' hs=>by first | rfl | go_simp) ?_
    simp only[Act.put,sA,sZ,sS]
    refine rg_t 6 (some 16) (.bool true) rfl hS1 (fun w' hs=>by rfl) ?_
    simp only[Act.put,sA,sZ,sS]
    refine rg_s 7 (some 17) rfl hS1 ?_
    simp only[Act.put,sA,sZ,sS]
    refine rg_s 8 (some 18) rfl hS1 ?_
    simp only[Act.put,sA,sZ,sS]
    refine rg_s 9 (some 19) rfl hS1 ?_
    simp only[Act.put,sA,sZ,sS]
    refine rg_s 10 (some 20) rfl hS1 ?_
    simp only[Act.put,sA,sZ,sS]
    refine rg_s 11 (some 21) rfl hS1 ?_
    simp only[Act.put,sA,sZ,sS]
    refine rg_s 12 (some 22) rfl hS1 ?_
    simp only[Act.put,sA,sZ,sS]
    refine rg_s 13 (some 23) rfl hS1 ?_
    simp only[Act.put,sA,sZ,sS]
    refine rg_s 14 (some 24) rfl hS1 ?_
    simp only[Act.put,sA,sZ,sS]
    refine rg_s 15 (some 25) rfl hS1 ?_
    simp only[Act.put,sA,sZ,sS]
    refine rg_t 16 (some 26) (.bool true) rfl hS1 (fun w' hs=>by rfl) ?_
    simp only[Act.put,sA,sZ,sS]
    refine rg_done (by kernel_rfl) ?_
    go_wp2_with fail
    go_ret
    exact⟨⟨_,rfl,fun h=>by cases h⟩,hX.trans hS1⟩
  ·
   have hlI:¬(i:Int)< (l.length:Int):=by omega
   have HA:Hid (∀(j:Nat) (hj:j< l.length),RuleOk l[j]∧placedS (l.take j) l[j]=true):=Lh fun j hj=>HI.out j hj (by omega)
   clear HI hlt
   by_cases h1:1≤l.length
   ·
    have h1I:(1:Int)≤(l.length:Int):=by omega
    by_cases h2:l.length≤64
    ·
     have h2I:(l.length:Int)≤64:=by omega
     have HN:Hid (MayOk l):=Lh ⟨h1,h2,HA.out⟩
     go_wp2_with fail
     go_ret
     exact⟨⟨_,rfl,fun _=>HN.out⟩,hX⟩
    ·
     have h2I:¬(l.length:Int)≤64:=by omega
     go_wp2_with fail
     go_ret
     exact⟨⟨_,rfl,fun h=>by simp at h<;> omega⟩,hX⟩
   ·
    have h1I:¬(1:Int)≤(l.length:Int):=by omega
    have HL:=Lh h1
    clear h1
    go_wp2_with fail
    go_ret
    exact⟨⟨_,rfl,fun h=>by cases h⟩,hX⟩
theorem blank_some (r:Int) (w:World):Calls Tryz.prog 110 #[.int .i32 r] w fun e w'=>SomeB (fun _=>True) e∧w'=w:=by
 by_cases h1:r=9
 ·
  subst h1;go_enter Tryz.func110,Tryz.ntmps110;go_wp2_with fail;go_ret;exact⟨⟨_,rfl,trivial⟩,rfl⟩
 ·
  have e1:(r==9)=false:=by simpa using h1
  by_cases h2:r=10
  ·
   subst h2;go_enter Tryz.func110,Tryz.ntmps110;go_wp2_with fail;go_ret;exact⟨⟨_,rfl,trivial⟩,rfl⟩
  ·
   have e2:(r==10)=false:=by simpa using h2
   by_cases h3:r=13
   ·
    subst h3;go_enter Tryz.func110,Tryz.ntmps110;go_wp2_with fail;go_ret;exact⟨⟨_,rfl,trivial⟩,rfl⟩
   ·
    have e3:(r==13)=false:=by simpa using h3
    go_enter Tryz.func110,Tryz.ntmps110;go_wp2_with fail;go_ret;exact⟨⟨_,rfl,trivial⟩,rfl⟩
theorem has_any (s q:ByteArray) (hs:s.size≤1048576) (hq:q.size≤16) (w:World):Calls Tryz.prog 108 #[.string s,.string q] w fun e w'=>SomeB (fun _=>True) e∧w'=w:=by
 go_enter Tryz.func108,Tryz.ntmps108
 go_wp2_with fail
 go_loopw [5] (fun t wr=>∃i:Nat,t= .int .i64 i∧i≤s.size+1∧wr=w) (fun t _=>downV (s.size+1) t)
 case atStart=>exact⟨0,rfl,Nat.zero_le _,rfl⟩
 case round=>
  obtain⟨i,rfl,hi,rfl⟩:=hrel
  have hi0:(0:Int)≤(i:Int):=by omega
  by_cases hlt:i+q.size≤s.size
  ·
   have hlI:(i:Int)+(q.size:Int)≤(s.size:Int):=by omega
   have hl2:(i:Int)≤(i:Int)+(q.size:Int):=by omega
   obtain⟨B,hB⟩:∃B,((s.extract i (i+q.size)).toList==q.toList)=B:=⟨_,rfl⟩
   cases B with
   | true=>
    go_wp2_with fail
    go_ret
    exact⟨⟨_,rfl,trivial⟩,rfl⟩
   | false=>
    go_wp2_with fail
    go_roundw
    case rel=>exact⟨i+1,by go_num,by omega,trivial⟩
    case measure=>simp only[downV];omega
  ·
   have hlI:¬(i:Int)+(q.size:Int)≤(s.size:Int):=by omega
   go_wp2_with fail
   go_ret
   exact⟨⟨_,rfl,trivial⟩,rfl⟩
theorem conv_block (w:World) (s:Bytes):∃cap W cs,(convert 9 139 (.string (bs s))).run Tryz.prog w= .ok (.slice (some ⟨w.heap.size,0,none⟩) s.length cap) W∧Ext w W∧W.heap.size=w.heap.size+1∧W.heap[w.heap.size]? =some (.cells cs 5 (cs.size,cs.size+1))∧∀(k:Nat) (hk:k< s.length),cs[k]? =some (.int .u8 (s[k].toNat:Int)):=by
 have hsz:(bs s).size=s.length:=bs_size s
 have h:=run_bytes_of_string w 9 139 5 (bs s) Tryz.underlying9 Tryz.underlying139 Tryz.underlying5
 rw[hsz]at h
 refine⟨_,_,_,h,(Ext.refl w).drew.alloc _,by simp,Array.getElem?_push_size ..,fun k hk=> ?_⟩
 unfold bytesRow
 rw[Array.getElem?_append_left (by simp[hsz,hk])]
 simp[bs,hk]
theorem blk_set' {w:World} {g k:Nat} {cs:Array Value} {t:TypeId} {fz:Nat×Nat} {u:Value} (h:w.heap[g]? =some (.cells cs t fz)):(w.setCell ⟨g,k,none⟩ u).heap[g]? =some (.cells (cs.setIfInBounds k u) t fz):=by
 have hlt:=blk_lt h
 have h':w.heap[g]= .cells cs t fz:=by simpa [Array.getElem?_eq_getElem hlt]using h
 show(w.heap.modify g _)[g]? =_
 rw[Array.getElem?_eq_getElem (by simpa using hlt),Array.getElem_modify_self,h']
 rfl
theorem lower_any (s:Bytes) (hs:s.length≤1048576) (w:World):Calls Tryz.prog 109 #[.string (bs s)] w fun e w'=>(∃L:Bytes,e= .returned (.string (bs L))∧L.length≤1048576)∧Ext w w':=by
 obtain⟨cap,w1,cs,hcv,hE1,hz1,hblk,hcs⟩:=conv_block w s
 go_enter Tryz.func109,Tryz.ntmps109
 go_wp2_with fail
 clear hcv
 have HST:Hid (∃(L:Bytes) (cs':Array Value),L.length=s.length∧cs'.size=cs.size∧w1.heap[w.heap.size]? =some (.cells cs' 5 (cs.size,cs.size+1))∧∀(k:Nat) (hk:k< L.length),cs'[k]? =some (.int .u8 (L[k].toNat:Int))):=Lh ⟨s,cs,rfl,rfl,hblk,hcs⟩
 clear hblk hcs
 go_loopw [4] (fun t wr=>∃i:Nat,t= .int .i64 i∧i≤s.length∧Ext w wr∧w.heap.size< wr.heap.size∧Hid (∃(L:Bytes) (cs':Array Value),L.length=s.length∧cs'.size=cs.size∧wr.heap[w.heap.size]? =some (.cells cs' 5 (cs.size,cs.size+1))∧∀(k:Nat) (hk:k< L.length),cs'[k]? =some (.int .u8 (L[k].toNat:Int)))) (fun t _=>downV s.length t)
 case atStart=>exact⟨0,rfl,Nat.zero_le _,hE1,by omega,HST⟩
 case round=>
  clear HST
  obtain⟨i,rfl,hi,hX,hlw,HI⟩:=hrel
  have hi0:(0:Int)≤(i:Int):=by omega
  obtain⟨L,cs',hL,hcz,hblk,hcell⟩:=HI.out
  by_cases hlt:i< s.length
  ·
   have hlI:(i:Int)< (s.length:Int):=by omega
   have hiL:i< L.length:=by omega
   have h1:=hcell i hiL
   have hic:i< cs'.size:=(Array.getElem?_eq_some_iff.1 h1).1
   have ci:wr.cell? ⟨w.heap.size,i,none⟩=some (.int .u8 (L[i].toNat:Int)):=by simp[World.cell?,hblk,h1]
   have fi:wr.frozen? ⟨w.heap.size,i,none⟩=false:=by simp[World.frozen?,hblk];omega
   have HB:=Lh (And.intro hL (And.intro hcz (And.intro hblk hcell)))
   have xlt:=L[i].toNat_lt
   obtain⟨x,hx⟩:∃x,L[i]=x:=⟨_,rfl⟩
   rw[hx]at ci xlt
   clear hL hcz hblk hcell h1 hic HI
   by_cases ha:65≤x.toNat
   ·
    have haI:(65:Int)≤(x.toNat:Int):=by omega
    by_cases hz:x.toNat≤90
    ·
     have hzI:(x.toNat:Int)≤90:=by omega
     have hsum:(x.toNat:Int)+32< 256:=by omega
     have HX:=Lh hx
     clear hx
     go_wp2_with fail
     go_roundw
     case rel=>
      refine⟨i+1,by go_num,by omega,hX.set (Nat.le_refl _) _,by simpa using hlw,Lh ⟨L.set i (UInt8.ofNat (x.toNat+32)),cs'.setIfInBounds i (.int .u8 ((x.toNat:Int)+32)),by rw[List.length_set];exact HB.out.1,by rw[Array.size_setIfInBounds];exact HB.out.2.1,?_,?_⟩⟩
      ·
       exact blk_set' HB.out.2.2.1
      ·
       intro k hk
       have hc:=HB.out.2.2.2
       by_cases e:k=i
       ·
        subst e
        have hkc:k< cs'.size:=(Array.getElem?_eq_some_iff.1 (hc k hiL)).1
        simp[hkc,UInt8.toNat_ofNat']
        omega
       ·
        rw[Array.getElem?_setIfInBounds_ne (by omega),List.getElem_set_ne (by omega)]
        exact hc k (by simpa using hk)
     case measure=>simp only[downV];omega
    ·
     have hzI:¬(x.toNat:Int)≤90:=by omega
     go_wp2_with fail
     go_roundw
     case rel=>exact⟨i+1,by go_num,by omega,hX,hlw,Lh ⟨L,cs',HB.out⟩⟩
     case measure=>simp only[downV];omega
   ·
    have haI:¬(65:Int)≤(x.toNat:Int):=by omega
    go_wp2_with fail
    go_roundw
    case rel=>exact⟨i+1,by go_num,by omega,hX,hlw,Lh ⟨L,cs',HB.out⟩⟩
    case measure=>simp only[downV];omega
  ·
   have hlI:¬(i:Int)< (s.length:Int):=by omega
   have hback:=run_convert_bytes_back (P:=Tryz.prog) wr 139 9 5 ⟨w.heap.size,0,none⟩ cap L Tryz.underlying139 Tryz.underlying5 Tryz.underlying9 (fun j hj=>by rw[add_offs'];simp[World.cell?,hblk,hcell j hj])
   rw[hL]at hback
   have HLL:=Lh hL
   clear HI hL hcz hblk hcell
   go_wp2_with fail
   go_ret
   exact⟨⟨L,rfl,by have:=HLL.out;omega⟩,hX⟩
theorem cntA_len:∀l:List Attr,l.length≤cntA l
 | []=>Nat.le_refl _
 | a::r=>by have:=cntA_len r;rw[cntA,List.length_cons];omega
mutual
def fairN:Node→Bool
 | .mk k nm tx la ks=>(if k=1 then decide (tx= [])else decide (la= []) && decide (ks= [])) && (decide (1≤k∧k≤4) && fairL ks)
def fairL:List Node→Bool
 | []=>true
 | k::r=>fairN k && fairL r
end
theorem fairL_of:∀ks:List Node,(∀(j:Nat) (h:j< ks.length),fairN ks[j]=true)→fairL ks=true
 | [],_=>by rw[fairL]
 | k::r,h=>by
  rw[fairL,show fairN k=true from h 0 (by simp),fairL_of r fun j hj=>h (j+1) (by simpa using hj)];rfl
theorem fair_any:∀(N:Nat) (a:Node) (p:Nat→Prop) (va vk:Value) (w:World),nsz a≤N→cntN a≤1048576→Rep w p va (attrsD a.attrs)→Rep w p vk (nodesD a.kids)→
  Calls Tryz.prog 76 #[.agg #[.int .i64 a.kind,.string (bs a.name),.string (bs a.text),va,vk]] w fun e w'=>SomeB (fun b=>b=true→fairN a=true) e∧Ext w w':=by
 intro N
 induction N with
 | zero=>intro a p va vk w hN;cases a;rw[nsz]at hN;omega
 | succ N ih=>
  intro a p va vk w hN hcnt hva hvk
  have hkid:=fun i h=>kid_lt a i h
  obtain⟨k,nm,tx,la,ks⟩:=a
  simp only[Node.kind,Node.name,Node.text,Node.attrs,Node.kids]at*
  have hsz:nm.length≤1048576∧tx.length≤1048576∧la.length≤1048576∧ks.length≤1048576∧cntA la≤1048576∧cntL ks≤1048576:=by
   rw[cntN]at hcnt
   have:=cntL_len ks
   have:=cntA_len la
   omega
  obtain⟨hnm,htx,hla,hks,hca,hcl⟩:=hsz
  obtain⟨ba,ca,rfl,ha1,ha2⟩:=hva.count z_attr (by omega)
  obtain⟨bk,ck,rfl,hk1,hk2⟩:=hvk.count z_node (by omega)
  have HM:Hid (∀(i:Nat) (h:i< ks.length),nsz ks[i]≤N):=Lh (fun i h=>by have:=hkid i h;omega)
  have HCM:Hid (∀(i:Nat) (h:i< ks.length),cntN ks[i]≤1048576):=Lh (fun i h=>by have:=cntL_mem ks i h;omega)
  have HAM:Hid (∀(i:Nat) (h:i< la.length),la[i].n.length≤1048576∧la[i].v.length≤1048576):=Lh (fun i h=>by have:=cntA_mem la i h;omega)
  have IH:=Lh ih
  obtain⟨w1,hw1⟩:∃w1,w.alloc (.cells #[.int .i64 k,.string (bs nm),.string (bs tx),.slice ba la.length ca,.slice bk ks.length ck] 66)=w1:=⟨_,rfl⟩
  have hE1:Ext w w1:=by rw[←hw1];exact(Ext.refl w).alloc _
  have l0:w.heap.size< w1.heap.size:=by rw[←hw1];simp
  have c0:w1.cell? ⟨w.heap.size,0,none⟩=some (.int .i64 k):=by rw[←hw1];simp[go_sem]
  have c1:w1.cell? ⟨w.heap.size,1,none⟩=some (.string (bs nm)):=by rw[←hw1];simp[go_sem]
  have c2:w1.cell? ⟨w.heap.size,2,none⟩=some (.string (bs tx)):=by rw[←hw1];simp[go_sem]
  have c3:w1.cell? ⟨w.heap.size,3,none⟩=some (.slice ba la.length ca):=by rw[←hw1];simp[go_sem]
  have c4:w1.cell? ⟨w.heap.size,4,none⟩=some (.slice bk ks.length ck):=by rw[←hw1];simp[go_sem]
  obtain⟨bv,wc,hcv,hEc,hbv⟩:=conv_bytes w1 tx (by omega)
  rw[←hw1]at hcv
  have HBD:=Lh fun W (hE:Ext wc W)=>bad_any _ tx htx bv W (hbv.ext hE)
  have HW1:=Lh hw1
  clear hkid hN ih hcnt hw1 hbv
  go_enter Tryz.func76,Tryz.ntmps76
  go_wp2_with fail
  refine(HBD.out _ (Ext.refl _)).mono ?_
  rintro e w2 ⟨⟨n,rfl,hn1,hn2⟩,hB2⟩
  have hE2:Ext w1 w2:=hEc.trans hB2
  have d0:=hE2.keep l0 c0
  have d1:=hE2.keep l0 c1
  have d2:=hE2.keep l0 c2
  have d3:=hE2.keep l0 c3
  have d4:=hE2.keep l0 c4
  have l2:w.heap.size< w2.heap.size:=Nat.lt_of_lt_of_le l0 hE2.size
  have hX2:=hE1.trans hE2
  clear hcv HBD HW1 hEc hB2 c0 c1 c2 c3 c4 hE2
  by_cases hn:0≤n
  ·
   go_wp2_with fail
   go_ret
   exact⟨⟨_,rfl,fun h=>by cases h⟩,hX2⟩
  ·
   by_cases h1:k=1
   ·
    subst h1
    go_wp2_with fail
    refine(name_any nm hnm _).mono ?_
    rintro e w3 ⟨⟨b,rfl,_⟩,hB3⟩
    have hX3:=hX2.trans hB3
    have f0:=hB3.keep l2 d0
    have f1:=hB3.keep l2 d1
    have f2:=hB3.keep l2 d2
    have f3:=hB3.keep l2 d3
    have f4:=hB3.keep l2 d4
    have l3:w.heap.size< w3.heap.size:=Nat.lt_of_lt_of_le l2 hB3.size
    clear d0 d1 d2 d3 d4
    have HC:Hid (∀W,Ext w3 W→W.cell? ⟨w.heap.size,3,none⟩=some (.slice ba la.length ca)∧W.cell? ⟨w.heap.size,4,none⟩=some (.slice bk ks.length ck)):=Lh fun W hE=>⟨hE.keep l3 f3,hE.keep l3 f4⟩
    obtain⟨T,hT⟩:∃T,((bs tx).toList==(⟨#[]⟩:ByteArray).toList)=T:=⟨_,rfl⟩
    have hT2:((bs tx).toList== [])=T:=by rw[←hT];cases tx with
     | nil=>rw[bs_nil2 [] rfl,bs_nil [] rfl]
     | cons x y=>rw[bs_nnil2 _ (by simp),bs_nnil _ (by simp)]
    have HT0:Hid (T=true→tx= []):=Lh fun h=>by rw[h]at hT2;rw[bs_toList,beq_iff_eq]at hT2;exact hT2
    cases b
    all_goals
     go_wp2_with fail
     clear f0 f1 f2 f3 f4 hT hT2
     go_loopw [3,4,5] (fun x t _ wr=>∃(ok:Bool) (i:Nat),x= .bool ok∧t= .int .i64 i∧i≤la.length∧Hid (ok=true→tx= [])∧Ext w3 wr) (fun _ t _ _=>downV la.length t)
     case atStart=>exact⟨_,0,rfl,rfl,Nat.zero_le _,by first | exact HT0 | exact Lh (fun h=>by cases h),Ext.refl _⟩
     case round=>
      obtain⟨ok,i,rfl,rfl,hi,HO,hX⟩:=hrel
      have hi0:(0:Int)≤(i:Int):=by omega
      obtain⟨cc3,cc4⟩:=HC.out _ hX
      have lr:w.heap.size< wr.heap.size:=Nat.lt_of_lt_of_le l3 hX.size
      by_cases hlt:i< la.length
      ·
       have hlI:(i:Int)< (la.length:Int):=by omega
       obtain⟨g,o,rfl,lg,_,x0,x1⟩:=attr_at (hva.ext (hX3.trans hX)) i hlt
       have hxl:=HAM.out i hlt
       obtain⟨x,hx⟩:∃x,la[i]=x:=⟨_,rfl⟩
       rw[hx]at x0 x1 hxl
       clear hx
       cases ok with
       | false=>
        go_wp2_with fail
        obtain⟨wz,hwz⟩:∃wz,wz=wr:=⟨_,rfl⟩
        have lz:w.heap.size< wz.heap.size:=by rw[hwz];exact lr
        have z3:wz.cell? ⟨w.heap.size,3,none⟩=some (.slice (some ⟨g,o,none⟩) la.length ca):=by rw[hwz];exact cc3
        have hXz:Ext w wz:=by rw[hwz];exact hX3.trans hX
        have hY:Ext w3 wz:=by rw[hwz];exact hX
        rw[←hwz]
        clear hwz
        go_loopw [3,5] (fun x t wq=>∃(ok:Bool) (j:Nat),x= .bool ok∧t= .int .i64 j∧j≤i∧Hid (ok=true→tx= [])∧Dr wz wq) (fun _ t _=>downV i t)
        case atStart=>exact⟨_,0,rfl,rfl,Nat.zero_le _,by first | exact Lh (fun _=>HTX.out) | exact Lh (fun h=>by cases h),Dr.refl _⟩
        case round=>
         clear HO
         obtain⟨ok,j,rfl,rfl,hj,HO,hD⟩:=hrel
         have hj0:(0:Int)≤(j:Int):=by omega
         have z3q:=hD.ext.keep lz z3
         have lq:w.heap.size< wr.heap.size:=Nat.lt_of_lt_of_le lz hD.ext.size
         by_cases hjl:j< i
         ·
          have hjI:(j:Int)< (i:Int):=by omega
          have hjJ:(j:Int)< (la.length:Int):=by omega
          obtain⟨g',o',e',lg',_,cj,_⟩:=attr_at (hva.ext (hXz.trans hD.ext)) j (by omega)
          obtain⟨g2',o2',e2',lg2',_,ci,_⟩:=attr_at (hva.ext (hXz.trans hD.ext)) i hlt
          cases e'
          cases e2'
          obtain⟨y,hy⟩:∃y,la[j].n=y:=⟨_,rfl⟩
          rw[hy]at cj
          clear hy
          cases ok with
          | false=>
           go_wp2_with fail
           go_quiet (fail)
           go_wp2_with fail
           go_roundw
           case rel=>exact⟨_,j+1,rfl,by go_num,by omega,by first | exact Lh (fun _=>HO.out rfl) | exact Lh (fun _=>HO.out trivial) | exact Lh (fun h=>by cases h),hD.drewN _⟩
           case measure=>simp only[downV];omega
          | true=>
           go_wp2_with fail
           go_quiet (fail)
           go_wp2_with fail
           go_roundw
           case rel=>exact⟨_,j+1,rfl,by go_num,by omega,by first | exact Lh (fun _=>HO.out rfl) | exact Lh (fun _=>HO.out trivial) | exact Lh (fun h=>by cases h),hD.drewN _⟩
           case measure=>simp only[downV];omega
         ·
          have hjI:¬(j:Int)< (i:Int):=by omega
          go_wp2_with fail
          go_roundw
          case rel=>exact⟨_,i+1,rfl,by go_num,by omega,HO,hY.trans hD.ext⟩
          case measure=>simp only[downV];omega
       | true=>
        have HTX:=Lh (HO.out rfl)
        go_wp2_with fail
        refine(name_any x.n hxl.1 _).mono ?_
        rintro e w4 ⟨⟨b4,rfl,_⟩,hB4⟩
        have l4:w.heap.size< w4.heap.size:=Nat.lt_of_lt_of_le lr hB4.size
        have cc3':=hB4.keep lr cc3
        have x1':=hB4.keep lg x1
        have lg':g< w4.heap.size:=Nat.lt_of_lt_of_le lg hB4.size
        have hX4:=(hX3.trans hX).trans hB4
        clear x0 x1 cc3 cc4 lg
        cases b4 with
        | false=>
         go_wp2_with fail
         obtain⟨wz,hwz⟩:∃wz,wz=w4:=⟨_,rfl⟩
         have lz:w.heap.size< wz.heap.size:=by rw[hwz];exact l4
         have z3:wz.cell? ⟨w.heap.size,3,none⟩=some (.slice (some ⟨g,o,none⟩) la.length ca):=by rw[hwz];exact cc3'
         have hXz:Ext w wz:=by rw[hwz];exact hX4
         have hY:Ext w3 wz:=by rw[hwz];exact hX.trans hB4
         rw[←hwz]
         clear hwz
         go_loopw [3,5] (fun x t wq=>∃(ok:Bool) (j:Nat),x= .bool ok∧t= .int .i64 j∧j≤i∧Hid (ok=true→tx= [])∧Dr wz wq) (fun _ t _=>downV i t)
         case atStart=>exact⟨_,0,rfl,rfl,Nat.zero_le _,by first | exact Lh (fun _=>HTX.out) | exact Lh (fun h=>by cases h),Dr.refl _⟩
         case round=>
          clear HO
          obtain⟨ok,j,rfl,rfl,hj,HO,hD⟩:=hrel
          have hj0:(0:Int)≤(j:Int):=by omega
          have z3q:=hD.ext.keep lz z3
          have lq:w.heap.size< wr.heap.size:=Nat.lt_of_lt_of_le lz hD.ext.size
          by_cases hjl:j< i
          ·
           have hjI:(j:Int)< (i:Int):=by omega
           have hjJ:(j:Int)< (la.length:Int):=by omega
           obtain⟨g',o',e',lg',_,cj,_⟩:=attr_at (hva.ext (hXz.trans hD.ext)) j (by omega)
           obtain⟨g2',o2',e2',lg2',_,ci,_⟩:=attr_at (hva.ext (hXz.trans hD.ext)) i hlt
           cases e'
           cases e2'
           obtain⟨y,hy⟩:∃y,la[j].n=y:=⟨_,rfl⟩
           rw[hy]at cj
           clear hy
           cases ok with
           | false=>
            go_wp2_with fail
            go_quiet (fail)
            go_wp2_with fail
            go_roundw
            case rel=>exact⟨_,j+1,rfl,by go_num,by omega,by first | exact Lh (fun _=>HO.out rfl) | exact Lh (fun _=>HO.out trivial) | exact Lh (fun h=>by cases h),hD.drewN _⟩
            case measure=>simp only[downV];omega
           | true=>
            go_wp2_with fail
            go_quiet (fail)
            go_wp2_with fail
            go_roundw
            case rel=>exact⟨_,j+1,rfl,by go_num,by omega,by first | exact Lh (fun _=>HO.out rfl) | exact Lh (fun _=>HO.out trivial) | exact Lh (fun h=>by cases h),hD.drewN _⟩
            case measure=>simp only[downV];omega
          ·
           have hjI:¬(j:Int)< (i:Int):=by omega
           go_wp2_with fail
           go_roundw
           case rel=>exact⟨_,i+1,rfl,by go_num,by omega,HO,hY.trans hD.ext⟩
           case measure=>simp only[downV];omega
        | true=>
         obtain⟨bv5,w5,hcv5,hE5,hbv5⟩:=conv_bytes w4 x.v (by omega)
         have HBD5:=Lh fun W (hE:Ext w5 W)=>bad_any _ x.v hxl.2 bv5 W (hbv5.ext hE)
         clear hbv5
         go_wp2_with fail
         refine(HBD5.out _ (Ext.refl _)).mono ?_
         rintro e w6 ⟨⟨n6,rfl,hn61,hn62⟩,hB6⟩
         have hE6:=hE5.trans hB6
         have l6:w.heap.size< w6.heap.size:=Nat.lt_of_lt_of_le l4 hE6.size
         have cc36:=hE6.keep l4 cc3'
         have hX6:=hX4.trans hE6
         have hY6:=hX.trans (hB4.trans hE6)
         clear hcv5 HBD5 hE5 hB6 x1' cc3'
         by_cases hn6:n6< 0
         ·
          go_wp2_with fail
          obtain⟨wz,hwz⟩:∃wz,wz=w6:=⟨_,rfl⟩
          have lz:w.heap.size< wz.heap.size:=by rw[hwz];exact l6
          have z3:wz.cell? ⟨w.heap.size,3,none⟩=some (.slice (some ⟨g,o,none⟩) la.length ca):=by rw[hwz];exact cc36
          have hXz:Ext w wz:=by rw[hwz];exact hX6
          have hY:Ext w3 wz:=by rw[hwz];exact hY6
          rw[←hwz]
          clear hwz
          go_loopw [3,5] (fun x t wq=>∃(ok:Bool) (j:Nat),x= .bool ok∧t= .int .i64 j∧j≤i∧Hid (ok=true→tx= [])∧Dr wz wq) (fun _ t _=>downV i t)
          case atStart=>exact⟨_,0,rfl,rfl,Nat.zero_le _,by first | exact Lh (fun _=>HTX.out) | exact Lh (fun h=>by cases h),Dr.refl _⟩
          case round=>
           clear HO
           obtain⟨ok,j,rfl,rfl,hj,HO,hD⟩:=hrel
           have hj0:(0:Int)≤(j:Int):=by omega
           have z3q:=hD.ext.keep lz z3
           have lq:w.heap.size< wr.heap.size:=Nat.lt_of_lt_of_le lz hD.ext.size
           by_cases hjl:j< i
           ·
            have hjI:(j:Int)< (i:Int):=by omega
            have hjJ:(j:Int)< (la.length:Int):=by omega
            obtain⟨g',o',e',lg',_,cj,_⟩:=attr_at (hva.ext (hXz.trans hD.ext)) j (by omega)
            obtain⟨g2',o2',e2',lg2',_,ci,_⟩:=attr_at (hva.ext (hXz.trans hD.ext)) i hlt
            cases e'
            cases e2'
            obtain⟨y,hy⟩:∃y,la[j].n=y:=⟨_,rfl⟩
            rw[hy]at cj
            clear hy
            cases ok with
            | false=>
             go_wp2_with fail
             go_quiet (fail)
             go_wp2_with fail
             go_roundw
             case rel=>exact⟨_,j+1,rfl,by go_num,by omega,by first | exact Lh (fun _=>HO.out rfl) | exact Lh (fun _=>HO.out trivial) | exact Lh (fun h=>by cases h),hD.drewN _⟩
             case measure=>simp only[downV];omega
            | true=>
             go_wp2_with fail
             go_quiet (fail)
             go_wp2_with fail
             go_roundw
             case rel=>exact⟨_,j+1,rfl,by go_num,by omega,by first | exact Lh (fun _=>HO.out rfl) | exact Lh (fun _=>HO.out trivial) | exact Lh (fun h=>by cases h),hD.drewN _⟩
             case measure=>simp only[downV];omega
           ·
            have hjI:¬(j:Int)< (i:Int):=by omega
            go_wp2_with fail
            go_roundw
            case rel=>exact⟨_,i+1,rfl,by go_num,by omega,HO,hY.trans hD.ext⟩
            case measure=>simp only[downV];omega
         ·
          go_wp2_with fail
          obtain⟨wz,hwz⟩:∃wz,wz=w6:=⟨_,rfl⟩
          have lz:w.heap.size< wz.heap.size:=by rw[hwz];exact l6
          have z3:wz.cell? ⟨w.heap.size,3,none⟩=some (.slice (some ⟨g,o,none⟩) la.length ca):=by rw[hwz];exact cc36
          have hXz:Ext w wz:=by rw[hwz];exact hX6
          have hY:Ext w3 wz:=by rw[hwz];exact hY6
          rw[←hwz]
          clear hwz
          go_loopw [3,5] (fun x t wq=>∃(ok:Bool) (j:Nat),x= .bool ok∧t= .int .i64 j∧j≤i∧Hid (ok=true→tx= [])∧Dr wz wq) (fun _ t _=>downV i t)
          case atStart=>exact⟨_,0,rfl,rfl,Nat.zero_le _,by first | exact Lh (fun _=>HTX.out) | exact Lh (fun h=>by cases h),Dr.refl _⟩
          case round=>
           clear HO
           obtain⟨ok,j,rfl,rfl,hj,HO,hD⟩:=hrel
           have hj0:(0:Int)≤(j:Int):=by omega
           have z3q:=hD.ext.keep lz z3
           have lq:w.heap.size< wr.heap.size:=Nat.lt_of_lt_of_le lz hD.ext.size
           by_cases hjl:j< i
           ·
            have hjI:(j:Int)< (i:Int):=by omega
            have hjJ:(j:Int)< (la.length:Int):=by omega
            obtain⟨g',o',e',lg',_,cj,_⟩:=attr_at (hva.ext (hXz.trans hD.ext)) j (by omega)
            obtain⟨g2',o2',e2',lg2',_,ci,_⟩:=attr_at (hva.ext (hXz.trans hD.ext)) i hlt
            cases e'
            cases e2'
            obtain⟨y,hy⟩:∃y,la[j].n=y:=⟨_,rfl⟩
            rw[hy]at cj
            clear hy
            cases ok with
            | false=>
             go_wp2_with fail
             go_quiet (fail)
             go_wp2_with fail
             go_roundw
             case rel=>exact⟨_,j+1,rfl,by go_num,by omega,by first | exact Lh (fun _=>HO.out rfl) | exact Lh (fun _=>HO.out trivial) | exact Lh (fun h=>by cases h),hD.drewN _⟩
             case measure=>simp only[downV];omega
            | true=>
             go_wp2_with fail
             go_quiet (fail)
             go_wp2_with fail
             go_roundw
             case rel=>exact⟨_,j+1,rfl,by go_num,by omega,by first | exact Lh (fun _=>HO.out rfl) | exact Lh (fun _=>HO.out trivial) | exact Lh (fun h=>by cases h),hD.drewN _⟩
             case measure=>simp only[downV];omega
           ·
            have hjI:¬(j:Int)< (i:Int):=by omega
            go_wp2_with fail
            go_roundw
            case rel=>exact⟨_,i+1,rfl,by go_num,by omega,HO,hY.trans hD.ext⟩
            case measure=>simp only[downV];omega
      ·
       have hlI:¬(i:Int)< (la.length:Int):=by omega
       go_wp2_with fail
       go_loopw [3,6] (fun x t wr=>∃(ok:Bool) (i:Nat),x= .bool ok∧t= .int .i64 i∧i≤ks.length∧Hid (ok=true→tx= []∧∀(j:Nat) (h:j< ks.length),j< i→fairN ks[j]=true)∧Ext w3 wr) (fun _ t _=>downV ks.length t)
       case atStart=>exact⟨_,0,rfl,rfl,Nat.zero_le _,Lh fun h=>⟨HO.out h,fun j hj h0=>absurd h0 (Nat.not_lt_zero _)⟩,hX⟩
       case round=>
        clear hlI hlt hi hi0 cc3 cc4 lr hX HO
        obtain⟨ok,i,rfl,rfl,hi,HO,hX⟩:=hrel
        have hi0:(0:Int)≤(i:Int):=by omega
        obtain⟨cc3,cc4⟩:=HC.out _ hX
        have lr:w.heap.size< wr.heap.size:=Nat.lt_of_lt_of_le l3 hX.size
        by_cases hlt:i< ks.length
        ·
         have hlI:(i:Int)< (ks.length:Int):=by omega
         cases ok with
         | false=>
          go_wp2_with fail
          go_roundw
          case rel=>exact⟨_,i+1,rfl,by go_num,by omega,Lh (fun h=>by cases h),hX⟩
          case measure=>simp only[downV];omega
         | true=>
          obtain⟨g,o,y1,y2,rfl,lg,_,x0,x1,x2,x3,x4,hr1,hr2⟩:=node_at (hvk.ext (hX3.trans hX)) i hlt
          have hm:=HM.out i hlt
          have hcm:=HCM.out i hlt
          obtain⟨x,hx⟩:∃x,ks[i]=x:=⟨_,rfl⟩
          rw[hx]at x0 x1 x2 hr1 hr2 hm hcm
          have HXI:=Lh (And.intro hx (HO.out rfl))
          have HF:=Lh fun W (hE:Ext wr W)=>IH.out x p y1 y2 W hm hcm (hr1.ext hE) (hr2.ext hE)
          clear hx hm hcm hr1 hr2
          go_wp2_with fail
          refine(HF.out _ (Ext.refl _)).mono ?_
          rintro e w4 ⟨⟨b4,rfl,hf4⟩,hB4⟩
          have HF4:Hid (b4=true→∀(j:Nat) (h:j< ks.length),j< i+1→fairN ks[j]=true):=Lh fun h j hj hlt2=>by
           rcases Nat.lt_or_ge j i with h1 | h1
           ·
            exact HXI.out.2.2 j hj h1
           ·
            obtain rfl:j=i:=by omega
            rw[HXI.out.1];exact hf4 h
          clear hf4
          have l4:w.heap.size< w4.heap.size:=Nat.lt_of_lt_of_le lr hB4.size
          have v4:=hB4.keep lr cc4
          have t0:=hB4.keep lg x0
          have lg4:g< w4.heap.size:=Nat.lt_of_lt_of_le lg hB4.size
          have hX4:=hX.trans hB4
          clear x0 x1 x2 x3 x4 cc3 cc4 lg
          cases b4 with
          | false=>
           go_wp2_with fail
           go_roundw
           case rel=>exact⟨_,i+1,rfl,by go_num,by omega,Lh (fun h=>by cases h),hX4⟩
           case measure=>simp only[downV];omega
          | true=>
           have HN4:Hid (tx= []∧∀(j:Nat) (h:j< ks.length),j< i+1→fairN ks[j]=true):=Lh ⟨HXI.out.2.1,HF4.out rfl⟩
           by_cases hz:i=0
           ·
            subst hz
            go_wp2_with fail
            go_roundw
            case rel=>exact⟨_,1,rfl,by go_num,by omega,Lh (fun _=>HN4.out),hX4⟩
            case measure=>simp only[downV];omega
           ·
            have hzI:((i:Int)==0)=false:=by rw[beq_eq_false_iff_ne];omega
            by_cases h2:x.kind=2
            ·
             have q2:(x.kind !=2)=false:=by rw[h2];rfl
             obtain⟨m,hm⟩:∃m:Nat,i - 1=m:=⟨_,rfl⟩
             have hmI:(i:Int) - 1=(m:Int):=by omega
             have hml:m< ks.length:=by omega
             have hmJ:(m:Int)< (ks.length:Int):=by omega
             have hm0:(0:Int)≤(m:Int):=by omega
             obtain⟨g',o',z1,z2,e',_,_,m0,_⟩:=node_at (hvk.ext (hX3.trans hX4)) m hml
             cases e'
             obtain⟨y,hy⟩:∃y,ks[m].kind=y:=⟨_,rfl⟩
             rw[hy]at m0
             have HZ:=Lh (And.intro hz (And.intro h2 hm))
             clear hz h2 hm hy
             go_wp2_with fail
             go_roundw
             case rel=>exact⟨_,i+1,rfl,by go_num,by omega,Lh (fun _=>HN4.out),hX4⟩
             case measure=>simp only[downV];omega
            ·
             have q2:(x.kind !=2)=true:=by rw[bne_iff_ne];exact h2
             clear hz h2
             go_wp2_with fail
             go_roundw
             case rel=>exact⟨_,i+1,rfl,by go_num,by omega,Lh (fun _=>HN4.out),hX4⟩
             case measure=>simp only[downV];omega
        ·
         have hlI:¬(i:Int)< (ks.length:Int):=by omega
         go_wp2_with fail
         go_ret
         exact⟨⟨_,rfl,fun h=>by obtain⟨h1,h2⟩:=HO.out h;rw[fairN,if_pos rfl,decide_eq_true h1,fairL_of _ fun j hj=>h2 j hj (by omega)];rfl⟩,hX3.trans hX⟩
   ·
    have q1:(k !=1)=true:=by rw[bne_iff_ne];exact h1
    have q1':(k==1)=false:=by rw[beq_eq_false_iff_ne];exact h1
    by_cases hl:0< la.length
    ·
     have hlI:(0:Int)< (la.length:Int):=by omega
     go_wp2_with fail
     go_ret
     exact⟨⟨_,rfl,fun h=>by cases h⟩,hX2⟩
    ·
     obtain rfl:la= []:=List.eq_nil_of_length_eq_zero (by omega)
     simp only[List.length_nil]at*
     clear hl
     by_cases hkk:0< ks.length
     ·
      have hkI:(0:Int)< (ks.length:Int):=by omega
      go_wp2_with fail
      go_ret
      exact⟨⟨_,rfl,fun h=>by cases h⟩,hX2⟩
     ·
      obtain rfl:ks= []:=List.eq_nil_of_length_eq_zero (by omega)
      simp only[List.length_nil]at*
      clear hkk
      have HFN:Hid (1≤k→k≤4→fairN (.mk k nm tx [] [])=true):=Lh (fun h1' h4'=>by rw[fairN,if_neg h1,decide_eq_true (⟨h1',h4'⟩:1≤k∧k≤4)];rfl)
      by_cases h2:k=2
      ·
       subst h2
       by_cases em:nm= []
       ·
        have m1:=bs_nil nm em
        have m2:=bs_nil2 nm em
        clear em
        by_cases et:tx= []
        ·
         have t1:=bs_nil tx et
         have t2:=bs_nil2 tx et
         clear et
         go_wp2_with fail
         go_ret
         exact⟨⟨_,rfl,fun _=>HFN.out (by decide) (by decide)⟩,hX2⟩
        ·
         have t1:=bs_nnil tx et
         have t2:=bs_nnil2 tx et
         clear et
         go_wp2_with fail
         go_ret
         exact⟨⟨_,rfl,fun _=>HFN.out (by decide) (by decide)⟩,hX2⟩
       ·
        have m1:=bs_nnil nm em
        have m2:=bs_nnil2 nm em
        clear em
        go_wp2_with fail
        go_ret
        exact⟨⟨_,rfl,fun _=>HFN.out (by decide) (by decide)⟩,hX2⟩
      ·
       have q2:(k==2)=false:=by rw[beq_eq_false_iff_ne];exact h2
       by_cases h3:k=3
       ·
        subst h3
        by_cases em:nm= []
        ·
         have m1:=bs_nil nm em
         have m2:=bs_nil2 nm em
         clear em
         go_wp2_with fail
         refine(has_any _ _ (by rw[bs_size];exact htx) (by decide) _).mono ?_
         rintro _ wy ⟨⟨bu,rfl,_⟩,hwy⟩
         subst hwy
         cases bu with
         | true=>
          go_wp2_with fail
          go_ret
          exact⟨⟨_,rfl,fun _=>HFN.out (by decide) (by decide)⟩,hX2⟩
         | false=>
          go_wp2_with fail
          refine(has_any _ _ (by rw[bs_size];exact htx) (by decide) _).mono ?_
          rintro _ wy ⟨⟨bv,rfl,_⟩,hwy⟩
          subst hwy
          cases bv with
          | true=>
           go_wp2_with fail
           go_ret
           exact⟨⟨_,rfl,fun _=>HFN.out (by decide) (by decide)⟩,hX2⟩
          | false=>
           by_cases et:tx= []
           ·
            have t1:=bs_nil tx et
            have t2:=bs_nil2 tx et
            clear et
            go_wp2_with fail
            go_ret
            exact⟨⟨_,rfl,fun _=>HFN.out (by decide) (by decide)⟩,hX2⟩
           ·
            have t1:=bs_nnil tx et
            have t2:=bs_nnil2 tx et
            have hs0:0< (bs tx).size:=by rw[bs_size];exact List.length_pos_iff.2 et
            have hs1:(bs tx).size≤1048576:=by rw[bs_size];exact htx
            obtain⟨m,hm⟩:∃m:Nat,(bs tx).size - 1=m:=⟨_,rfl⟩
            have hmI:((bs tx).size:Int) - 1=(m:Int):=by omega
            have hml:m< (bs tx).size:=by omega
            have hmJ:(m:Int)< ((bs tx).size:Int):=by omega
            have hm0:(0:Int)≤(m:Int):=by omega
            clear et hm
            go_wp2_with fail
            go_ret
            exact⟨⟨_,rfl,fun _=>HFN.out (by decide) (by decide)⟩,hX2⟩
        ·
         have m1:=bs_nnil nm em
         have m2:=bs_nnil2 nm em
         clear em
         go_wp2_with fail
         go_ret
         exact⟨⟨_,rfl,fun _=>HFN.out (by decide) (by decide)⟩,hX2⟩
       ·
        have q3:(k==3)=false:=by rw[beq_eq_false_iff_ne];exact h3
        by_cases h4:k=4
        ·
         subst h4
         go_wp2_with fail
         refine(name_any nm hnm _).mono ?_
         rintro e w3 ⟨⟨b,rfl,_⟩,hB3⟩
         have hX3:=hX2.trans hB3
         have f0:=hB3.keep l2 d0
         have f1:=hB3.keep l2 d1
         have f2:=hB3.keep l2 d2
         have f3:=hB3.keep l2 d3
         have f4:=hB3.keep l2 d4
         have l3:w.heap.size< w3.heap.size:=Nat.lt_of_lt_of_le l2 hB3.size
         cases b with
         | false=>
          go_wp2_with fail
          go_ret
          exact⟨⟨_,rfl,fun _=>HFN.out (by decide) (by decide)⟩,hX3⟩
         | true=>
          go_wp2_with fail
          refine(lower_any nm hnm _).mono ?_
          rintro e w4 ⟨⟨L,rfl,hL⟩,hB4⟩
          have hX4:=hX3.trans hB4
          have g0:=hB4.keep l3 f0
          have g1:=hB4.keep l3 f1
          have g2:=hB4.keep l3 f2
          have g3:=hB4.keep l3 f3
          have g4:=hB4.keep l3 f4
          clear f0 f1 f2 f3 f4 d0 d1 d2 d3 d4
          by_cases hx:L= [120,109,108]
          ·
           have x1:((bs L).toList==(⟨#[120,109,108]⟩:ByteArray).toList)=true:=by rw[hx,show(⟨#[120,109,108]⟩:ByteArray)=bs [120,109,108] from rfl];exact beq_self_eq_true _
           have x2:((bs L).toList== [120,109,108])=true:=by rw[bs_toList,hx];rfl
           clear hx
           go_wp2_with fail
           go_ret
           exact⟨⟨_,rfl,fun _=>HFN.out (by decide) (by decide)⟩,hX4⟩
          ·
           have x2:((bs L).toList== [120,109,108])=false:=by rw[bs_toList,beq_eq_false_iff_ne];exact hx
           have x1:((bs L).toList==(⟨#[120,109,108]⟩:ByteArray).toList)=false:=by rw[show(⟨#[120,109,108]⟩:ByteArray)=bs [120,109,108] from rfl,bs_toList (l:= [120,109,108])];exact x2
           clear hx
           go_wp2_with fail
           refine(has_any _ _ (by rw[bs_size];exact htx) (by decide) _).mono ?_
           rintro _ wy ⟨⟨bu,rfl,_⟩,hwy⟩
           subst hwy
           cases bu with
           | true=>
            go_wp2_with fail
            go_ret
            exact⟨⟨_,rfl,fun _=>HFN.out (by decide) (by decide)⟩,hX4⟩
           | false=>
            go_wp2_with fail
            refine(has_any _ _ (by rw[bs_size];exact htx) (by decide) _).mono ?_
            rintro _ wy ⟨⟨bv,rfl,_⟩,hwy⟩
            subst hwy
            cases bv with
            | true=>
             go_wp2_with fail
             go_ret
             exact⟨⟨_,rfl,fun _=>HFN.out (by decide) (by decide)⟩,hX4⟩
            | false=>
             by_cases et:tx= []
             ·
              have t1:=bs_nil tx et
              have t2:=bs_nil2 tx et
              clear et
              go_wp2_with fail
              go_ret
              exact⟨⟨_,rfl,fun _=>HFN.out (by decide) (by decide)⟩,hX4⟩
             ·
              have t1:=bs_nnil tx et
              have t2:=bs_nnil2 tx et
              have hs0:0< (bs tx).size:=by rw[bs_size];exact List.length_pos_iff.2 et
              have hsI:(0:Int)< ((bs tx).size:Int):=by omega
              clear et
              go_wp2_with fail
              refine(blank_some _ _).mono ?_
              rintro _ wy ⟨⟨bz,rfl,_⟩,hwy⟩
              subst hwy
              go_wp2_with fail
              go_ret
              exact⟨⟨_,rfl,fun _=>HFN.out (by decide) (by decide)⟩,hX4⟩
        ·
         have q4:(k==4)=false:=by rw[beq_eq_false_iff_ne];exact h4
         go_wp2_with fail
         go_ret
         exact⟨⟨_,rfl,fun h=>by cases h⟩,hX2⟩
theorem cntA_append:∀a b:List Attr,cntA (a++b)=cntA a+cntA b
 | [],b=>by simp[cntA]
 | x::a,b=>by rw[List.cons_append,cntA,cntA,cntA_append a b];omega
theorem cntA_ins (l:List Attr) (k:Nat) (x:Attr):cntA (insAt l k x)=cntA l+(1+x.n.length+x.v.length):=by
 have h:=cntA_append (l.take k) (l.drop k)
 rw[List.take_append_drop]at h
 unfold insAt
 rw[cntA_append,cntA,h];omega
theorem cntA_sort:∀(l out:List Attr),cntA (sortA out l)=cntA out+cntA l
 | [],out=>by simp[sortA,cntA]
 | a::r,out=>by rw[sortA,cntA_sort r,cntA_ins,cntA];omega
theorem cntL_append:∀a b:List Node,cntL (a++b)=cntL a+cntL b
 | [],b=>by simp[cntL]
 | x::a,b=>by rw[List.cons_append,cntL,cntL,cntL_append a b];omega
theorem cntL_ins (l:List Node) (k:Nat) (x:Node):cntL (insAt l k x)=cntL l+cntN x:=by
 have h:=cntL_append (l.take k) (l.drop k)
 rw[List.take_append_drop]at h
 unfold insAt
 rw[cntL_append,cntL,h];omega
mutual
def contN:Node→Node
 | .mk k n t la ks=> .mk k n t (sortA [] la) (contL ks)
def contL:List Node→List Node
 | []=> []
 | n::r=>contN n::contL r
end
mutual
theorem cnt_contN:∀n:Node,cntN (contN n)=cntN n
 | .mk k n t la ks=>by rw[contN,cntN,cntN,cntA_sort,cnt_contL ks];simp[cntA]
theorem cnt_contL:∀l:List Node,cntL (contL l)=cntL l
 | []=>rfl
 | n::r=>by rw[contL,cntL,cntL,cnt_contN n,cnt_contL r]
end
theorem contL_take:∀(l:List Node) (i:Nat) (h:i< l.length),contL (l.take (i+1))=contL (l.take i)++ [contN l[i]]
 | [],i,h=>absurd h (Nat.not_lt_zero _)
 | n::r,0,h=>by simp[contL]
 | n::r,i+1,h=>by
  rw[List.take_succ_cons,List.take_succ_cons,contL,contL,contL_take r i (by simpa using h)];rfl
theorem contN_eq (n:Node):(contN n).kind=n.kind∧(contN n).name=n.name∧(contN n).text=n.text∧(contN n).attrs=sortA [] n.attrs∧(contN n).kids=contL n.kids:=by
 cases n;rw[contN];exact⟨rfl,rfl,rfl,rfl,rfl⟩
theorem B5.set3 {W:World} {b:Nat} {n m:Node} {xa xk:Value} (h:B5 W b n xa xk) (ya:Value) (h0:m.kind=n.kind) (h1:m.name=n.name) (h2:m.text=n.text):B5 (W.setCell ⟨b,3,none⟩ ya) b m ya xk:=by
 have hlt:=h.lt
 have c0:=h.c0;have c1:=h.c1;have c2:=h.c2;have c3:=h.c3;have c4:=h.c4
 have f0:=h.f0;have f1:=h.f1;have f2:=h.f2;have f3:=h.f3;have f4:=h.f4
 exact⟨by simpa using hlt,by rw[h0];simp[go_sem, *],by rw[h1];simp[go_sem, *],by rw[h2];simp[go_sem, *],by simp[go_sem, *],by simp[go_sem, *],by simp[go_sem, *],by simp[go_sem, *],by simp[go_sem, *],by simp[go_sem, *],by simp[go_sem, *]⟩
theorem B5.set4 {W:World} {b:Nat} {n m:Node} {xa xk:Value} (h:B5 W b n xa xk) (yk:Value) (h0:m.kind=n.kind) (h1:m.name=n.name) (h2:m.text=n.text):B5 (W.setCell ⟨b,4,none⟩ yk) b m xa yk:=by
 have hlt:=h.lt
 have c0:=h.c0;have c1:=h.c1;have c2:=h.c2;have c3:=h.c3;have c4:=h.c4
 have f0:=h.f0;have f1:=h.f1;have f2:=h.f2;have f3:=h.f3;have f4:=h.f4
 exact⟨by simpa using hlt,by rw[h0];simp[go_sem, *],by rw[h1];simp[go_sem, *],by rw[h2];simp[go_sem, *],by simp[go_sem, *],by simp[go_sem, *],by simp[go_sem, *],by simp[go_sem, *],by simp[go_sem, *],by simp[go_sem, *],by simp[go_sem, *]⟩
theorem rows_set {w:World} {base z n:Nat} {e:TypeId} {v:Value} {us:List Value} (h:w.ownsRow base e z v n us) {p:Addr} (hb:some p.block≠v.ownBlock) (u:Value):(w.setCell p u).ownsRow base e z v n us:=by
 refine⟨h.1,?_⟩
 rcases h.2 with h2 | ⟨g,cap,cur,rfl,hg,hblk,hr⟩
 ·
  exact .inl h2
 ·
  refine .inr ⟨g,cap,cur,rfl,hg,?_,hr⟩
  rw[Below.heap_setCell _ _ _ _ (by intro e;exact hb (by rw[←e];rfl))]
  exact hblk
theorem new_cells {w:World} {e:TypeId} (cs:List Value):∀(j:Nat) (v:Value),cs[j]? =some v→(w.alloc (.cells cs.toArray e)).cell? ((⟨w.heap.size,0,none⟩:Addr).add j)=some v:=fun j v hj=>by
 rw[add_offs',Nat.zero_add]
 have:(w.alloc (.cells cs.toArray e)).heap[w.heap.size]? =some (.cells cs.toArray e):=Array.getElem?_push_size ..
 unfold World.cell?
 rw[this]
 simp[hj]
theorem infoNode:(Tryz.prog.info? 66).map (fun i=>(i.zero,i.size,i.bytes))=some (some (.agg #[.int .i64 0,.string ⟨#[]⟩,.string ⟨#[]⟩,.slice none 0 0,.slice none 0 0]),5,88):=by kernel_rfl
end Go.Proofs.YtngmgjodcnknoaaGreatDoor
