/-
 index:Named,Holding,Path,When,Size. Helper lemmas;no statement of the seat is proved here.
-/
import Derived.Test.YtngmgjodcnknoaaGreatDoorU29
import Derived.Test.YtngmgjodcnknoaaGreatDoorU21
namespace Go.Proofs.YtngmgjodcnknoaaGreatDoor
open Go.RowKit
set_option maxHeartbeats 32000000
set_option maxRecDepth 100000
set_option linter.unusedVariables false
set_option linter.unusedSimpArgs false
theorem xnamed_any (base:Nat) (w:World) (bx:Nat) (PS:List IR) (h:IXS base w bx PS) (hPS:∀x∈PS,1≤x.1∧x.1≤12) (hFS:∀x∈PS,(rowM x).2.1.length≤1048576∧(rowM x).2.2.length≤1048576) (kind:Int) (nm:Bytes) (hPP:∀x∈PS,(rowP x).length≤1000000000000) (hL:PS.length≤1000000):
  Calls Tryz.prog 12 #[.pointer (some ⟨bx,0,none⟩),.int .i64 kind,.string (bs nm)] w fun e w'=>Ret (fun c=>w.heap.size≤c) (trcsD (tracesL PS (askF 0 kind nm))) e w'∧Ext w w':=by
 have hbx:bx< w.heap.size:=by obtain⟨bo,Q,B,M,V,hG,_⟩:=h;exact blk_lt hG.box
 obtain⟨wb0,hwb0⟩:∃X,w.alloc (.cells #[.int .i64 kind] 3)=X:=⟨_,rfl⟩
 have hE0:Ext w wb0:=by rw[←hwb0];exact(Ext.refl _).alloc _
 have hb0:wb0.heap[w.heap.size]? =some (.cells [.int .i64 kind].toArray 3 (0,0)):=by rw[←hwb0];exact blk_new w _
 obtain⟨wb1,hwb1⟩:∃X,wb0.alloc (.cells #[.string (bs nm)] 9)=X:=⟨_,rfl⟩
 have hE1:Ext wb0 wb1:=by rw[←hwb1];exact(Ext.refl _).alloc _
 have hb1:wb1.heap[wb0.heap.size]? =some (.cells [.string (bs nm)].toArray 9 (0,0)):=by rw[←hwb1];exact blk_new wb0 _
 have hEx:Ext w wb1:=hE0.trans hE1
 have HX:=Lh hEx
 have HC:=Lh (xtr_any base wb1 bx PS (askF 0 kind nm) 30 #[.pointer (some ⟨w.heap.size,0,none⟩),.pointer (some ⟨wb0.heap.size,0,none⟩)] (h.ext hEx) hPS hFS hPP hL (enters_of Tryz.func30 kB rfl) (named_pred kind nm wb1 w.heap.size wb0.heap.size (hE1.keep (blk_lt hb0) (blk_cell hb0 (k:=0) rfl)) (Nat.lt_of_lt_of_le (blk_lt hb0) hE1.size) (blk_cell hb1 (k:=0) rfl) (blk_lt hb1)))
 clear hE0 hb0 hE1 hb1 hEx h hPS hFS
 go_enter Tryz.func12,Tryz.ntmps12
 go_wp2_with fail
 refine HC.out.mono ?_
 rintro e w2 ⟨⟨v',rfl,hrv⟩,hX2⟩
 have HF:=Lh (And.intro (hrv.ok fun c hc=>Nat.le_trans HX.out.size hc) (HX.out.trans hX2))
 clear hrv hX2 HC
 go_wp2_with fail
 go_ret
 exact⟨⟨_,rfl,HF.out.1⟩,HF.out.2⟩
theorem xhold_any (base:Nat) (w:World) (bx:Nat) (PS:List IR) (h:IXS base w bx PS) (hPS:∀x∈PS,1≤x.1∧x.1≤12) (hFS:∀x∈PS,(rowM x).2.1.length≤1048576∧(rowM x).2.2.length≤1048576) (tx:Bytes) (hPP:∀x∈PS,(rowP x).length≤1000000000000) (hL:PS.length≤1000000) (hmax:∃mx,w.cell? ⟨0,0,none⟩=some (.int .i64 mx)):
  Calls Tryz.prog 14 #[.pointer (some ⟨bx,0,none⟩),.string (bs tx)] w fun e w'=>Ret (fun c=>w.heap.size≤c) (trcsD (tracesL PS (askF 1 0 tx))) e w'∧Ext w w':=by
 have hbx:bx< w.heap.size:=by obtain⟨bo,Q,B,M,V,hG,_⟩:=h;exact blk_lt hG.box
 obtain⟨wb0,hwb0⟩:∃X,w.alloc (.cells #[.string (bs tx)] 9)=X:=⟨_,rfl⟩
 have hE0:Ext w wb0:=by rw[←hwb0];exact(Ext.refl _).alloc _
 have hb0:wb0.heap[w.heap.size]? =some (.cells [.string (bs tx)].toArray 9 (0,0)):=by rw[←hwb0];exact blk_new w _
 have hEx:Ext w wb0:=hE0
 have HX:=Lh hEx
 have HC:=Lh (xtr_any base wb0 bx PS (askF 1 0 tx) 31 #[.pointer (some ⟨w.heap.size,0,none⟩)] (h.ext hEx) hPS hFS hPP hL (enters_of Tryz.func31 kB rfl) (hold_pred 0 tx wb0 (by obtain⟨mx,hm⟩:=hmax;exact⟨mx,hEx.keep kA hm⟩) (by have:=hEx.size;omega) w.heap.size (blk_cell hb0 (k:=0) rfl) (blk_lt hb0)))
 clear hE0 hb0 hEx h hPS hFS
 go_enter Tryz.func14,Tryz.ntmps14
 go_wp2_with fail
 refine HC.out.mono ?_
 rintro e w2 ⟨⟨v',rfl,hrv⟩,hX2⟩
 have HF:=Lh (And.intro (hrv.ok fun c hc=>Nat.le_trans HX.out.size hc) (HX.out.trans hX2))
 clear hrv hX2 HC
 go_wp2_with fail
 go_ret
 exact⟨⟨_,rfl,HF.out.1⟩,HF.out.2⟩
theorem xpath_any (base:Nat) (w:World) (bx:Nat) (PS:List IR) (h:IXS base w bx PS) (hPS:∀x∈PS,1≤x.1∧x.1≤12) (hFS:∀x∈PS,(rowM x).2.1.length≤1048576∧(rowM x).2.2.length≤1048576) (pth:Bytes) (hp0:pth.length≤9223372036854775807):
  Calls Tryz.prog 16 #[.pointer (some ⟨bx,0,none⟩),.string (bs pth)] w fun e w'=>Ret (fun c=>w.heap.size≤c) (spansD (versS PS pth (askF 2 0 []))) e w'∧Ext w w':=by
 have hbx:bx< w.heap.size:=by obtain⟨bo,Q,B,M,V,hG,_⟩:=h;exact blk_lt hG.box
 have hEx:Ext w w:=Ext.refl w
 have HX:=Lh hEx
 have HC:=Lh (xvers_any base w bx PS pth (askF 2 0 []) 34 #[] (h.ext hEx) hPS hFS (enters_of Tryz.func34 kB rfl) (path_pred 0 [] w) hp0)
 clear hEx h hPS hFS
 go_enter Tryz.func16,Tryz.ntmps16
 go_wp2_with fail
 refine HC.out.mono ?_
 rintro e w2 ⟨⟨v',rfl,hrv⟩,hX2⟩
 have HF:=Lh (And.intro (hrv.ok fun c hc=>Nat.le_trans HX.out.size hc) (HX.out.trans hX2))
 clear hrv hX2 HC
 go_wp2_with fail
 go_ret
 exact⟨⟨_,rfl,HF.out.1⟩,HF.out.2⟩
theorem exec_lenmap {P:Program} {ev:Operand→Value} {oi:Oper} {t:TypeId} {x:Operand} {m u:Value} {W:World} (ho:oi.op= .call {callee:= .builtin .len,args:= #[x],argTypes:= #[t]}) (hx:ev x=m) (h:(Builtin.len_ #[t] oi.type #[m]).run P W= .ok u W):
  (execOp ev oi).run P W= .ok (.value u) W:=by
 unfold execOp
 simp only[ho,resolve,invoke,builtin,Sem.run_bind,Sem.run_pure,Result.andThen_ok,List.map_toArray,List.map_cons,List.map_nil,hx,h]
theorem xsize_any (base:Nat) (w:World) (bx:Nat) (PS:List IR) (h:IXS base w bx PS):Calls Tryz.prog 10 #[.pointer (some ⟨bx,0,none⟩)] w fun e w'=>e= .returned (.tuple #[.int .i64 (pathsL PS).length,.int .i64 PS.length])∧Ext w w':=by
 obtain⟨bo,Q,B,M,V,hG,hQ⟩:=h
 have hbx:=blk_lt hG.box
 have x0:=blk_cell hG.box (k:=0) rfl
 have x1:=blk_cell hG.box (k:=1) rfl
 have hlen:(pathsL PS).length=Q.length:=by
  have hnd:(pathsL PS).Nodup:=(pathsL_lt PS).imp fun {a b} (h:a< b) (e:a=b)=>by subst e;exact List.lt_irrefl a h
  exact((List.perm_ext_iff_of_nodup hnd hG.qnd).2 fun q=>by
   rw[mem_pathsL]
   exact⟨fun⟨x,hx,e⟩=>e ▸ hG.all x hx,fun h=>hQ q h⟩).length_eq
 rw[hlen]
 have HLN:=Lh fun X (hX:Ext w X)=>(hG.outer.block (w':=X) (Below.block hX _ hG.outer.lt)).len (t:=73) (e:=120) kB 3
 rw[List.length_map]at HLN
 obtain⟨NQ,hNQ⟩:∃N:Int,(Q.length:Int)=N:=⟨_,rfl⟩
 rw[hNQ]at HLN⊢
 clear hNQ hlen hG hQ
 go_enter Tryz.func10,Tryz.ntmps10
 go_wp2_with fail
 refine rg_begin (S:=Sx w) kB (Sx.begin _) ?_
 have hS:Sx w (World.drew w):=(Sx.begin _)
 refine gT 0 4 (.pointer (some ⟨bx,0,none⟩)) hS ?_
 simp only[Act.put,sA,sZ,sS]
 refine gT 1 5 (.pointer (some ⟨bx,0,none⟩)) hS ?_
 simp only[Act.put,sA,sZ,sS]
 refine gT 2 6 (.pointer (some ⟨bx,0,none⟩)) hS ?_
 simp only[Act.put,sA,sZ,sS]
 refine gT 3 7 (.map (some bo)) hS ?_ (hv:=fun w' hs=>by(have h0:=hs.cell hbx x0;go_simp))
 simp only[Act.put,sA,sZ,sS]
 refine gT 4 8 (.int .i64 NQ) hS ?_ (hv:=fun w' hs=>by exact exec_lenmap rfl rfl (HLN.out w' hs))
 simp only[Act.put,sA,sZ,sS]
 refine gT 5 9 (.pointer (some ⟨bx,0,none⟩)) hS ?_
 simp only[Act.put,sA,sZ,sS]
 refine gT 6 10 (.pointer (some ⟨bx,0,none⟩)) hS ?_
 simp only[Act.put,sA,sZ,sS]
 refine gT 7 11 (.pointer (some ⟨bx,1,none⟩)) hS ?_
 simp only[Act.put,sA,sZ,sS]
 refine gT 8 12 (.int .i64 PS.length) hS ?_ (hv:=fun w' hs=>by(have h0:=hs.cell hbx x1;go_simp))
 simp only[Act.put,sA,sZ,sS]
 refine gT 9 2 (.int .i64 NQ) hS ?_
 simp only[Act.put,sA,sZ,sS]
 refine gT 10 3 (.int .i64 PS.length) hS ?_
 simp only[Act.put,sA,sZ,sS]
 refine rg_done kB ?_
 have hF:Ext w (World.drew w):=hS
 go_wp2_with fail
 go_ret2
 exact⟨rfl,hF⟩
def tabD (l:List Rule) (d:Node):List R4:=((6:Int),([]:Bytes),([]:Bytes),([47]:Bytes))::rowsD l d ([47]++d.name) [d.name]
structure DocOk (l:List Rule) (d:Node):Prop where
 wf:wfN l d [d.name]
 cnt:cntN d≤1048570
 len:(rowsD l d ([47]++d.name) [d.name]).length≤4194300
 ok:∀r∈rowsD l d ([47]++d.name) [d.name],ok4 r
theorem rdoc_any (l:List Rule) (hrok:RulesOk l) (n:Node) (hd:DocOk l n) (pr p:Nat→Prop) (vl va vk:Value) (w:World) (hns:nsz n≤1048570) (hrl:Rep w pr vl (rulesD l)) (hva:Rep w p va (attrsD n.attrs)) (hvk:Rep w p vk (nodesD n.kids)):
  Calls Tryz.prog 47 #[vl,.agg #[.int .i64 n.kind,.string (bs n.name),.string (bs n.text),va,vk]] w (TabR w (tabD l n)):=by
 obtain⟨aa,ac,rfl,_,_⟩:=hva.count z_attr kA
 obtain⟨ka,kc,rfl,_,_⟩:=hvk.count z_node kA
 obtain⟨i0,hin0,hq0,hq1,hq2⟩:=info_parts infoQN
 have hnm:n.name.length≤1048576:=by have:=hd.cnt;have:=cnt_name n;omega
 obtain⟨wz,hwz⟩:∃X,w.alloc (.cells #[.int .i64 n.kind,.string (bs n.name),.string (bs n.text),.slice aa n.attrs.length ac,.slice ka n.kids.length kc] 66)=X:=⟨_,rfl⟩
 have hE:Ext w wz:=by rw[←hwz];exact(Ext.refl _).alloc _
 have hb:wz.heap[w.heap.size]? =some (.cells [.int .i64 n.kind,.string (bs n.name),.string (bs n.text),.slice aa n.attrs.length ac,.slice ka n.kids.length kc].toArray 66 (0,0)):=by rw[←hwz];exact blk_new w _
 have b0:=blk_cell hb (k:=0) rfl;have b1:=blk_cell hb (k:=1) rfl;have b2:=blk_cell hb (k:=2) rfl;have b3:=blk_cell hb (k:=3) rfl;have b4:=blk_cell hb (k:=4) rfl
 obtain⟨ws,hws⟩:∃X,wz.alloc (.cells #[.string (bs n.name)] 9)=X:=⟨_,rfl⟩
 have hEs:Ext wz ws:=by rw[←hws];exact(Ext.refl _).alloc _
 have hbs:ws.heap[wz.heap.size]? =some (.cells [.string (bs n.name)].toArray 9 (0,0)):=by rw[←hws];exact blk_new wz _
 have hrn:Rep ws (fun _=>True) (.slice (some ⟨wz.heap.size,0,none⟩) 1 1) (strsD [n.name]):= .row wz.heap.size 0 1 1 1 [.string (bs n.name)] _ (fun _=>trivial) rfl rfl (Nat.le_refl _) kA (fun k u hk=>by rw[Nat.zero_add];exact blk_cells hbs k hk) (Reps.cons (Rep.string _ _ _ kU) (Reps.nil _ _)).2
 have hEw:=hE.trans hEs
 have HN:=Lh (rnodes_any l hrok pr vl (nsz n) n p (fun _=>True) 1 0 ([47]++n.name) [n.name] _ _ _ ws (Nat.le_refl _) (by have:=hd.cnt;omega) (by simp only[List.length_cons,List.length_nil];omega) (hrl.ext hEw) (hva.ext hEw) (hvk.ext hEw) hrn (fun _=>hd.wf) kA (by have:=hd.len;omega) hd.ok)
 have HE:=Lh hEw
 have hcat:(⟨#[47]⟩:ByteArray)++bs n.name=bs ([47]++n.name):=by rw[←bs_append];rfl
 have r1:¬9223372036854775807< 1+(bs n.name).size:=by rw[bs_size];omega
 have hlen:=hd.len
 have HT:Hid (tabD l n=((6:Int),([]:Bytes),([]:Bytes),([47]:Bytes))::rowsD l n ([47]++n.name) [n.name]):=Lh rfl
 obtain⟨R,hR⟩:∃R,rowsD l n ([47]++n.name) [n.name]=R:=⟨_,rfl⟩
 have hR1:0< R.length:=by rw[←hR,rowsD_eq];simp
 rw[hR]at HN HT hlen
 rw[HT.out]
 clear hE hb hEs hbs hrn hEw hd hrl hva hvk hR HT
 go_enter Tryz.func47,Tryz.ntmps47
 go_wp2_with fail
 refine HN.out.mono ?_
 rintro e w3 ⟨M,rv,rfl,hown,hM,hX⟩
 obtain⟨ra,rc,rfl⟩:=own_slice hown
 have hMl:(M.length:Int)≤4194300:=by
  have:=congrArg List.length hM
  rw[List.length_map]at this
  omega
 have hw:IntKind.i64.wrap ((M.length:Int)+1)=(M.length:Int)+1:=IntWalk.i64_in _ kA
 have hwN:(0:Int)≤(M.length:Int):=by omega
 have hM0:0< M.length:=by
  have:=congrArg List.length hM
  rw[List.length_map]at this
  omega
 have HM:=Lh (And.intro hM (And.intro hown hX))
 clear hM hown hX HN hcat r1 b0 b1 b2 b3 b4
 have HR0:=Lh (World.ownsRow_lit (base:=w.heap.size) (e:=81) (size:=6) w3 #[.int .i64 6,.string ⟨#[]⟩,.string ⟨#[]⟩,.int .i64 (-1),.int .i64 ((M.length:Int)+1),.string ⟨#[47]⟩] 1 (HE.out.trans HM.out.2.2).size (by unfold maxLen;decide) rfl)
 have HX3:=Lh (HE.out.trans HM.out.2.2)
 obtain⟨g2,c2,hsl,hg2,hl2⟩:=own_pos HM.out.2.1 hM0
 cases hsl
 go_wp2_with (at_builtin;refine wpList_append_own_at _ rfl (.tmp 19) (.tmp 20) _ rfl w.heap.size 81 i0 (.agg #[.int .i64 0,.string ⟨#[]⟩,.string ⟨#[]⟩,.int .i64 0,.int .i64 0,.string ⟨#[]⟩]) 6 72 Tryz.underlying72 hin0 hq0 hq1 hq2 rfl kD (.slice (some ⟨w3.heap.size,0,none⟩) 1 1) 1 [.int .i64 6,.string ⟨#[]⟩,.string ⟨#[]⟩,.int .i64 (-1),.int .i64 ((M.length:Int)+1),.string ⟨#[47]⟩] rfl HR0.out ⟨g2,0,none⟩ M.length rc (M.flatMap qnV) rfl (qnV_len M) ((rows_ext HM.out.2.1 ((Ext.refl w3).alloc _)).cells (g:=g2) rfl) (one_qns M) kC kA (HX3.out.alloc _).size ?_;intro v7 w7 hown7 hgrow7 _ _;have HO7:=Lh (And.intro hown7 hgrow7);clear hown7 hgrow7)
 obtain⟨fa,fc,hfv⟩:=own_slice HO7.out.1
 go_ret
 refine⟨⟨6,[],[], -1,(M.length:Int)+1,[47]⟩::M,_,rfl,?_,by rw[List.map_cons,HM.out.1];rfl,Below.grown (HX3.out.alloc _) HO7.out.2 (HX3.out.alloc _).size fun k hk=>by have h1:w3.heap.size=k:=Option.some.inj hk;have:=HX3.out.size;omega⟩
 have h1:=HO7.out.1
 rw[Nat.add_comm]at h1
 exact h1
theorem walkV_lenC (C:Nat):∀(cs:List Bytes) (n:Node) (v:Bytes),cntN n≤C→walkV n cs=some v→v.length≤12*C
 | [],n,v,hn,h=>by
  rw[walkV]at h;cases h
  have h1:=txtL_len n.kids
  have h2:=cnt_kids n
  omega
 | c::cs,n,v,hn,h=>by
  have h2:=cnt_kids n
  rw[walkV]at h
  split at h
  ·
   have:=attrGet_len _ _ _ h;omega
  ·
   split at h
   ·
    exact walkV_lenC C cs _ v (manyK_cnt c n.kids 0 zeroN C kA (by
     have:cntN zeroN=1:=by decide
     omega)) h
   ·
    cases h
theorem valS_lenC (C:Nat) (n:Node) (k v:Bytes) (hn:cntN n≤C) (h:valS n k=some v):v.length≤12*C:=by
 unfold valS at h
 split at h
 ·
  cases h
  have h1:=txtL_len n.kids
  have h2:=cnt_kids n
  omega
 ·
  exact walkV_lenC C _ n v hn h
theorem keyS_lenC (C:Nat) (n:Node) (hn:cntN n≤C):∀(ks r:List Bytes),keyS n ks=some r→r.length=ks.length∧∀v∈r,v.length≤12*C
 | [],r,h=>by
  rw[keyS]at h;cases h
  exact⟨rfl,fun v hv=>by cases hv⟩
 | k::ks,r,h=>by
  rw[keyS]at h
  cases hv:valS n k with
  | none=>rw[hv]at h;cases h
  | some v=>
   rw[hv]at h
   cases hr:keyS n ks with
   | none=>rw[hr]at h;cases h
   | some r'=>
    rw[hr]at h
    cases h
    obtain⟨h1,h2⟩:=keyS_lenC C n hn ks r' hr
    refine⟨by simp[h1],fun u hu=> ?_⟩
    rcases List.mem_cons.1 hu with e | hu
    ·
     rw[e];exact valS_lenC C n k v hn hv
    ·
     exact h2 u hu
def StepB (s:Step):Prop:=s.n.length≤1200∧s.key.length≤3000∧∀k∈s.key,k.length≤14400
theorem stepsS_b (l:List Rule) (hl:∀r∈l,r.keys.length≤3000) (path:List Bytes):∀ks:List Node,(∀k∈ks,cntN k≤1200)→∀s∈stepsS l path ks,StepB s
 | [],_,s,h=>by rw[stepsS]at h;cases h
 | k::r,hk,s,h=>by
  have ih:=stepsS_b l hl path r fun k hk'=>hk k (List.mem_cons_of_mem _ hk')
  have hc:=hk k List.mem_cons_self
  rw[stepsS]at h
  split at h
  ·
   exact ih s h
  ·
   rcases List.mem_cons.1 h with e | h
   ·
    rw[e]
    have hr:(l.getD (findS (path++ [k.name]) l 0).toNat noRule).keys.length≤3000:=by
     rw[List.getD_eq_getElem?_getD]
     cases hg:l[(findS (path++ [k.name]) l 0).toNat]? with
     | none=>exact Nat.zero_le _
     | some x=>exact hl x (List.mem_of_getElem? hg)
    have hn:=cnt_name k
    cases hkk:keyS k (l.getD (findS (path++ [k.name]) l 0).toNat noRule).keys with
    | none=>exact⟨by simp only;omega,Nat.zero_le _,fun v hv=>by cases hv⟩
    | some x=>
     obtain⟨h1,h2⟩:=keyS_lenC 1200 k hc _ x hkk
     exact⟨by simp only;omega,by simp only[Option.getD_some];omega,fun v hv=>by have:=h2 v hv;omega⟩
   ·
    exact ih s h
theorem join_lenB (C:Nat):∀L:List Bytes,(∀x∈L,x.length≤C)→(Lib.join L [44]).length≤L.length*(C+1)
 | [],_=>by simp[Lib.join]
 | [a],h=>by
  have:=h a kI
  rw[join_one]
  simp only[List.length_singleton];omega
 | a::b::r,h=>by
  have h1:=join_lenB C (b::r) fun x hx=>h x (List.mem_cons_of_mem _ hx)
  have h2:=h a kI
  rw[join_cons2,List.length_append,List.length_append,List.length_cons (a:=a),Nat.succ_mul]
  simp only[List.length_singleton]
  omega
theorem endS_lenB (s:Step) (h:StepB s):(endS s).length≤89999000:=by
 obtain⟨h1,h2,h3⟩:=h
 unfold endS
 split
 ·
  omega
 ·
  rw[List.length_append,List.length_append,List.length_append]
  have:=join_lenB 28800 (s.key.map pescS) fun x hx=>by
   obtain⟨k,hk,rfl⟩:=List.mem_map.1 hx
   have:=pescS_len k
   have:=h3 k hk
   omega
  rw[List.length_map]at this
  have h4:s.key.length*(28800+1)≤3000*28801:=Nat.mul_le_mul_right _ h2
  simp only[List.length_singleton]
  omega
def RowB (r:R4):Prop:=ok4 r∧1≤r.1∧r.1≤5
theorem attrs_b (path:Bytes) (la:List Attr) (hc:cntA la≤1200) (hp:path.length≤999999990000):∀r∈attrRows path la,RowB r:=by
 intro r hr
 obtain⟨a,ha,rfl⟩:=List.mem_map.1 hr
 obtain⟨i,hi,rfl⟩:=List.getElem_of_mem ha
 have:=cntA_mem la i hi
 refine⟨⟨by simp only;omega,by simp only;omega,?_⟩,by simp only;omega,by simp only;omega⟩
 simp only[List.length_append,List.length_cons,List.length_nil]
 omega
mutual
theorem rowsD_b (l:List Rule) (hl:∀r∈l,r.keys.length≤3000):∀(n:Node) (path:Bytes) (names:List Bytes),cntN n≤1200→fairN n=true→path.length+nsz n*90000000≤999999990000→∀r∈rowsD l n path names,RowB r
 | .mk k nm tx la ks,path,names,hc,hf,hp,r,hr=>by
  have hk:=fair_kind hf
  have hkid:=fair_kids hf
  simp only[Node.kind,Node.kids]at hk hkid
  rw[cntN]at hc
  rw[nsz]at hp
  have hp':path.length+90000000+nszL ks*90000000≤999999990000:=by
   have:(1+nszL ks)*90000000=90000000+nszL ks*90000000:=by rw[Nat.add_mul,Nat.one_mul]
   omega
  rw[rowsD]at hr
  rcases List.mem_append.1 hr with hr | hr
  ·
   rcases List.mem_cons.1 hr with e | hr
   ·
    rw[e]
    exact⟨⟨by simp only;omega,by simp only;omega,by simp only;omega⟩,by simp only;omega,by simp only;omega⟩
   ·
    exact attrs_b path la kA kA r hr
  ·
   have hks:∀k∈ks,cntN k≤1200:=fun k hk=>by
    obtain⟨i,hi,rfl⟩:=List.getElem_of_mem hk
    have:=cntL_mem ks i hi
    omega
   refine rowsL_b l hl ks path names _ 0 kA hkid (by have:=cntL_len ks;omega) hp' (fun ss hss=> ?_) r hr
   split at hss
   ·
    cases hss
    exact stepsS_b l hl names ks hks
   ·
    cases hss
theorem rowsL_b (l:List Rule) (hl:∀r∈l,r.keys.length≤3000):∀(ks:List Node) (path:Bytes) (names:List Bytes) (so:Option (List Step)) (i:Nat),cntL ks≤1200→fairL ks=true→i+ks.length≤1200→path.length+90000000+nszL ks*90000000≤999999990000→
  (∀ss,so=some ss→∀s∈ss,StepB s)→∀r∈rowsL l ks path names so i,RowB r
 | [],path,names,so,i,_,_,_,_,_,r,hr=>by rw[rowsL]at hr;cases hr
 | k::r,path,names,none,i,hc,hf,hi,hp,hs,x,hx=>by
  rw[cntL]at hc
  rw[fairL,Bool.and_eq_true]at hf
  rw[nszL,Nat.add_mul]at hp
  rw[List.length_cons]at hi
  rw[rowsL]at hx
  rcases List.mem_append.1 hx with hx | hx
  ·
   refine rowsD_b l hl k _ _ kA hf.1 ?_ x hx
   have hd:=dec_len 7 (i+1) (show i+1< 100000000 by omega)
   unfold idxPath itoaS
   simp only[List.length_append,List.length_cons,List.length_nil]
   omega
  ·
   exact rowsL_b l hl r path names none (i+1) kA hf.2 kA (Nat.le_trans (Nat.add_le_add_left (Nat.le_add_left _ _) _) hp) (fun ss h=>by cases h) x hx
 | k::r,path,names,some ss,i,hc,hf,hi,hp,hs,x,hx=>by
  rw[cntL]at hc
  rw[fairL,Bool.and_eq_true]at hf
  rw[nszL,Nat.add_mul]at hp
  rw[List.length_cons]at hi
  rw[rowsL]at hx
  rcases List.mem_append.1 hx with hx | hx
  ·
   refine rowsD_b l hl k _ _ kA hf.1 ?_ x hx
   have hb:StepB (ss.headD ⟨[],[]⟩):=by
    cases ss with
    | nil=>exact⟨by decide,by decide,fun k hk=>by cases hk⟩
    | cons a s=>exact hs _ rfl a List.mem_cons_self
   have he:=endS_lenB _ hb
   unfold stepPath
   simp only[List.length_append,List.length_cons,List.length_nil]
   omega
  ·
   exact rowsL_b l hl r path names (some ss.tail) (i+1) kA hf.2 kA (Nat.le_trans (Nat.add_le_add_left (Nat.le_add_left _ _) _) hp) (fun s' h s hm=>by
    cases h
    exact hs ss rfl s (List.mem_of_mem_tail hm)) x hx
end
mutual
theorem rowsD_cnt (l:List Rule):∀(n:Node) (path:Bytes) (names:List Bytes),(rowsD l n path names).length≤cntN n
 | .mk k nm tx la ks,path,names=>by
  have h1:=rowsL_cnt l ks path names (if keyedB l names=true then some (stepsS l names ks)else none) 0
  have h2:=cntA_len la
  rw[rowsD,cntN,List.length_append,List.length_cons]
  unfold attrRows
  rw[List.length_map]
  omega
theorem rowsL_cnt (l:List Rule):∀(ks:List Node) (path:Bytes) (names:List Bytes) (so:Option (List Step)) (i:Nat),(rowsL l ks path names so i).length≤cntL ks
 | [],path,names,so,i=>by rw[rowsL];exact Nat.zero_le _
 | k::r,path,names,none,i=>by
  have h1:=rowsD_cnt l k (idxPath path i) []
  have h2:=rowsL_cnt l r path names none (i+1)
  rw[rowsL,cntL,List.length_append]
  omega
 | k::r,path,names,some ss,i=>by
  have h1:=rowsD_cnt l k (stepPath path (ss.headD ⟨[],[]⟩)) (names++ [k.name])
  have h2:=rowsL_cnt l r path names (some ss.tail) (i+1)
  rw[rowsL,cntL,List.length_append]
  omega
end
def tabsD (T:List (List QN)):DV:= .s 1 (T.flatMap fun M=> [qnsD M])
theorem z_tab (M:List QN):([qnsD M]:List DV).length=1:=rfl
theorem infoQS:(Tryz.prog.info? 72).map (fun i=>(i.zero,i.size,i.bytes))=some (some (.slice none 0 0),1,24):=by kernel_rfl
theorem tab_at {w:World} {p:Nat→Prop} {a:Option Addr} {len cap:Nat} {T:List (List QN)} (h:Rep w p (.slice a len cap) (tabsD T)) (i:Nat) (hi:i< T.length):
  ∃b off u,a=some ⟨b,off,none⟩∧b< w.heap.size∧w.cell? ⟨b,off+i,none⟩=some u∧Rep w p u (qnsD T[i]):=by
 obtain⟨b,off,ha,hb,hp,hc⟩:=elem_at z_tab h kA i hi
 obtain⟨u,hu,hr⟩:=hc 0 _ rfl
 rw[Nat.mul_one,Nat.add_zero]at hu
 exact⟨b,off,u,ha,hb,hu,hr⟩
theorem qnx_at {w:World} {p:Nat→Prop} {a:Option Addr} {len cap:Nat} {l:List QN} (h:Rep w p (.slice a len cap) (qnsD l)) (i:Nat) (hi:i< l.length):
  ∃b off,a=some ⟨b,off,none⟩∧b< w.heap.size∧w.cell? ⟨b,off+i*6,none⟩=some (.int .i64 l[i].kind)∧w.cell? ⟨b,off+i*6+1,none⟩=some (.string (bs l[i].name))∧w.cell? ⟨b,off+i*6+2,none⟩=some (.string (bs l[i].text))∧
   w.cell? ⟨b,off+i*6+3,none⟩=some (.int .i64 l[i].par)∧w.cell? ⟨b,off+i*6+4,none⟩=some (.int .i64 l[i].fin)∧w.cell? ⟨b,off+i*6+5,none⟩=some (.string (bs l[i].path)):=by
 obtain⟨b,off,ha,hb,hp,hc⟩:=elem_at z_qn h kA i hi
 obtain⟨u0,h0,r0⟩:=hc 0 _ rfl
 obtain⟨u1,h1,r1⟩:=hc 1 _ rfl
 obtain⟨u2,h2,r2⟩:=hc 2 _ rfl
 obtain⟨u3,h3,r3⟩:=hc 3 _ rfl
 obtain⟨u4,h4,r4⟩:=hc 4 _ rfl
 obtain⟨u5,h5,r5⟩:=hc 5 _ rfl
 exact⟨b,off,ha,hb,by rw[←r0.is];exact h0,by rw[←r1.is];exact h1,by rw[←r2.is];exact h2,by rw[←r3.is];exact h3,by rw[←r4.is];exact h4,by rw[←r5.is];exact h5⟩
theorem tabD_ok {l:List Rule} {d:Node} (hd:DocOk l d) {M:List QN} (hM:M.map k4=tabD l d):(∀q∈M,qnF q)∧∀q∈M,ok4 (k4 q):=by
 have h:∀q∈M,ok4 (k4 q):=fun q hq=>by
  have h1:k4 q∈M.map k4:=List.mem_map.2 ⟨q,hq,rfl⟩
  rw[hM]at h1
  rcases List.mem_cons.1 h1 with e | h1
  ·
   rw[e];exact⟨by decide,by decide,by decide⟩
  ·
   exact hd.ok _ h1
 refine⟨fun q hq=> ?_,h⟩
 obtain⟨h1,h2,h3⟩:=h q hq
 have h1:q.name.length≤1048576:=h1
 have h2:q.text.length≤1048576:=h2
 have h3:q.path.length≤1000000000000:=h3
 exact⟨h1,h2,by omega⟩
theorem rtabs_any (l:List Rule) (hrok:RulesOk l) (ds:List Node) (hd:∀d∈ds,DocOk l d∧nsz d≤1048570) (hn:ds.length≤1000000) (pr p:Nat→Prop) (vl vd:Value) (w:World) (hrl:Rep w pr vl (rulesD l)) (hvd:Rep w p vd (nodesD ds)):
  Calls Tryz.prog 25 #[vl,vd] w fun e w'=>(∃T:List (List QN),Ret (fun c=>w.heap.size≤c) (tabsD T) e w'∧T.map (·.map k4)=ds.map (tabD l)∧∀t∈T,∀q∈t,ok4 (k4 q))∧Ext w w':=by
 obtain⟨ra,rc,rfl,_,_⟩:=hrl.count z_rule kA
 obtain⟨da,dc,rfl,_,_⟩:=hvd.count z_node kA
 have HV:=Lh (And.intro hrl (And.intro hvd hd))
 clear hrl hvd hd
 go_enter Tryz.func25,Tryz.ntmps25
 go_wp2_with fail
 go_loopw [5,6] (fun o t wr=>∃(i:Nat) (T:List (List QN)),t= .int .i64 i∧i≤ds.length∧Hid (T.length=i∧Own wr (fun c=>w.heap.size≤c) w.heap.size 72 1 o T.length (T.flatMap fun M=> [qnsD M])∧T.map (·.map k4)=(ds.take i).map (tabD l)∧(∀t∈T,∀q∈t,ok4 (k4 q))∧Ext w wr)) (fun _ t _=>downV ds.length t)
 case atStart=>exact⟨0,[],rfl,Nat.zero_le _,Lh ⟨rfl,Own.nil _ _ _ _ _,by rw[List.take_zero];rfl,fun t ht=>(by cases ht),Ext.refl _⟩⟩
 case round=>
  obtain⟨i,T,rfl,hi,HO⟩:=hrel
  have hi0:=nZ0 i
  obtain⟨wo,hwo⟩:∃wo,wo=wr:=⟨_,rfl⟩
  subst hwo
  obtain⟨oa,oc,rfl,_,_⟩:=HO.out.2.1.form
  have hTl:T.length< 100000000:=by have:=HO.out.1;omega
  by_cases hlt:i< ds.length
  ·
   have hlI:(i:Int)< (ds.length:Int):=by omega
   obtain⟨gk,ok,ku,nu,hgk,lgk,_,d0,d1,d2,d3,d4,hku,hnu⟩:=node_at (HV.out.2.1.ext HO.out.2.2.2.2) i hlt
   subst hgk
   have hdi:=HV.out.2.2 _ (List.getElem_mem hlt)
   have HT:Hid ((ds.take (i+1)).map (tabD l)=(ds.take i).map (tabD l)++ [tabD l ds[i]]):=Lh (by rw[List.take_succ_eq_append_getElem hlt,List.map_append];rfl)
   obtain⟨n,hnn⟩:∃n,ds[i]=n:=⟨_,rfl⟩
   rw[hnn]at d0 d1 d2 hku hnu hdi HT
   obtain⟨yua,yuc,rfl,_,_⟩:=hku.count z_attr kA
   obtain⟨yna,ync,rfl,_,_⟩:=hnu.count z_node kA
   have HD:=Lh (rdoc_any l hrok n hdi.1 pr p _ _ _ wo hdi.2 (HV.out.1.ext HO.out.2.2.2.2) hku hnu)
   have HDI:=Lh hdi.1
   clear hnn hdi hku hnu
   go_wp2_with fail
   refine HD.out.mono ?_
   rintro e w3 ⟨M,rv,rfl,hown,hM,hX⟩
   obtain⟨sa,sc,rfl⟩:=own_slice hown
   have hok:=tabD_ok HDI.out hM
   have hrep:Rep w3 (fun c=>wo.heap.size≤c) (.slice sa M.length sc) (qnsD M):=(Own.rep (p:=fun _=>False) (n:=M.length) ⟨_,hown,qnV_reps _ _ M hok.1⟩).ok fun b hb=>hb.elim (fun h=>h.elim) id
   have hbl:Hid (∀b,some b=(Value.slice oa T.length oc).ownBlock→b< wo.heap.size):=Lh (by
    obtain⟨us,hr,_⟩:=HO.out.2.1.rows
    exact fun b hb=>(hr.lt b hb.symm).2)
   have HM:=Lh (And.intro hM (And.intro hok.2 (And.intro hrep hX)))
   clear hM hok hrep hX hown HD d0 d1 d2 d3 d4
   go_wp2_with (at_builtin;refine wpList_app1 rfl (.tmp 13) (.tmp 20) 35 rfl w 72 infoQS Tryz.underlying35 rfl kD (p:=fun c=>w.heap.size≤c) (v:= .slice oa T.length oc) (HO.out.2.1.ext (HM.out.2.2.2.alloc _)) rfl (g:=w3.heap.size) (ns:= [.slice sa M.length sc]) (ds:= [qnsD M]) rfl (blk_new w3 _) rfl kT (q:=fun c=>wo.heap.size≤c) (Reps.cons (HM.out.2.2.1.ext ((Ext.refl w3).alloc _)) (Reps.nil _ _)) (fun b hb _=>⟨Nat.le_trans HO.out.2.2.2.2.size hb,fun e=>by have:=hbl.out b e;omega⟩) hTl kD ((HO.out.2.2.2.2.trans HM.out.2.2.2).alloc _) ?_;intro v4 w4 hO4 hE4 _;have HF4:=Lh (And.intro hO4 hE4);clear hO4 hE4)
   have HF:Hid ((T++ [M]).length=i+1∧Own w4 (fun c=>w.heap.size≤c) w.heap.size 72 1 v4 (T++ [M]).length ((T++ [M]).flatMap fun M=> [qnsD M])∧(T++ [M]).map (·.map k4)=(ds.take (i+1)).map (tabD l)∧(∀t∈T++ [M],∀q∈t,ok4 (k4 q))∧Ext w w4):=Lh ⟨by rw[List.length_append,HO.out.1];rfl,by rw[List.length_append,List.flatMap_append];exact HF4.out.1,by rw[HT.out,List.map_append,HO.out.2.2.1,←HM.out.1];rfl,fun t ht=>by
    rcases List.mem_append.1 ht with ht | ht
    ·
     exact HO.out.2.2.2.1 t ht
    ·
     rw[List.mem_singleton]at ht;rw[ht];exact HM.out.2.1,HF4.out.2⟩
   go_roundw
   case rel=>exact⟨i+1,_,by go_num,by omega,HF⟩
   case measure=>exact mZ
  ·
   have hlI:¬(i:Int)< (ds.length:Int):=by omega
   have hF:=HO.out
   rw[List.take_of_length_le kA]at hF
   have HF:=Lh hF
   clear hF HO hTl
   obtain⟨K,hK⟩:∃K,T.length=K:=⟨_,rfl⟩
   have HKK:=Lh hK
   rw[hK]
   clear hK
   go_wp2_with fail
   go_ret
   exact⟨⟨T,⟨_,rfl,by rw[←HKK.out];exact HF.out.2.1.rep.ok fun c hc=>hc.elim id id⟩,HF.out.2.2.1,HF.out.2.2.2.1⟩,HF.out.2.2.2.2⟩
def psT:List (List QN)→Nat→List IR
 | [],_=> []
 | t::r,i=>t.map (fun q=>(((i:Int)+1,k4 q):IR))++psT r (i+1)
def rowsI (t:List QN) (v:Nat):List IR:=t.map fun q=>(((v:Int)+1,k4 q):IR)
theorem nf_wf {l:List Rule} {nm:Bytes} {ks:List Bytes} {rs:List Rule} (hl:l=⟨[nm],ks⟩::rs) {n:Node} (h:NForm2 l n):wfN l n [nm]∧wtN l n [nm]∧n.name=nm:=by
 have ht:=nform_wt hl h.to
 obtain⟨a,nm',ks',rs',hm,hl',hk,hn,hc,he,h1,h2⟩:=h
 have e:nm'=nm:=by rw[hl]at hl';simp at hl';exact hl'.1.1.symm
 subst e
 obtain⟨w1,w2⟩:=norm_wf l a [nm'] 0 hk hc
 rw[←he]at w1 w2
 exact⟨w1,ht,by rw[w2];exact hn⟩
theorem nf_doc {l:List Rule} {nm:Bytes} {ks:List Bytes} {rs:List Rule} (hl:l=⟨[nm],ks⟩::rs) (hk:∀r∈l,r.keys.length≤3000) {n:Node} (h:NForm2 l n):DocOk l n∧nsz n≤1200∧∀r∈rowsD l n ([47]++n.name) [n.name],RowB r:=by
 have hc:=h.cnt
 have hs:=nsz_cnt n
 have hn:=cnt_name n
 obtain⟨w1,w2,w3⟩:=nf_wf hl h
 have hb:=rowsD_b l hk n ([47]++n.name) [n.name] hc (nform_fair h.to) (by
  have h1:nsz n*90000000≤1200*90000000:=Nat.mul_le_mul_right _ kA
  simp only[List.length_append,List.length_cons,List.length_nil]
  omega)
 have hr:=rowsD_cnt l n ([47]++n.name) [n.name]
 exact⟨⟨by rw[w3];exact w1,by omega,by omega,fun r hr=>(hb r hr).1⟩,by omega,hb⟩
def psK:List (List R4)→Nat→List IR
 | [],_=> []
 | t::r,i=>t.map (fun x=>(((i:Int)+1,x):IR))++psK r (i+1)
theorem psT_k:∀(T:List (List QN)) (i:Nat),psT T i=psK (T.map (·.map k4)) i
 | [],_=>rfl
 | t::r,i=>by
  rw[psT,List.map_cons,psK,psT_k r (i+1),List.map_map];rfl
theorem psK_snoc:∀(a:List (List R4)) (t:List R4) (i:Nat),psK (a++ [t]) i=psK a i++t.map (fun x=>((((i+a.length:Nat):Int)+1,x):IR))
 | [],t,i=>by simp[psK]
 | b::a,t,i=>by
  rw[List.cons_append,psK,psK_snoc a t (i+1),psK,List.append_assoc,List.length_cons]
  congr 3
  funext x
  congr 2
  omega
section
variable {l:List Rule} {nm:Bytes} {ks:List Bytes} {rs:List Rule} {ds:List Node}
theorem rows_root (hl:l=⟨[nm],ks⟩::rs) (hd:∀d∈ds,NForm2 l d) (h12:ds.length≤12) (i:Nat) (hi:i< ds.length):
  rowsA ((i:Int)+1) (rootP l nm ds) []=rowsD l ds[i] ([47]++ds[i].name) [ds[i].name]∧ahas (rootP l nm ds).vers ((i:Int)+1)=true:=by
 have hne:ds≠ []:=fun e=>by rw[e]at hi;exact absurd hi (Nat.not_lt_zero _)
 have hw:=fun d hm=>nf_wf hl (hd d hm)
 have hH:=held_all hw kA
 have hmem:=heldsOf_k ds 0 i hi
 rw[Nat.zero_add]at hmem
 have hnm:ds[i].name=nm:=(hw _ (List.getElem_mem hi)).2.2
 unfold rootP
 rw[if_neg hne]
 constructor
 ·
  have h:=rows_held l (nszL ds+1) [nm] ⟨nm,[]⟩ (heldsOf ds 0) [] kI hH (fun h hm=>nform_fair (hd _ (heldsOf_mem ds 0 h hm).1).to) _ hmem []
  rw[h,hnm];rfl
 ·
  rw[nodeP_vers]
  have hv:∀h∈heldsOf ds 0,1≤h.v∧h.v≤200:=fun h hm=>by
   obtain⟨_,b,c⟩:=heldsOf_mem ds 0 h hm
   omega
  have hane:ownV (heldsOf ds 0)≠ []:=ownV_ne _ (List.ne_nil_of_mem hmem) hv
  unfold versV
  rw[if_neg fun e=>hane ((spansS_iff _ _).1 e)]
  unfold ahas
  rw[if_neg fun e=>hane (List.eq_nil_of_length_eq_zero e)]
  have:=hasV_of ((heldsOf ds 0).map (·.v)) ((i:Int)+1) kA kA
  rw[decide_eq_true (List.mem_map.2 ⟨_,hmem,rfl⟩)]at this
  exact this
theorem ar_ok (hl:l=⟨[nm],ks⟩::rs) (hk:∀r∈l,r.keys.length≤3000) (hd:∀d∈ds,NForm2 l d) (h12:ds.length≤12) (hlen:∀d∈ds,(tabD l d).length≤100):ArOk (rootP l nm ds) ds.length:=by
 refine⟨h12,fun i hi=>(rows_root hl hd h12 i hi).2,fun i hi r hr=> ?_,fun i hi=> ?_⟩
 ·
  rw[(rows_root hl hd h12 i hi).1]at hr
  have:=(nf_doc hl hk (hd _ (List.getElem_mem hi))).2.2 r hr
  exact⟨this.1,this.2.1,by have:=this.2.2;omega⟩
 ·
  rw[(rows_root hl hd h12 i hi).1]
  have:=hlen _ (List.getElem_mem hi)
  unfold tabD at this
  rw[List.length_cons]at this
  omega
theorem psA_K (hl:l=⟨[nm],ks⟩::rs) (hd:∀d∈ds,NForm2 l d) (h12:ds.length≤12):∀k,k≤ds.length→psA (rootP l nm ds) k=psK ((ds.take k).map (tabD l)) 0
 | 0,_=>rfl
 | k+1,h=>by
  rw[psA,psA_K hl hd h12 k kA,List.take_succ_eq_append_getElem kA,List.map_append,List.map_cons,List.map_nil,psK_snoc,List.length_map,List.length_take,Nat.zero_add,Nat.min_eq_left kA]
  unfold tabA
  rw[(rows_root hl hd h12 k kA).1];rfl
theorem psA_T (hl:l=⟨[nm],ks⟩::rs) (hd:∀d∈ds,NForm2 l d) (h12:ds.length≤12) (T:List (List QN)) (hT:T.map (·.map k4)=ds.map (tabD l)):psA (rootP l nm ds) ds.length=psT T 0:=by
 rw[psA_K hl hd h12 _ (Nat.le_refl _),List.take_length,psT_k,hT]
theorem psA_b {n:ANode} {N:Nat} (h:ArOk n N):∀k,k≤N→∀x∈psA n k,(1≤x.1∧x.1≤12)∧((rowM x).2.1.length≤1048576∧(rowM x).2.2.length≤1048576)∧(rowP x).length≤1000000000000
 | 0,_,x,hx=>by cases hx
 | k+1,hk,x,hx=>by
  rw[psA]at hx
  rcases List.mem_append.1 hx with hx | hx
  ·
   exact psA_b h k kA x hx
  ·
   unfold tabA at hx
   obtain⟨r,hr,rfl⟩:=List.mem_map.1 hx
   have:=h.few
   refine⟨by simp only;omega,?_⟩
   rcases List.mem_cons.1 hr with e | hr
   ·
    rw[e];exact⟨⟨Nat.zero_le _,Nat.zero_le _⟩,show(1:Nat)≤1000000000000 by decide⟩
   ·
    obtain⟨⟨h1,h2,h3⟩,_⟩:=h.ok k kA r hr
    exact⟨⟨h1,h2⟩,h3⟩
end
end Go.Proofs.YtngmgjodcnknoaaGreatDoor
