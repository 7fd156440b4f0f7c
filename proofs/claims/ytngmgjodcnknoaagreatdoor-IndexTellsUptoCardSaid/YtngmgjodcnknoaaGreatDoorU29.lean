/-
 index:Named,Holding,Path,When,Size. Helper lemmas;no statement of the seat is proved here.
-/
import Derived.Test.YtngmgjodcnknoaaGreatDoorU28
import Derived.Test.YtngmgjodcnknoaaGreatDoorU20
namespace Go.Proofs.YtngmgjodcnknoaaGreatDoor
open Go.RowKit
set_option maxHeartbeats 32000000
set_option maxRecDepth 100000
set_option linter.unusedVariables false
set_option linter.unusedSimpArgs false
theorem xnamed_any (base:Nat) (w:World) (bx:Nat) (PS:List IR) (h:IXS base w bx PS) (hPS:∀x∈PS,1≤x.1∧x.1≤12) (hFS:∀x∈PS,(rowM x).2.1.length≤1048576∧(rowM x).2.2.length≤1048576) (kind:Int) (nm:Bytes) (hPP:∀x∈PS,(rowP x).length≤1000000000000) (hL:PS.length≤1000000):
  Calls Tryz.prog 12 #[.pointer (some ⟨bx,0,none⟩),.int .i64 kind,.string (bs nm)] w fun e w'=>Ret (fun c=>w.heap.size≤c) (trcsD (tracesL PS (askF 0 kind nm))) e w'∧Ext w w':=by
 have hbx:bx< w.heap.size:=by obtain⟨bo,Q,B,M,V,hG,_⟩:=h;exact blk_lt hG.box
 obtain⟨wb0,hwb0⟩:∃X,w.alloc (.cells #[.int .i64 kind] 3)=X:=⟨_,rfl⟩
 have hE0:Ext w wb0:=by rw[←hwb0];exact(Ext.refl _).alloc _
 have hb0:wb0.heap[w.heap.size]? =some (.cells [.int .i64 kind].toArray 3 (0,0)):=by rw[←hwb0];exact blk_new w _
 obtain⟨wb1,hwb1⟩:∃X,wb0.alloc (.cells #[.string (bs nm)] 9)=X:=⟨_,rfl⟩
 have hE1:Ext wb0 wb1:=by rw[←hwb1];exact(Ext.refl _).alloc _
 have hb1:wb1.heap[wb0.heap.size]? =some (.cells [.string (bs nm)].toArray 9 (0,0)):=by rw[←hwb1];exact blk_new wb0 _
 have hEx:Ext w wb1:=hE0.trans hE1
 have HX:=Lh hEx
 have HC:=Lh (xtr_any base wb1 bx PS (askF 0 kind nm) 30 #[.pointer (some ⟨w.heap.size,0,none⟩),.pointer (some ⟨wb0.heap.size,0,none⟩)] (h.ext hEx) hPS hFS hPP hL (enters_of Tryz.func30 (by kernel_rfl) rfl) (named_pred kind nm wb1 w.heap.size wb0.heap.size (hE1.keep (blk_lt hb0) (blk_cell hb0 (k:=0) rfl)) (Nat.lt_of_lt_of_le (blk_lt hb0) hE1.size) (blk_cell hb1 (k:=0) rfl) (blk_lt hb1)))
 clear hE0 hb0 hE1 hb1 hEx h hPS hFS
 go_enter Tryz.func12,Tryz.ntmps12
 go_wp2_with fail
 refine HC.out.mono ?_
 rintro e w2 ⟨⟨v',rfl,hrv⟩,hX2⟩
 have HF:=Lh (And.intro (hrv.ok fun c hc=>Nat.le_trans HX.out.size hc) (HX.out.trans hX2))
 clear hrv hX2 HC
 go_wp2_with fail
 go_ret
 exact⟨⟨_,rfl,HF.out.1⟩,HF.out.2⟩
theorem xhold_any (base:Nat) (w:World) (bx:Nat) (PS:List IR) (h:IXS base w bx PS) (hPS:∀x∈PS,1≤x.1∧x.1≤12) (hFS:∀x∈PS,(rowM x).2.1.length≤1048576∧(rowM x).2.2.length≤1048576) (tx:Bytes) (hPP:∀x∈PS,(rowP x).length≤1000000000000) (hL:PS.length≤1000000) (hmax:∃mx,w.cell? ⟨0,0,none⟩=some (.int .i64 mx)):
  Calls Tryz.prog 14 #[.pointer (some ⟨bx,0,none⟩),.string (bs tx)] w fun e w'=>Ret (fun c=>w.heap.size≤c) (trcsD (tracesL PS (askF 1 0 tx))) e w'∧Ext w w':=by
 have hbx:bx< w.heap.size:=by obtain⟨bo,Q,B,M,V,hG,_⟩:=h;exact blk_lt hG.box
 obtain⟨wb0,hwb0⟩:∃X,w.alloc (.cells #[.string (bs tx)] 9)=X:=⟨_,rfl⟩
 have hE0:Ext w wb0:=by rw[←hwb0];exact(Ext.refl _).alloc _
 have hb0:wb0.heap[w.heap.size]? =some (.cells [.string (bs tx)].toArray 9 (0,0)):=by rw[←hwb0];exact blk_new w _
 have hEx:Ext w wb0:=hE0
 have HX:=Lh hEx
 have HC:=Lh (xtr_any base wb0 bx PS (askF 1 0 tx) 31 #[.pointer (some ⟨w.heap.size,0,none⟩)] (h.ext hEx) hPS hFS hPP hL (enters_of Tryz.func31 (by kernel_rfl) rfl) (hold_pred 0 tx wb0 (by obtain⟨mx,hm⟩:=hmax;exact⟨mx,hEx.keep (by omega) hm⟩) (by have:=hEx.size;omega) w.heap.size (blk_cell hb0 (k:=0) rfl) (blk_lt hb0)))
 clear hE0 hb0 hEx h hPS hFS
 go_enter Tryz.func14,Tryz.ntmps14
 go_wp2_with fail
 refine HC.out.mono ?_
 rintro e w2 ⟨⟨v',rfl,hrv⟩,hX2⟩
 have HF:=Lh (And.intro (hrv.ok fun c hc=>Nat.le_trans HX.out.size hc) (HX.out.trans hX2))
 clear hrv hX2 HC
 go_wp2_with fail
 go_ret
 exact⟨⟨_,rfl,HF.out.1⟩,HF.out.2⟩
theorem xpath_any (base:Nat) (w:World) (bx:Nat) (PS:List IR) (h:IXS base w bx PS) (hPS:∀x∈PS,1≤x.1∧x.1≤12) (hFS:∀x∈PS,(rowM x).2.1.length≤1048576∧(rowM x).2.2.length≤1048576) (pth:Bytes) (hp0:pth.length≤9223372036854775807):
  Calls Tryz.prog 16 #[.pointer (some ⟨bx,0,none⟩),.string (bs pth)] w fun e w'=>Ret (fun c=>w.heap.size≤c) (spansD (versS PS pth (askF 2 0 []))) e w'∧Ext w w':=by
 have hbx:bx< w.heap.size:=by obtain⟨bo,Q,B,M,V,hG,_⟩:=h;exact blk_lt hG.box
 have hEx:Ext w w:=Ext.refl w
 have HX:=Lh hEx
 have HC:=Lh (xvers_any base w bx PS pth (askF 2 0 []) 34 #[] (h.ext hEx) hPS hFS (enters_of Tryz.func34 (by kernel_rfl) rfl) (path_pred 0 [] w) hp0)
 clear hEx h hPS hFS
 go_enter Tryz.func16,Tryz.ntmps16
 go_wp2_with fail
 refine HC.out.mono ?_
 rintro e w2 ⟨⟨v',rfl,hrv⟩,hX2⟩
 have HF:=Lh (And.intro (hrv.ok fun c hc=>Nat.le_trans HX.out.size hc) (HX.out.trans hX2))
 clear hrv hX2 HC
 go_wp2_with fail
 go_ret
 exact⟨⟨_,rfl,HF.out.1⟩,HF.out.2⟩
theorem xwhen_any (base:Nat) (w:World) (bx:Nat) (PS:List IR) (h:IXS base w bx PS) (hPS:∀x∈PS,1≤x.1∧x.1≤12) (hFS:∀x∈PS,(rowM x).2.1.length≤1048576∧(rowM x).2.2.length≤1048576) (pth tx:Bytes) (hp0:pth.length≤9223372036854775807):
  Calls Tryz.prog 18 #[.pointer (some ⟨bx,0,none⟩),.string (bs pth),.string (bs tx)] w fun e w'=>Ret (fun c=>w.heap.size≤c) (spansD (versS PS pth (askF 3 0 tx))) e w'∧Ext w w':=by
 have hbx:bx< w.heap.size:=by obtain⟨bo,Q,B,M,V,hG,_⟩:=h;exact blk_lt hG.box
 obtain⟨wb0,hwb0⟩:∃X,w.alloc (.cells #[.string (bs tx)] 9)=X:=⟨_,rfl⟩
 have hE0:Ext w wb0:=by rw[←hwb0];exact(Ext.refl _).alloc _
 have hb0:wb0.heap[w.heap.size]? =some (.cells [.string (bs tx)].toArray 9 (0,0)):=by rw[←hwb0];exact blk_new w _
 have hEx:Ext w wb0:=hE0
 have HX:=Lh hEx
 have HC:=Lh (xvers_any base wb0 bx PS pth (askF 3 0 tx) 37 #[.pointer (some ⟨w.heap.size,0,none⟩)] (h.ext hEx) hPS hFS (enters_of Tryz.func37 (by kernel_rfl) rfl) (when_pred 0 tx wb0 w.heap.size (blk_cell hb0 (k:=0) rfl) (blk_lt hb0)) hp0)
 clear hE0 hb0 hEx h hPS hFS
 go_enter Tryz.func18,Tryz.ntmps18
 go_wp2_with fail
 refine HC.out.mono ?_
 rintro e w2 ⟨⟨v',rfl,hrv⟩,hX2⟩
 have HF:=Lh (And.intro (hrv.ok fun c hc=>Nat.le_trans HX.out.size hc) (HX.out.trans hX2))
 clear hrv hX2 HC
 go_wp2_with fail
 go_ret
 exact⟨⟨_,rfl,HF.out.1⟩,HF.out.2⟩
theorem exec_lenmap {P:Program} {ev:Operand→Value} {oi:Oper} {t:TypeId} {x:Operand} {m u:Value} {W:World} (ho:oi.op= .call {callee:= .builtin .len,args:= #[x],argTypes:= #[t]}) (hx:ev x=m) (h:(Builtin.len_ #[t] oi.type #[m]).run P W= .ok u W):
  (execOp ev oi).run P W= .ok (.value u) W:=by
 unfold execOp
 simp only[ho,resolve,invoke,builtin,Sem.run_bind,Sem.run_pure,Result.andThen_ok,List.map_toArray,List.map_cons,List.map_nil,hx,h]
theorem xsize_any (base:Nat) (w:World) (bx:Nat) (PS:List IR) (h:IXS base w bx PS):Calls Tryz.prog 10 #[.pointer (some ⟨bx,0,none⟩)] w fun e w'=>e= .returned (.tuple #[.int .i64 (pathsL PS).length,.int .i64 PS.length])∧Ext w w':=by
 obtain⟨bo,Q,B,M,V,hG,hQ⟩:=h
 have hbx:=blk_lt hG.box
 have x0:=blk_cell hG.box (k:=0) rfl
 have x1:=blk_cell hG.box (k:=1) rfl
 have hlen:(pathsL PS).length=Q.length:=by
  have hnd:(pathsL PS).Nodup:=(pathsL_lt PS).imp fun {a b} (h:a< b) (e:a=b)=>by subst e;exact List.lt_irrefl a h
  exact((List.perm_ext_iff_of_nodup hnd hG.qnd).2 fun q=>by
   rw[mem_pathsL]
   exact⟨fun⟨x,hx,e⟩=>e ▸ hG.all x hx,fun h=>hQ q h⟩).length_eq
 rw[hlen]
 have HLN:=Lh fun X (hX:Ext w X)=>(hG.outer.block (w':=X) (Below.block hX _ hG.outer.lt)).len (t:=73) (e:=120) (by kernel_rfl) 3
 rw[List.length_map]at HLN
 obtain⟨NQ,hNQ⟩:∃N:Int,(Q.length:Int)=N:=⟨_,rfl⟩
 rw[hNQ]at HLN⊢
 clear hNQ hlen hG hQ
 go_enter Tryz.func10,Tryz.ntmps10
 go_wp2_with fail
 refine rg_begin (S:=Sx w) (by kernel_rfl) (Sx.begin _) ?_
 have hS:Sx w (World.drew w):=(Sx.begin _)
 refine rg_t 0 (some 4) (.pointer (some ⟨bx,0,none⟩)) rfl hS (fun w' hs=>by rfl) ?_
 simp only[Act.put,sA,sZ,sS]
 refine rg_t 1 (some 5) (.pointer (some ⟨bx,0,none⟩)) rfl hS (fun w' hs=>by first | rfl | go_simp) ?_
 simp only[Act.put,sA,sZ,sS]
 refine rg_t 2 (some 6) (.pointer (some ⟨bx,0,none⟩)) rfl hS (fun w' hs=>by first | rfl | go_simp) ?_
 simp only[Act.put,sA,sZ,sS]
 refine rg_t 3 (some 7) (.map (some bo)) rfl hS (fun w' hs=>by(have h0:=hs.cell hbx x0;go_simp)) ?_
 simp only[Act.put,sA,sZ,sS]
 refine rg_t 4 (some 8) (.int .i64 NQ) rfl hS (fun w' hs=>by exact exec_lenmap rfl rfl (HLN.out w' hs)) ?_
 simp only[Act.put,sA,sZ,sS]
 refine rg_t 5 (some 9) (.pointer (some ⟨bx,0,none⟩)) rfl hS (fun w' hs=>by rfl) ?_
 simp only[Act.put,sA,sZ,sS]
 refine rg_t 6 (some 10) (.pointer (some ⟨bx,0,none⟩)) rfl hS (fun w' hs=>by first | rfl | go_simp) ?_
 simp only[Act.put,sA,sZ,sS]
 refine rg_t 7 (some 11) (.pointer (some ⟨bx,1,none⟩)) rfl hS (fun w' hs=>by first | rfl | go_simp) ?_
 simp only[Act.put,sA,sZ,sS]
 refine rg_t 8 (some 12) (.int .i64 PS.length) rfl hS (fun w' hs=>by(have h0:=hs.cell hbx x1;go_simp)) ?_
 simp only[Act.put,sA,sZ,sS]
 refine rg_t 9 (some 2) (.int .i64 NQ) rfl hS (fun w' hs=>by rfl) ?_
 simp only[Act.put,sA,sZ,sS]
 refine rg_t 10 (some 3) (.int .i64 PS.length) rfl hS (fun w' hs=>by rfl) ?_
 simp only[Act.put,sA,sZ,sS]
 refine rg_done (by kernel_rfl) ?_
 have hF:Ext w (World.drew w):=hS
 go_wp2_with fail
 go_ret2
 exact⟨rfl,hF⟩
def tabD (l:List Rule) (d:Node):List R4:=((6:Int),([]:Bytes),([]:Bytes),([47]:Bytes))::rowsD l d ([47]++d.name) [d.name]
structure DocOk (l:List Rule) (d:Node):Prop where
 wf:wfN l d [d.name]
 cnt:cntN d≤1048570
 len:(rowsD l d ([47]++d.name) [d.name]).length≤4194300
 ok:∀r∈rowsD l d ([47]++d.name) [d.name],ok4 r
theorem rdoc_any (l:List Rule) (hrok:RulesOk l) (n:Node) (hd:DocOk l n) (pr p:Nat→Prop) (vl va vk:Value) (w:World) (hns:nsz n≤1048570) (hrl:Rep w pr vl (rulesD l)) (hva:Rep w p va (attrsD n.attrs)) (hvk:Rep w p vk (nodesD n.kids)):
  Calls Tryz.prog 47 #[vl,.agg #[.int .i64 n.kind,.string (bs n.name),.string (bs n.text),va,vk]] w (TabR w (tabD l n)):=by
 obtain⟨aa,ac,rfl,_,_⟩:=hva.count z_attr (by omega)
 obtain⟨ka,kc,rfl,_,_⟩:=hvk.count z_node (by omega)
 obtain⟨i0,hin0,hq0,hq1,hq2⟩:=info_parts infoQN
 have hnm:n.name.length≤1048576:=by have:=hd.cnt;have:=cnt_name n;omega
 obtain⟨wz,hwz⟩:∃X,w.alloc (.cells #[.int .i64 n.kind,.string (bs n.name),.string (bs n.text),.slice aa n.attrs.length ac,.slice ka n.kids.length kc] 66)=X:=⟨_,rfl⟩
 have hE:Ext w wz:=by rw[←hwz];exact(Ext.refl _).alloc _
 have hb:wz.heap[w.heap.size]? =some (.cells [.int .i64 n.kind,.string (bs n.name),.string (bs n.text),.slice aa n.attrs.length ac,.slice ka n.kids.length kc].toArray 66 (0,0)):=by rw[←hwz];exact blk_new w _
 have b0:=blk_cell hb (k:=0) rfl;have b1:=blk_cell hb (k:=1) rfl;have b2:=blk_cell hb (k:=2) rfl;have b3:=blk_cell hb (k:=3) rfl;have b4:=blk_cell hb (k:=4) rfl
 obtain⟨ws,hws⟩:∃X,wz.alloc (.cells #[.string (bs n.name)] 9)=X:=⟨_,rfl⟩
 have hEs:Ext wz ws:=by rw[←hws];exact(Ext.refl _).alloc _
 have hbs:ws.heap[wz.heap.size]? =some (.cells [.string (bs n.name)].toArray 9 (0,0)):=by rw[←hws];exact blk_new wz _
 have hrn:Rep ws (fun _=>True) (.slice (some ⟨wz.heap.size,0,none⟩) 1 1) (strsD [n.name]):= .row wz.heap.size 0 1 1 1 [.string (bs n.name)] _ (fun _=>trivial) rfl rfl (Nat.le_refl _) (by omega) (fun k u hk=>by rw[Nat.zero_add];exact blk_cells hbs k hk) (Reps.cons (Rep.string _ _ _ (by rw[bs_size];omega)) (Reps.nil _ _)).2
 have hEw:=hE.trans hEs
 have HN:=Lh (rnodes_any l hrok pr vl (nsz n) n p (fun _=>True) 1 0 ([47]++n.name) [n.name] _ _ _ ws (Nat.le_refl _) (by have:=hd.cnt;omega) (by simp only[List.length_cons,List.length_nil];omega) (hrl.ext hEw) (hva.ext hEw) (hvk.ext hEw) hrn (fun _=>hd.wf) (by omega) (by have:=hd.len;omega) hd.ok)
 have HE:=Lh hEw
 have hcat:(⟨#[47]⟩:ByteArray)++bs n.name=bs ([47]++n.name):=by rw[←bs_append];rfl
 have r1:¬9223372036854775807< 1+(bs n.name).size:=by rw[bs_size];omega
 have hlen:=hd.len
 have HT:Hid (tabD l n=((6:Int),([]:Bytes),([]:Bytes),([47]:Bytes))::rowsD l n ([47]++n.name) [n.name]):=Lh rfl
 obtain⟨R,hR⟩:∃R,rowsD l n ([47]++n.name) [n.name]=R:=⟨_,rfl⟩
 have hR1:0< R.length:=by rw[←hR,rowsD_eq];simp
 rw[hR]at HN HT hlen
 rw[HT.out]
 clear hE hb hEs hbs hrn hEw hd hrl hva hvk hR HT
 go_enter Tryz.func47,Tryz.ntmps47
 go_wp2_with fail
 refine HN.out.mono ?_
 rintro e w3 ⟨M,rv,rfl,hown,hM,hX⟩
 obtain⟨ra,rc,rfl⟩:=own_slice hown
 have hMl:(M.length:Int)≤4194300:=by
  have:=congrArg List.length hM
  rw[List.length_map]at this
  omega
 have hw:IntKind.i64.wrap ((M.length:Int)+1)=(M.length:Int)+1:=IntWalk.i64_in _ (by omega)
 have hwN:(0:Int)≤(M.length:Int):=by omega
 have hM0:0< M.length:=by
  have:=congrArg List.length hM
  rw[List.length_map]at this
  omega
 have HM:=Lh (And.intro hM (And.intro hown hX))
 clear hM hown hX HN hcat r1 b0 b1 b2 b3 b4
 have HR0:=Lh (World.ownsRow_lit (base:=w.heap.size) (e:=81) (size:=6) w3 #[.int .i64 6,.string ⟨#[]⟩,.string ⟨#[]⟩,.int .i64 (-1),.int .i64 ((M.length:Int)+1),.string ⟨#[47]⟩] 1 (HE.out.trans HM.out.2.2).size (by unfold maxLen;decide) rfl)
 have HX3:=Lh (HE.out.trans HM.out.2.2)
 obtain⟨g2,c2,hsl,hg2,hl2⟩:=own_pos HM.out.2.1 hM0
 cases hsl
 go_wp2_with (at_builtin;refine wpList_append_own_at _ rfl (.tmp 19) (.tmp 20) _ rfl w.heap.size 81 i0 (.agg #[.int .i64 0,.string ⟨#[]⟩,.string ⟨#[]⟩,.int .i64 0,.int .i64 0,.string ⟨#[]⟩]) 6 72 Tryz.underlying72 hin0 hq0 hq1 hq2 rfl (by decide) (.slice (some ⟨w3.heap.size,0,none⟩) 1 1) 1 [.int .i64 6,.string ⟨#[]⟩,.string ⟨#[]⟩,.int .i64 (-1),.int .i64 ((M.length:Int)+1),.string ⟨#[47]⟩] rfl HR0.out ⟨g2,0,none⟩ M.length rc (M.flatMap qnV) rfl (qnV_len M) ((rows_ext HM.out.2.1 ((Ext.refl w3).alloc _)).cells (g:=g2) rfl) (one_qns M) (by unfold maxLen;omega) (by omega) (HX3.out.alloc _).size ?_;intro v7 w7 hown7 hgrow7 _ _;have HO7:=Lh (And.intro hown7 hgrow7);clear hown7 hgrow7)
 obtain⟨fa,fc,hfv⟩:=own_slice HO7.out.1
 go_ret
 refine⟨⟨6,[],[], -1,(M.length:Int)+1,[47]⟩::M,_,rfl,?_,by rw[List.map_cons,HM.out.1];rfl,Below.grown (HX3.out.alloc _) HO7.out.2 (HX3.out.alloc _).size fun k hk=>by have h1:w3.heap.size=k:=Option.some.inj hk;have:=HX3.out.size;omega⟩
 have h1:=HO7.out.1
 rw[Nat.add_comm]at h1
 exact h1
theorem walkV_lenC (C:Nat):∀(cs:List Bytes) (n:Node) (v:Bytes),cntN n≤C→walkV n cs=some v→v.length≤12*C
 | [],n,v,hn,h=>by
  rw[walkV]at h;cases h
  have h1:=txtL_len n.kids
  have h2:=cnt_kids n
  omega
 | c::cs,n,v,hn,h=>by
  have h2:=cnt_kids n
  rw[walkV]at h
  split at h
  ·
   have:=attrGet_len _ _ _ h;omega
  ·
   split at h
   ·
    exact walkV_lenC C cs _ v (manyK_cnt c n.kids 0 zeroN C (by omega) (by
     have:cntN zeroN=1:=by decide
     omega)) h
   ·
    cases h
theorem valS_lenC (C:Nat) (n:Node) (k v:Bytes) (hn:cntN n≤C) (h:valS n k=some v):v.length≤12*C:=by
 unfold valS at h
 split at h
 ·
  cases h
  have h1:=txtL_len n.kids
  have h2:=cnt_kids n
  omega
 ·
  exact walkV_lenC C _ n v hn h
theorem keyS_lenC (C:Nat) (n:Node) (hn:cntN n≤C):∀(ks r:List Bytes),keyS n ks=some r→r.length=ks.length∧∀v∈r,v.length≤12*C
 | [],r,h=>by
  rw[keyS]at h;cases h
  exact⟨rfl,fun v hv=>by cases hv⟩
 | k::ks,r,h=>by
  rw[keyS]at h
  cases hv:valS n k with
  | none=>rw[hv]at h;cases h
  | some v=>
   rw[hv]at h
   cases hr:keyS n ks with
   | none=>rw[hr]at h;cases h
   | some r'=>
    rw[hr]at h
    cases h
    obtain⟨h1,h2⟩:=keyS_lenC C n hn ks r' hr
    refine⟨by simp[h1],fun u hu=> ?_⟩
    rcases List.mem_cons.1 hu with e | hu
    ·
     rw[e];exact valS_lenC C n k v hn hv
    ·
     exact h2 u hu
def StepB (s:Step):Prop:=s.n.length≤1200∧s.key.length≤3000∧∀k∈s.key,k.length≤14400
theorem stepsS_b (l:List Rule) (hl:∀r∈l,r.keys.length≤3000) (path:List Bytes):∀ks:List Node,(∀k∈ks,cntN k≤1200)→∀s∈stepsS l path ks,StepB s
 | [],_,s,h=>by rw[stepsS]at h;cases h
 | k::r,hk,s,h=>by
  have ih:=stepsS_b l hl path r fun k hk'=>hk k (List.mem_cons_of_mem _ hk')
  have hc:=hk k List.mem_cons_self
  rw[stepsS]at h
  split at h
  ·
   exact ih s h
  ·
   rcases List.mem_cons.1 h with e | h
   ·
    rw[e]
    have hr:(l.getD (findS (path++ [k.name]) l 0).toNat noRule).keys.length≤3000:=by
     rw[List.getD_eq_getElem?_getD]
     cases hg:l[(findS (path++ [k.name]) l 0).toNat]? with
     | none=>exact Nat.zero_le _
     | some x=>exact hl x (List.mem_of_getElem? hg)
    have hn:=cnt_name k
    cases hkk:keyS k (l.getD (findS (path++ [k.name]) l 0).toNat noRule).keys with
    | none=>exact⟨by simp only;omega,Nat.zero_le _,fun v hv=>by cases hv⟩
    | some x=>
     obtain⟨h1,h2⟩:=keyS_lenC 1200 k hc _ x hkk
     exact⟨by simp only;omega,by simp only[Option.getD_some];omega,fun v hv=>by have:=h2 v hv;omega⟩
   ·
    exact ih s h
theorem join_lenB (C:Nat):∀L:List Bytes,(∀x∈L,x.length≤C)→(Lib.join L [44]).length≤L.length*(C+1)
 | [],_=>by simp[Lib.join]
 | [a],h=>by
  have:=h a (by simp)
  rw[join_one]
  simp only[List.length_singleton];omega
 | a::b::r,h=>by
  have h1:=join_lenB C (b::r) fun x hx=>h x (List.mem_cons_of_mem _ hx)
  have h2:=h a (by simp)
  rw[join_cons2,List.length_append,List.length_append,List.length_cons (a:=a),Nat.succ_mul]
  simp only[List.length_singleton]
  omega
theorem endS_lenB (s:Step) (h:StepB s):(endS s).length≤89999000:=by
 obtain⟨h1,h2,h3⟩:=h
 unfold endS
 split
 ·
  omega
 ·
  rw[List.length_append,List.length_append,List.length_append]
  have:=join_lenB 28800 (s.key.map pescS) fun x hx=>by
   obtain⟨k,hk,rfl⟩:=List.mem_map.1 hx
   have:=pescS_len k
   have:=h3 k hk
   omega
  rw[List.length_map]at this
  have h4:s.key.length*(28800+1)≤3000*28801:=Nat.mul_le_mul_right _ h2
  simp only[List.length_singleton]
  omega
def RowB (r:R4):Prop:=ok4 r∧1≤r.1∧r.1≤5
theorem attrs_b (path:Bytes) (la:List Attr) (hc:cntA la≤1200) (hp:path.length≤999999990000):∀r∈attrRows path la,RowB r:=by
 intro r hr
 obtain⟨a,ha,rfl⟩:=List.mem_map.1 hr
 obtain⟨i,hi,rfl⟩:=List.getElem_of_mem ha
 have:=cntA_mem la i hi
 refine⟨⟨by simp only;omega,by simp only;omega,?_⟩,by simp only;omega,by simp only;omega⟩
 simp only[List.length_append,List.length_cons,List.length_nil]
 omega
mutual
theorem rowsD_b (l:List Rule) (hl:∀r∈l,r.keys.length≤3000):∀(n:Node) (path:Bytes) (names:List Bytes),cntN n≤1200→fairN n=true→path.length+nsz n*90000000≤999999990000→∀r∈rowsD l n path names,RowB r
 | .mk k nm tx la ks,path,names,hc,hf,hp,r,hr=>by
  have hk:=fair_kind hf
  have hkid:=fair_kids hf
  simp only[Node.kind,Node.kids]at hk hkid
  rw[cntN]at hc
  rw[nsz]at hp
  have hp':path.length+90000000+nszL ks*90000000≤999999990000:=by
   have:(1+nszL ks)*90000000=90000000+nszL ks*90000000:=by rw[Nat.add_mul,Nat.one_mul]
   omega
  rw[rowsD]at hr
  rcases List.mem_append.1 hr with hr | hr
  ·
   rcases List.mem_cons.1 hr with e | hr
   ·
    rw[e]
    exact⟨⟨by simp only;omega,by simp only;omega,by simp only;omega⟩,by simp only;omega,by simp only;omega⟩
   ·
    exact attrs_b path la (by omega) (by omega) r hr
  ·
   have hks:∀k∈ks,cntN k≤1200:=fun k hk=>by
    obtain⟨i,hi,rfl⟩:=List.getElem_of_mem hk
    have:=cntL_mem ks i hi
    omega
   refine rowsL_b l hl ks path names _ 0 (by omega) hkid (by have:=cntL_len ks;omega) hp' (fun ss hss=> ?_) r hr
   split at hss
   ·
    cases hss
    exact stepsS_b l hl names ks hks
   ·
    cases hss
theorem rowsL_b (l:List Rule) (hl:∀r∈l,r.keys.length≤3000):∀(ks:List Node) (path:Bytes) (names:List Bytes) (so:Option (List Step)) (i:Nat),cntL ks≤1200→fairL ks=true→i+ks.length≤1200→path.length+90000000+nszL ks*90000000≤999999990000→
  (∀ss,so=some ss→∀s∈ss,StepB s)→∀r∈rowsL l ks path names so i,RowB r
 | [],path,names,so,i,_,_,_,_,_,r,hr=>by rw[rowsL]at hr;cases hr
 | k::r,path,names,none,i,hc,hf,hi,hp,hs,x,hx=>by
  rw[cntL]at hc
  rw[fairL,Bool.and_eq_true]at hf
  rw[nszL,Nat.add_mul]at hp
  rw[List.length_cons]at hi
  rw[rowsL]at hx
  rcases List.mem_append.1 hx with hx | hx
  ·
   refine rowsD_b l hl k _ _ (by omega) hf.1 ?_ x hx
   have hd:=dec_len 7 (i+1) (show i+1< 100000000 by omega)
   unfold idxPath itoaS
   simp only[List.length_append,List.length_cons,List.length_nil]
   omega
  ·
   exact rowsL_b l hl r path names none (i+1) (by omega) hf.2 (by omega) (Nat.le_trans (Nat.add_le_add_left (Nat.le_add_left _ _) _) hp) (fun ss h=>by cases h) x hx
 | k::r,path,names,some ss,i,hc,hf,hi,hp,hs,x,hx=>by
  rw[cntL]at hc
  rw[fairL,Bool.and_eq_true]at hf
  rw[nszL,Nat.add_mul]at hp
  rw[List.length_cons]at hi
  rw[rowsL]at hx
  rcases List.mem_append.1 hx with hx | hx
  ·
   refine rowsD_b l hl k _ _ (by omega) hf.1 ?_ x hx
   have hb:StepB (ss.headD ⟨[],[]⟩):=by
    cases ss with
    | nil=>exact⟨by decide,by decide,fun k hk=>by cases hk⟩
    | cons a s=>exact hs _ rfl a List.mem_cons_self
   have he:=endS_lenB _ hb
   unfold stepPath
   simp only[List.length_append,List.length_cons,List.length_nil]
   omega
  ·
   exact rowsL_b l hl r path names (some ss.tail) (i+1) (by omega) hf.2 (by omega) (Nat.le_trans (Nat.add_le_add_left (Nat.le_add_left _ _) _) hp) (fun s' h s hm=>by
    cases h
    exact hs ss rfl s (List.mem_of_mem_tail hm)) x hx
end
mutual
theorem rowsD_cnt (l:List Rule):∀(n:Node) (path:Bytes) (names:List Bytes),(rowsD l n path names).length≤cntN n
 | .mk k nm tx la ks,path,names=>by
  have h1:=rowsL_cnt l ks path names (if keyedB l names=true then some (stepsS l names ks)else none) 0
  have h2:=cntA_len la
  rw[rowsD,cntN,List.length_append,List.length_cons]
  unfold attrRows
  rw[List.length_map]
  omega
theorem rowsL_cnt (l:List Rule):∀(ks:List Node) (path:Bytes) (names:List Bytes) (so:Option (List Step)) (i:Nat),(rowsL l ks path names so i).length≤cntL ks
 | [],path,names,so,i=>by rw[rowsL];exact Nat.zero_le _
 | k::r,path,names,none,i=>by
  have h1:=rowsD_cnt l k (idxPath path i) []
  have h2:=rowsL_cnt l r path names none (i+1)
  rw[rowsL,cntL,List.length_append]
  omega
 | k::r,path,names,some ss,i=>by
  have h1:=rowsD_cnt l k (stepPath path (ss.headD ⟨[],[]⟩)) (names++ [k.name])
  have h2:=rowsL_cnt l r path names (some ss.tail) (i+1)
  rw[rowsL,cntL,List.length_append]
  omega
end
def tabsD (T:List (List QN)):DV:= .s 1 (T.flatMap fun M=> [qnsD M])
theorem z_tab (M:List QN):([qnsD M]:List DV).length=1:=rfl
theorem infoQS:(Tryz.prog.info? 72).map (fun i=>(i.zero,i.size,i.bytes))=some (some (.slice none 0 0),1,24):=by kernel_rfl
theorem tab_at {w:World} {p:Nat→Prop} {a:Option Addr} {len cap:Nat} {T:List (List QN)} (h:Rep w p (.slice a len cap) (tabsD T)) (i:Nat) (hi:i< T.length):
  ∃b off u,a=some ⟨b,off,none⟩∧b< w.heap.size∧w.cell? ⟨b,off+i,none⟩=some u∧Rep w p u (qnsD T[i]):=by
 obtain⟨b,off,ha,hb,hp,hc⟩:=elem_at z_tab h (by omega) i hi
 obtain⟨u,hu,hr⟩:=hc 0 _ rfl
 rw[Nat.mul_one,Nat.add_zero]at hu
 exact⟨b,off,u,ha,hb,hu,hr⟩
theorem qnx_at {w:World} {p:Nat→Prop} {a:Option Addr} {len cap:Nat} {l:List QN} (h:Rep w p (.slice a len cap) (qnsD l)) (i:Nat) (hi:i< l.length):
  ∃b off,a=some ⟨b,off,none⟩∧b< w.heap.size∧w.cell? ⟨b,off+i*6,none⟩=some (.int .i64 l[i].kind)∧w.cell? ⟨b,off+i*6+1,none⟩=some (.string (bs l[i].name))∧w.cell? ⟨b,off+i*6+2,none⟩=some (.string (bs l[i].text))∧
   w.cell? ⟨b,off+i*6+3,none⟩=some (.int .i64 l[i].par)∧w.cell? ⟨b,off+i*6+4,none⟩=some (.int .i64 l[i].fin)∧w.cell? ⟨b,off+i*6+5,none⟩=some (.string (bs l[i].path)):=by
 obtain⟨b,off,ha,hb,hp,hc⟩:=elem_at z_qn h (by omega) i hi
 obtain⟨u0,h0,r0⟩:=hc 0 _ rfl
 obtain⟨u1,h1,r1⟩:=hc 1 _ rfl
 obtain⟨u2,h2,r2⟩:=hc 2 _ rfl
 obtain⟨u3,h3,r3⟩:=hc 3 _ rfl
 obtain⟨u4,h4,r4⟩:=hc 4 _ rfl
 obtain⟨u5,h5,r5⟩:=hc 5 _ rfl
 exact⟨b,off,ha,hb,by rw[←r0.is];exact h0,by rw[←r1.is];exact h1,by rw[←r2.is];exact h2,by rw[←r3.is];exact h3,by rw[←r4.is];exact h4,by rw[←r5.is];exact h5⟩
theorem tabD_ok {l:List Rule} {d:Node} (hd:DocOk l d) {M:List QN} (hM:M.map k4=tabD l d):(∀q∈M,qnF q)∧∀q∈M,ok4 (k4 q):=by
 have h:∀q∈M,ok4 (k4 q):=fun q hq=>by
  have h1:k4 q∈M.map k4:=List.mem_map.2 ⟨q,hq,rfl⟩
  rw[hM]at h1
  rcases List.mem_cons.1 h1 with e | h1
  ·
   rw[e];exact⟨by decide,by decide,by decide⟩
  ·
   exact hd.ok _ h1
 refine⟨fun q hq=> ?_,h⟩
 obtain⟨h1,h2,h3⟩:=h q hq
 have h1:q.name.length≤1048576:=h1
 have h2:q.text.length≤1048576:=h2
 have h3:q.path.length≤1000000000000:=h3
 exact⟨h1,h2,by omega⟩
theorem rtabs_any (l:List Rule) (hrok:RulesOk l) (ds:List Node) (hd:∀d∈ds,DocOk l d∧nsz d≤1048570) (hn:ds.length≤1000000) (pr p:Nat→Prop) (vl vd:Value) (w:World) (hrl:Rep w pr vl (rulesD l)) (hvd:Rep w p vd (nodesD ds)):
  Calls Tryz.prog 25 #[vl,vd] w fun e w'=>(∃T:List (List QN),Ret (fun c=>w.heap.size≤c) (tabsD T) e w'∧T.map (·.map k4)=ds.map (tabD l)∧∀t∈T,∀q∈t,ok4 (k4 q))∧Ext w w':=by
 obtain⟨ra,rc,rfl,_,_⟩:=hrl.count z_rule (by omega)
 obtain⟨da,dc,rfl,_,_⟩:=hvd.count z_node (by omega)
 have HV:=Lh (And.intro hrl (And.intro hvd hd))
 clear hrl hvd hd
 go_enter Tryz.func25,Tryz.ntmps25
 go_wp2_with fail
 go_loopw [5,6] (fun o t wr=>∃(i:Nat) (T:List (List QN)),t= .int .i64 i∧i≤ds.length∧Hid (T.length=i∧Own wr (fun c=>w.heap.size≤c) w.heap.size 72 1 o T.length (T.flatMap fun M=> [qnsD M])∧T.map (·.map k4)=(ds.take i).map (tabD l)∧(∀t∈T,∀q∈t,ok4 (k4 q))∧Ext w wr)) (fun _ t _=>downV ds.length t)
 case atStart=>exact⟨0,[],rfl,Nat.zero_le _,Lh ⟨rfl,Own.nil _ _ _ _ _,by rw[List.take_zero];rfl,fun t ht=>(by cases ht),Ext.refl _⟩⟩
 case round=>
  obtain⟨i,T,rfl,hi,HO⟩:=hrel
  have hi0:(0:Int)≤(i:Int):=by omega
  obtain⟨wo,hwo⟩:∃wo,wo=wr:=⟨_,rfl⟩
  subst hwo
  obtain⟨oa,oc,rfl,_,_⟩:=HO.out.2.1.form
  have hTl:T.length< 100000000:=by have:=HO.out.1;omega
  by_cases hlt:i< ds.length
  ·
   have hlI:(i:Int)< (ds.length:Int):=by omega
   obtain⟨gk,ok,ku,nu,hgk,lgk,_,d0,d1,d2,d3,d4,hku,hnu⟩:=node_at (HV.out.2.1.ext HO.out.2.2.2.2) i hlt
   subst hgk
   have hdi:=HV.out.2.2 _ (List.getElem_mem hlt)
   have HT:Hid ((ds.take (i+1)).map (tabD l)=(ds.take i).map (tabD l)++ [tabD l ds[i]]):=Lh (by rw[List.take_succ_eq_append_getElem hlt,List.map_append];rfl)
   obtain⟨n,hnn⟩:∃n,ds[i]=n:=⟨_,rfl⟩
   rw[hnn]at d0 d1 d2 hku hnu hdi HT
   obtain⟨yua,yuc,rfl,_,_⟩:=hku.count z_attr (by omega)
   obtain⟨yna,ync,rfl,_,_⟩:=hnu.count z_node (by omega)
   have HD:=Lh (rdoc_any l hrok n hdi.1 pr p _ _ _ wo hdi.2 (HV.out.1.ext HO.out.2.2.2.2) hku hnu)
   have HDI:=Lh hdi.1
   clear hnn hdi hku hnu
   go_wp2_with fail
   refine HD.out.mono ?_
   rintro e w3 ⟨M,rv,rfl,hown,hM,hX⟩
   obtain⟨sa,sc,rfl⟩:=own_slice hown
   have hok:=tabD_ok HDI.out hM
   have hrep:Rep w3 (fun c=>wo.heap.size≤c) (.slice sa M.length sc) (qnsD M):=(Own.rep (p:=fun _=>False) (n:=M.length) ⟨_,hown,qnV_reps _ _ M hok.1⟩).ok fun b hb=>hb.elim (fun h=>h.elim) id
   have hbl:Hid (∀b,some b=(Value.slice oa T.length oc).ownBlock→b< wo.heap.size):=Lh (by
    obtain⟨us,hr,_⟩:=HO.out.2.1.rows
    exact fun b hb=>(hr.lt b hb.symm).2)
   have HM:=Lh (And.intro hM (And.intro hok.2 (And.intro hrep hX)))
   clear hM hok hrep hX hown HD d0 d1 d2 d3 d4
   go_wp2_with (at_builtin;refine wpList_app1 rfl (.tmp 13) (.tmp 20) 35 rfl w 72 infoQS Tryz.underlying35 rfl (by decide) (p:=fun c=>w.heap.size≤c) (v:= .slice oa T.length oc) (HO.out.2.1.ext (HM.out.2.2.2.alloc _)) rfl (g:=w3.heap.size) (ns:= [.slice sa M.length sc]) (ds:= [qnsD M]) rfl (blk_new w3 _) rfl (by intro u hu;simp at hu;subst hu;rfl) (q:=fun c=>wo.heap.size≤c) (Reps.cons (HM.out.2.2.1.ext ((Ext.refl w3).alloc _)) (Reps.nil _ _)) (fun b hb _=>⟨Nat.le_trans HO.out.2.2.2.2.size hb,fun e=>by have:=hbl.out b e;omega⟩) hTl (by decide) ((HO.out.2.2.2.2.trans HM.out.2.2.2).alloc _) ?_;intro v4 w4 hO4 hE4 _;have HF4:=Lh (And.intro hO4 hE4);clear hO4 hE4)
   have HF:Hid ((T++ [M]).length=i+1∧Own w4 (fun c=>w.heap.size≤c) w.heap.size 72 1 v4 (T++ [M]).length ((T++ [M]).flatMap fun M=> [qnsD M])∧(T++ [M]).map (·.map k4)=(ds.take (i+1)).map (tabD l)∧(∀t∈T++ [M],∀q∈t,ok4 (k4 q))∧Ext w w4):=Lh ⟨by rw[List.length_append,HO.out.1];rfl,by rw[List.length_append,List.flatMap_append];exact HF4.out.1,by rw[HT.out,List.map_append,HO.out.2.2.1,←HM.out.1];rfl,fun t ht=>by
    rcases List.mem_append.1 ht with ht | ht
    ·
     exact HO.out.2.2.2.1 t ht
    ·
     rw[List.mem_singleton]at ht;rw[ht];exact HM.out.2.1,HF4.out.2⟩
   go_roundw
   case rel=>exact⟨i+1,_,by go_num,by omega,HF⟩
   case measure=>simp only[downV];omega
  ·
   have hlI:¬(i:Int)< (ds.length:Int):=by omega
   have hF:=HO.out
   rw[List.take_of_length_le (by omega)]at hF
   have HF:=Lh hF
   clear hF HO hTl
   obtain⟨K,hK⟩:∃K,T.length=K:=⟨_,rfl⟩
   have HKK:=Lh hK
   rw[hK]
   clear hK
   go_wp2_with fail
   go_ret
   exact⟨⟨T,⟨_,rfl,by rw[←HKK.out];exact HF.out.2.1.rep.ok fun c hc=>hc.elim id id⟩,HF.out.2.2.1,HF.out.2.2.2.1⟩,HF.out.2.2.2.2⟩
theorem hasP_short:∀s p:Bytes,s.length< p.length→hasP s p=false
 | [],p,h=>by
  unfold hasP
  cases p with
  | nil=>simp at h
  | cons _ _=>rfl
 | a::s,p,h=>by
  have ih:=hasP_short s p (by simp at h;omega)
  unfold hasP
  show(p.isPrefixOf (a::s) || hasP s p)=false
  rw[ih,Bool.or_false,Bool.eq_false_iff]
  intro hp
  have:=(List.isPrefixOf_iff_prefix.1 hp).length_le
  omega
theorem hasP_at (s p:Bytes) (i:Nat) (h:i+p.length≤s.length):hasP (s.drop i) p=((s.drop i).take p.length==p || (decide (i< s.length) && hasP (s.drop (i+1)) p)):=by
 have hp:p.isPrefixOf (s.drop i)=((s.drop i).take p.length==p):=by
  rw[Bool.eq_iff_iff,List.isPrefixOf_iff_prefix,beq_iff_eq,List.prefix_iff_eq_take]
  exact⟨fun h=>h.symm,fun h=>h.symm⟩
 by_cases hl:i< s.length
 ·
  rw[decide_eq_true hl,Bool.true_and]
  rw[List.drop_eq_getElem_cons hl]at hp⊢
  conv=>lhs;unfold hasP
  rw[hp]
 ·
  rw[List.drop_of_length_le (by omega)]at hp⊢
  rw[decide_eq_false hl,Bool.false_and]
  conv=>lhs;unfold hasP
  rw[hp]
theorem rhas_any (s p:Bytes) (hs:s.length≤1000000000000) (hp:p.length≤1000000000000) (w:World):Calls Tryz.prog 59 #[.string (bs s),.string (bs p)] w fun e w'=>e= .returned (.bool (hasP s p))∧Ext w w':=by
 obtain⟨R,hR⟩:∃R,hasP s p=R:=⟨_,rfl⟩
 rw[hR]
 have H0:Hid (hasP (s.drop 0) p=R):=Lh hR
 have hss:(bs s).size=s.length:=bs_size s
 have hps:(bs p).size=p.length:=bs_size p
 have HSZ:=Lh (And.intro hss hps)
 clear hR hss hps
 obtain⟨ns,hns⟩:∃n,(bs s).size=n:=⟨_,rfl⟩
 obtain⟨np,hnp⟩:∃n,(bs p).size=n:=⟨_,rfl⟩
 have hns':ns=s.length:=by rw[←hns];exact HSZ.out.1
 have hnp':np=p.length:=by rw[←hnp];exact HSZ.out.2
 have HN:=Lh (And.intro hns' hnp')
 have hnsb:ns≤1000000000000:=by omega
 have hnpb:np≤1000000000000:=by omega
 clear HSZ hns' hnp' hs hp
 go_enter Tryz.func59,Tryz.ntmps59
 go_wp2_with fail
 go_loopw [5] (fun t wr=>∃i:Nat,t= .int .i64 i∧i≤ns+1∧Hid (hasP (s.drop i) p=R∧(np=0→i≤ns))∧wr=w) (fun t _=>downV (ns+1) t)
 case atStart=>exact⟨0,rfl,Nat.zero_le _,Lh ⟨H0.out,fun _=>Nat.zero_le _⟩,rfl⟩
 case round=>
  clear H0
  obtain⟨i,rfl,hi,HI,rfl⟩:=hrel
  have hi0:(0:Int)≤(i:Int):=by omega
  have hw1:IntKind.i64.wrap ((i:Int)+(np:Int))=(i:Int)+np:=IntWalk.i64_in _ (by omega)
  by_cases hlt:i+np≤ns
  ·
   have hlI:(i:Int)+(np:Int)≤(ns:Int):=by omega
   have hat:=hasP_at s p i (by have:=HN.out;omega)
   have hlo:(0:Int)≤(i:Int)+(np:Int):=by omega
   have hlo2:(i:Int)≤(i:Int)+(np:Int):=by omega
   have hex:(bs s).extract i (i+np)=bs ((s.drop i).take p.length):=by rw[bs_extract,HN.out.2];congr 2;omega
   have hti:((i:Int)+(np:Int)).toNat=i+np:=by omega
   by_cases he:(s.drop i).take p.length=p
   ·
    have heq:(((bs s).extract i (i+np)).toList==(bs p).toList)=true:=by rw[hex,bs_eqv];exact beq_iff_eq.2 he
    have HR1:Hid (true=R):=Lh (by rw[←HI.out.1,hat,beq_iff_eq.2 he];rfl)
    clear hat he hex HI
    go_wp2_with fail
    go_ret
    exact⟨ret_bool HR1.out,Ext.refl _⟩
   ·
    have heq:(((bs s).extract i (i+np)).toList==(bs p).toList)=false:=by rw[hex,bs_eqv];exact beq_eq_false_iff_ne.2 he
    have HR1:Hid (hasP (s.drop (i+1)) p=R∧(np=0→i+1≤ns)):=Lh ⟨by
     rw[←HI.out.1,hat,beq_eq_false_iff_ne.2 he,Bool.false_or]
     by_cases hl:i< s.length
     ·
      rw[decide_eq_true hl,Bool.true_and]
     ·
      rw[decide_eq_false hl,Bool.false_and]
      rw[List.drop_of_length_le (by omega)]
      have hp0:p≠ []:=fun e=>he (by rw[e];simp)
      refine hasP_short [] p ?_
      have:=List.length_pos_iff.2 hp0
      simpa using this,fun h0=>absurd (by
       have:p= []:=List.eq_nil_of_length_eq_zero (by have:=HN.out;omega)
       rw[this];simp) he⟩
    clear hat he hex HI
    go_wp2_with fail
    go_roundw
    case rel=>exact⟨i+1,by go_num,by omega,HR1,trivial⟩
    case measure=>simp only[downV];omega
  ·
   have hlI:¬(i:Int)+(np:Int)≤(ns:Int):=by omega
   have HR1:Hid (false=R):=Lh (by
    rw[←HI.out.1]
    exact(hasP_short _ _ (by rw[List.length_drop];have:=HN.out;have:=HI.out.2;omega)).symm)
   clear HI
   go_wp2_with fail
   go_ret
   exact⟨ret_bool HR1.out,Ext.refl _⟩
theorem holds_any (q:QN) (ask kind:Int) (s:Bytes) (ht:q.text.length≤1048576) (hs:s.length≤1000000000) (w:World):
  Calls Tryz.prog 35 #[.agg #[.int .i64 q.kind,.string (bs q.name),.string (bs q.text),.int .i64 q.par,.int .i64 q.fin,.string (bs q.path)],.int .i64 ask,.int .i64 kind,.string (bs s)] w fun e w'=>e= .returned (.bool (askF ask kind s (q.kind,q.name,q.text)))∧Ext w w':=by
 obtain⟨wz,hwz⟩:∃X,w.alloc (.cells #[.int .i64 q.kind,.string (bs q.name),.string (bs q.text),.int .i64 q.par,.int .i64 q.fin,.string (bs q.path)] 81)=X:=⟨_,rfl⟩
 have hE:Ext w wz:=by rw[←hwz];exact(Ext.refl _).alloc _
 have hb:wz.heap[w.heap.size]? =some (.cells [.int .i64 q.kind,.string (bs q.name),.string (bs q.text),.int .i64 q.par,.int .i64 q.fin,.string (bs q.path)].toArray 81 (0,0)):=by rw[←hwz];exact blk_new w _
 have b0:=blk_cell hb (k:=0) rfl;have b1:=blk_cell hb (k:=1) rfl;have b2:=blk_cell hb (k:=2) rfl
 clear hb
 by_cases a0:ask=0
 ·
  subst a0
  by_cases hk:q.kind=kind
  ·
   have hkq:(q.kind==kind)=true:=beq_iff_eq.2 hk
   have hkd:decide (q.kind=kind)=true:=decide_eq_true hk
   clear hk
   by_cases hn:q.name=s
   ·
    have hnq:((bs q.name).toList==(bs s).toList)=true:=by rw[bs_eqv];exact beq_iff_eq.2 hn
    have hS:Hid (askF 0 kind s (q.kind,q.name,q.text)=true):=Lh (by unfold askF;rw[if_pos rfl,hkd,decide_eq_true hn];rfl)
    clear hn hkd
    go_enter Tryz.func35,Tryz.ntmps35
    go_wp2_with fail
    go_ret
    exact⟨ret_bool (by rw[hS.out]),hE⟩
   ·
    have hnq:((bs q.name).toList==(bs s).toList)=false:=by rw[bs_eqv];exact beq_eq_false_iff_ne.2 hn
    have hS:Hid (askF 0 kind s (q.kind,q.name,q.text)=false):=Lh (by unfold askF;rw[if_pos rfl,decide_eq_false hn,Bool.and_false])
    clear hn hkd
    go_enter Tryz.func35,Tryz.ntmps35
    go_wp2_with fail
    go_ret
    exact⟨ret_bool (by rw[hS.out]),hE⟩
  ·
   have hkq:(q.kind==kind)=false:=beq_eq_false_iff_ne.2 hk
   have hS:Hid (askF 0 kind s (q.kind,q.name,q.text)=false):=Lh (by unfold askF;rw[if_pos rfl,decide_eq_false hk];rfl)
   clear hk
   go_enter Tryz.func35,Tryz.ntmps35
   go_wp2_with fail
   go_ret
   exact⟨ret_bool (by rw[hS.out]),hE⟩
 ·
  have a0q:(ask==0)=false:=beq_eq_false_iff_ne.2 a0
  by_cases a1:ask=1
  ·
   subst a1
   by_cases h1:q.kind=1
   ·
    have h1q:(q.kind !=1)=false:=by rw[h1];rfl
    have hS:Hid (askF 1 kind s (q.kind,q.name,q.text)=false):=Lh (by unfold askF;rw[if_neg (by decide),if_pos rfl,decide_eq_false (by simpa using h1)];rfl)
    clear h1
    go_enter Tryz.func35,Tryz.ntmps35
    go_wp2_with fail
    go_ret
    exact⟨ret_bool (by rw[hS.out]),hE⟩
   ·
    have h1q:(q.kind !=1)=true:=by rw[bne_iff_ne];exact h1
    by_cases h6:q.kind=6
    ·
     have h6q:(q.kind !=6)=false:=by rw[h6];rfl
     have hS:Hid (askF 1 kind s (q.kind,q.name,q.text)=false):=Lh (by unfold askF;rw[if_neg (by decide),if_pos rfl,decide_eq_false (p:=q.kind≠6) (by simpa using h6)];simp)
     clear h1 h6
     go_enter Tryz.func35,Tryz.ntmps35
     go_wp2_with fail
     go_ret
     exact⟨ret_bool (by rw[hS.out]),hE⟩
    ·
     have h6q:(q.kind !=6)=true:=by rw[bne_iff_ne];exact h6
     have hS:Hid (askF 1 kind s (q.kind,q.name,q.text)=hasP q.text s):=Lh (by unfold askF;rw[if_neg (by decide),if_pos rfl,decide_eq_true (p:=q.kind≠1) h1,decide_eq_true (p:=q.kind≠6) h6];rfl)
     have HC:=Lh (rhas_any q.text s (by omega) (by omega) wz)
     clear h1 h6
     go_enter Tryz.func35,Tryz.ntmps35
     go_wp2_with fail
     refine HC.out.mono ?_
     rintro e w2 ⟨rfl,hX⟩
     have hE2:=hE.trans hX
     go_wp2_with fail
     go_ret
     exact⟨ret_bool (by rw[hS.out]),hE2⟩
  ·
   have a1q:(ask==1)=false:=beq_eq_false_iff_ne.2 a1
   by_cases a3:ask=3
   ·
    subst a3
    by_cases hn:q.text=s
    ·
     have hnq:((bs q.text).toList==(bs s).toList)=true:=by rw[bs_eqv];exact beq_iff_eq.2 hn
     have hS:Hid (askF 3 kind s (q.kind,q.name,q.text)=true):=Lh (by unfold askF;rw[if_neg (by decide),if_neg (by decide),if_pos rfl,decide_eq_true hn])
     clear hn
     go_enter Tryz.func35,Tryz.ntmps35
     go_wp2_with fail
     go_ret
     exact⟨ret_bool (by rw[hS.out]),hE⟩
    ·
     have hnq:((bs q.text).toList==(bs s).toList)=false:=by rw[bs_eqv];exact beq_eq_false_iff_ne.2 hn
     have hS:Hid (askF 3 kind s (q.kind,q.name,q.text)=false):=Lh (by unfold askF;rw[if_neg (by decide),if_neg (by decide),if_pos rfl,decide_eq_false hn])
     clear hn
     go_enter Tryz.func35,Tryz.ntmps35
     go_wp2_with fail
     go_ret
     exact⟨ret_bool (by rw[hS.out]),hE⟩
   ·
    have a3q:(ask==3)=false:=beq_eq_false_iff_ne.2 a3
    have hS:Hid (askF ask kind s (q.kind,q.name,q.text)=true):=Lh (by unfold askF;rw[if_neg a0,if_neg a1,if_neg a3])
    clear a0 a1 a3
    go_enter Tryz.func35,Tryz.ntmps35
    go_wp2_with fail
    go_ret
    exact⟨ret_bool (by rw[hS.out]),hE⟩
def psT:List (List QN)→Nat→List IR
 | [],_=> []
 | t::r,i=>t.map (fun q=>(((i:Int)+1,k4 q):IR))++psT r (i+1)
theorem versR_app (a b:List IR) (p:Bytes) (f:Mk→Bool):versR (a++b) p f=versR a p f++versR b p f:=by unfold versR;rw[List.filter_append,List.map_append]
theorem versR_cons (x:IR) (b:List IR) (p:Bytes) (f:Mk→Bool):versR (x::b) p f=(if(decide (rowP x=p) && f (rowM x))=true then [x.1]else [])++versR b p f:=by
 unfold versR
 by_cases h:(decide (rowP x=p) && f (rowM x))=true
 ·
  rw[if_pos h,List.filter_cons,if_pos h];rfl
 ·
  rw[if_neg h,List.filter_cons,if_neg h];rfl
def rowsI (t:List QN) (v:Nat):List IR:=t.map fun q=>(((v:Int)+1,k4 q):IR)
theorem rvers_any (T:List (List QN)) (p0 s:Bytes) (ask kind:Int) (hT:T.length≤1000) (hTl:∀t∈T,t.length≤1000) (hok:∀t∈T,∀q∈t,ok4 (k4 q)) (hs:s.length≤1000000000) (p:Nat→Prop) (vt:Value) (w:World) (hvt:Rep w p vt (tabsD T)):
  Calls Tryz.prog 17 #[vt,.string (bs p0),.int .i64 ask,.int .i64 kind,.string (bs s)] w fun e w'=>Ret (fun c=>w.heap.size≤c) (spansD (versS (psT T 0) p0 (askF ask kind s))) e w'∧Ext w w':=by
 obtain⟨ta,tc,rfl,_,_⟩:=hvt.count z_tab (by omega)
 obtain⟨R,hR⟩:∃R,versR (psT T 0) p0 (askF ask kind s)=R:=⟨_,rfl⟩
 have HF0:Hid (versS (psT T 0) p0 (askF ask kind s)=spansOf (flOf R)):=Lh (by rw[←hR];rfl)
 rw[HF0.out]
 have H0:Hid (([]:List Int)++versR (psT (T.drop 0) 0) p0 (askF ask kind s)=R):=Lh (by rw[List.nil_append,List.drop_zero];exact hR)
 have HV:=Lh (And.intro hvt (And.intro hTl hok))
 clear hR HF0 hvt hTl hok
 go_enter Tryz.func17,Tryz.ntmps17
 go_wp2_with fail
 go_loopw [11,12] (fun o t wr=>∃(v:Nat) (L:List Int),t= .int .i64 v∧v≤T.length∧L.length≤v*1000∧Hid (Own wr (fun c=>w.heap.size≤c) w.heap.size 3 1 o L.length (L.flatMap fun n=> [.v (.int .i64 n)])∧L++versR (psT (T.drop v) v) p0 (askF ask kind s)=R∧Ext w wr)) (fun _ t _=>downV T.length t)
 case atStart=>exact⟨0,[],rfl,Nat.zero_le _,Nat.zero_le _,Lh ⟨Own.nil _ _ _ _ _,H0.out,Ext.refl _⟩⟩
 case round=>
  clear H0
  obtain⟨v,L,rfl,hv,hLl,HI⟩:=hrel
  have hv0:(0:Int)≤(v:Int):=by omega
  obtain⟨wo,hwo⟩:∃wo,wo=wr:=⟨_,rfl⟩
  subst hwo
  obtain⟨oa,oc,rfl,_,_⟩:=HI.out.1.form
  by_cases hlt:v< T.length
  ·
   have hlI:(v:Int)< (T.length:Int):=by omega
   obtain⟨gt,ot,ut,hgt,lgt,ct,hut⟩:=tab_at (HV.out.1) v hlt
   subst hgt
   have hq:=HV.out.2.2 _ (List.getElem_mem hlt)
   have hml:=HV.out.2.1 _ (List.getElem_mem hlt)
   have hdr:psT (T.drop v) v=rowsI T[v] v++psT (T.drop (v+1)) (v+1):=by rw[drop_one T v hlt];rfl
   obtain⟨M,hM⟩:∃M,T[v]=M:=⟨_,rfl⟩
   rw[hM]at hut hq hml hdr
   obtain⟨ma,mc,rfl,_,_⟩:=hut.count z_qn (by omega)
   have H1:Hid (Own wo (fun c=>w.heap.size≤c) w.heap.size 3 1 (.slice oa L.length oc) L.length (L.flatMap fun n=> [.v (.int .i64 n)])∧L++(versR (rowsI (M.drop 0) v) p0 (askF ask kind s)++versR (psT (T.drop (v+1)) (v+1)) p0 (askF ask kind s))=R∧Ext w wo):=Lh ⟨HI.out.1,by rw[List.drop_zero,←versR_app,←hdr];exact HI.out.2.1,HI.out.2.2⟩
   have HM:=Lh (And.intro hut (And.intro hq (And.intro ct lgt)))
   have hLb:L.length≤v*1000:=hLl
   clear hM hdr hq hut HI ct
   go_wp2_with fail
   go_loopw [11,13] (fun o t wr=>∃(i:Nat) (L2:List Int),t= .int .i64 i∧i≤M.length∧L2.length≤v*1000+i∧Hid (Own wr (fun c=>w.heap.size≤c) w.heap.size 3 1 o L2.length (L2.flatMap fun n=> [.v (.int .i64 n)])∧L2++(versR (rowsI (M.drop i) v) p0 (askF ask kind s)++versR (psT (T.drop (v+1)) (v+1)) p0 (askF ask kind s))=R∧Ext w wr)) (fun _ t _=>downV M.length t)
   case atStart=>exact⟨0,L,rfl,Nat.zero_le _,by omega,H1⟩
   case round=>
    clear H1 hLb hLl
    obtain⟨i,L2,rfl,hi,hL2,HJ⟩:=hrel
    have hi0:(0:Int)≤(i:Int):=by omega
    obtain⟨wq,hwq⟩:∃wq,wq=wr:=⟨_,rfl⟩
    subst hwq
    obtain⟨pa,pc,rfl,_,_⟩:=HJ.out.1.form
    have ct':=HJ.out.2.2.keep HM.out.2.2.2 HM.out.2.2.1
    by_cases hit:i< M.length
    ·
     have hiI:(i:Int)< (M.length:Int):=by omega
     obtain⟨gm,om,hgm,lgm,d0,d1,d2,d3,d4,d5⟩:=qnx_at (HM.out.1.ext HJ.out.2.2) i hit
     subst hgm
     have hok1:=HM.out.2.1 _ (List.getElem_mem hit)
     have hst:versR (rowsI (M.drop i) v) p0 (askF ask kind s)=(if(decide (M[i].path=p0) && askF ask kind s (M[i].kind,M[i].name,M[i].text))=true then [(v:Int)+1]else [])++versR (rowsI (M.drop (i+1)) v) p0 (askF ask kind s):=by rw[drop_one M i hit];exact versR_cons _ _ _ _
     obtain⟨q,hqq⟩:∃q,M[i]=q:=⟨_,rfl⟩
     rw[hqq]at d0 d1 d2 d3 d4 d5 hok1 hst
     have hqt:q.text.length≤1048576:=hok1.2.1
     have HST:=Lh hst
     have HC:=Lh (holds_any q ask kind s hqt hs wq)
     have hbl:Hid (∀b,some b=(Value.slice pa L2.length pc).ownBlock→b< wq.heap.size):=Lh (by
      obtain⟨us,hr,_⟩:=HJ.out.1.rows
      exact fun b hb=>(hr.lt b hb.symm).2)
     clear hqq hok1 hst hqt
     by_cases hp:q.path=p0
     ·
      have hpq:((bs q.path).toList==(bs p0).toList)=true:=by rw[bs_eqv];exact beq_iff_eq.2 hp
      have hpd:decide (q.path=p0)=true:=decide_eq_true hp
      have HPD:=Lh hpd
      clear hp hpd
      go_wp2_with fail
      refine HC.out.mono ?_
      rintro e w3 ⟨rfl,hX⟩
      obtain⟨b,hb⟩:∃b,askF ask kind s (q.kind,q.name,q.text)=b:=⟨_,rfl⟩
      rw[hb]
      have HB:=Lh hb
      have HX:=Lh hX
      clear hb hX HC d0 d1 d2 d3 d4 d5 ct'
      cases b with
      | true=>
       have hT:=HST.out
       rw[HPD.out,HB.out,Bool.and_self,if_pos rfl]at hT
       have HT:=Lh hT
       have hw1:IntKind.i64.wrap ((v:Int)+1)=(v:Int)+1:=IntWalk.i64_in _ (by omega)
       have hL3:L2.length< 100000000:=by omega
       clear hT
       go_wp2_with (at_builtin;refine wpList_app1 rfl (.tmp 52) (.tmp 55) 91 rfl w 3 infoInt Tryz.underlying91 rfl (by decide) (p:=fun c=>w.heap.size≤c) (v:= .slice pa L2.length pc) (HJ.out.1.ext (HX.out.alloc _)) rfl (g:=w3.heap.size) (ns:= [.int .i64 ((v:Int)+1)]) (ds:= [.v (.int .i64 ((v:Int)+1))]) rfl (blk_new w3 _) rfl (by intro u hu;simp at hu;subst hu;rfl) (q:=fun c=>False) (Reps.cons (Rep.int _ _ _ _) (Reps.nil _ _)) (fun b hb _=>hb.elim) hL3 (by decide) ((HJ.out.2.2.trans HX.out).alloc _) ?_;intro v4 w4 hO4 hE4 _;have HF4:=Lh (And.intro hO4 hE4);clear hO4 hE4)
       have HF:Hid (Own w4 (fun c=>w.heap.size≤c) w.heap.size 3 1 v4 (L2++ [(v:Int)+1]).length ((L2++ [(v:Int)+1]).flatMap fun n=> [.v (.int .i64 n)])∧(L2++ [(v:Int)+1])++(versR (rowsI (M.drop (i+1)) v) p0 (askF ask kind s)++versR (psT (T.drop (v+1)) (v+1)) p0 (askF ask kind s))=R∧Ext w w4):=Lh ⟨by rw[List.length_append,List.flatMap_append];exact HF4.out.1,by rw[←HJ.out.2.1,HT.out];simp,HF4.out.2⟩
       go_roundw
       case rel=>exact⟨i+1,_,by go_num,by omega,by rw[List.length_append,List.length_singleton];omega,HF⟩
       case measure=>simp only[downV];omega
      | false=>
       have hT:=HST.out
       rw[HPD.out,HB.out,Bool.and_false,if_neg (by decide),List.nil_append]at hT
       have HF:Hid (Own w3 (fun c=>w.heap.size≤c) w.heap.size 3 1 (.slice pa L2.length pc) L2.length (L2.flatMap fun n=> [.v (.int .i64 n)])∧L2++(versR (rowsI (M.drop (i+1)) v) p0 (askF ask kind s)++versR (psT (T.drop (v+1)) (v+1)) p0 (askF ask kind s))=R∧Ext w w3):=Lh ⟨HJ.out.1.ext HX.out,by rw[←hT];exact HJ.out.2.1,HJ.out.2.2.trans HX.out⟩
       clear hT
       go_wp2_with fail
       go_roundw
       case rel=>exact⟨i+1,_,by go_num,by omega,by omega,HF⟩
       case measure=>simp only[downV];omega
     ·
      have hpq:((bs q.path).toList==(bs p0).toList)=false:=by rw[bs_eqv];exact beq_eq_false_iff_ne.2 hp
      have hT:=HST.out
      rw[decide_eq_false hp,Bool.false_and,if_neg (by decide),List.nil_append]at hT
      have HF:Hid (Own wq (fun c=>w.heap.size≤c) w.heap.size 3 1 (.slice pa L2.length pc) L2.length (L2.flatMap fun n=> [.v (.int .i64 n)])∧L2++(versR (rowsI (M.drop (i+1)) v) p0 (askF ask kind s)++versR (psT (T.drop (v+1)) (v+1)) p0 (askF ask kind s))=R∧Ext w wq):=Lh ⟨HJ.out.1,by rw[←hT];exact HJ.out.2.1,HJ.out.2.2⟩
      clear hT hp HC HST
      go_wp2_with fail
      go_roundw
      case rel=>exact⟨i+1,_,by go_num,by omega,by omega,HF⟩
      case measure=>simp only[downV];omega
    ·
     have hiI:¬(i:Int)< (M.length:Int):=by omega
     have hT:=HJ.out.2.1
     rw[List.drop_of_length_le (by omega),show versR (rowsI [] v) p0 (askF ask kind s)= [] from rfl,List.nil_append]at hT
     have HF:Hid (Own wq (fun c=>w.heap.size≤c) w.heap.size 3 1 (.slice pa L2.length pc) L2.length (L2.flatMap fun n=> [.v (.int .i64 n)])∧L2++versR (psT (T.drop (v+1)) (v+1)) p0 (askF ask kind s)=R∧Ext w wq):=Lh ⟨HJ.out.1,hT,HJ.out.2.2⟩
     have hL4:L2.length≤(v+1)*1000:=by omega
     clear hT HJ
     go_wp2_with fail
     go_roundw
     case rel=>exact⟨v+1,_,by go_num,by omega,hL4,HF⟩
     case measure=>simp only[downV];omega
  ·
   have hlI:¬(v:Int)< (T.length:Int):=by omega
   have hT:=HI.out.2.1
   rw[List.drop_of_length_le (by omega),show versR (psT [] v) p0 (askF ask kind s)= [] from rfl,List.append_nil]at hT
   have HOF:=Lh (of_any (fun c=>w.heap.size≤c) L (.slice oa L.length oc) wo (HI.out.1.rep.ok fun c hc=>hc.elim id id))
   have HE:=Lh HI.out.2.2
   subst hT
   obtain⟨K,hK⟩:∃K,L.length=K:=⟨_,rfl⟩
   rw[hK]at HOF⊢
   clear HI hK hLl
   go_wp2_with fail
   refine HOF.out.mono ?_
   rintro e w5 ⟨⟨v',rfl,hrv⟩,hX⟩
   have HF:=Lh (And.intro (hrv.ok fun c hc=>Nat.le_trans HE.out.size hc) (HE.out.trans hX))
   clear hrv hX HOF
   go_wp2_with fail
   go_ret
   exact⟨⟨_,rfl,HF.out.1⟩,HF.out.2⟩
end Go.Proofs.YtngmgjodcnknoaaGreatDoor
