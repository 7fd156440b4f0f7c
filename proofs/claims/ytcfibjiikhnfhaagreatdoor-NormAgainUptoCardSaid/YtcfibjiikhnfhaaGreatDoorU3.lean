/-
  Laws drawn from elder texts. Helper lemmas;no statement of the seat is proved here.
-/
import Derived.Test.YtcfibjiikhnfhaaGreatDoorU2
namespace Go.Proofs.YtcfibjiikhnfhaaGreatDoor
open Go.RowKit
set_option maxHeartbeats 32000000
set_option maxRecDepth 100000
set_option linter.unusedVariables false
set_option linter.unusedSimpArgs false
theorem rows_ext {w w':World} {base z n:Nat} {e:TypeId} {v:Value} {us:List Value} (h:w.ownsRow base e z v n us) (hB:Ext w w'):w'.ownsRow base e z v n us:=
  h.kept (row:=none) ⟨hB.os,hB.tape,hB.output,hB.size,fun i hi _=>Below.block hB i hi⟩ (by cases v.ownBlock<;> simp)
theorem sx_grown {a w w':World} {z n:Nat} {e:TypeId} {v:Value} {us:List Value} (h:Sx a w) (hown:w.ownsRow a.heap.size e z v n us) (hg:w.grownBy w' v.ownBlock):Sx a w':=
  Below.grown h hg (Below.size h) fun k hk=>(hown.lt k hk).1
theorem Rep.lt {w:World} {p:Nat→Prop} {v:Value} {d:DV} (h:Rep w p v d):Rep w (fun b=>p b∧b< w.heap.size) v d:=by
  induction h with
  | leaf x hx=>exact .leaf x hx
  | nil z=>exact .nil z
  | emp ad z=>exact .emp ad z
  | row b off len cap z us es hok hl hu hcap hm hc hr ih=>
    refine .row b off len cap z us es (fun hpos=>⟨hok hpos,?_⟩) hl hu hcap hm hc ih
    exact World.block_lt_of_cell? w _ (hc 0 us[0] (List.getElem?_eq_getElem hpos))
def noRule:Rule:=⟨[],[]⟩
mutual
def elemsN:Node→Nat
  | .mk k _ _ _ ks=>if k≠1 then 0 else 1+elemsL ks
def elemsL:List Node→Nat
  | []=>0
  | n::r=>elemsN n+elemsL r
end
theorem B5.block {W W':World} {b:Nat} {n:Node} {xa xk:Value} (h:B5 W b n xa xk) (hl:W.heap.size≤W'.heap.size) (hb:W'.heap[b]? =W.heap[b]?):B5 W' b n xa xk:=
  ⟨Nat.lt_of_lt_of_le h.lt hl,(World.cell?_of_block hb).trans h.c0,(World.cell?_of_block hb).trans h.c1,(World.cell?_of_block hb).trans h.c2,(World.cell?_of_block hb).trans h.c3,(World.cell?_of_block hb).trans h.c4,
   (World.frozen?_of_block hb).trans h.f0,(World.frozen?_of_block hb).trans h.f1,(World.frozen?_of_block hb).trans h.f2,(World.frozen?_of_block hb).trans h.f3,(World.frozen?_of_block hb).trans h.f4⟩
theorem st5_block (W:World) (b:Nat) (n:Node) (xa xk:Value) {k:Nat} (h:k≠b):(st5 W b n xa xk).heap[k]? =W.heap[k]? :=by
  unfold st5
  rw[Below.heap_setCell _ _ _ _ (by simpa using h),Below.heap_setCell _ _ _ _ (by simpa using h),Below.heap_setCell _ _ _ _ (by simpa using h),Below.heap_setCell _ _ _ _ (by simpa using h),Below.heap_setCell _ _ _ _ (by simpa using h)]
theorem load_node {W:World} {b:Nat} {n:Node} {xa xk:Value} (h:B5 W b n xa xk):(loadVar 26 ⟨b,0,none⟩).run Tryz.prog W= .ok (.agg #[.int .i64 n.kind,.string (bs n.name),.string (bs n.text),xa,xk]) W:=by
  have c0:=h.c0;have c1:=h.c1;have c2:=h.c2;have c3:=h.c3;have c4:=h.c4
  go_simp
theorem res_node {fn:Func} {t u:Tmp} {T:TypeId} (h:fn.results= #[.cell t T,.tmp u]) (tmps:Array Value) (P:Program) (w:World) (ad:Addr) {v:Value} (ha:tmps.getD t undef= .pointer (some ad)) (hl:(loadVar T ad).run P w= .ok v w):
    (results fn tmps).run P w= .ok (.tuple #[v,tmps.getD u undef]) w:=by
  have ha':tmps[t]?.getD undef= .pointer (some ad):=by simpa using ha
  simp[results,h,ha',asAddr,hl]
def numsD (k:IntKind) (l:List Int):DV:= .s 1 (l.flatMap fun c=> [.v (.int k c)])
theorem z_num (k:IntKind) (x:Int):([.v (.int k x)]:List DV).length=1:=rfl
def byI (s:Bytes):List Int:=s.map fun c=>(c.toNat:Int)
theorem byI_len (s:Bytes):(byI s).length=s.length:=by simp[byI]
theorem new_row {w:World} {e:TypeId} {cs:Array Value} {fz:Nat×Nat} {us:List Value} {z cap:Nat} {len:Nat} {es:List DV} (W:World) (hW:W.heap[w.heap.size]? =some (.cells cs e fz)) (hl:es.length=len*z) (hu:us.length=len*z) (hc:len≤cap) (hm:cap≤9223372036854775807)
    (hcs:∀(k:Nat) (u:Value),us[k]? =some u→cs[k]? =some u) (hr:∀(k:Nat) (u:Value) (d:DV),us[k]? =some u→es[k]? =some d→Rep W (fun b=>w.heap.size≤b) u d):
    Rep W (fun b=>w.heap.size≤b) (.slice (some ⟨w.heap.size,0,none⟩) len cap) (.s z es):=
  .row _ 0 len cap z us es (fun _=>Nat.le_refl _) hl hu hc hm (fun k u hk=>by rw[Nat.zero_add];simp[World.cell?,hW,hcs k u hk]) hr
theorem nums_reps (w:World) (p:Nat→Prop) (k:IntKind):∀l:List Int,Reps w p (l.map fun y=>Value.int k y) (l.flatMap fun y=> [.v (.int k y)])
  | []=>Reps.nil _ _
  | y::r=>Reps.cons (Rep.int _ _ _ _) (nums_reps w p k r)
theorem conv_bytes (w:World) (s:Bytes) (h:s.length≤9223372036854775807):∃v W,(convert 9 43 (.string (bs s))).run Tryz.prog w= .ok v W∧Ext w W∧Rep W (fun b=>w.heap.size≤b) v (numsD .u8 (byI s)):=by
  have hsz:(bs s).size=s.length:=bs_size s
  have hl:(bs s).size≤maxLen:=by rw[hsz];unfold maxLen;omega
  have hg:=grownCap_le_maxLen w (bs s).size 0 5 hl
  have hge:=grownCap_ge w (bs s).size 0 5
  refine⟨_,_,run_bytes_of_string w 9 43 5 (bs s) Tryz.underlying9 Tryz.underlying43 Tryz.underlying5,(Ext.refl w).drew.alloc _,?_⟩
  rw[hsz]at hg hge⊢
  unfold maxLen at hg
  refine new_row (us:=(byI s).map fun y=>Value.int .u8 y) (cs:=bytesRow (bs s) (grownCap w s.length 0 5)) (e:=5) _ (Array.getElem?_push_size ..) (by rw[flat_len _ 1 (z_num .u8),byI_len]) (by simp[byI_len]) hge (by omega) (fun k u hk=> ?_) (nums_reps _ _ _ _).2
  unfold bytesRow
  rw[List.getElem?_map]at hk
  have hlt:k< s.length:=by
    rcases Nat.lt_or_ge k s.length with h' | h'
    · exact h'
    · rw[List.getElem?_eq_none (by rw[byI_len];exact h')]at hk;cases hk
  rw[Array.getElem?_append_left (by simp[hsz,hlt])]
  rw[List.getElem?_eq_getElem (by rw[byI_len];exact hlt)]at hk
  simp[byI,bs,hlt]at hk⊢
  exact hk
def insAt {α:Type} (l:List α) (n:Nat) (x:α):List α:=l.take n++x::l.drop n
def Src (w:World) (z:Nat) (v:Value) (m:Nat) (news:List Value):Prop:=
  (v= .slice none 0 0∧m=0∧news= [])∨∃ad c,v= .slice (some ad) m c∧news.length=m*z∧∀j u,news[j]? =some u→w.cell? (ad.add j)=some u
theorem add_offs' (b o j:Nat):(⟨b,o,none⟩:Addr).add j=⟨b,o+j,none⟩:=by unfold Addr.add;split<;> simp_all
theorem Src.cells {w:World} {z:Nat} {g o m c:Nat} {news:List Value} (hl:news.length=m*z) (h:∀j u,news[j]? =some u→w.cell? ⟨g,o+j,none⟩=some u):Src w z (.slice (some ⟨g,o,none⟩) m c) m news:=
  .inr ⟨_,c,rfl,hl,fun j u hj=>by rw[add_offs'];exact h j u hj⟩
theorem Src.block {w:World} {z:Nat} {g m c:Nat} {cs:Array Value} {e:TypeId} {fz:Nat×Nat} (h:w.heap[g]? =some (.cells cs e fz)) (hl:cs.size=m*z):Src w z (.slice (some ⟨g,0,none⟩) m c) m cs.toList:=
  .cells (by simpa using hl) (fun j u hj=>by rw[Nat.zero_add];simp at hj;simp[World.cell?,h,hj])
theorem exec_slice {P:Program} {ev:Operand→Value} {oi:Oper} {t:TypeId} {x:Operand} {lo hi mx:Option Operand} {sv:Value} {W:World} (ho:oi.op= .slice t x lo hi mx) (h:(Instr.sliceAt t (ev x) (lo.map ev) (hi.map ev) (mx.map ev)).run P W= .ok sv W):
    (execOp ev oi).run P W= .ok (.value sv) W:=by
  unfold execOp
  simp only[ho,Sem.run_bind,h,Result.andThen_ok,Sem.run_pure]
theorem grown_refl (w:World) (row:Option Nat):w.grownBy w row:=by
  have h:=World.grownBy_alloc w (.cells #[] 0) row
  exact⟨rfl,rfl,rfl,Nat.le_refl _,fun _ _ _=>rfl⟩
section
variable {P:Program} {ops:Array Oper} {Q:Exit→Act→World→Prop} {S:World→Prop} {fuel:Nat} {listed:Array Bool} {a:Act} {w:World} {K:Act→World→Prop}
theorem tk_src (i:Nat) (d:Option Tmp) {oi:Oper} (hi':ops[i]? =some oi) (hd:oi.dst=d) (hw:Region.wanted oi (yielded ops a.tmps)=true) (s x:Operand) (t:TypeId)
    (ho:oi.op= .call {callee:= .builtin .append,args:= #[s,x],argTypes:= #[t,t]})
    (base:Nat) (e:TypeId) (i0:TypeInfo) (z:Value) (size bytes:Nat) (ht:P.underlying t=some (.slice e)) (hi:P.info? e=some i0) (hz:i0.zero=some z)
    (hsize:i0.size=size) (hby:i0.bytes=bytes) (hzs:z.cells.size=size) (hsz:0< size)
    (v:Value) (n:Nat) (xs:List Value) (hs:a.eval s=v) (hown:w.ownsRow base e size v n xs)
    (sv:Value) (m:Nat) (news:List Value) (hx:a.eval x=sv) (hsrc:Src w size sv m news) (h1:∀u∈news,u.oneCell'=true)
    (h63:n+m≤maxLen) (hbytes:(n+m)*bytes≤140737488355328) (hbase:base≤w.heap.size)
    (h:∀v' w',w'.ownsRow base e size v' (n+m) (xs++news)→w.grownBy w' v.ownBlock→(v'.ownBlock=v.ownBlock∨v'.ownBlock=some w.heap.size)→K (a.put d v') w'):wpOp P ops Q i K a w:=by
  rcases hsrc with⟨rfl,rfl,rfl⟩ | ⟨ad,c,rfl,hl,hc⟩
  · unfold wpOp
    simp only[hi',hw,if_true]
    refine Or.inl ?_
    have hrun:=run_append_owned_none (P:=P) (w:=w) base t oi.type e i0 size ht hi v n xs hown
    unfold Oper.wp execOp
    simp only[ho,resolve,invoke,builtin,Sem.run_bind,Sem.run_pure,Result.andThen_ok,List.map_toArray,List.map_cons,List.map_nil,hs,hx,hrun]
    rw[Oper.upon_value,hd]
    exact h _ _ (by simpa using hown) (grown_refl _ _) (.inl rfl)
  · exact tk_app i d hi' hd hw s x t ho base e i0 z size bytes ht hi hz hsize hby hzs hsz v n xs hs hown ad m c news hx hl hc h1 h63 hbytes hbase h
end
theorem own_empty' {w:World} {base g z:Nat} {e:TypeId} (hb:base≤g) (h:w.heap[g]? =some (.cells #[] e (0,0))):w.ownsRow base e z (.slice (some ⟨g,0,none⟩) 0 0) 0 []:=
  ⟨by simp,.inr ⟨g,0,#[],rfl,hb,h,Nat.le_refl _,Nat.zero_le _,by simp,by simp⟩⟩
def DV.one:DV→Bool
  | .v x=>x.oneCell'
  | .s _ _=>true
theorem Rep.one {w:World} {p:Nat→Prop} {u:Value} {e:DV} (h:Rep w p u e) (he:e.one=true):u.oneCell'=true:=by
  cases h with
  | leaf x hx=>exact he
  | nil z=>rfl
  | emp ad z=>rfl
  | row=>rfl
theorem Reps.one {w:World} {p:Nat→Prop} {us:List Value} {es:List DV} (h:Reps w p us es) (he:∀e∈es,e.one=true):∀u∈us,u.oneCell'=true:=by
  intro u hu
  obtain⟨k,hk,rfl⟩:=List.getElem_of_mem hu
  have hk':k< es.length:=by rw[←h.1];exact hk
  exact(h.2 k _ es[k] (List.getElem?_eq_getElem hk) (List.getElem?_eq_getElem hk')).one (he _ (List.getElem_mem hk'))
theorem flat_one {α:Type} {f:α→List DV} (hf:∀x,∀e∈f x,e.one=true) (l:List α):∀e∈l.flatMap f,e.one=true:=by
  intro e he
  obtain⟨x,_,hx⟩:=List.mem_flatMap.1 he
  exact hf x e hx
theorem one_attr (x:Attr):∀e∈attrC x,e.one=true:=by intro e he;simp[attrC]at he;rcases he with rfl | rfl<;> rfl
def attrPos (a:Attr) (out:List Attr):Nat:=out.findIdx fun b=>lessB a.n b.n
def sortA:List Attr→List Attr→List Attr
  | out,[]=>out
  | out,a::r=>sortA (insAt out (attrPos a out) a) r
theorem infoAttr:(Tryz.prog.info? 114).map (fun i=>(i.zero,i.size,i.bytes))=some (some (.agg #[.string ⟨#[]⟩,.string ⟨#[]⟩]),2,32):=by kernel_rfl
def placedS (l:List Rule) (x:Rule):Bool:=if 0≤findS x.path l 0 then false else if x.path.length=1 then decide (l.length=0)else decide (0≤findS (x.path.take (x.path.length - 1)) l 0)
theorem conv_block (w:World) (s:Bytes):∃cap W cs,(convert 9 43 (.string (bs s))).run Tryz.prog w= .ok (.slice (some ⟨w.heap.size,0,none⟩) s.length cap) W∧Ext w W∧W.heap.size=w.heap.size+1∧W.heap[w.heap.size]? =some (.cells cs 5 (cs.size,cs.size+1))∧∀(k:Nat) (hk:k< s.length),cs[k]? =some (.int .u8 (s[k].toNat:Int)):=by
  have hsz:(bs s).size=s.length:=bs_size s
  have h:=run_bytes_of_string w 9 43 5 (bs s) Tryz.underlying9 Tryz.underlying43 Tryz.underlying5
  rw[hsz]at h
  refine⟨_,_,_,h,(Ext.refl w).drew.alloc _,by simp,Array.getElem?_push_size ..,fun k hk=> ?_⟩
  unfold bytesRow
  rw[Array.getElem?_append_left (by simp[hsz,hk])]
  simp[bs,hk]
theorem cntA_append:∀a b:List Attr,cntA (a++b)=cntA a+cntA b
  | [],b=>by simp[cntA]
  | x::a,b=>by rw[List.cons_append,cntA,cntA,cntA_append a b];omega
theorem cntA_ins (l:List Attr) (k:Nat) (x:Attr):cntA (insAt l k x)=cntA l+(1+x.n.length+x.v.length):=by
  have h:=cntA_append (l.take k) (l.drop k)
  rw[List.take_append_drop]at h
  unfold insAt
  rw[cntA_append,cntA,h];omega
theorem cntA_sort:∀(l out:List Attr),cntA (sortA out l)=cntA out+cntA l
  | [],out=>by simp[sortA,cntA]
  | a::r,out=>by rw[sortA,cntA_sort r,cntA_ins,cntA];omega
theorem cntL_append:∀a b:List Node,cntL (a++b)=cntL a+cntL b
  | [],b=>by simp[cntL]
  | x::a,b=>by rw[List.cons_append,cntL,cntL,cntL_append a b];omega
theorem cntL_ins (l:List Node) (k:Nat) (x:Node):cntL (insAt l k x)=cntL l+cntN x:=by
  have h:=cntL_append (l.take k) (l.drop k)
  rw[List.take_append_drop]at h
  unfold insAt
  rw[cntL_append,cntL,h];omega
mutual
def contN:Node→Node
  | .mk k n t la ks=> .mk k n t (sortA [] la) (contL ks)
def contL:List Node→List Node
  | []=> []
  | n::r=>contN n::contL r
end
mutual
theorem cnt_contN:∀n:Node,cntN (contN n)=cntN n
  | .mk k n t la ks=>by rw[contN,cntN,cntN,cntA_sort,cnt_contL ks];simp[cntA]
theorem cnt_contL:∀l:List Node,cntL (contL l)=cntL l
  | []=>rfl
  | n::r=>by rw[contL,cntL,cntL,cnt_contN n,cnt_contL r]
end
theorem contN_eq (n:Node):(contN n).kind=n.kind∧(contN n).name=n.name∧(contN n).text=n.text∧(contN n).attrs=sortA [] n.attrs∧(contN n).kids=contL n.kids:=by
  cases n;rw[contN];exact⟨rfl,rfl,rfl,rfl,rfl⟩
theorem rows_set {w:World} {base z n:Nat} {e:TypeId} {v:Value} {us:List Value} (h:w.ownsRow base e z v n us) {p:Addr} (hb:some p.block≠v.ownBlock) (u:Value):(w.setCell p u).ownsRow base e z v n us:=by
  refine⟨h.1,?_⟩
  rcases h.2 with h2 | ⟨g,cap,cur,rfl,hg,hblk,hr⟩
  · exact .inl h2
  · refine .inr ⟨g,cap,cur,rfl,hg,?_,hr⟩
    rw[Below.heap_setCell _ _ _ _ (by intro e;exact hb (by rw[←e];rfl))]
    exact hblk
def QLast (P:Program) (ops:Array Oper) (last:Nat) (Q:Exit→Act→World→Prop):Exit→Act→World→Prop
  | .normal,a,w=>wpOp P ops Q last (fun a w=>Q .normal a w) a w
  | e,a,w=>Q e a w
section
variable {P:Program} {ops ops':Array Oper} {Q:Exit→Act→World→Prop}
theorem ready_eq (hsz:ops'.size=ops.size) (ha:∀i:Nat,(ops'[i]?).map (·.after)=(ops[i]?).map (·.after)) (listed:Array Bool):Region.ready .any ops' listed=Region.ready .any ops listed:=by
  unfold Region.ready
  rw[hsz]
  refine List.filter_congr fun i _=> ?_
  have h:=ha i
  cases h1:ops'[i]? <;> cases h2:ops[i]? <;> simp_all
theorem yielded_eq (hd:∀i:Nat,(ops'[i]?).bind (·.dst)=(ops[i]?).bind (·.dst)) (tmps:Array Value):yielded ops' tmps=yielded ops tmps:=by
  funext j
  unfold yielded
  rw[hd j]
theorem upon_qlast (last:Nat) (o:Oper) (a:Act) (K:Act→World→Prop) (r:Result Next) (h:o.upon P a K (QLast P ops last Q) r):o.upon P a K Q r:=by
  cases r with
  | ok n w'=>
    cases n
    case enter f args=>
      refine Calls.mono h fun e w'' he=> ?_
      cases e<;> exact he
    all_goals exact h
  | halt x w'=>cases x<;> exact h
theorem ready_some (hord:∀(i:Nat) (o:Oper),ops[i]? =some o→∀e∈o.after,Region.binds .any e=true→e.on< i) (listed:Array Bool) (k:Nat) (hk:k< ops.size) (hl:listed.getD k true=false) (hls:listed.size=ops.size):
    ∃i,i∈Region.ready .any ops listed:=by
  induction k using Nat.strongRecOn with
  | ind k ih=>
    by_cases h:∃j,j< k∧listed.getD j true=false
    · obtain⟨j,hj,hlj⟩:=h
      exact ih j hj (by omega) hlj
    · refine⟨k,?_⟩
      unfold Region.ready
      rw[List.mem_filter]
      refine⟨List.mem_range.2 hk,?_⟩
      rw[hl]
      obtain⟨o,ho⟩:∃o,ops[k]? =some o:=⟨_,Array.getElem?_eq_getElem hk⟩
      rw[ho]
      simp only[Bool.not_false,Bool.true_and,Option.map_some,Option.getD_some,List.all_eq_true,Bool.or_eq_true,Bool.not_eq_true',Array.all_eq_true']
      intro e he
      by_cases hb:Region.binds .any e=true
      · right
        have hon:=hord k o ho e he hb
        have h1:¬listed.getD e.on true=false:=fun h2=>h ⟨_,hon,h2⟩
        have hlt:e.on< listed.size:=by omega
        simp[Array.getD,hlt]at h1⊢
        exact h1
      · left;simpa using hb
theorem wpAny_last (last:Nat) (hm:P.follows .mixedOrders=true) (hsz:ops'.size=ops.size) (hl:last< ops.size) (hsame:∀i:Nat,i≠last→ops'[i]? =ops[i]?)
    (ol ol':Oper) (hol:ops[last]? =some ol) (hol':ops'[last]? =some ol') (hd:ol.dst=none) (hd':ol'.dst=none) (haf:ol'.after=ol.after) (hop:ol'.op= .move (.const (.bool true))) (hg:ol'.guard=none)
    (hwait:∀j:Nat,j< ops.size→j≠last→∃e∈ol.after,Region.binds .any e=true∧e.on=j)
    (hord:∀(i:Nat) (o:Oper),ops[i]? =some o→∀e∈o.after,Region.binds .any e=true→e.on< i):
    ∀(fuel:Nat) (listed:Array Bool) (a:Act) (w:World),listed.size=ops.size→listed.getD last true=false→wpAny P .any ops' (QLast P ops last Q) fuel listed a w→wpAny P .any ops Q fuel listed a w:=by
  have ha:∀i:Nat,(ops'[i]?).map (·.after)=(ops[i]?).map (·.after):=fun i=>by
    by_cases h:i=last
    · subst h;rw[hol,hol'];simp[haf]
    · rw[hsame i h]
  have hdd:∀i:Nat,(ops'[i]?).bind (·.dst)=(ops[i]?).bind (·.dst):=fun i=>by
    by_cases h:i=last
    · subst h;rw[hol,hol'];simp[hd,hd']
    · rw[hsame i h]
  have hy:=fun tmps=>yielded_eq (ops:=ops) (ops':=ops') hdd tmps
  have hr:=fun listed=>ready_eq (ops:=ops) (ops':=ops') hsz ha listed
  intro fuel
  induction fuel with
  | zero=>
    intro listed a w hls hll h
    obtain⟨i,hi⟩:=ready_some hord listed last hl hll hls
    have h1:=h.1
    rw[hr]at h1
    rw[h1]at hi;cases hi
  | succ fuel ih=>
    intro listed a w hls hll h
    obtain⟨h0,h1⟩:=h
    rw[hr]at h0 h1
    refine⟨fun he=> ?_,fun i hi=> ?_⟩
    · obtain⟨i,hi⟩:=ready_some hord listed last hl hll hls
      rw[he]at hi;cases hi
    · have h2:=h1 i hi
      by_cases hil:i=last
      · subst hil
        have hall:Region.ready .any ops (listed.setIfInBounds i true)= []:=by
          rw[List.eq_nil_iff_forall_not_mem]
          intro j hj
          unfold Region.ready at hj hi
          rw[List.mem_filter]at hj hi
          have hjs:=List.mem_range.1 hj.1
          by_cases e:j=i
          · subst e
            have:=hj.2
            simp[Array.getD,hls,hl]at this
          · obtain⟨e1,he1,hb1,ho1⟩:=hwait j hjs e
            have h3:=hi.2
            rw[hol]at h3
            simp only[Option.map_some,Option.getD_some,Bool.and_eq_true,Array.all_eq_true']at h3
            have h4:=h3.2 e1 he1
            rw[hb1,ho1]at h4
            have h5:=hj.2
            have hjl:j< listed.size:=by omega
            simp[Array.getD,hjl,Array.getElem_setIfInBounds,Ne.symm e]at h4 h5
            rw[h4]at h5
            simp at h5
        have h3:wpAny P .any ops' (QLast P ops i Q) fuel (listed.setIfInBounds i true) a w:=by
          unfold wpOp at h2
          simp only[hol']at h2
          have hwn:Region.wanted ol' (yielded ops' a.tmps)=true:=by unfold Region.wanted;rw[hg]
          rw[if_pos hwn]at h2
          rcases h2 with h2 | ⟨h2,_⟩
          · have hrun:(execOp a.eval ol').run P w= .ok (.value (.bool true)) w:=by unfold execOp;rw[hop];rfl
            unfold Oper.wp at h2
            rw[hrun,Oper.upon_value,hd']at h2
            exact h2
          · exfalso
            have:=h2.1
            have hrt:((execOp a.eval ol').runT P w #[]).2= #[]:=by unfold execOp;rw[hop];rfl
            rw[hrt]at this
            simp at this
        have h4:QLast P ops i Q .normal a w:=by
          cases fuel with
          | zero=>exact h3.2
          | succ f=>exact h3.1 (by rw[hr];exact hall)
        refine wpOp_mono (fun a w hq=> ?_) h4
        cases fuel with
        | zero=>exact⟨hall,hq⟩
        | succ f=>exact⟨fun _=>hq,fun j hj=>by rw[hall]at hj;cases hj⟩
      · have h3:=wpOp_mono (fun a' w' h'=>ih (listed.setIfInBounds i true) a' w' (by simpa using hls) (by
          have hlt:last< listed.size:=by omega
          simp[Array.getD,hlt,Array.getElem_setIfInBounds]at hll⊢
          exact⟨hil,hll⟩) h') h2
        unfold wpOp at h3⊢
        rw[hsame i hil]at h3
        cases ho:ops[i]? with
        | none=>simp only[ho]at h3;exact h3
        | some o=>
          simp only[ho]at h3⊢
          rw[hy]at h3
          split at h3
          · rename_i hw
            rw[if_pos hw]
            rcases h3 with h3 | ⟨h3,h4⟩
            · exact Or.inl (upon_qlast last o a _ _ h3)
            · exact Or.inr ⟨h3,h4⟩
          · rename_i hw
            rw[if_neg hw]
            exact h3
theorem rg_last {S:World→Prop} {id:Nat} {a:Act} {w:World} (ops':Array Oper) (last:Nat) (ol ol':Oper) (hm:P.follows .mixedOrders=true) (hsz:ops'.size=ops.size) (hl:last< ops.size) (hsame:∀i:Nat,i< ops.size→i≠last→ops'[i]? =ops[i]?)
    (hol:ops[last]? =some ol) (hol':ops'[last]? =some ol') (hd:ol.dst=none) (hd':ol'.dst=none) (haf:ol'.after=ol.after) (hop:ol'.op= .move (.const (.bool true))) (hg:ol'.guard=none)
    (hwait:((List.range ops.size).all fun j=>j==last || ol.after.any fun e=>Region.binds .any e && e.on==j)=true)
    (hord:((List.range ops.size).all fun i=>((ops[i]?).map fun o=>o.after.all fun e=> !Region.binds .any e || decide (e.on< i)).getD true)=true)
    (hS:S w.drew) (h:wpAnyH P .any ops' (QLast P ops last Q) S ops'.size (Array.replicate ops'.size false) a w.drew):(Code.region id ops true).wp P Q a w:=by
  refine wp_region_any hm (wpAny_last (ops':=ops') last hm hsz hl (fun i hi=> ?_) ol ol' hol hol' hd hd' haf hop hg (fun j hj hjl=> ?_) (fun i o ho e he hb=> ?_) ops.size _ a _ (by simp) (by simp[Array.getD,hl]) ?_)
  · by_cases h:i< ops.size
    · exact hsame i h hi
    · rw[Array.getElem?_eq_none (by omega),Array.getElem?_eq_none (by omega)]
  · have:=(List.all_eq_true.1 hwait) j (List.mem_range.2 hj)
    rw[Bool.or_eq_true]at this
    rcases this with h1 | h1
    · exact absurd (by simpa using h1) hjl
    · simp only[Array.any_eq_true',Bool.and_eq_true,beq_iff_eq]at h1
      obtain⟨e,he,h2⟩:=h1
      exact⟨e,he,h2⟩
  · have hi:i< ops.size:=by
      rcases Nat.lt_or_ge i ops.size with h' | h'
      · exact h'
      · rw[Array.getElem?_eq_none h']at ho;cases ho
    have:=(List.all_eq_true.1 hord) i (List.mem_range.2 hi)
    rw[ho]at this
    simp only[Option.map_some,Option.getD_some,Array.all_eq_true']at this
    have:=this e he
    rw[hb]at this
    simpa using this
  · have:=wpAny_of_held _ _ _ _ h
    rw[hsz]at this
    exact this
end
def QM (R:Act→World→Prop) (Q:Exit→Act→World→Prop):Exit→Act→World→Prop
  | .normal,a,w=>R a w
  | e,a,w=>Q e a w
theorem region_merge {P:Program} {Q:Exit→Act→World→Prop} {c:Code} {a:Act} {w:World} (R:Act→Act→World→Prop) (h1:c.wp P (QM (R a) Q) a w) (h2:∀a' w',R a a' w'→Q .normal a' w'):c.wp P Q a w:=by
  refine Code.wp_mono (fun e a w h=> ?_) h1
  cases e
  case normal=>exact h2 _ _ h
  all_goals exact h
section
variable {P:Program} {ops:Array Oper} {Q:Exit→Act→World→Prop} {S:World→Prop} {fuel:Nat} {listed:Array Bool} {a:Act} {w:World} {K:Act→World→Prop}
theorem tk_call (i:Nat) (d:Option Tmp) (f:FuncId) (vals:Array Value) {oi:Oper} (hi:ops[i]? =some oi) (hd:oi.dst=d) (hw:Region.wanted oi (yielded ops a.tmps)=true)
    (hrun:∀w',(execOp a.eval oi).run P w'= .ok (.enter f vals) w') {R:Value→World→Prop}
    (hc:Calls P f vals w fun e w'=>∃v,e= .returned v∧R v w') (h:∀v w',R v w'→K (a.put d v) w'):wpOp P ops Q i K a w:=by
  unfold wpOp
  simp only[hi,hw,if_true]
  refine Or.inl ?_
  unfold Oper.wp
  rw[hrun w,Oper.upon_enter]
  refine hc.mono fun e w' ⟨v,he,hR⟩=> ?_
  subst he
  dsimp only
  rw[hd]
  exact h v w' hR
theorem tk_write (i:Nat) (d:Option Tmp) (w1:World) {oi:Oper} (hi:ops[i]? =some oi) (hd:oi.dst=d) (hw:Region.wanted oi (yielded ops a.tmps)=true)
    (hrun:(execOp a.eval oi).run P w= .ok .skip w1) (h:K (a.put d undef) w1):wpOp P ops Q i K a w:=by
  unfold wpOp
  simp only[hi,hw,if_true]
  refine Or.inl ?_
  unfold Oper.wp
  rw[hrun,Oper.upon_skip,hd]
  exact h
theorem rg_aside {id:Nat} (last:Nat) (ol:Oper) (hm:P.follows .mixedOrders=true) (hl:last< ops.size) (hol:ops[last]? =some ol) (hd:ol.dst=none)
    (hwait:((List.range ops.size).all fun j=>j==last || ol.after.any fun e=>Region.binds .any e && e.on==j)=true)
    (hord:((List.range ops.size).all fun i=>((ops[i]?).map fun o=>o.after.all fun e=> !Region.binds .any e || decide (e.on< i)).getD true)=true)
    (hS:S w.drew) (h:wpAnyH P .any (ops.setIfInBounds last {ol with op:= .move (.const (.bool true)),guard:=none}) (QLast P ops last Q) S (ops.setIfInBounds last {ol with op:= .move (.const (.bool true)),guard:=none}).size (Array.replicate (ops.setIfInBounds last {ol with op:= .move (.const (.bool true)),guard:=none}).size false) a w.drew):
    (Code.region id ops true).wp P Q a w:=
  rg_last (ops.setIfInBounds last {ol with op:= .move (.const (.bool true)),guard:=none}) last ol {ol with op:= .move (.const (.bool true)),guard:=none} hm (by simp) hl (fun i _ hne=>Array.getElem?_setIfInBounds_ne (Ne.symm hne)) hol (by simp[hl]) hd hd rfl rfl rfl hwait hord hS h
end
theorem Reps.lt {w:World} {p:Nat→Prop} {us:List Value} {es:List DV} (h:Reps w p us es):Reps w (fun b=>p b∧b< w.heap.size) us es:=⟨h.1,fun k u e hu he=>(h.2 k u e hu he).lt⟩
structure Exc (g:Nat) (a w:World):Prop where
  size:a.heap.size≤w.heap.size
  blk:∀b,b≠g→b< a.heap.size→w.heap[b]? =a.heap[b]?
  out:w.os=a.os∧w.tape=a.tape∧w.output=a.output
theorem Exc.refl (g:Nat) (a:World):Exc g a a:=⟨Nat.le_refl _,fun _ _ _=>rfl,rfl,rfl,rfl⟩
theorem Exc.ext {g:Nat} {a w w':World} (h:Exc g a w) (hB:Ext w w'):Exc g a w':=⟨Nat.le_trans h.1 hB.size,fun b h1 h2=>(Below.block hB b (Nat.lt_of_lt_of_le h2 h.1)).trans (h.2 b h1 h2),hB.os.trans h.3.1,hB.tape.trans h.3.2.1,hB.output.trans h.3.2.2⟩
theorem Exc.set {g:Nat} {a w:World} (h:Exc g a w) {p:Addr} (hp:p.block=g) (u:Value):Exc g a (w.setCell p u):=⟨by simpa using h.1,fun b h1 h2=>by rw[Below.heap_setCell _ _ _ _ (by omega)];exact h.2 b h1 h2,h.3⟩
theorem Rep.exc {g:Nat} {a w:World} {p:Nat→Prop} {v:Value} {d:DV} (h:Rep a p v d) (hp:∀b,p b→b≠g) (hm:Exc g a w):Rep w p v d:=h.kept fun b hb hlt=>hm.2 b (hp b hb) hlt
theorem B5.exc {g:Nat} {a w:World} {b:Nat} {n:Node} {xa xk:Value} (h:B5 a b n xa xk) (hb:b≠g) (hm:Exc g a w):B5 w b n xa xk:=h.block hm.1 (hm.2 b hb h.lt)
def trimB (s:Bytes):Bytes:=Lib.trimS s [9,10,13,32]
mutual
def normN (l:List Rule):Node→List Bytes→Int→Node×Int×Int
  | .mk _ nm _ la ks,path,first=>if frontS l path=true then(.mk 1 nm [] (sortA [] la) (contL ks),0,0)else normL l ks nm (sortA [] la) path first [] [] (first+1)
def normL (l:List Rule):List Node→Bytes→List Attr→List Bytes→Int→List Step→List Node→Int→Node×Int×Int
  | [],nm,la,_,_,_,out,_=>(.mk 1 nm [] la out,0,0)
  | k::r,nm,la,path,first,steps,out,at'=>
    if k.kind=2∧trimB k.text≠ []then(zeroN,24,first)
    else if k.kind≠1 then normL l r nm la path first steps out at'
    else if findS (path++ [k.name]) l 0< 0 then(zeroN,24,at')
    else if(normN l k (path++ [k.name]) at').2.1≠0 then(zeroN,(normN l k (path++ [k.name]) at').2)
    else match keyS (normN l k (path++ [k.name]) at').1 (l.getD (findS (path++ [k.name]) l 0).toNat noRule).keys with
      | none=>(zeroN,22,at')
      | some key=>if(steps.any fun s=>stepB s ⟨k.name,key⟩)=true then(zeroN,23,at')
        else normL l r nm la path first (insAt steps (steps.countP fun s=>aheadB s ⟨k.name,key⟩) ⟨k.name,key⟩) (insAt out (steps.countP fun s=>aheadB s ⟨k.name,key⟩) (normN l k (path++ [k.name]) at').1) (at'+elemsN k)
end
theorem normN_eq (l:List Rule) (a:Node) (path:List Bytes) (first:Int):normN l a path first=if frontS l path=true then(.mk 1 a.name [] (sortA [] a.attrs) (contL a.kids),0,0)else normL l a.kids a.name (sortA [] a.attrs) path first [] [] (first+1):=by
  cases a;rw[normN];rfl
theorem cnt_zeroN:cntN zeroN=1:=rfl
mutual
theorem cnt_normN (l:List Rule):∀(a:Node) (path:List Bytes) (first:Int),cntN (normN l a path first).1≤cntN a
  | .mk k nm tx la ks,path,first=>by
    have h1:=cnt_normL l ks nm (sortA [] la) path first [] [] (first+1)
    have h2:=cntA_sort la []
    have h3:=cnt_contL ks
    rw[normN]
    split
    · simp only[cntN,cntA,List.length_nil]at*;omega
    · rw[cntN];simp only[cntA,cntL]at*;omega
theorem cnt_normL (l:List Rule):∀(ks:List Node) (nm:Bytes) (la:List Attr) (path:List Bytes) (first:Int) (steps:List Step) (out:List Node) (at':Int),cntN (normL l ks nm la path first steps out at').1≤1+nm.length+cntA la+cntL out+cntL ks
  | [],nm,la,path,first,steps,out,at'=>by rw[normL];simp only[cntN,cntL,List.length_nil];omega
  | k::r,nm,la,path,first,steps,out,at'=>by
    have hz:=cnt_zeroN
    have hk:=cntN_pos k
    rw[normL,cntL]
    split
    · simp only;omega
    · split
      · have:=cnt_normL l r nm la path first steps out at';omega
      · split
        · simp only;omega
        · split
          · simp only;omega
          · split
            · simp only;omega
            · split
              · simp only;omega
              · rename_i key _ _
                have h1:=cnt_normL l r nm la path first (insAt steps (steps.countP fun s=>aheadB s ⟨k.name,key⟩) ⟨k.name,key⟩) (insAt out (steps.countP fun s=>aheadB s ⟨k.name,key⟩) (normN l k (path++ [k.name]) at').1) (at'+elemsN k)
                rw[cntL_ins]at h1
                have h2:=cnt_normN l k (path++ [k.name]) at'
                omega
end
theorem store_nodeS {W:World} {b:Nat} {n m:Node} {xa xk:Value} (h:B5 W b n xa xk) (ya yk:Option Addr) (na ca nk ck:Nat):
    (Instr.storeAt 26 (.pointer (some ⟨b,0,none⟩)) (.agg #[.int .i64 m.kind,.string (bs m.name),.string (bs m.text),.slice ya na ca,.slice yk nk ck])).run Tryz.prog W= .ok () (st5 W b m (.slice ya na ca) (.slice yk nk ck)):=by
  have c0:=h.c0;have c1:=h.c1;have c2:=h.c2;have c3:=h.c3;have c4:=h.c4
  have f0:=h.f0;have f1:=h.f1;have f2:=h.f2;have f3:=h.f3;have f4:=h.f4
  unfold st5
  go_simp
theorem exec_store {P:Program} {ev:Operand→Value} {oi:Oper} {t:TypeId} {x y:Operand} {W W':World} (ho:oi.op= .store t x y) (h:(Instr.storeAt t (ev x) (ev y)).run P W= .ok () W'):
    (execOp ev oi).run P W= .ok .skip W':=by
  unfold execOp
  simp only[ho,Sem.run_bind,h,Result.andThen_ok,Sem.run_pure]
theorem store_slice {P:Program} {W:World} {b o:Nat} {u:Value} (t:TypeId) (hs:∀W,(sizeOf t).run P W= .ok 1 W) (hc:W.cell? ⟨b,o,none⟩=some u) (hf:W.frozen? ⟨b,o,none⟩=false) (a:Option Addr) (n c:Nat):
    (Instr.storeAt t (.pointer (some ⟨b,o,none⟩)) (.slice a n c)).run P W= .ok () (W.setCell ⟨b,o,none⟩ (.slice a n c)):=by
  go_simp
theorem one_str (x:Bytes):∀e∈([strD x]:List DV),e.one=true:=by intro e he;simp at he;subst he;rfl
def Sg (g:Nat) (a w:World):Prop:=Exc g a w
theorem Sg.begin (g:Nat) (w:World):Sg g w w.drew:=(Exc.refl g w).ext ((Ext.refl w).drew)
theorem Sg.cell {g:Nat} {a w:World} (h:Sg g a w) {b o:Nat} {v:Value} (hb:b< a.heap.size∧b≠g) (hc:a.cell? ⟨b,o,none⟩=some v):w.cell? ⟨b,o,none⟩=some v:=(World.cell?_of_block (h.2 b hb.2 hb.1)).trans hc
theorem Exc.st5 {a w:World} {b:Nat} (h:Exc b a w) (n:Node) (xa xk:Value):Exc b a (st5 w b n xa xk):=((((h.set (p:=⟨b,0,none⟩) rfl _).set (p:=⟨b,1,none⟩) rfl _).set (p:=⟨b,2,none⟩) rfl _).set (p:=⟨b,3,none⟩) rfl _).set (p:=⟨b,4,none⟩) rfl _
theorem sequal_q (p q:Nat→Prop) (x y:List Bytes) (v u:Value) (w:World) (h:Rep w p v (strsD x)) (k:Rep w q u (strsD y)):
    Calls Tryz.prog 89 #[v,u] w fun e w'=>e= .returned (.bool (textsS x y))∧Dr w w':=by
  obtain⟨a,c,rfl,hc1,hc2⟩:=h.count z_str (by omega)
  obtain⟨b,d,rfl,hd1,hd2⟩:=k.count z_str (by omega)
  obtain⟨R,hR⟩:∃R,textsS x y=R:=⟨_,rfl⟩
  rw[hR]
  have HR:=Lh hR
  by_cases hl:x.length=y.length
  · have hl1:((x.length:Int) !=(y.length:Int))=false:=by rw[hl];exact bne_self_eq_false _
    have HL:=Lh hl
    clear hR hl
    go_enter Tryz.func89,Tryz.ntmps89
    go_wp2_with fail
    go_loopw [5,13] (fun _ t wr=>∃i:Nat,t= .int .i64 i∧i≤x.length∧Dr w wr∧Hid (textsS (x.drop i) (y.drop i)=R)) (fun _ t _=>downV x.length t)
    case atStart=>exact⟨0,rfl,Nat.zero_le _,Dr.refl _,HR⟩
    case round=>
      obtain⟨i,rfl,hi,hX,HI⟩:=hrel
      by_cases hlt:i< x.length
      · have hlI:(i:Int)< (x.length:Int):=by omega
        have hi0:(0:Int)≤(i:Int):=by omega
        have hly:i< y.length:=by have:=HL.out;omega
        have hyI:(i:Int)< (y.length:Int):=by omega
        obtain⟨g1,o1,rfl,hb1,hp1,hc1⟩:=str_at (h.ext hX.ext) i hlt
        obtain⟨g2,o2,rfl,hb2,hp2,hc2⟩:=str_at (k.ext hX.ext) i hly
        have HS:Hid (textsS (x.drop i) (y.drop i)=if x[i]=y[i]then textsS (x.drop (i+1)) (y.drop (i+1))else false):=Lh (by rw[drop_one x i hlt,drop_one y i hly];rfl)
        obtain⟨s,hs⟩:∃s,x[i]=s:=⟨_,rfl⟩
        obtain⟨t,ht⟩:∃t,y[i]=t:=⟨_,rfl⟩
        rw[hs]at hc1 HS
        rw[ht]at hc2 HS
        have HX:=Lh hX
        clear hs ht hX
        by_cases he:s=t
        · subst he
          have HN:Hid (textsS (x.drop (i+1)) (y.drop (i+1))=R):=Lh (by have:=HS.out;rw[if_pos rfl]at this;rw[←this];exact HI.out)
          clear HS HI
          go_wp2_with fail
          go_quiet (fail)
          go_wp2_with fail
          go_roundw
          case rel=>exact⟨i+1,by go_num,by omega,HX.out.drewN _,HN⟩
          case measure=>simp only[downV];omega
        · have HN:Hid (false=R):=Lh (by have:=HS.out;rw[if_neg he]at this;rw[←this];exact HI.out)
          have e1:((bs s).toList==(bs t).toList)=false:=by rw[bs_toList,bs_toList,beq_eq_false_iff_ne];exact he
          clear HS HI he
          go_wp2_with fail
          go_quiet (fail)
          go_wp2_with fail
          go_ret
          exact⟨ret_bool HN.out,HX.out.drewN _⟩
      · have hlI:¬(i:Int)< (x.length:Int):=by omega
        have HN:Hid (true=R):=Lh (by
          have:=HI.out
          rw[List.drop_of_length_le (by omega),List.drop_of_length_le (by have:=HL.out;omega)]at this
          exact this)
        clear HI
        go_wp2_with fail
        go_ret
        exact⟨ret_bool HN.out,hX⟩
  · have hl1:((x.length:Int) !=(y.length:Int))=true:=by rw[bne_iff_ne];omega
    have HN:Hid (false=R):=Lh (by rw[←hR,textsS_ne x y hl])
    clear hR hl HR
    go_enter Tryz.func89,Tryz.ntmps89
    go_wp2_with fail
    go_ret
    exact⟨ret_bool HN.out,Dr.refl _⟩
theorem run_eql_slice_nil {P:Program} (w:World) (t e:TypeId) (a:Option Addr) (l c:Nat) (h:P.underlying t=some (.slice e)):(binOp .eql t (.slice a l c) (.slice none 0 0)).run P w= .ok (.bool a.isNone) w:=by
  simp only[binOp]
  simp[run_equal_slice_nil w t e a l c h]
theorem rep_none {w:World} {p:Nat→Prop} {len cap z:Nat} {es:List DV} (h:Rep w p (.slice none len cap) (.s z es)):len=0∧cap=0∧es= []:=by cases h;exact⟨rfl,rfl,rfl⟩
theorem rep_some {w:World} {p:Nat→Prop} {ad:Addr} {len cap z:Nat} {es:List DV} (h:Rep w p (.slice (some ad) len cap) (.s z es)):∃us,Reps w p us es∧us.length=len*z∧(∀(j:Nat) (u:Value),us[j]? =some u→w.cell? (ad.add j)=some u):=by
  cases h with
  | emp=>exact⟨[],Reps.nil _ _,by simp,fun j u h=>by simp at h⟩
  | row b off _ _ _ us _ hok hl hu hcap hm hc hr=>exact⟨us,⟨by rw[hu,hl],hr⟩,hu,fun j u hj=>by rw[add_offs'];exact hc j u hj⟩
def GlobE (w:World):Prop:=w.cell? ⟨0,0,none⟩=some (.iface 162 (.agg #[.pointer (some ⟨7,30,none⟩)]))∧0< w.heap.size
theorem GlobE.ext {w w':World} (h:GlobE w) (hB:Ext w w'):GlobE w':=⟨hB.keep h.2 h.1,Nat.lt_of_lt_of_le h.2 hB.size⟩
def ErrV (w:World) (lo:Nat) (code at':Int) (v:Value):Prop:=∃b1 b2,v= .iface 116 (.pointer (some ⟨b1,0,none⟩))∧b1< w.heap.size∧b2< w.heap.size∧w.cell? ⟨b1,1,none⟩=some (.iface 58 (.pointer (some ⟨b2,0,none⟩)))∧w.cell? ⟨b2,0,none⟩=some (.int .i64 code)∧w.cell? ⟨b2,1,none⟩=some (.int .i64 at')∧lo≤b1∧lo≤b2
theorem ErrV.ext {w w':World} {lo:Nat} {code at':Int} {v:Value} (h:ErrV w lo code at' v) (hB:Ext w w'):ErrV w' lo code at' v:=by
  obtain⟨b1,b2,h0,h1,h2,h3,h4,h5,h6⟩:=h
  exact⟨b1,b2,h0,Nat.lt_of_lt_of_le h1 hB.size,Nat.lt_of_lt_of_le h2 hB.size,hB.keep h1 h3,hB.keep h2 h4,hB.keep h2 h5,h6⟩
theorem ErrV.exc {w w':World} {g lo:Nat} {code at':Int} {v:Value} (h:ErrV w lo code at' v) (hg:g< lo) (hB:Exc g w w'):ErrV w' lo code at' v:=by
  obtain⟨b1,b2,h0,h1,h2,h3,h4,h5,h6,h7⟩:=h
  have k1:=World.cell?_of_block (a:=⟨b1,1,none⟩) (hB.2 b1 (by omega) h1)
  have k2:=World.cell?_of_block (a:=⟨b2,0,none⟩) (hB.2 b2 (by omega) h2)
  have k3:=World.cell?_of_block (a:=⟨b2,1,none⟩) (hB.2 b2 (by omega) h2)
  exact⟨b1,b2,h0,Nat.lt_of_lt_of_le h1 hB.1,Nat.lt_of_lt_of_le h2 hB.1,k1.trans h3,k2.trans h4,k3.trans h5,h6,h7⟩
theorem new_any (code at':Int) (hc:code≠0) (w:World):Calls Tryz.prog 27 #[.int .i64 code,.int .i64 at'] w fun e w'=>e= .returned (.iface 58 (.pointer (some ⟨w.heap.size,0,none⟩)))∧w'=w.alloc (.cells #[.int .i64 code,.int .i64 at'] 62):=by
  have q:(code==0)=false:=by rw[beq_eq_false_iff_ne];exact hc
  clear hc
  go_enter Tryz.func27,Tryz.ntmps27
  go_wp2_with fail
  go_ret
  exact⟨rfl,rfl⟩
theorem wrap_any (s:ByteArray) (v:Value) (w:World):Calls Tryz.prog 26 #[.string s,.iface 58 v] w fun e w'=>e= .returned (.iface 116 (.pointer (some ⟨w.heap.size,0,none⟩)))∧w'=w.alloc (.cells #[.string s,.iface 58 v] 118):=by
  go_enter Tryz.func26,Tryz.ntmps26
  go_wp2_with fail
  go_ret
  exact⟨rfl,rfl⟩
theorem code_nil (w:World):Calls Tryz.prog 7 #[.nilIface] w fun e w'=>e= .returned (.int .i64 0)∧Ext w w':=by
  go_enter Tryz.func7,Tryz.ntmps7
  go_wp2_with fail
  go_ret
  exact⟨rfl,(Ext.refl w).alloc _⟩
theorem code_any (code at':Int) (lo:Nat) (v:Value) (w:World) (hg:GlobE w) (h:ErrV w lo code at' v):Calls Tryz.prog 7 #[v] w fun e w'=>e= .returned (.int .i64 code)∧Ext w w':=by
  obtain⟨b1,b2,rfl,l1,l2,h3,h4,h5,_⟩:=h
  obtain⟨w1,hw1⟩:∃w1,w.alloc (.cells #[.pointer none] 58)=w1:=⟨_,rfl⟩
  have hE1:Ext w w1:=by rw[←hw1];exact(Ext.refl w).alloc _
  have lt0:w.heap.size< w1.heap.size:=by rw[←hw1];simp
  have t0:w1.cell? ⟨w.heap.size,0,none⟩=some (.pointer none):=by rw[←hw1];simp[go_sem]
  have f0:w1.frozen? ⟨w.heap.size,0,none⟩=false:=by rw[←hw1];simp[go_sem]
  have HC:=Lh (as_wrapped b1 b2 ⟨w.heap.size,0,none⟩ _ w1 (hg.ext hE1).1 t0 f0 (Nat.lt_of_lt_of_le l1 hE1.size) (hE1.keep l1 h3))
  have HW:=Lh hw1
  clear hw1
  go_enter Tryz.func7,Tryz.ntmps7
  go_wp2_with fail
  rw[HW.out]
  refine HC.out.mono ?_
  rintro e w2 ⟨rfl,W,hEW,hw2⟩
  have hX:=hE1.trans hEW
  have ct:w2.cell? ⟨w.heap.size,0,none⟩=some (.pointer (some ⟨b2,0,none⟩)):=by
    have:=hEW.keep lt0 t0
    rw[hw2];simp[go_sem,this]
  have c0:w2.cell? ⟨b2,0,none⟩=some (.int .i64 code):=by
    rw[hw2,World.cell?_setCell_far _ _ _ _ (by simp only;omega)]
    exact hX.keep l2 h4
  have hE2:Ext w w2:=by rw[hw2];exact hX.set (Nat.le_refl _) _
  clear hw2 HC
  go_wp2_with fail
  go_ret
  exact⟨rfl,hE2⟩
theorem at_any (code at':Int) (lo:Nat) (v:Value) (w:World) (hg:GlobE w) (h:ErrV w lo code at' v):Calls Tryz.prog 15 #[v] w fun e w'=>e= .returned (.int .i64 at')∧Ext w w':=by
  obtain⟨b1,b2,rfl,l1,l2,h3,h4,h5,_⟩:=h
  obtain⟨w1,hw1⟩:∃w1,w.alloc (.cells #[.pointer none] 58)=w1:=⟨_,rfl⟩
  have hE1:Ext w w1:=by rw[←hw1];exact(Ext.refl w).alloc _
  have lt0:w.heap.size< w1.heap.size:=by rw[←hw1];simp
  have t0:w1.cell? ⟨w.heap.size,0,none⟩=some (.pointer none):=by rw[←hw1];simp[go_sem]
  have f0:w1.frozen? ⟨w.heap.size,0,none⟩=false:=by rw[←hw1];simp[go_sem]
  have HC:=Lh (as_wrapped b1 b2 ⟨w.heap.size,0,none⟩ _ w1 (hg.ext hE1).1 t0 f0 (Nat.lt_of_lt_of_le l1 hE1.size) (hE1.keep l1 h3))
  have HW:=Lh hw1
  clear hw1
  go_enter Tryz.func15,Tryz.ntmps15
  go_wp2_with fail
  rw[HW.out]
  refine HC.out.mono ?_
  rintro e w2 ⟨rfl,W,hEW,hw2⟩
  have hX:=hE1.trans hEW
  have ct:w2.cell? ⟨w.heap.size,0,none⟩=some (.pointer (some ⟨b2,0,none⟩)):=by
    have:=hEW.keep lt0 t0
    rw[hw2];simp[go_sem,this]
  have c0:w2.cell? ⟨b2,1,none⟩=some (.int .i64 at'):=by
    rw[hw2,World.cell?_setCell_far _ _ _ _ (by simp only;omega)]
    exact hX.keep l2 h5
  have hE2:Ext w w2:=by rw[hw2];exact hX.set (Nat.le_refl _) _
  clear hw2 HC
  go_wp2_with fail
  go_ret
  exact⟨rfl,hE2⟩
def stepPos (s:Step) (l:List Step):Nat:=l.findIdx fun x=> !aheadB x s
theorem lessB_irrefl:∀x:Bytes,lessB x x=false
  | []=>rfl
  | a::x=>by rw[lessB,if_pos rfl];exact lessB_irrefl x
theorem lessB_trans:∀x y z:Bytes,lessB x y=true→lessB y z=true→lessB x z=true
  | [],[],_,h,_=>by cases h
  | _::_,[],_,h,_=>by cases h
  | _,_::_,[],_,h=>by cases h
  | [],_::_,_::_,_,_=>rfl
  | a::x,b::y,c::z,h,k=>by
    rw[lessB]at h k⊢
    by_cases hab:a=b
    · subst hab
      rw[if_pos rfl]at h
      by_cases hac:a=c
      · subst hac
        rw[if_pos rfl]at k⊢
        exact lessB_trans x y z h k
      · rw[if_neg hac]at k⊢;exact k
    · rw[if_neg hab]at h
      by_cases hbc:b=c
      · subst hbc;rw[if_neg hab];exact h
      · rw[if_neg hbc]at k
        have h1:=of_decide_eq_true h
        have h2:=of_decide_eq_true k
        have hac:a≠c:=by intro e;subst e;omega
        rw[if_neg hac];exact decide_eq_true (by omega)
theorem lessB_total:∀x y:Bytes,x≠y→lessB x y=false→lessB y x=true
  | [],[],h,_=>absurd rfl h
  | [],_::_,_,h=>by cases h
  | _::_,[],_,_=>rfl
  | a::x,b::y,h,k=>by
    rw[lessB]at k⊢
    by_cases hab:a=b
    · subst hab
      rw[if_pos rfl]at k⊢
      exact lessB_total x y (fun e=>h (by rw[e])) k
    · rw[if_neg hab]at k
      rw[if_neg (fun e=>hab e.symm)]
      have h1:=of_decide_eq_false k
      have h2:a.toNat≠b.toNat:=fun e=>hab (UInt8.toNat_inj.1 e)
      exact decide_eq_true (by omega)
theorem lessK_irrefl:∀x:List Bytes,lessK x x=false
  | []=>rfl
  | a::x=>by rw[lessK,if_pos rfl];exact lessK_irrefl x
theorem lessK_trans:∀x y z:List Bytes,lessK x y=true→lessK y z=true→lessK x z=true
  | [],[],_,h,_=>by cases h
  | _::_,[],_,h,_=>by cases h
  | _,_::_,[],_,h=>by cases h
  | [],_::_,_::_,_,_=>rfl
  | a::x,b::y,c::z,h,k=>by
    rw[lessK]at h k⊢
    by_cases hab:a=b
    · subst hab
      rw[if_pos rfl]at h
      by_cases hac:a=c
      · subst hac
        rw[if_pos rfl]at k⊢
        exact lessK_trans x y z h k
      · rw[if_neg hac]at k⊢;exact k
    · rw[if_neg hab]at h
      by_cases hbc:b=c
      · subst hbc;rw[if_neg hab];exact h
      · rw[if_neg hbc]at k
        have hac:a≠c:=by
          intro e;subst e
          have:=lessB_trans a b a h k
          rw[lessB_irrefl]at this;cases this
        rw[if_neg hac];exact lessB_trans a b c h k
theorem lessK_total:∀x y:List Bytes,x≠y→lessK x y=false→lessK y x=true
  | [],[],h,_=>absurd rfl h
  | [],_::_,_,h=>by cases h
  | _::_,[],_,_=>rfl
  | a::x,b::y,h,k=>by
    rw[lessK]at k⊢
    by_cases hab:a=b
    · subst hab
      rw[if_pos rfl]at k⊢
      exact lessK_total x y (fun e=>h (by rw[e])) k
    · rw[if_neg hab]at k
      rw[if_neg (fun e=>hab e.symm)]
      exact lessB_total a b hab k
theorem aheadB_irrefl (x:Step):aheadB x x=false:=by unfold aheadB;rw[if_pos rfl];exact lessK_irrefl _
theorem aheadB_trans (x y z:Step) (h:aheadB x y=true) (k:aheadB y z=true):aheadB x z=true:=by
  unfold aheadB at*
  by_cases hab:x.n=y.n
  · rw[if_pos hab]at h
    by_cases hbc:y.n=z.n
    · rw[if_pos hbc]at k;rw[if_pos (hab.trans hbc)];exact lessK_trans _ _ _ h k
    · rw[if_neg hbc]at k;rw[if_neg (by rw[hab];exact hbc),hab];exact k
  · rw[if_neg hab]at h
    by_cases hbc:y.n=z.n
    · rw[if_neg (by rw[←hbc];exact hab),←hbc];exact h
    · rw[if_neg hbc]at k
      have hac:x.n≠z.n:=by
        intro e
        have:=lessB_trans _ _ _ h k
        rw[e,lessB_irrefl]at this;cases this
      rw[if_neg hac];exact lessB_trans _ _ _ h k
theorem aheadB_total (x y:Step) (h:x≠y) (k:aheadB x y=false):aheadB y x=true:=by
  unfold aheadB at*
  by_cases hab:x.n=y.n
  · rw[if_pos hab]at k
    rw[if_pos hab.symm]
    refine lessK_total _ _ (fun e=>h ?_) k
    cases x;cases y;simp_all
  · rw[if_neg hab]at k
    rw[if_neg (fun e=>hab e.symm)]
    exact lessB_total _ _ hab k
theorem aheadB_asymm (x y:Step) (h:aheadB x y=true):aheadB y x=false:=by
  cases k:aheadB y x with
  | false=>rfl
  | true=>have:=aheadB_trans _ _ _ h k;rw[aheadB_irrefl]at this;cases this
def Rising (l:List Step):Prop:=l.Pairwise fun a b=>aheadB a b=true
theorem insAt_cons {α:Type} (a:α) (l:List α) (n:Nat) (x:α):insAt (a::l) (n+1) x=a::insAt l n x:=by simp[insAt]
theorem insAt_zero {α:Type} (l:List α) (x:α):insAt l 0 x=x::l:=by simp[insAt]
theorem mem_insAt {α:Type} (l:List α) (n:Nat) (x y:α):y∈insAt l n x↔y=x∨y∈l:=by
  unfold insAt
  rw[List.mem_append,List.mem_cons]
  constructor
  · rintro(h | h | h)
    · exact .inr (List.mem_of_mem_take h)
    · exact .inl h
    · exact .inr (List.mem_of_mem_drop h)
  · rintro(h | h)
    · exact .inr (.inl h)
    · rw[←List.take_append_drop n l,List.mem_append]at h
      rcases h with h | h
      · exact .inl h
      · exact .inr (.inr h)
theorem stepPos_cons (s a:Step) (l:List Step):stepPos s (a::l)=if aheadB a s=true then stepPos s l+1 else 0:=by
  unfold stepPos
  rw[List.findIdx_cons]
  cases aheadB a s<;> simp
theorem stepPos_new (s:Step):∀l,Rising l→s∉l→Rising (insAt l (stepPos s l) s)
  | [],_,_=>by simp[Rising,insAt]
  | a::l,hr,h=>by
    have hr':=hr
    rw[Rising,List.pairwise_cons]at hr
    have hp:=stepPos_cons s a l
    have ha:a≠s:=fun e=>h (by rw[e];exact List.mem_cons_self)
    by_cases hb:aheadB a s=true
    · rw[if_pos hb]at hp
      rw[hp,insAt_cons,Rising,List.pairwise_cons]
      refine⟨fun y hy=> ?_,stepPos_new s l hr.2 (fun hm=>h (List.mem_cons_of_mem _ hm))⟩
      rcases (mem_insAt _ _ _ _).1 hy with h1 | h1
      · rw[h1];exact hb
      · exact hr.1 y h1
    · rw[if_neg hb]at hp
      rw[hp,insAt_zero,Rising,List.pairwise_cons]
      have hsa:=aheadB_total a s ha (by simpa using hb)
      refine⟨fun y hy=> ?_,hr'⟩
      rcases List.mem_cons.1 hy with h1 | h1
      · rw[h1];exact hsa
      · exact aheadB_trans _ _ _ hsa (hr.1 y h1)
theorem rising_tail {a:Step} {l:List Step} (h:Rising (a::l)):Rising l:=by
  rw[Rising,List.pairwise_cons]at h;exact h.2
theorem nsz_pos (n:Node):1≤nsz n:=by cases n;rw[nsz];omega
theorem nsz_mem (n k:Node) (h:k∈n.kids):nsz k< nsz n:=by
  obtain⟨i,hi,rfl⟩:=List.mem_iff_getElem.1 h
  exact kid_lt n i hi
theorem countP_pos (s:Step):∀(l:List Step),Rising l→l.countP (fun x=>aheadB x s)=stepPos s l
  | [],_=>rfl
  | a::l,h=>by
    rw[stepPos_cons,List.countP_cons]
    by_cases ha:aheadB a s=true
    · rw[if_pos ha,if_pos ha,countP_pos s l (rising_tail h)]
    · rw[if_neg ha,if_neg ha,Nat.add_zero]
      rw[List.countP_eq_zero]
      intro x hx hxs
      rw[Rising,List.pairwise_cons]at h
      exact ha (aheadB_trans _ _ _ (h.1 x hx) hxs)
theorem map_insAt {α β:Type} (f:α→β) (l:List α) (n:Nat) (x:α):(insAt l n x).map f=insAt (l.map f) n (f x):=by
  unfold insAt;rw[List.map_append,List.map_cons,List.map_take,List.map_drop]
theorem rep_lit {w:World} {cs:Array Value} {e:TypeId} {n z:Nat} {es:List DV} (hs:cs.size=n*z) (hl:es.length=n*z) (hn:n≤9223372036854775807) (hr:Reps w (fun _=>True) cs.toList es):
    Rep (w.alloc (.cells cs e)) (fun _=>True) (.slice (some ⟨w.heap.size,0,none⟩) n n) (.s z es):=by
  have hr':=hr.ext ((Ext.refl w).alloc (.cells cs e))
  refine .row w.heap.size 0 n n z cs.toList es (fun _=>trivial) hl (by simpa using hs) (Nat.le_refl _) hn (fun k u hk=> ?_) hr'.2
  rw[Nat.zero_add]
  have h:=World.cell?_alloc_mark w cs e (0,0) k
  rw[h,←hk];simp
theorem reps_strs {w W:World} {p q:Nat→Prop} {us:List Value} {l:List Bytes} (h:Reps w p us (l.flatMap fun x=> [strD x])):Reps W q us (l.flatMap fun x=> [strD x]):=by
  refine⟨h.1,fun k u e hu he=> ?_⟩
  have h1:=h.2 k u e hu he
  obtain⟨x,_,hx⟩:=List.mem_flatMap.1 (List.mem_of_getElem? he)
  obtain rfl:=List.mem_singleton.1 hx
  unfold strD at h1⊢
  cases h1 with
  | leaf _ hs=>exact .leaf _ hs
theorem blk_cells {w:World} {g:Nat} {xs:List Value} {e:TypeId} (h:w.heap[g]? =some (.cells xs.toArray e (0,0))) (k:Nat) {u:Value} (hk:xs[k]? =some u):w.cell? ⟨g,k,none⟩=some u:=blk_cell h (by simpa using hk)
theorem clonestr_own (x:List Bytes) (p:Nat→Prop) (v:Value) (w:World) (hx:x.length≤16777216) (h:Rep w p v (strsD x)):
    Calls Tryz.prog 92 #[v] w fun e w'=>(∃u,e= .returned u∧Own w' (fun b=>p b∧b< w.heap.size) w.heap.size 9 1 u x.length (x.flatMap (fun x=> [strD x])))∧Ext w w':=by
  obtain⟨i0,hi,hz0,hz1,hz2⟩:=info_parts infoStr
  obtain⟨a,c,rfl,hc1,hc2⟩:=h.count z_str (by omega)
  have knil:=fun(a:Option Addr) (l c:Nat) (w:World)=>run_eql_slice_nil (P:=Tryz.prog) w 51 9 a l c Tryz.underlying51
  cases a with
  | none=>
    obtain⟨h0,hc0,_⟩:=rep_none h
    obtain rfl:x= []:=List.eq_nil_of_length_eq_zero h0
    subst hc0
    clear h0
    simp only[List.length_nil]at*
    go_enter Tryz.func92,Tryz.ntmps92
    go_wp2_with fail
    go_ret
    exact⟨⟨_,rfl,Own.nil _ _ _ _ _⟩,Ext.refl _⟩
  | some ad=>
    obtain⟨us,hus,hul,hcells⟩:=rep_some h
    have h1u:=hus.one (flat_one one_str x)
    have hown:(w.alloc (.cells #[] 9)).ownsRow w.heap.size 9 1 (.slice (some ⟨w.heap.size,0,none⟩) 0 0) 0 []:=own_empty' (Nat.le_refl _) Array.getElem?_push_size
    have hcl:∀j u,us[j]? =some u→(w.alloc (.cells #[] 9)).cell? (ad.add j)=some u:=fun j u hj=>by
      have h1:=hcells j u hj
      exact(World.cell?_of_block (Below.heap_alloc _ _ _ (World.block_lt_of_cell? w _ h1))).trans h1
    have HU:=Lh (And.intro hus h1u)
    clear hus h1u h hcells
    go_enter Tryz.func92,Tryz.ntmps92
    go_wp2_with (at_builtin;refine wpList_append_own_at _ rfl (.tmp 5) (.tmp 6) _ rfl w.heap.size 9 i0 (.string ⟨#[]⟩) 1 16 Tryz.underlying51 hi hz0 hz1 hz2 rfl (by decide) (.slice (some ⟨w.heap.size,0,none⟩) 0 0) 0 [] rfl hown ad x.length c us rfl hul hcl HU.out.2 (by unfold maxLen;omega) (by omega) (by simp) ?_;intro v2 w3 hown3 hgrow3 _ hat3)
    have hX3:Ext w w3:=Below.grown ((Ext.refl w).alloc (.cells #[] 9)) hgrow3 (by simp) fun k hk=>(hown.lt k hk).1
    have hO:Own w3 (fun b=>p b∧b< w.heap.size) w.heap.size 9 1 v2 x.length (x.flatMap (fun x=> [strD x])):=⟨us,by simpa using hown3,(HU.out.1.lt.ext hX3).ok fun b hb=>⟨hb,fun e=>by
      have:=(hown3.lt b e.symm).1
      have:=hb.2
      omega,Nat.lt_of_lt_of_le hb.2 hX3.size⟩⟩
    clear hown3 hgrow3 hat3
    go_wp2_with fail
    go_ret
    exact⟨⟨v2,rfl,hO⟩,hX3⟩
theorem clonestr_any (x:List Bytes) (p:Nat→Prop) (v:Value) (w:World) (hx:x.length≤16777216) (h:Rep w p v (strsD x)):
    Calls Tryz.prog 92 #[v] w fun e w'=>Ret (fun b=>w.heap.size≤b) (strsD x) e w'∧Ext w w':=
  (clonestr_own x p v w hx h).mono fun e w' ⟨⟨u,he,us,h1,h2⟩,hE⟩=>⟨⟨u,he,(Own.rep (p:=fun _=>False) (n:=x.length) ⟨us,h1,reps_strs h2⟩).ok fun b hb=>hb.elim (fun h=>h.elim) id⟩,hE⟩
@[go_sem] theorem run_store_func (P:Program) (w:World) (a:Addr) (m:Mode) (f:Fn) (x y:Array Value):(store a (.func f x y) m).run P w=stored P w a (.func f x y) m:=run_store P w a _ m rfl
def waits (ops:Array Oper):Nat→Nat→Nat→Bool
  | 0,_,_=>false
  | n+1,i,j=>((ops[i]?).map fun o=>o.after.any fun e=>Region.binds .any e && (e.on==j || waits ops n e.on j)).getD false
def cutL (n k:Nat):Array Bool:=(List.replicate k true++List.replicate (n - k) false).toArray
end Go.Proofs.YtcfibjiikhnfhaaGreatDoor
