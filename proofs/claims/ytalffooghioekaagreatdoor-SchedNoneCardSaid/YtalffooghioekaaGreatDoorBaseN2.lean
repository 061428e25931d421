/- A part of the proof: what its functions compute. -/
import Derived.Test.YtalffooghioekaaGreatDoorBaseN1
import Derived.Laws.Externs
set_option linter.unusedVariables false
set_option linter.unusedSimpArgs false
set_option maxRecDepth 100000
namespace Go.Proofs.YtalffooghioekaaGreatDoorX
open Go Go.RowKit
section
variable {ops : Array Oper} {QE : Exit → Env → World → Prop} {n : Nat} {rest : List Oper} {env : Env} {w wb : World} {D : Ctx} {H : List Ent} {E : List Nat} {fuel : Nat} {listed : Array Bool} {d : Option Nat} {op : Op} {ty : Nat} {pos : String} {aft : Array Edge} {g : Option (Nat × Bool)}
theorem vs {v:Value} (hw:wantedE ops env g=true:=by exact rfl) (hr:(execOp (ev env) (⟨d,op,ty,pos,aft,g⟩:Oper)).run Tryz.prog w = .ok (.value v) w:=by first | ((with_reducible apply r_move);(conv=>lhs;whnf)) | ((with_reducible apply r_assign);(conv=>lhs;whnf)) | ((with_reducible apply r_nilCheck);exact rfl) | ((with_reducible apply r_fieldAddr);exact tabOk;exact rfl;exact rfl;(conv=>lhs;whnf)) | ((with_reducible apply r_load);exact tabOk;exact rfl;exact rfl;(first | exact hs.hold | exact hH rfl | assumption);(repeat (first | exact At.head | (with_reducible apply At.tail)));exact rfl) | ((with_reducible apply r_loadA);exact tabOk;exact rfl;exact rfl;(first | exact hs.hold | exact hH rfl | assumption);(repeat (first | exact At.head | (with_reducible apply At.tail)));(repeat (first | exact Pick.nil | (apply Pick.cons;exact rfl)))) | ((with_reducible apply r_extract);exact rfl;exact rfl) | ((with_reducible apply r_pick);exact rfl;(conv=>lhs;whnf)) | ((with_reducible apply r_bin);exact rfl;exact rfl;exact rfl) | ((with_reducible apply r_shrC);exact rfl;exact rfl;exact shAmt rfl rfl rfl) | ((with_reducible apply r_shlC);exact rfl;exact rfl;exact shAmt rfl rfl rfl) | ((with_reducible apply r_andM);exact rfl;exact rfl;exact rfl;exact rfl;(first | omega | exact (u64_rng _).1);(first | omega | exact (u64_rng _).2)) | ((with_reducible apply r_quoU);exact rfl;exact rfl;(first | omega | exact (u64_rng _).1);(first | omega | exact (u64_rng _).2);omega) | ((with_reducible apply r_quoS);exact rfl;exact rfl;omega;omega;omega) | ((with_reducible apply r_remS);exact rfl;exact rfl;omega;omega) | ((with_reducible apply r_remU);exact rfl;exact rfl;(first | omega | exact (u64_rng _).1);(first | omega | exact (u64_rng _).2);omega) | ((with_reducible apply r_conv);exact tabOk;exact rfl;exact rfl;exact rfl) | ((with_reducible apply r_not);exact rfl) | ((with_reducible apply r_eqB);exact tabOk;exact rfl;exact rfl;exact rfl) | ((with_reducible apply r_neB);exact tabOk;exact rfl;exact rfl;exact rfl) | ((with_reducible apply r_eqNil);exact tabOk;exact rfl;exact rfl;exact rfl) | ((with_reducible apply r_neNil);exact tabOk;exact rfl;exact rfl;exact rfl) | ((with_reducible apply r_lenS);exact tabOk;exact rfl;exact rfl;exact rfl) | ((with_reducible apply r_maxI);exact rfl;exact rfl) | ((with_reducible apply r_minI);exact rfl;exact rfl) | (with_reducible apply r_makeFunc) | ((with_reducible apply r_neg);exact rfl) | ((with_reducible apply r_nilCheckF);exact rfl) | ((with_reducible apply r_eqA);exact tabOk;exact rfl;exact rfl;exact rfl;(repeat (first | exact Zip.nil | ((with_reducible apply Zip.last);exact rfl;exact rfl;exact rfl;exact rfl) | ((with_reducible apply Zip.cons);exact rfl;exact rfl;exact rfl;exact rfl)))) | ((with_reducible apply r_neA);exact tabOk;exact rfl;exact rfl;exact rfl;(repeat (first | exact Zip.nil | ((with_reducible apply Zip.last);exact rfl;exact rfl;exact rfl;exact rfl) | ((with_reducible apply Zip.cons);exact rfl;exact rfl;exact rfl;exact rfl)))) | ((with_reducible apply r_build);exact tabOk;exact rfl;exact rfl;(repeat (first | exact Bld.nil | (apply Bld.one;exact rfl;(conv=>lhs;whnf);exact rfl;(repeat (first | exact PutL.nil | apply PutL.skip | apply PutL.cons))) | (apply Bld.agg;exact rfl;exact rfl;exact rfl;(repeat (first | exact PutL.nil | apply PutL.skip | apply PutL.cons)))))))
    (k:XS Tryz.prog ops QE n rest (updO env d v) w):XS Tryz.prog ops QE n (⟨d,op,ty,pos,aft,g⟩ :: rest) env w:=xs_val hw hr k
theorem ps (hw:wantedE ops env g=false:=by exact rfl) (k:XS Tryz.prog ops QE n rest (updO env d undef) w):XS Tryz.prog ops QE n (⟨d,op,ty,pos,aft,g⟩ :: rest) env w:=xs_pass hw k
theorem st {t b off:Nat} {x y:Operand} {cs cs':List Value} {E:TypeId} {nw:Bool} {f:Obj→List Ent} {v:Value} (hs:St wb D H w) (ht:look t tab.tks=some (false,1):=by exact rfl) (hw:wantedE ops env g=true:=by exact rfl)
    (hp:ev env x = .pointer (some ⟨b,off,none⟩):=by exact rfl) (hv:ev env y=v:=by (conv=>lhs;whnf)) (h1:v.oneCell'=true:=by exact rfl) (hA:At H b (.cells cs.toArray E (0,0)) nw f:=by (repeat (first | exact At.head | (with_reducible apply At.tail)))) (hc:PutL cs off [v] cs':=by (repeat (first | exact PutL.nil | apply PutL.skip | apply PutL.cons)))
    (k:∀ w',St wb D (f (.cells cs'.toArray E (0,0))) w'→XS Tryz.prog ops QE n rest (updO env d undef) w'):XS Tryz.prog ops QE n (⟨d,.store t x y,ty,pos,aft,g⟩ :: rest) env w:=xs_store tabOk ht hw hp hv h1 hs hA hc k
theorem stA {t b off m:Nat} {x y:Operand} {cs vs cs':List Value} {E:TypeId} {nw:Bool} {f:Obj→List Ent} (hs:St wb D H w) (ht:look t tab.tks=some (true,m):=by exact rfl) (hw:wantedE ops env g=true:=by exact rfl)
    (hp:ev env x = .pointer (some ⟨b,off,none⟩):=by exact rfl) (hv:ev env y = .agg vs.toArray:=by exact rfl) (hm:Nat.beq vs.length m=true:=by exact rfl) (h1:vs.all Value.oneCell'=true:=by exact rfl) (hA:At H b (.cells cs.toArray E (0,0)) nw f:=by (repeat (first | exact At.head | (with_reducible apply At.tail)))) (hc:PutL cs off vs cs':=by (repeat (first | exact PutL.nil | apply PutL.skip | apply PutL.cons)))
    (k:∀ w',St wb D (f (.cells cs'.toArray E (0,0))) w'→XS Tryz.prog ops QE n rest (updO env d undef) w'):XS Tryz.prog ops QE n (⟨d,.store t x y,ty,pos,aft,g⟩ :: rest) env w:=xs_storeA tabOk ht hw hp hv hm h1 hs hA hc k
theorem al {t:Nat} {cs:List Value} (hs:St wb D H w) (ht:look t tab.zs=some cs:=by exact rfl) (hw:wantedE ops env g=true:=by exact rfl)
    (k:∀ b w',w'.heap.size=w.heap.size+1→St wb D ((b,.cells cs.toArray t,true) :: H) w'→XS Tryz.prog ops QE n rest (updO env d (.pointer (some ⟨b,0,none⟩))) w'):XS Tryz.prog ops QE n (⟨d,.alloc t,ty,pos,aft,g⟩ :: rest) env w:=xs_alloc tabOk ht hw hs k
theorem bx {t:Nat} {x:Operand} {cs:List Value} (hs:St wb D H w) (hw:wantedE ops env g=true:=by exact rfl) (hx:(ev env x).cells=cs.toArray:=by exact rfl)
    (k:∀ b w',w'.heap.size=w.heap.size+1→St wb D ((b,.cells cs.toArray t,true) :: H) w'→XS Tryz.prog ops QE n rest (updO env d (.pointer (some ⟨b,0,none⟩))) w'):XS Tryz.prog ops QE n (⟨d,.box t x,ty,pos,aft,g⟩ :: rest) env w:=xs_box hw hx hs k
theorem bs {t e size bytes len:Nat} {parts:Array (Nat × Operand)} {zs cs:List Value} (hs:St wb D H w) (hw:wantedE ops env g=true:=by exact rfl) (hsl:look t tab.sls=some (e,size,bytes):=by exact rfl) (hz:look e tab.zs=some zs:=by exact rfl) (hzl:Nat.beq zs.length size=true:=by exact rfl) (hsm:Nat.ble (len*size) 16777216=true:=by exact rfl) (hps:Nat.beq (len*size) 0=false:=by exact rfl)
    (hb:Bld env (rowPl len size) (rowZ zs (len*size)) parts.toList cs:=by (repeat (first | exact Bld.nil | (apply Bld.one;exact rfl;(conv=>lhs;whnf);exact rfl;(repeat (first | exact PutL.nil | apply PutL.skip | apply PutL.cons))) | (apply Bld.agg;exact rfl;exact rfl;exact rfl;(repeat (first | exact PutL.nil | apply PutL.skip | apply PutL.cons))))))
    (k:∀ b w',w'.heap.size=w.heap.size+1→St wb D ((b,.cells cs.toArray e,true) :: H) w'→XS Tryz.prog ops QE n rest (updO env d (.slice (some ⟨b,0,none⟩) len len)) w'):XS Tryz.prog ops QE n (⟨d,.buildSlice t len parts,ty,pos,aft,g⟩ :: rest) env w:=xs_buildSlice tabOk hw hsl hz hzl hsm hps hb hs k
theorem ix {t e size bytes b off m c:Nat} {x y:Operand} {kk:IntKind} {i:Int} (hw:wantedE ops env g=true:=by exact rfl) (ht:look t tab.sls=some (e,size,bytes):=by exact rfl) (hx:ev env x = .slice (some ⟨b,off,none⟩) m c:=by exact rfl) (hy:ev env y = .int kk i:=by exact rfl) (h0:0≤i) (h1:i < (m:Int))
    (k:XS Tryz.prog ops QE n rest (updO env d (.pointer (some ⟨b,off+i.toNat*size,none⟩))) w):XS Tryz.prog ops QE n (⟨d,.indexAddr t x y,ty,pos,aft,g⟩ :: rest) env w:=xs_val hw (r_indexAddr tabOk ht hx hy h0 h1) k
theorem lb {t b off:Nat} {x:Operand} {cs:List Value} {E:TypeId} {fr:Nat × Nat} {nw:Bool} {f:Obj→List Ent} {v:Value} (hw:wantedE ops env g=true:=by exact rfl) (ht:look t tab.tks=some (false,1):=by exact rfl)
    (hp:ev env x = .pointer (some ⟨b,off,none⟩):=by exact rfl) (hH:Hold H w:=by first | exact hs.hold | exact hH rfl | assumption) (hA:At H b (.cells cs.toArray E fr) nw f:=by (repeat (first | exact At.head | (with_reducible apply At.tail)))) (hc:cs[off]?=some v)
    (k:XS Tryz.prog ops QE n rest (updO env d v) w):XS Tryz.prog ops QE n (⟨d,.load t x,ty,pos,aft,g⟩ :: rest) env w:=xs_val hw (r_load tabOk ht hp hH hA hc) k
theorem lh {t b off:Nat} {x:Operand} {cs:List Value} {E:TypeId} {fr:Nat × Nat} {v:Value} (hb:w.heap[b]?=some (.cells cs.toArray E fr)) (hc:cs[off]?=some v) (hw:wantedE ops env g=true:=by exact rfl) (ht:look t tab.tks=some (false,1):=by exact rfl)
    (hp:ev env x = .pointer (some ⟨b,off,none⟩):=by exact rfl)
    (k:XS Tryz.prog ops QE n rest (updO env d v) w):XS Tryz.prog ops QE n (⟨d,.load t x,ty,pos,aft,g⟩ :: rest) env w :=
  xs_val hw (by simp [execOp,hp,Instr.loadAt,Instr.sureAddr,Sem.run_bind,run_loadVar_flat (tabOk.tk ht) hb hc]) k
theorem sl {t e size bytes b off m c:Nat} {x:Operand} {lo hi:Option Operand} {l h:Nat} (ht:look t tab.sls=some (e,size,bytes):=by exact rfl) (hw:wantedE ops env g=true:=by exact rfl) (hx:ev env x = .slice (some ⟨b,off,none⟩) m c:=by exact rfl)
    (hlo:Lo env lo l) (hhi:Hi env hi m h) (h1:l≤h) (h2:h≤c) (h3:l < c)
    (k:XS Tryz.prog ops QE n rest (updO env d (.slice (some ⟨b,off+l*size,none⟩) (h - l) (c - l))) w):XS Tryz.prog ops QE n (⟨d,.slice t x lo hi none,ty,pos,aft,g⟩ :: rest) env w :=
  xs_val hw (r_sliceLH tabOk ht hx hlo hhi h1 h2 h3) k
theorem dr (E:List Nat) {id:Nat} {ops:Array Oper} (hs:St wb D H w) (hX:XH ops E QE n:=by exact ⟨by kernel_rfl,by kernel_rfl,by kernel_rfl,by (repeat (first | (with_reducible exact nop_ret) | (with_reducible apply nop_then) | (with_reducible apply nop_block) | (with_reducible apply nop_loop) | (with_reducible apply nop_loopS) | (with_reducible apply nop_cutB) | (with_reducible apply nop_cutN)))⟩)
    (k:XH ops E QE n→∀ w',St wb D H w'→XA Tryz.prog ops E H QE n ops.size (Array.replicate ops.size false) env w'):XC Tryz.prog QE n (.region id ops true) env w:=xc_draw E tabOk hs hX k
theorem drH (E:List Nat) (HH:List Ent) {id:Nat} {ops:Array Oper} (hs:St wb D H w) (hX:XH ops E QE n:=by exact ⟨by kernel_rfl,by kernel_rfl,by kernel_rfl,by (repeat (first | (with_reducible exact nop_ret) | (with_reducible apply nop_then) | (with_reducible apply nop_block) | (with_reducible apply nop_loop) | (with_reducible apply nop_loopS) | (with_reducible apply nop_cutB) | (with_reducible apply nop_cutN)))⟩)
    (k:XH ops E QE n→∀ w',St wb D H w'→XA Tryz.prog ops E HH QE n ops.size (Array.replicate ops.size false) env w'):XC Tryz.prog QE n (.region id ops true) env w:=xc_drawR E HH tabOk hs hX k
theorem tk (i:Nat) {v:Value} (hX:XH ops E QE n) (hi:ops[i]?=some ⟨d,op,ty,pos,aft,g⟩:=by exact rfl) (hc:takeOk ops E listed i=true:=by kernel_rfl) (hS:SE E H listed w:=by (first | exact se_hold hs.hold | exact se_hold (hold_sim hs.hold rfl) | exact se_hold (hold_sim hs.hold.tail rfl) | exact se_hold (hR hs rfl) | exact se_hold hs.hold.tail | exact se_hold hs.hold.tail.tail | exact se_hold hs.hold.tail.tail.tail | exact se_done rfl)) (hw:wantedE ops env g=true:=by exact rfl)
    (hr:∀ w,(isLoad ⟨d,op,ty,pos,aft,g⟩=true→Hold H w)→(execOp (ev env) (⟨d,op,ty,pos,aft,g⟩:Oper)).run Tryz.prog w = .ok (.value v) w:=by intro w' hH;(first | ((with_reducible apply r_move);(conv=>lhs;whnf)) | ((with_reducible apply r_assign);(conv=>lhs;whnf)) | ((with_reducible apply r_nilCheck);exact rfl) | ((with_reducible apply r_fieldAddr);exact tabOk;exact rfl;exact rfl;(conv=>lhs;whnf)) | ((with_reducible apply r_load);exact tabOk;exact rfl;exact rfl;(first | exact hs.hold | exact hH rfl | assumption);(repeat (first | exact At.head | (with_reducible apply At.tail)));exact rfl) | ((with_reducible apply r_loadA);exact tabOk;exact rfl;exact rfl;(first | exact hs.hold | exact hH rfl | assumption);(repeat (first | exact At.head | (with_reducible apply At.tail)));(repeat (first | exact Pick.nil | (apply Pick.cons;exact rfl)))) | ((with_reducible apply r_extract);exact rfl;exact rfl) | ((with_reducible apply r_pick);exact rfl;(conv=>lhs;whnf)) | ((with_reducible apply r_bin);exact rfl;exact rfl;exact rfl) | ((with_reducible apply r_shrC);exact rfl;exact rfl;exact shAmt rfl rfl rfl) | ((with_reducible apply r_shlC);exact rfl;exact rfl;exact shAmt rfl rfl rfl) | ((with_reducible apply r_andM);exact rfl;exact rfl;exact rfl;exact rfl;(first | omega | exact (u64_rng _).1);(first | omega | exact (u64_rng _).2)) | ((with_reducible apply r_quoU);exact rfl;exact rfl;(first | omega | exact (u64_rng _).1);(first | omega | exact (u64_rng _).2);omega) | ((with_reducible apply r_quoS);exact rfl;exact rfl;omega;omega;omega) | ((with_reducible apply r_remS);exact rfl;exact rfl;omega;omega) | ((with_reducible apply r_remU);exact rfl;exact rfl;(first | omega | exact (u64_rng _).1);(first | omega | exact (u64_rng _).2);omega) | ((with_reducible apply r_conv);exact tabOk;exact rfl;exact rfl;exact rfl) | ((with_reducible apply r_not);exact rfl) | ((with_reducible apply r_eqB);exact tabOk;exact rfl;exact rfl;exact rfl) | ((with_reducible apply r_neB);exact tabOk;exact rfl;exact rfl;exact rfl) | ((with_reducible apply r_eqNil);exact tabOk;exact rfl;exact rfl;exact rfl) | ((with_reducible apply r_neNil);exact tabOk;exact rfl;exact rfl;exact rfl) | ((with_reducible apply r_lenS);exact tabOk;exact rfl;exact rfl;exact rfl) | ((with_reducible apply r_maxI);exact rfl;exact rfl) | ((with_reducible apply r_minI);exact rfl;exact rfl) | (with_reducible apply r_makeFunc) | ((with_reducible apply r_neg);exact rfl) | ((with_reducible apply r_nilCheckF);exact rfl) | ((with_reducible apply r_eqA);exact tabOk;exact rfl;exact rfl;exact rfl;(repeat (first | exact Zip.nil | ((with_reducible apply Zip.last);exact rfl;exact rfl;exact rfl;exact rfl) | ((with_reducible apply Zip.cons);exact rfl;exact rfl;exact rfl;exact rfl)))) | ((with_reducible apply r_neA);exact tabOk;exact rfl;exact rfl;exact rfl;(repeat (first | exact Zip.nil | ((with_reducible apply Zip.last);exact rfl;exact rfl;exact rfl;exact rfl) | ((with_reducible apply Zip.cons);exact rfl;exact rfl;exact rfl;exact rfl)))) | ((with_reducible apply r_build);exact tabOk;exact rfl;exact rfl;(repeat (first | exact Bld.nil | (apply Bld.one;exact rfl;(conv=>lhs;whnf);exact rfl;(repeat (first | exact PutL.nil | apply PutL.skip | apply PutL.cons))) | (apply Bld.agg;exact rfl;exact rfl;exact rfl;(repeat (first | exact PutL.nil | apply PutL.skip | apply PutL.cons))))))))
    (k:XA Tryz.prog ops E H QE n fuel (listed.setIfInBounds i true) (updO env d v) w):XA Tryz.prog ops E H QE n (fuel+1) listed env w:=xa_take hX hi hc hS hw hr k
theorem pt (i:Nat) (hX:XH ops E QE n) (hi:ops[i]?=some ⟨d,op,ty,pos,aft,g⟩:=by exact rfl) (hc:takeOk ops E listed i=true:=by kernel_rfl) (hS:SE E H listed w:=by (first | exact se_hold hs.hold | exact se_hold (hold_sim hs.hold rfl) | exact se_hold (hold_sim hs.hold.tail rfl) | exact se_hold (hR hs rfl) | exact se_hold hs.hold.tail | exact se_hold hs.hold.tail.tail | exact se_hold hs.hold.tail.tail.tail | exact se_done rfl)) (hw:wantedE ops env g=false:=by exact rfl)
    (k:XA Tryz.prog ops E H QE n fuel (listed.setIfInBounds i true) (updO env d undef) w):XA Tryz.prog ops E H QE n (fuel+1) listed env w:=xa_pass hX hi hc hS hw k
theorem dt (i:Nat) (hX:XH ops E QE n) (hi:ops[i]?=some ⟨d,op,ty,pos,aft,g⟩:=by exact rfl) (hr:Region.ready .any ops listed=[i]:=by kernel_rfl)
    (k:XS Tryz.prog ops (doneE Tryz.prog ops E H QE n fuel (listed.setIfInBounds i true)) n [⟨d,op,ty,pos,aft,g⟩] env w):XA Tryz.prog ops E H QE n (fuel+1) listed env w:=xa_do' i hX hi hr k
theorem dn (hS:SE E H listed w:=by (first | exact se_hold hs.hold | exact se_hold (hold_sim hs.hold rfl) | exact se_hold (hold_sim hs.hold.tail rfl) | exact se_hold (hR hs rfl) | exact se_hold hs.hold.tail | exact se_hold hs.hold.tail.tail | exact se_hold hs.hold.tail.tail.tail | exact se_done rfl)) (k:XA Tryz.prog ops E H QE n fuel listed env w):doneE Tryz.prog ops E H QE n fuel listed .normal env w:=done_of hS k
theorem en (hr:Region.ready .any ops listed=[]:=by kernel_rfl) (k:QE .normal env w):XA Tryz.prog ops E H QE n fuel listed env w:=xa_done hr k
theorem rt {rs:List ResultVar} {vs:List Value} {Q:Value→World→Prop} (hr:resOk Tryz.prog env w rs vs:=by (repeat' (first | exact resOk_nil | apply resOk_cons | ((with_reducible apply res_tmp);(conv=>lhs;whnf)) | ((with_reducible apply res_cellA);exact tabOk;exact rfl;exact rfl;exact hs.hold;(repeat (first | exact At.head | (with_reducible apply At.tail)));(repeat (first | exact Pick.nil | (apply Pick.cons;exact rfl)))) | ((with_reducible apply res_cell);exact tabOk;exact rfl;exact rfl;exact hs.hold;(repeat (first | exact At.head | (with_reducible apply At.tail)));exact rfl)))) (hq:Q (packed vs) w):retE Tryz.prog rs Q .ret env w:=ret_end hr hq
theorem rt' {rs:List ResultVar} {vs:List Value} {Q:Value→World→Prop} (hr:resOk Tryz.prog env w rs vs:=by (repeat' (first | exact resOk_nil | apply resOk_cons | ((with_reducible apply res_tmp);(conv=>lhs;whnf)) | ((with_reducible apply res_cellA);exact tabOk;exact rfl;exact rfl;exact hs.hold;(repeat (first | exact At.head | (with_reducible apply At.tail)));(repeat (first | exact Pick.nil | (apply Pick.cons;exact rfl)))) | ((with_reducible apply res_cell);exact tabOk;exact rfl;exact rfl;exact hs.hold;(repeat (first | exact At.head | (with_reducible apply At.tail)));exact rfl)))) (hq:Q (packed vs) w):retE Tryz.prog rs Q .normal env w:=ret_end' hr hq
end
end Go.Proofs.YtalffooghioekaaGreatDoorX

namespace Go.Proofs.YtalffooghioekaaGreatDoorX
open Go Go.RowKit
attribute [local irreducible] XS XC XA thenE blockE retE loopE loopS cutB cutN doneE SE
/-! ### math/bits -/
theorem wrap_u64 (n:Int):IntKind.u64.wrap n=n % 18446744073709551616:=by simp [IntKind.wrap,IntKind.signed,IntKind.bits]
theorem wrap_i64 (n:Int):IntKind.i64.wrap n=(n+9223372036854775808) % 18446744073709551616 - 9223372036854775808:=by
  simp only [IntKind.wrap,IntKind.signed,IntKind.bits]
  simp
  split <;> omega
theorem add64_ret (a b c:Int) (ha:0≤a) (hb:0≤b) (hc0:0≤c) (hc:c≤1) (w:World) :
    Ret Tryz.prog 108 #[.int .u64 a,.int .u64 b,.int .u64 c] w fun v w'=>v = .tuple #[.int .u64 ((a+b+c) % 18446744073709551616),.int .u64 ((a+b+c) / 18446744073709551616)]∧w=w':=by
  refine .inr ⟨_,w,?_,rfl,rfl⟩
  rw [run_callFunc_extern (fn:=Tryz.f108) (by kernel_rfl) (by kernel_rfl) (by kernel_rfl) (by kernel_rfl) (e:=add64Entry) (by kernel_rfl),run_add64 a b c ha hb hc0 hc]
  rfl
def wv (x:Int):Value := .agg #[.int .i64 (x / 18446744073709551616),.int .u64 (x % 18446744073709551616)]
def InW (x:Int):Prop:=-170141183460469231731687303715884105728≤x∧x < 170141183460469231731687303715884105728
instance (x:Int):Decidable (InW x):=by unfold InW;infer_instance
def tellV (x:Int):Value:=if InW x then .tuple #[wv x,.bool true] else .tuple #[wv 0,.bool false]
theorem tell_ok {s hi lo:Int} (h:InW s) (h1:hi=s / 18446744073709551616) (h2:lo=s % 18446744073709551616):packed [Value.agg #[.int .i64 hi,.int .u64 lo],.bool true]=tellV s:=by
  unfold tellV wv packed;rw [if_pos h,h1,h2]
theorem tell_no {s:Int} (h:¬ InW s):packed [Value.agg #[.int .i64 0,.int .u64 0],.bool false]=tellV s:=by
  unfold tellV wv packed;rw [if_neg h];rfl
theorem wv_ok {s hi lo:Int} (h1:hi=s / 18446744073709551616) (h2:lo=s % 18446744073709551616):packed [Value.agg #[.int .i64 hi,.int .u64 lo]]=wv s:=by
  unfold wv packed;rw [h1,h2]
theorem decide_eq {p q:Prop} [Decidable p] [Decidable q] {b:Bool} (h:(decide p == decide q)=b):(b=true→(p↔q))∧(b=false→¬ (p↔q)):=by
  subst h
  by_cases hp:p <;> by_cases hq:q <;> simp [hp,hq]
theorem decide_ne {p q:Prop} [Decidable p] [Decidable q] {b:Bool} (h:(decide p != decide q)=b):(b=false→(p↔q))∧(b=true→¬ (p↔q)):=by
  subst h
  by_cases hp:p <;> by_cases hq:q <;> simp [hp,hq]
set_option maxHeartbeats 400000 in
theorem add_ret (x y:Int) (hx:InW x) (hy:InW y) (w0:World):Ret Tryz.prog 54 #[wv x,wv y] w0 fun v w'=>v=tellV (x+y)∧Only [] w0 w':=by
  obtain ⟨hx1,hx2⟩:=hx
  obtain ⟨hy1,hy2⟩:=hy
  have hs:=St.nil w0
  refine ret_of_xc Tryz.func54 (by kernel_rfl) rfl Tryz.ntmps54 rfl rfl rfl ?_
  repeat' (first|refine vs (k:=?_)|(refine al hs (k:=?_);intro b w hz hs)|(refine bx hs (k:=?_);intro b w hz hs)|refine qRg ?_|refine Nx.h ?_|fail)
  (with_reducible apply xs_call);exact rfl;exact rfl;exact add64_ret _ _ _ (by omega) (by omega) (by omega) (by omega) _
  rintro v w' ⟨rfl,rfl⟩
  repeat' (first|refine vs (k:=?_)|refine qRg ?_|refine Nx.h ?_|fail)
  (with_reducible apply xs_call);exact rfl;exact rfl;exact add64_ret _ _ _ (by rw [wrap_u64];omega) (by rw [wrap_u64];omega) (by omega) (by omega) _
  rintro v w' ⟨rfl,rfl⟩
  repeat' (first|refine vs (k:=?_)|refine ps (k:=?_)|(refine stA hs (k:=?_);intro w hs)|(refine al hs (k:=?_);intro b w hz hs)|refine qRg ?_|refine Nx.h ?_|refine qCf ?_|((with_reducible apply xs_guard);exact rfl;exact rfl;intro c hc;(fail_if_success have:true=c:=hc);(fail_if_success have:false=c:=hc);cases c)|(refine xc_cond rfl (fun hc=>?_) (fun hc=>?_))|fail)
  all_goals (first | refine rt (hq:=?_) | refine rt' (hq:=?_))
  all_goals refine ⟨?_,hs.only0 rfl⟩
  all_goals simp only [wrap_u64,wrap_i64] at *
  · refine tell_ok ?_ ?_ ?_
    all_goals have hc:=(decide_eq hc).2 rfl
    all_goals (try unfold InW)
    all_goals omega
  · refine tell_no ?_
    all_goals have hd:=(decide_eq ‹(_ == _)=true›).1 rfl
    all_goals have hc:=(decide_ne ‹(_ != _)=true›).2 rfl
    all_goals (try unfold InW)
    all_goals omega
  · refine tell_ok ?_ ?_ ?_
    all_goals have hd:=(decide_eq ‹(_ == _)=true›).1 rfl
    all_goals have hc:=(decide_ne ‹(_ != _)=false›).1 rfl
    all_goals (try unfold InW)
    all_goals omega
def sub64E:Array Value→Sem Value:=fun args=>do
  let (x, y, b) ← Extern.MathBitsCarry.three "Sub64" args
  pure (Extern.MathBitsCarry.pair ((x+Extern.MathBitsCarry.m64 - y - b) % Extern.MathBitsCarry.m64) (if x < y+b then 1 else 0))
def bor (x y b:Int):Int:=if x < y+b then 1 else 0
theorem sub64_ret (a b c:Int) (ha:0≤a) (ha':a < 18446744073709551616) (hb:0≤b) (hb':b < 18446744073709551616) (hc0:0≤c) (hc:c≤1) (w:World) :
    Ret Tryz.prog 153 #[.int .u64 a,.int .u64 b,.int .u64 c] w fun v w'=>v = .tuple #[.int .u64 ((a - b - c) % 18446744073709551616),.int .u64 (bor a b c)]∧w=w':=by
  refine .inr ⟨_,w,?_,rfl,rfl⟩
  obtain ⟨x,rfl⟩:=Int.eq_ofNat_of_zero_le ha
  obtain ⟨y,rfl⟩:=Int.eq_ofNat_of_zero_le hb
  obtain ⟨z,rfl⟩:=Int.eq_ofNat_of_zero_le hc0
  have hrun:(sub64E #[.int .u64 (x:Int),.int .u64 (y:Int),.int .u64 (z:Int)]).run Tryz.prog w = .ok (.tuple #[.int .u64 (((x+18446744073709551616 - y - z) % 18446744073709551616:Nat):Int),.int .u64 ((if x < y+z then 1 else 0:Nat):Int)]) w:=by
    have:z=0∨z=1:=by omega
    rcases this with rfl | rfl <;> rfl
  rw [run_callFunc_extern (fn:=Tryz.f153) (by kernel_rfl) (by kernel_rfl) (by kernel_rfl) (by kernel_rfl) (e:=sub64E) (by kernel_rfl),hrun]
  have e1:(((x+18446744073709551616 - y - z) % 18446744073709551616:Nat):Int)=((x:Int) - y - z) % 18446744073709551616:=by omega
  have e2:((if x < y+z then 1 else 0:Nat):Int)=bor x y z:=by unfold bor;split <;> split <;> omega
  rw [e1,e2]
  rfl
theorem of_ret (x:Int) (h1:-9223372036854775808≤x) (h2:x < 9223372036854775808) (w0:World):Ret Tryz.prog 50 #[.int .i64 x] w0 fun v w'=>v=wv x∧Only [] w0 w':=by
  have hs:=St.nil w0
  refine ret_of_xc Tryz.func50 (by kernel_rfl) rfl Tryz.ntmps50 rfl rfl rfl ?_
  repeat' (first|refine vs (k:=?_)|(refine st hs (k:=?_);intro w hs)|(refine stA hs (k:=?_);intro w hs)|(refine al hs (k:=?_);intro b w hz hs)|refine qRg ?_|refine Nx.h ?_|(refine xc_if rfl (fun hc=>?_) (fun hc=>?_))|fail)
  all_goals (first | refine rt (hq:=?_) | refine rt' (hq:=?_))
  all_goals refine ⟨?_,hs.only0 rfl⟩
  all_goals simp only [wrap_u64,wrap_i64] at *
  all_goals (refine wv_ok ?_ ?_ <;> omega)
theorem ofU_ret (x:Int) (h1:0≤x) (h2:x < 18446744073709551616) (w0:World):Ret Tryz.prog 100 #[.int .u64 x] w0 fun v w'=>v=wv x∧Only [] w0 w':=by
  have hs:=St.nil w0
  refine ret_of_xc Tryz.func100 (by kernel_rfl) rfl Tryz.ntmps100 rfl rfl rfl ?_
  repeat' (first|refine vs (k:=?_)|(refine stA hs (k:=?_);intro w hs)|(refine al hs (k:=?_);intro b w hz hs)|refine qRg ?_|refine Nx.h ?_|fail)
  all_goals (first | refine rt (hq:=?_) | refine rt' (hq:=?_))
  all_goals refine ⟨?_,hs.only0 rfl⟩
  all_goals (refine wv_ok ?_ ?_ <;> omega)
def negW (x:Int):Int:=if x=-170141183460469231731687303715884105728 then x else -x
theorem flip_ret (x:Int) (hx:InW x) (w0:World):Ret Tryz.prog 102 #[wv x] w0 fun v w'=>v=wv (negW x)∧Only [] w0 w':=by
  obtain ⟨hx1,hx2⟩:=hx
  have hs:=St.nil w0
  have hb:0≤bor 0 (x % 18446744073709551616) 0∧bor 0 (x % 18446744073709551616) 0≤1:=by unfold bor;split <;> omega
  refine ret_of_xc Tryz.func102 (by kernel_rfl) rfl Tryz.ntmps102 rfl rfl rfl ?_
  repeat' (first|refine vs (k:=?_)|(refine al hs (k:=?_);intro b w hz hs)|(refine bx hs (k:=?_);intro b w hz hs)|refine qRg ?_|refine Nx.h ?_|fail)
  (with_reducible apply xs_call);exact rfl;exact rfl;exact sub64_ret _ _ _ (by omega) (by omega) (by omega) (by omega) (by omega) (by omega) _
  rintro v w' ⟨rfl,rfl⟩
  repeat' (first|refine vs (k:=?_)|refine qRg ?_|refine Nx.h ?_|fail)
  (with_reducible apply xs_call);exact rfl;exact rfl;exact sub64_ret _ _ _ (by omega) (by omega) (by rw [wrap_u64];omega) (by rw [wrap_u64];omega) (by omega) (by omega) _
  rintro v w' ⟨rfl,rfl⟩
  repeat' (first|refine vs (k:=?_)|(refine stA hs (k:=?_);intro w hs)|refine qRg ?_|refine Nx.h ?_|fail)
  all_goals (first | refine rt (hq:=?_) | refine rt' (hq:=?_))
  all_goals refine ⟨?_,hs.only0 rfl⟩
  all_goals simp only [wrap_u64,wrap_i64,bor,negW] at *
  all_goals (refine wv_ok ?_ ?_ <;> (try split) <;> (try split) <;> omega)
theorem two_ok {a b c d:Int} (h1:a=c) (h2:b=d):packed [Value.int .u64 a,.int .u64 b] = .tuple #[.int .u64 c,.int .u64 d]:=by rw [h1,h2];rfl
def sizeV (x:Int):Value := .tuple #[.int .u64 ((if x < 0 then -x else x) / 18446744073709551616),.int .u64 ((if x < 0 then -x else x) % 18446744073709551616)]
theorem size_ret (x:Int) (hx:InW x) (w0:World):Ret Tryz.prog 150 #[wv x] w0 fun v w'=>v=sizeV x∧Only [] w0 w':=by
  have hx':=hx
  obtain ⟨hx1,hx2⟩:=hx
  have hs:=St.nil w0
  refine ret_of_xc Tryz.func150 (by kernel_rfl) rfl Tryz.ntmps150 rfl rfl rfl ?_
  repeat' (first|refine vs (k:=?_)|(refine bx hs (k:=?_);intro b w hz hs)|refine qRg ?_|refine Nx.h ?_|(refine xc_if rfl (fun hc=>?_) (fun hc=>?_))|fail)
  · (with_reducible apply xs_call);exact rfl;exact rfl;exact flip_ret x hx' _
    rintro v w' ⟨rfl,ho⟩
    replace hs:=hs.call0 ho
    repeat' (first|(refine stA hs (k:=?_);intro w hs)|refine Nx.h ?_|fail)
    refine dr [] hs (k:=?_);intro hX w hs
    refine tk 0 hX (k:=?_)
    refine tk 1 hX (k:=?_)
    refine tk 2 hX (k:=?_)
    refine tk 3 hX (k:=?_)
    refine tk 4 hX (k:=?_)
    refine tk 5 hX (k:=?_)
    refine tk 6 hX (k:=?_)
    refine en (k:=?_)
    repeat' (first|refine Nx.h ?_|fail)
    first | refine rt (hq:=?_) | refine rt' (hq:=?_)
    refine ⟨?_,hs.only0 rfl⟩
    simp only [wrap_u64,negW] at *
    refine two_ok ?_ ?_ <;> (try split) <;> (try split) <;> omega
  · refine dr [] hs (k:=?_);intro hX w hs
    refine tk 0 hX (k:=?_)
    refine tk 1 hX (k:=?_)
    refine tk 2 hX (k:=?_)
    refine tk 3 hX (k:=?_)
    refine tk 4 hX (k:=?_)
    refine tk 5 hX (k:=?_)
    refine tk 6 hX (k:=?_)
    refine en (k:=?_)
    repeat' (first|refine Nx.h ?_|fail)
    first | refine rt (hq:=?_) | refine rt' (hq:=?_)
    refine ⟨?_,hs.only0 rfl⟩
    simp only [wrap_u64] at *
    refine two_ok ?_ ?_ <;> (try split) <;> omega
end Go.Proofs.YtalffooghioekaaGreatDoorX

namespace Go.Proofs.YtalffooghioekaaGreatDoorX
open Go Go.RowKit
attribute [local irreducible] XS XC XA thenE blockE retE loopE loopS cutB cutN doneE SE
theorem isNaNS_ret (a:Int) (w0:World):Ret Tryz.prog 154 #[.int .i64 a] w0 fun v w'=>v = .bool false∧Only [] w0 w':=by
  have hs:=St.nil w0
  refine ret_of_xc Tryz.func154 (by kernel_rfl) rfl Tryz.ntmps154 rfl rfl rfl ?_
  repeat' (first|refine vs (k:=?_)|refine qRg ?_|refine Nx.h ?_|fail)
  first | refine rt (hq:=?_) | refine rt' (hq:=?_)
  exact ⟨by simp [packed],hs.only0 rfl⟩
theorem isNaNU_ret (a:Int) (w0:World):Ret Tryz.prog 155 #[.int .u64 a] w0 fun v w'=>v = .bool false∧Only [] w0 w':=by
  have hs:=St.nil w0
  refine ret_of_xc Tryz.func155 (by kernel_rfl) rfl Tryz.ntmps155 rfl rfl rfl ?_
  repeat' (first|refine vs (k:=?_)|refine qRg ?_|refine Nx.h ?_|fail)
  first | refine rt (hq:=?_) | refine rt' (hq:=?_)
  exact ⟨by simp [packed],hs.only0 rfl⟩
def cmpI (a b:Int):Int:=if a < b then -1 else if b < a then 1 else 0
theorem compareS_ret (a b:Int) (w0:World):Ret Tryz.prog 104 #[.int .i64 a,.int .i64 b] w0 fun v w'=>v = .int .i64 (cmpI a b)∧Only [] w0 w':=by
  have hs:=St.nil w0
  refine ret_of_xc Tryz.func104 (by kernel_rfl) rfl Tryz.ntmps104 rfl rfl rfl ?_
  repeat' (first|refine vs (k:=?_)|refine qRg ?_|refine Nx.h ?_|fail)
  (with_reducible apply xs_call);exact rfl;exact rfl;exact isNaNS_ret _ _
  rintro v w' ⟨rfl,ho⟩;replace hs:=hs.call0 ho
  repeat' (first|refine vs (k:=?_)|refine qRg ?_|refine Nx.h ?_|fail)
  (with_reducible apply xs_call);exact rfl;exact rfl;exact isNaNS_ret _ _
  rintro v w' ⟨rfl,ho⟩;replace hs:=hs.call0 ho
  repeat' (first|refine vs (k:=?_)|refine qRg ?_|refine Nx.h ?_|refine qCf ?_|(refine xc_if rfl (fun hc=>?_) (fun hc=>?_))|fail)
  all_goals (first | refine rt (hq:=?_) | refine rt' (hq:=?_))
  all_goals refine ⟨?_,hs.only0 rfl⟩
  all_goals (simp only [packed,cmpI];simp [*])
theorem compareU_ret (a b:Int) (w0:World):Ret Tryz.prog 105 #[.int .u64 a,.int .u64 b] w0 fun v w'=>v = .int .i64 (cmpI a b)∧Only [] w0 w':=by
  have hs:=St.nil w0
  refine ret_of_xc Tryz.func105 (by kernel_rfl) rfl Tryz.ntmps105 rfl rfl rfl ?_
  repeat' (first|refine vs (k:=?_)|refine qRg ?_|refine Nx.h ?_|fail)
  (with_reducible apply xs_call);exact rfl;exact rfl;exact isNaNU_ret _ _
  rintro v w' ⟨rfl,ho⟩;replace hs:=hs.call0 ho
  repeat' (first|refine vs (k:=?_)|refine qRg ?_|refine Nx.h ?_|fail)
  (with_reducible apply xs_call);exact rfl;exact rfl;exact isNaNU_ret _ _
  rintro v w' ⟨rfl,ho⟩;replace hs:=hs.call0 ho
  repeat' (first|refine vs (k:=?_)|refine qRg ?_|refine Nx.h ?_|refine qCf ?_|(refine xc_if rfl (fun hc=>?_) (fun hc=>?_))|fail)
  all_goals (first | refine rt (hq:=?_) | refine rt' (hq:=?_))
  all_goals refine ⟨?_,hs.only0 rfl⟩
  all_goals (simp only [packed,cmpI];simp [*])
theorem or_ret (p q:Int) (b:Nat) (e:TypeId) (w0:World) (hb:w0.heap[b]?=some (.cells #[.int .i64 p,.int .i64 q] e (0,0))) :
    Ret Tryz.prog 103 #[.slice (some ⟨b,0,none⟩) 2 2] w0 fun v w'=>v = .int .i64 (if p=0 then q else p)∧Only [] w0 w':=by
  have hs:=(St.nil w0).track hb (by simp)
  refine ret_of_xc Tryz.func103 (by kernel_rfl) rfl Tryz.ntmps103 rfl rfl rfl ?_
  repeat' (first|refine vs (k:=?_)|refine qRg ?_|refine Nx.h ?_|fail)
  refine xc_loopS (fun s=>[(3,.int .i64 0),(6,.slice (some ⟨b,0,none⟩) 2 2),(7,.int .i64 2),(8,.int .i64 (s:Nat))]) (fun s w=>s≤2∧(1≤s→p=0)∧(s=2→q=0)∧St w0 D0 [(b,.cells #[.int .i64 p,.int .i64 q] e (0,0),false)] w) (fun s=>2 - s) 0 (by (repeat (first | exact agree_nil | (apply agree_cons;exact rfl)))) ⟨by omega,by omega,by omega,hs⟩ fun s env w ⟨h1,h2,h3,hs⟩=>?_
  have:s=0∨s=1∨s=2:=by omega
  rcases this with rfl | rfl | rfl
  · repeat' (first|refine vs (k:=?_)|refine qRg ?_|refine Nx.h ?_|refine qCt ?_|fail)
    refine ix (h0:=(by decide)) (h1:=(by decide)) (k:=?_)
    repeat' (first|refine vs (k:=?_)|refine qRg ?_|refine Nx.h ?_|(refine xc_cond rfl (fun hc=>?_) (fun hc=>?_))|fail)
    · first | refine rt (hq:=?_) | refine rt' (hq:=?_)
      refine ⟨?_,hs.keep hb⟩
      have:p≠0:=by simpa using hc
      simp [packed,this]
    · refine loopS_next 1 (by decide) (by (repeat (first | exact agree_nil | (apply agree_cons;exact rfl)))) ⟨by omega,fun _=>by simpa using hc,by omega,hs⟩
  · repeat' (first|refine vs (k:=?_)|refine qRg ?_|refine Nx.h ?_|refine qCt ?_|fail)
    refine ix (h0:=(by decide)) (h1:=(by decide)) (k:=?_)
    repeat' (first|refine vs (k:=?_)|refine qRg ?_|refine Nx.h ?_|(refine xc_cond rfl (fun hc=>?_) (fun hc=>?_))|fail)
    · first | refine rt (hq:=?_) | refine rt' (hq:=?_)
      refine ⟨?_,hs.keep hb⟩
      simp [packed,h2]
    · refine loopS_next 2 (by decide) (by (repeat (first | exact agree_nil | (apply agree_cons;exact rfl)))) ⟨by omega,fun _=>h2 (by omega),fun _=>by simpa using hc,hs⟩
  · repeat' (first|refine vs (k:=?_)|refine qRg ?_|refine Nx.h ?_|refine qCf ?_|fail)
    first | refine rt (hq:=?_) | refine rt' (hq:=?_)
    refine ⟨?_,hs.keep hb⟩
    simp [packed,h2,h3]
theorem agg_ok {s hi lo:Int} (h1:hi=s / 18446744073709551616) (h2:lo=s % 18446744073709551616):Value.agg #[.int .i64 hi,.int .u64 lo]=wv s:=by
  unfold wv;rw [h1,h2]
set_option maxHeartbeats 400000 in
theorem sub_ret (x y:Int) (hx:InW x) (hy:InW y) (w0:World):Ret Tryz.prog 203 #[wv x,wv y] w0 fun v w'=>v=tellV (x - y)∧Only [] w0 w':=by
  obtain ⟨hx1,hx2⟩:=hx
  obtain ⟨hy1,hy2⟩:=hy
  have hs:=St.nil w0
  have hb:(0≤bor (x % 18446744073709551616) (y % 18446744073709551616) 0∧bor (x % 18446744073709551616) (y % 18446744073709551616) 0≤1)∧(x % 18446744073709551616 < y % 18446744073709551616∧bor (x % 18446744073709551616) (y % 18446744073709551616) 0=1∨y % 18446744073709551616≤x % 18446744073709551616∧bor (x % 18446744073709551616) (y % 18446744073709551616) 0=0):=by unfold bor;split <;> omega
  obtain ⟨hb,hb'⟩:=hb
  refine ret_of_xc Tryz.func203 (by kernel_rfl) rfl Tryz.ntmps203 rfl rfl rfl ?_
  repeat' (first|refine vs (k:=?_)|(refine al hs (k:=?_);intro b w hz hs)|(refine bx hs (k:=?_);intro b w hz hs)|refine qRg ?_|refine Nx.h ?_|fail)
  (with_reducible apply xs_call);exact rfl;exact rfl;exact sub64_ret _ _ _ (by omega) (by omega) (by omega) (by omega) (by omega) (by omega) _
  rintro v w' ⟨rfl,rfl⟩
  repeat' (first|refine vs (k:=?_)|refine qRg ?_|refine Nx.h ?_|fail)
  (with_reducible apply xs_call);exact rfl;exact rfl;exact sub64_ret _ _ _ (by rw [wrap_u64];omega) (by rw [wrap_u64];omega) (by rw [wrap_u64];omega) (by rw [wrap_u64];omega) (by omega) (by omega) _
  rintro v w' ⟨rfl,rfl⟩
  repeat' (first|refine vs (k:=?_)|refine ps (k:=?_)|(refine stA hs (k:=?_);intro w hs)|(refine al hs (k:=?_);intro b w hz hs)|refine qRg ?_|refine Nx.h ?_|refine qCf ?_|((with_reducible apply xs_guard);exact rfl;exact rfl;intro c hc;(fail_if_success have:true=c:=hc);(fail_if_success have:false=c:=hc);cases c)|(refine xc_cond rfl (fun hc=>?_) (fun hc=>?_))|fail)
  all_goals (first | refine rt (hq:=?_) | refine rt' (hq:=?_))
  all_goals refine ⟨?_,hs.only0 rfl⟩
  all_goals simp only [wrap_u64,wrap_i64] at *
  all_goals clear hs
  all_goals generalize bor (x % 18446744073709551616) (y % 18446744073709551616) 0=B at *
  · refine tell_ok ?_ ?_ ?_
    all_goals have hc:=(decide_ne hc).1 rfl
    all_goals (try unfold InW)
    all_goals omega
  · refine tell_no ?_
    all_goals have hd:=(decide_ne ‹(decide (x / 18446744073709551616 < 0) != decide (y / 18446744073709551616 < 0))=true›).2 rfl
    all_goals have hc:=(decide_ne hc).2 rfl
    all_goals (try unfold InW)
    all_goals omega
  · refine tell_ok ?_ ?_ ?_
    all_goals have hd:=(decide_ne ‹(decide (x / 18446744073709551616 < 0) != decide (y / 18446744073709551616 < 0))=true›).2 rfl
    all_goals have hc:=(decide_ne hc).1 rfl
    all_goals (try unfold InW)
    all_goals omega
theorem neg_ret (x:Int) (hx:InW x) (w0:World):Ret Tryz.prog 48 #[wv x] w0 fun v w'=>v=tellV (-x)∧Only [] w0 w':=by
  have hx':=hx
  obtain ⟨hx1,hx2⟩:=hx
  have hs:=St.nil w0
  refine ret_of_xc Tryz.func48 (by kernel_rfl) rfl Tryz.ntmps48 rfl rfl rfl ?_
  repeat' (first|refine vs (k:=?_)|(refine stA hs (k:=?_);intro w hs)|(refine al hs (k:=?_);intro b w hz hs)|(refine bx hs (k:=?_);intro b w hz hs)|refine qRg ?_|refine Nx.h ?_|(refine xc_cond rfl (fun hc=>?_) (fun hc=>?_))|fail)
  · first | refine rt (hq:=?_) | refine rt' (hq:=?_)
    refine ⟨?_,hs.only0 rfl⟩
    refine tell_no ?_
    simp [cellEq] at hc
    unfold InW
    omega
  · (with_reducible apply xs_call);exact rfl;exact rfl;exact flip_ret x hx' _
    rintro v w' ⟨rfl,ho⟩
    replace hs:=hs.call0 ho
    repeat' (first|refine vs (k:=?_)|(refine stA hs (k:=?_);intro w hs)|refine Nx.h ?_|fail)
    first | refine rt (hq:=?_) | refine rt' (hq:=?_)
    refine ⟨?_,hs.only0 rfl⟩
    simp [cellEq] at hc
    unfold negW
    rw [if_neg (by omega)]
    refine tell_ok ?_ rfl rfl
    unfold InW
    omega
end Go.Proofs.YtalffooghioekaaGreatDoorX

namespace Go.Proofs.YtalffooghioekaaGreatDoorX
open Go Go.RowKit
attribute [local irreducible] XS XC XA thenE blockE retE loopE loopS cutB cutN doneE SE
theorem split32 (x:Int):x=x / 4294967296*4294967296+x % 4294967296:=by omega
theorem mul_bound {a b m:Int} (ha:0≤a) (ha':a≤m) (hb:0≤b) (hb':b≤m):0≤a*b∧a*b≤m*m :=
  ⟨Int.mul_nonneg ha hb,Int.mul_le_mul ha' hb' hb (Int.le_trans ha ha')⟩
theorem pairU_ok {a b c d:Int} (h1:a=c) (h2:b=d):packed [Value.int .u64 a,.int .u64 b] = .tuple #[.int .u64 c,.int .u64 d]:=by rw [h1,h2];rfl
set_option maxHeartbeats 400000 in
theorem mul64_ret (x y:Int) (hx0:0≤x) (hx1:x < 18446744073709551616) (hy0:0≤y) (hy1:y < 18446744073709551616) (w0:World) :
    Ret Tryz.prog 151 #[.int .u64 x,.int .u64 y] w0 fun v w'=>v = .tuple #[.int .u64 (x*y / 18446744073709551616),.int .u64 (x*y % 18446744073709551616)]∧Only [] w0 w':=by
  have hs:=St.nil w0
  refine ret_of_xc Tryz.func151 (by kernel_rfl) rfl Tryz.ntmps151 rfl rfl rfl ?_
  repeat' (first|refine vs (k:=?_)|refine qRg ?_|refine Nx.h ?_|fail)
  first | refine rt (hq:=?_) | refine rt' (hq:=?_)
  refine ⟨?_,hs.only0 rfl⟩
  clear hs
  have h1:=split32 x
  have h2:=split32 y
  have a0:=Int.emod_nonneg x (show (4294967296:Int)≠0 by decide)
  have a0':=Int.emod_lt_of_pos x (show (0:Int) < 4294967296 by decide)
  have b0:=Int.emod_nonneg y (show (4294967296:Int)≠0 by decide)
  have b0':=Int.emod_lt_of_pos y (show (0:Int) < 4294967296 by decide)
  have a1:0≤x / 4294967296∧x / 4294967296≤4294967295:=by omega
  have b1:0≤y / 4294967296∧y / 4294967296≤4294967295:=by omega
  simp only [wrap_u64]
  generalize x / 4294967296=p at *
  generalize x % 4294967296=q at *
  generalize y / 4294967296=r at *
  generalize y % 4294967296=s at *
  have key:x*y=p*r*18446744073709551616+(p*s+q*r)*4294967296+q*s:=by grind
  have k1:=mul_bound a1.1 a1.2 b1.1 b1.2
  have k2:=mul_bound a1.1 a1.2 b0 (show s≤4294967295 by omega)
  have k3:=mul_bound a0 (show q≤4294967295 by omega) b1.1 b1.2
  have k4:=mul_bound a0 (show q≤4294967295 by omega) b0 (show s≤4294967295 by omega)
  generalize x*y=z at *
  generalize p*r=e1 at *
  generalize p*s=e2 at *
  generalize q*r=e3 at *
  generalize q*s=e4 at *
  clear h1 h2 a0 a0' b0 b0' a1 b1 hx0 hx1 hy0 hy1
  refine pairU_ok ?_ ?_ <;> omega
def sgn (s:Int):Int:=if s < 170141183460469231731687303715884105728 then s else s - 340282366920938463463374607431768211456
theorem sgn_in {s:Int} (h0:0≤s) (h1:s < 340282366920938463463374607431768211456):InW (sgn s):=by unfold sgn InW;split <;> omega
theorem agg_sgn {s hi lo:Int} (h0:0≤s) (h1:s < 340282366920938463463374607431768211456) (h2:hi=s / 18446744073709551616) (h3:lo=s % 18446744073709551616):Value.agg #[.int .i64 (IntKind.i64.wrap hi),.int .u64 lo]=wv (sgn s):=by
  subst h2 h3
  simp only [wrap_i64]
  unfold sgn
  split <;> refine agg_ok ?_ ?_ <;> omega
theorem flip_of {v:Value} {x:Int} (hv:v=wv x) (hx:InW x) (w0:World):Ret Tryz.prog 102 #[v] w0 fun v w'=>v=wv (negW x)∧Only [] w0 w':=by subst hv;exact flip_ret x hx w0
theorem signed_ret (s:Int) (h0:0≤s) (h1:s < 340282366920938463463374607431768211456) (neg:Bool) (w0:World) :
    Ret Tryz.prog 152 #[.int .u64 (s / 18446744073709551616),.int .u64 (s % 18446744073709551616),.bool neg] w0 fun v w'=>v=tellV (bif neg then -s else s)∧Only [] w0 w':=by
  have hs:=St.nil w0
  cases neg
  · refine ret_of_xc Tryz.func152 (by kernel_rfl) rfl Tryz.ntmps152 rfl rfl rfl ?_
    repeat' (first|refine vs (k:=?_)|refine ps (k:=?_)|(refine stA hs (k:=?_);intro w hs)|(refine al hs (k:=?_);intro b w hz hs)|refine qRg ?_|refine Nx.h ?_|refine qCf ?_|(refine xc_if rfl (fun hc=>?_) (fun hc=>?_))|fail)
    all_goals (first | refine rt (hq:=?_) | refine rt' (hq:=?_))
    all_goals refine ⟨?_,hs.only0 rfl⟩
    all_goals clear hs
    all_goals simp only [wrap_i64,cond_false]
    · refine tell_ok ?_ ?_ ?_
      all_goals (try unfold InW)
      all_goals omega
    · refine tell_no ?_
      unfold InW
      omega
  · refine ret_of_xc Tryz.func152 (by kernel_rfl) rfl Tryz.ntmps152 rfl rfl rfl ?_
    repeat' (first|refine vs (k:=?_)|refine ps (k:=?_)|(refine stA hs (k:=?_);intro w hs)|(refine al hs (k:=?_);intro b w hz hs)|refine qRg ?_|refine Nx.h ?_|refine qCt ?_|refine qCf ?_|((with_reducible apply xs_guard);exact rfl;exact rfl;intro c hc;(fail_if_success have:true=c:=hc);(fail_if_success have:false=c:=hc);cases c)|(refine xc_if rfl (fun hc=>?_) (fun hc=>?_))|fail)
    all_goals try ((with_reducible apply xs_call);exact rfl;exact rfl;exact flip_of (agg_sgn h0 h1 rfl rfl) (sgn_in h0 h1) _;rintro v w' ⟨rfl,ho⟩;replace hs:=hs.call0 ho;repeat' (first|refine vs (k:=?_)|(refine stA hs (k:=?_);intro w hs)|refine Nx.h ?_|fail))
    all_goals (first | refine rt (hq:=?_) | refine rt' (hq:=?_))
    all_goals refine ⟨?_,hs.only0 rfl⟩
    all_goals clear hs
    all_goals simp only [cond_true,negW,sgn]
    all_goals simp at *
    all_goals first
      | (refine tell_no ?_;unfold InW;omega)
      | (refine tell_ok ?_ ?_ ?_ <;> (try unfold InW) <;> (try split) <;> (try split) <;> omega)
theorem cmp_ret (x y:Int) (hx:InW x) (hy:InW y) (w0:World):Ret Tryz.prog 49 #[wv x,wv y] w0 fun v w'=>v = .int .i64 (cmpI x y)∧Only [] w0 w':=by
  obtain ⟨hx1,hx2⟩:=hx
  obtain ⟨hy1,hy2⟩:=hy
  have hs:=St.nil w0
  refine ret_of_xc Tryz.func49 (by kernel_rfl) rfl Tryz.ntmps49 rfl rfl rfl ?_
  repeat' (first|refine vs (k:=?_)|(refine bx hs (k:=?_);intro b w hz hs)|refine qRg ?_|refine Nx.h ?_|fail)
  refine dr [] hs (k:=?_);intro hX w hs
  refine tk 0 hX (k:=?_)
  refine tk 1 hX (k:=?_)
  refine tk 2 hX (k:=?_)
  refine tk 3 hX (k:=?_)
  refine tk 5 hX (k:=?_)
  refine tk 6 hX (k:=?_)
  refine tk 7 hX (k:=?_)
  refine tk 8 hX (k:=?_)
  refine dt 4 hX (k:=?_)
  (with_reducible apply xs_call);exact rfl;exact rfl;exact compareS_ret _ _ _
  rintro v w' ⟨rfl,ho⟩;replace hs:=hs.call0 ho
  repeat' (first|refine Nx.h ?_|fail)
  refine dn (k:=?_)
  refine dt 9 hX (k:=?_)
  (with_reducible apply xs_call);exact rfl;exact rfl;exact compareU_ret _ _ _
  rintro v w' ⟨rfl,ho⟩;replace hs:=hs.call0 ho
  repeat' (first|refine Nx.h ?_|fail)
  refine dn (k:=?_)
  refine dt 10 hX (k:=?_)
  repeat' (first|(refine bs hs (k:=?_);intro b w hz hs)|refine Nx.h ?_|fail)
  refine dn (k:=?_)
  refine dt 11 hX (k:=?_)
  (with_reducible apply xs_call);exact rfl;exact rfl;exact or_ret _ _ _ _ _ (hs.get At.head)
  rintro v w' ⟨rfl,ho⟩;replace hs:=hs.call0 ho
  repeat' (first|refine Nx.h ?_|fail)
  refine dn (k:=?_)
  refine tk 12 hX (k:=?_)
  refine en (k:=?_)
  repeat' (first|refine Nx.h ?_|fail)
  first | refine rt (hq:=?_) | refine rt' (hq:=?_)
  refine ⟨?_,hs.only0 rfl⟩
  clear hs
  have:(if cmpI (x / 18446744073709551616) (y / 18446744073709551616)=0 then cmpI (x % 18446744073709551616) (y % 18446744073709551616) else cmpI (x / 18446744073709551616) (y / 18446744073709551616))=cmpI x y:=by
    unfold cmpI
    repeat' split
    all_goals omega
  rw [this]
  rfl
theorem sign_ret (x:Int) (hx:InW x) (w0:World):Ret Tryz.prog 46 #[wv x] w0 fun v w'=>v = .int .i64 (cmpI x 0)∧Only [] w0 w':=by
  have hs:=St.nil w0
  refine ret_of_xc Tryz.func46 (by kernel_rfl) rfl Tryz.ntmps46 rfl rfl rfl ?_
  repeat' (first|refine vs (k:=?_)|(refine bx hs (k:=?_);intro b w hz hs)|refine qRg ?_|refine Nx.h ?_|fail)
  (with_reducible apply xs_call);exact rfl;exact rfl;exact cmp_ret x 0 hx (by decide) _
  rintro v w' ⟨rfl,ho⟩;replace hs:=hs.call0 ho
  repeat' (first|refine vs (k:=?_)|refine Nx.h ?_|fail)
  first | refine rt (hq:=?_) | refine rt' (hq:=?_)
  exact ⟨rfl,hs.only0 rfl⟩
def Abs (x X:Int):Prop:=0≤X∧(x < 0∧x=-X∨0≤x∧x=X)
theorem abs_ex (x:Int):∃ X,Abs x X:=by
  rcases Int.lt_or_le x 0 with h | h
  · exact ⟨-x,by omega,.inl (by omega)⟩
  · exact ⟨x,by omega,.inr (by omega)⟩
theorem size_of {x X:Int} (hx:InW x) (h:Abs x X) (w0:World):Ret Tryz.prog 150 #[wv x] w0 fun v w'=>v = .tuple #[.int .u64 (X / 18446744073709551616),.int .u64 (X % 18446744073709551616)]∧Only [] w0 w':=by
  have:=size_ret x hx w0
  unfold sizeV at this
  have e:(if x < 0 then -x else x)=X:=by obtain ⟨h1,h2⟩:=h;split <;> omega
  rw [e] at this
  exact this
theorem signed_of {hi lo:Int} (s:Int) (h0:0≤s) (h1:s < 340282366920938463463374607431768211456) (h2:hi=s / 18446744073709551616) (h3:lo=s % 18446744073709551616) (neg:Bool) (w0:World) :
    Ret Tryz.prog 152 #[.int .u64 hi,.int .u64 lo,.bool neg] w0 fun v w'=>v=tellV (bif neg then -s else s)∧Only [] w0 w':=by subst h2 h3;exact signed_ret s h0 h1 neg w0
theorem tellV_shape (s:Int):∃ t b,tellV s = .tuple #[wv t,.bool b]∧packed [wv t,.bool b]=tellV s:=by
  unfold tellV
  split
  · exact ⟨_,_,rfl,rfl⟩
  · exact ⟨_,_,rfl,rfl⟩
set_option maxHeartbeats 400000 in
theorem mul_ret (x n:Int) (hx:InW x) (hn0:-9223372036854775808≤n) (hn1:n < 9223372036854775808) (w0:World):Ret Tryz.prog 101 #[wv x,.int .i64 n] w0 fun v w'=>v=tellV (x*n)∧Only [] w0 w':=by
  have hx':=hx
  obtain ⟨hx1,hx2⟩:=hx
  have hs:=St.nil w0
  obtain ⟨X,hX⟩:=abs_ex x
  obtain ⟨N,hN⟩:=abs_ex n
  have hX0:=hX
  have hN0:=hN
  obtain ⟨hX1,hX2⟩:=hX
  obtain ⟨hN1,hN2⟩:=hN
  have hNN:N % 18446744073709551616=N:=by omega
  have b1:=mul_bound (a:=X / 18446744073709551616) (b:=N) (m:=9223372036854775808) (by omega) (by omega) (by omega) (by omega)
  have b2:0≤X % 18446744073709551616*N∧X % 18446744073709551616*N≤18446744073709551615*9223372036854775808:=⟨Int.mul_nonneg (by omega) (by omega),Int.mul_le_mul (by omega) (by omega) (by omega) (by omega)⟩
  refine ret_of_xc Tryz.func101 (by kernel_rfl) rfl Tryz.ntmps101 rfl rfl rfl ?_
  repeat' (first|refine vs (k:=?_)|(refine al hs (k:=?_);intro b w hz hs)|(refine bx hs (k:=?_);intro b w hz hs)|refine qRg ?_|refine Nx.h ?_|fail)
  (with_reducible apply xs_call);exact rfl;exact rfl;exact size_of hx' hX0 _
  rintro v w' ⟨rfl,ho⟩;replace hs:=hs.call0 ho
  repeat' (first|refine vs (k:=?_)|refine qRg ?_|refine Nx.h ?_|fail)
  (with_reducible apply xs_call);exact rfl;exact rfl;exact of_ret n hn0 hn1 _
  rintro v w' ⟨rfl,ho⟩;replace hs:=hs.call0 ho
  skip
  (with_reducible apply xs_call);exact rfl;exact rfl;exact size_of (by unfold InW;omega) hN0 _
  rintro v w' ⟨rfl,ho⟩;replace hs:=hs.call0 ho
  rw [hNN]
  repeat' (first|refine vs (k:=?_)|refine qRg ?_|refine Nx.h ?_|fail)
  (with_reducible apply xs_call);exact rfl;exact rfl;exact mul64_ret _ _ (by omega) (by omega) (by omega) (by omega) _
  rintro v w' ⟨rfl,ho⟩;replace hs:=hs.call0 ho
  repeat' (first|refine vs (k:=?_)|refine qRg ?_|refine Nx.h ?_|fail)
  (with_reducible apply xs_call);exact rfl;exact rfl;exact mul64_ret _ _ (by omega) (by omega) (by omega) (by omega) _
  rintro v w' ⟨rfl,ho⟩;replace hs:=hs.call0 ho
  repeat' (first|refine vs (k:=?_)|refine qRg ?_|refine Nx.h ?_|fail)
  (with_reducible apply xs_call);exact rfl;exact rfl;exact add64_ret _ _ _ (by omega) (by omega) (by omega) (by omega) _
  rintro v w' ⟨rfl,rfl⟩
  have key:X*N=X / 18446744073709551616*N*18446744073709551616+X % 18446744073709551616*N:=by
    have:X=X / 18446744073709551616*18446744073709551616+X % 18446744073709551616:=by omega
    generalize X / 18446744073709551616=p at *
    generalize X % 18446744073709551616=q at *
    grind
  have hneg:x*n=(bif (decide (x / 18446744073709551616 < 0) != decide (n < 0)) then -(X*N) else X*N):=by
    rcases hX2 with ⟨h1,h2⟩ | ⟨h1,h2⟩ <;> rcases hN2 with ⟨h3,h4⟩ | ⟨h3,h4⟩
    · rw [decide_eq_true (show x / 18446744073709551616 < 0 by omega),decide_eq_true h3,h2,h4];simp [Int.neg_mul,Int.mul_neg]
    · rw [decide_eq_true (show x / 18446744073709551616 < 0 by omega),decide_eq_false (show ¬ n < 0 by omega),h2,h4];simp [Int.neg_mul,Int.mul_neg]
    · rw [decide_eq_false (show ¬ x / 18446744073709551616 < 0 by omega),decide_eq_true h3,h2,h4];simp [Int.neg_mul,Int.mul_neg]
    · rw [decide_eq_false (show ¬ x / 18446744073709551616 < 0 by omega),decide_eq_false (show ¬ n < 0 by omega),h2,h4];simp [Int.neg_mul,Int.mul_neg]
  generalize X / 18446744073709551616*N=p1 at *
  generalize X % 18446744073709551616*N=p2 at *
  repeat' (first|refine vs (k:=?_)|refine ps (k:=?_)|(refine stA hs (k:=?_);intro w hs)|refine qRg ?_|refine Nx.h ?_|refine qCt ?_|((with_reducible apply xs_guard);exact rfl;exact rfl;intro c hc;(fail_if_success have:true=c:=hc);(fail_if_success have:false=c:=hc);cases c)|(refine xc_cond rfl (fun hc=>?_) (fun hc=>?_))|fail)
  all_goals simp only [bne_iff_ne,ne_eq,bne_eq_false_iff_eq] at *
  · first | refine rt (hq:=?_) | refine rt' (hq:=?_)
    refine ⟨?_,hs.only0 rfl⟩
    clear hs
    refine tell_no ?_
    rw [hneg]
    unfold InW
    cases (decide (x / 18446744073709551616 < 0) != decide (n < 0)) <;> simp only [cond_true,cond_false] <;> omega
  · (with_reducible apply xs_call);exact rfl;exact rfl;exact signed_of (X*N) (by omega) (by omega) (by omega) (by omega) _ _
    rintro v w' ⟨rfl,ho⟩;replace hs:=hs.call0 ho
    obtain ⟨t,b',e1,e2⟩:=tellV_shape (bif decide (x / 18446744073709551616 < 0) != decide (n < 0) then -(X*N) else X*N)
    rw [e1]
    repeat' (first|refine vs (k:=?_)|(refine stA hs (k:=?_);intro w hs)|refine Nx.h ?_|fail)
    first | refine rt (hq:=?_) | refine rt' (hq:=?_)
    exact ⟨e2.trans (by rw [hneg]),hs.only0 rfl⟩
  · first | refine rt (hq:=?_) | refine rt' (hq:=?_)
    refine ⟨?_,hs.only0 rfl⟩
    clear hs
    refine tell_no ?_
    rw [hneg]
    unfold InW
    cases (decide (x / 18446744073709551616 < 0) != decide (n < 0)) <;> simp only [cond_true,cond_false] <;> omega
end Go.Proofs.YtalffooghioekaaGreatDoorX

namespace Go.Proofs.YtalffooghioekaaGreatDoorX
structure Kd (u v c d y q r:Int):Prop where
  sum:q*c+r=u
  q0:0≤q
  q1:q≤4294967297
  r0:0≤r
  r1:r < 4294967296
  up:u*4294967296+v < (q+1)*y
structure KdOk (u v c d y:Int):Prop where
  y_eq:y=c*4294967296+d
  c0:2147483648≤c
  c1:c < 4294967296
  d0:0≤d
  d1:d < 4294967296
  u0:0≤u
  u1:u < y
  v0:0≤v
  v1:v < 4294967296
def KdFin (u v y q:Int):Prop:=0≤q∧q*y≤u*4294967296+v∧u*4294967296+v < (q+1)*y
variable {u v c d y q r : Int}
theorem kd_init (h:KdOk u v c d y):Kd u v c d y (u / c) (u - u / c*c):=by
  obtain ⟨hy,c0,c1,d0,d1,u0,u1,v0,v1⟩:=h
  have hm:=Int.mul_ediv_add_emod u c
  have h1:=Int.emod_nonneg u (show c≠0 by omega)
  have h2:=Int.emod_lt_of_pos u (show 0 < c by omega)
  have h3:0≤u / c:=Int.ediv_nonneg u0 (by omega)
  have h4:u / c*c=c*(u / c):=Int.mul_comm _ _
  generalize u / c=q at *
  generalize u % c=m at *
  have hq:q≤4294967297:=by
    rcases Int.lt_or_le q 4294967298 with h | h
    · omega
    · have:c*4294967298≤c*q:=Int.mul_le_mul_of_nonneg_left h (by omega)
      omega
  refine ⟨by omega,h3,hq,by omega,by omega,?_⟩
  have e:(q+1)*y=(c*q+c)*4294967296+(q+1)*d:=by subst hy;grind
  have:0≤(q+1)*d:=Int.mul_nonneg (by omega) d0
  omega
theorem kd_stop (h:KdOk u v c d y) (k:Kd u v c d y q r) (h2:q*d≤4294967296*r+v):KdFin u v y q:=by
  obtain ⟨hy,c0,c1,d0,d1,u0,u1,v0,v1⟩:=h
  obtain ⟨s,q0,q1,r0,r1,up⟩:=k
  have e:q*y=q*c*4294967296+q*d:=by subst hy;grind
  exact ⟨q0,by omega,up⟩
theorem kd_step (h:KdOk u v c d y) (k:Kd u v c d y q r) (h2:4294967296≤q∨4294967296*r+v < q*d) :
    1≤q∧(r+c < 4294967296→Kd u v c d y (q - 1) (r+c))∧(4294967296≤r+c→KdFin u v y (q - 1)):=by
  obtain ⟨hy,c0,c1,d0,d1,u0,u1,v0,v1⟩:=h
  obtain ⟨s,q0,q1,r0,r1,up⟩:=k
  have hq:1≤q:=by
    rcases h2 with h2 | h2
    · omega
    · rcases Int.lt_or_le q 1 with h | h
      · have:q=0:=by omega
        subst this;omega
      · exact h
  have e:q*y=q*c*4294967296+q*d:=by subst hy;grind
  have hup:u*4294967296+v < q*y:=by
    rcases h2 with h2 | h2
    · have:4294967296*y≤q*y:=Int.mul_le_mul_of_nonneg_right h2 (by omega)
      omega
    · omega
  have e1:(q - 1)*c+(r+c)=u:=by rw [Int.sub_mul];omega
  refine ⟨hq,fun hr=>⟨e1,by omega,by omega,by omega,hr,by rw [show q - 1+1=q by omega];exact hup⟩,fun hr=>⟨by omega,?_,by rw [show q - 1+1=q by omega];exact hup⟩⟩
  have e2:(q - 1)*y=(q - 1)*c*4294967296+(q - 1)*d:=by subst hy;grind
  have:(q - 1)*d≤4294967296*4294967295:=Int.mul_le_mul (by omega) (by omega) d0 (by omega)
  omega
theorem kd_fin (h:KdOk u v c d y) (k:KdFin u v y q):q=(u*4294967296+v) / y∧q < 4294967296∧u*4294967296+v - q*y=(u*4294967296+v) % y∧0≤u*4294967296+v - q*y∧u*4294967296+v - q*y < y:=by
  obtain ⟨hy,c0,c1,d0,d1,u0,u1,v0,v1⟩:=h
  obtain ⟨q0,k1,k2⟩:=k
  have hy0:0 < y:=by omega
  have e:(q+1)*y=q*y+y:=by rw [Int.add_mul,Int.one_mul]
  have h1:0≤u*4294967296+v - q*y:=by omega
  have h2:u*4294967296+v - q*y < y:=by omega
  have hq:q=(u*4294967296+v) / y:=by
    have:u*4294967296+v=(u*4294967296+v - q*y)+q*y:=by omega
    rw [this,Int.add_mul_ediv_right _ _ (by omega),Int.ediv_eq_zero_of_lt h1 h2];omega
  refine ⟨hq,?_,?_,h1,h2⟩
  · rcases Int.lt_or_le q 4294967296 with h | h
    · exact h
    · have:4294967296*y≤q*y:=Int.mul_le_mul_of_nonneg_right h (by omega)
      omega
  · have:=Int.mul_ediv_add_emod (u*4294967296+v) y
    rw [← hq,Int.mul_comm] at this
    omega
theorem kd_end {T y P Y Q R:Int} (hP:0 < P) (hy:0 < y) (hY:y*P=Y) (h:T*P=Q*Y+R) (h0:0≤R) (h1:R < Y):Q=T / y∧R / P=T % y:=by
  subst hY
  have h2:R=(T - Q*y)*P:=by grind
  have h3:R / P=T - Q*y:=by rw [h2,Int.mul_ediv_cancel _ (by omega)]
  have h4:0≤T - Q*y:=by rw [← h3];exact Int.ediv_nonneg h0 (by omega)
  have h5:T - Q*y < y:=by
    rw [h2] at h1
    exact Int.lt_of_mul_lt_mul_right h1 (by omega)
  have hq:Q=T / y:=by
    have:T=(T - Q*y)+Q*y:=by omega
    rw [this,Int.add_mul_ediv_right _ _ (by omega),Int.ediv_eq_zero_of_lt h4 h5];omega
  refine ⟨hq,?_⟩
  rw [h3,hq]
  have:=Int.mul_ediv_add_emod T y
  rw [Int.mul_comm] at this
  omega
theorem kd_open {hi lo y P Q:Int} (hP:0 < P) (hQ:0 < Q) (hPQ:P*Q=18446744073709551616) (h0:0≤hi) (h1:hi < y) (h2:0≤lo) (h3:lo < 18446744073709551616) :
    0≤lo / Q∧lo / Q < P∧hi*P+lo / Q < y*P∧(hi*18446744073709551616+lo)*P=(hi*P+lo / Q)*18446744073709551616+lo*P % 18446744073709551616:=by
  have e1:=Int.mul_ediv_add_emod lo Q
  have e2:=Int.emod_nonneg lo (show Q≠0 by omega)
  have e3:=Int.emod_lt_of_pos lo hQ
  have e4:0≤lo / Q:=Int.ediv_nonneg h2 (by omega)
  have e5:lo / Q < P:=by rw [Int.ediv_lt_iff_lt_mul hQ,hPQ];exact h3
  have e6:hi*P+P≤y*P:=by
    have:(hi+1)*P≤y*P:=Int.mul_le_mul_of_nonneg_right (by omega) (by omega)
    rw [Int.add_mul,Int.one_mul] at this
    exact this
  refine ⟨e4,e5,by omega,?_⟩
  have e7:lo*P=lo / Q*18446744073709551616+lo % Q*P:=by
    generalize lo / Q=B at *
    generalize lo % Q=C at *
    rw [← hPQ,← e1];grind
  have e8:lo % Q*P < 18446744073709551616:=by
    have:=Int.mul_lt_mul_of_pos_right e3 hP
    rw [Int.mul_comm Q P,hPQ] at this
    exact this
  have e9:0≤lo % Q*P:=Int.mul_nonneg e2 (by omega)
  have e10:(hi*18446744073709551616+lo)*P=hi*P*18446744073709551616+lo*P:=by grind
  rw [e10,e7]
  generalize lo / Q=B at *
  generalize lo % Q*P=C at *
  generalize hi*P=A at *
  omega
/-! ### Bits -/
def len8 (k:Nat):Nat:=if k=0 then 0 else Nat.log2 k+1
set_option maxRecDepth 100000 in
theorem len8_ok:∀ k < 256,k < 2 ^ len8 k∧(0 < k→2 ^ len8 k≤2*k)∧len8 k≤8:=by decide
def BitLen (x L:Int) (m:Nat):Prop:=∃ l:Nat,L=l∧l≤m∧x < 2 ^ l∧(0 < x→(2:Int) ^ l≤2*x)
theorem bl_8 {x:Int} (h0:0≤x) (h1:x < 256):BitLen x ((len8 x.toNat:Nat):Int) 8:=by
  obtain ⟨n,rfl⟩:=Int.eq_ofNat_of_zero_le h0
  obtain ⟨h2,h3,h4⟩:=len8_ok n (by omega)
  refine ⟨_,rfl,h4,?_,fun h=>?_⟩
  · simpa using (by exact_mod_cast h2:((n:Nat):Int) < ((2 ^ len8 n:Nat):Int))
  · have:=h3 (by omega)
    simpa using (by exact_mod_cast this:((2 ^ len8 n:Nat):Int)≤((2*n:Nat):Int))
theorem bl_shift {x L:Int} {m:Nat} (k:Nat) {p:Int} (hp:(2:Int) ^ k=p) (h:BitLen (x / p) L m) (hx:0 < x / p):BitLen x (L+k) (m+k):=by
  obtain ⟨l,rfl,h1,h2,h3⟩:=h
  have hp0:0 < p:=by rw [← hp];exact Int.pow_pos (by decide)
  have h3:=h3 hx
  have hx0:0 < x:=by
    rcases Int.lt_or_le 0 x with h | h
    · exact h
    · have:=Int.ediv_le_ediv hp0 h
      simp at this
      omega
  refine ⟨l+k,by simp,by omega,?_,fun _=>?_⟩
  · rw [Int.pow_add,hp]
    exact (Int.ediv_lt_iff_lt_mul hp0).1 h2
  · rw [Int.pow_add,hp]
    have h5:=Int.mul_ediv_add_emod x p
    have h6:=Int.emod_nonneg x (show p≠0 by omega)
    have h7:(2:Int) ^ l*p≤2*(x / p)*p:=Int.mul_le_mul_of_nonneg_right h3 (by omega)
    have h8:2*(x / p)*p=2*(p*(x / p)):=by grind
    omega
theorem BitLen.mono {x L:Int} {m m':Nat} (h:BitLen x L m) (hm:m≤m'):BitLen x L m':=by
  obtain ⟨l,h0,h1,h2⟩:=h
  exact ⟨l,h0,by omega,h2⟩
end Go.Proofs.YtalffooghioekaaGreatDoorX

namespace Go.Proofs.YtalffooghioekaaGreatDoorX
open Go Go.RowKit
attribute [local irreducible] XS XC XA thenE blockE retE loopE loopS cutB cutN doneE SE
theorem wrap_u8 (n:Int):IntKind.u8.wrap n=n % 256:=by simp [IntKind.wrap,IntKind.signed,IntKind.bits]
theorem len64_end {x X c:Int} (k:Nat) (p:Int) (hk:k≤56) (hp:(2:Int) ^ k=p) (hc:c=k) (hX:X=x / p) (h:k=0∨0 < X) (h0:0≤X) (h1:X < 256) :
    ∃ L,packed [Value.int .i64 (IntKind.i64.wrap (c+IntKind.i64.wrap ((len8 (IntKind.u8.wrap X).toNat:Nat):Int)))] = .int .i64 L∧BitLen x L 64:=by
  have e1:IntKind.u8.wrap X=X:=by rw [wrap_u8];omega
  have hb:=bl_8 h0 h1
  have hl:len8 X.toNat≤8:=(len8_ok X.toNat (by omega)).2.2
  refine ⟨len8 X.toNat+k,?_,?_⟩
  · rw [e1]
    simp only [wrap_i64,packed]
    congr 1
    omega
  · rcases h with h | h
    · subst h
      have:X=x:=by rw [hX,← hp];simp
      subst this
      simpa using hb.mono (show 8≤64 by decide)
    · subst hX
      exact (bl_shift k hp hb h).mono (by omega)
theorem len64_ret (x:Int) (hx0:0≤x) (hx1:x < 18446744073709551616) (w0:World):Ret Tryz.prog 201 #[.int .u64 x] w0 fun v w'=>(∃ L,v = .int .i64 L∧BitLen x L 64)∧Only [] w0 w':=by
  have hs:=St.nil w0
  refine ret_of_xc Tryz.func201 (by kernel_rfl) rfl Tryz.ntmps201 rfl rfl rfl ?_
  repeat' (first|refine vs (k:=?_)|refine qRg ?_|refine Nx.h ?_|(refine xc_if rfl (fun hc=>?_) (fun hc=>?_))|fail)
  all_goals (have hs:=hs;(with_reducible apply xs_val);exact rfl;(with_reducible apply r_indexT tabOk 256 len8);exact rfl;exact rfl;exact rfl;kernel_rfl;(rw [wrap_u8];omega);(rw [wrap_u8];omega))
  all_goals (repeat' (first|refine vs (k:=?_)|refine Nx.h ?_|fail))
  all_goals (first | refine rt (hq:=?_) | refine rt' (hq:=?_))
  all_goals refine ⟨?_,hs.only0 rfl⟩
  all_goals clear hs
  all_goals try simp only [decide_eq_true_eq,decide_eq_false_iff_not] at *
  all_goals first | exact len64_end 56 72057594037927936 (by decide) (by decide) (by rfl) (by omega) (by omega) (by omega) (by omega) | exact len64_end 48 281474976710656 (by decide) (by decide) (by rfl) (by omega) (by omega) (by omega) (by omega) | exact len64_end 40 1099511627776 (by decide) (by decide) (by rfl) (by omega) (by omega) (by omega) (by omega) | exact len64_end 32 4294967296 (by decide) (by decide) (by rfl) (by omega) (by omega) (by omega) (by omega) | exact len64_end 24 16777216 (by decide) (by decide) (by rfl) (by omega) (by omega) (by omega) (by omega) | exact len64_end 16 65536 (by decide) (by decide) (by rfl) (by omega) (by omega) (by omega) (by omega) | exact len64_end 8 256 (by decide) (by decide) (by rfl) (by omega) (by omega) (by omega) (by omega) | exact len64_end 0 1 (by decide) (by decide) (by rfl) (by omega) (by omega) (by omega) (by omega)
theorem lz64_ret (x:Int) (hx0:0 < x) (hx1:x < 18446744073709551616) (w0:World):Ret Tryz.prog 202 #[.int .u64 x] w0 fun v w'=>(∃ s:Nat,v = .int .i64 (s:Nat)∧s≤63∧x*2 ^ s < 18446744073709551616∧9223372036854775808≤x*2 ^ s)∧Only [] w0 w':=by
  have hs:=St.nil w0
  refine ret_of_xc Tryz.func202 (by kernel_rfl) rfl Tryz.ntmps202 rfl rfl rfl ?_
  repeat' (first|refine vs (k:=?_)|refine qRg ?_|refine Nx.h ?_|fail)
  (with_reducible apply xs_call);exact rfl;exact rfl;exact len64_ret x (by omega) hx1 _
  rintro v w' ⟨⟨L,rfl,hL⟩,ho⟩;replace hs:=hs.call0 ho
  repeat' (first|refine vs (k:=?_)|refine Nx.h ?_|fail)
  first | refine rt (hq:=?_) | refine rt' (hq:=?_)
  refine ⟨?_,hs.only0 rfl⟩
  obtain ⟨l,rfl,h1,h2,h3⟩:=hL
  have h3:=h3 hx0
  have hl:1≤l:=by
    rcases Nat.eq_zero_or_pos l with h | h
    · subst h;simp at h2;omega
    · exact h
  have hp:(2:Int) ^ l*2 ^ (64 - l)=18446744073709551616:=by
    rw [← Int.pow_add,show l+(64 - l)=64 by omega];rfl
  refine ⟨64 - l,?_,by omega,?_,?_⟩
  · simp only [packed,wrap_i64]
    congr 1
    omega
  · have:=Int.mul_lt_mul_of_pos_right h2 (show (0:Int) < 2 ^ (64 - l) from Int.pow_pos (by decide))
    omega
  · have:(2:Int) ^ l*2 ^ (64 - l)≤2*x*2 ^ (64 - l):=Int.mul_le_mul_of_nonneg_right h3 (Int.le_of_lt (Int.pow_pos (by decide)))
    rw [hp,Int.mul_assoc] at this
    omega
/-! ### Div64 -/
theorem kd_cond {q r v d:Int} (e1:IntKind.u64.wrap (4294967296*r)=4294967296*r) (e2:IntKind.u64.wrap (4294967296*r+v)=4294967296*r+v) (e4:q < 4294967296→IntKind.u64.wrap (q*d)=q*d)
    (h1:decide (4294967296≤q)=false) (h2:IntKind.u64.wrap (IntKind.u64.wrap (4294967296*r)+v) < IntKind.u64.wrap (q*d)):4294967296≤q∨4294967296*r+v < q*d:=by
  have:=of_decide_eq_false h1
  rw [e1,e2,e4 (by omega)] at h2
  exact .inr h2
theorem kd_ncond {q r v d:Int} (e1:IntKind.u64.wrap (4294967296*r)=4294967296*r) (e2:IntKind.u64.wrap (4294967296*r+v)=4294967296*r+v) (e4:q < 4294967296→IntKind.u64.wrap (q*d)=q*d)
    (h1:decide (4294967296≤q)=false) (h2:¬ IntKind.u64.wrap (IntKind.u64.wrap (4294967296*r)+v) < IntKind.u64.wrap (q*d)):q*d≤4294967296*r+v:=by
  have:=of_decide_eq_false h1
  rw [e1,e2,e4 (by omega)] at h2
  omega
set_option maxHeartbeats 1000000 in
theorem div64_ret (hi lo y:Int) (h0:0≤hi) (h1:hi < y) (h2:y < 18446744073709551616) (h3:0≤lo) (h4:lo < 18446744073709551616) (w0:World) :
    Ret Tryz.prog 163 #[.int .u64 hi,.int .u64 lo,.int .u64 y] w0 fun v w'=>v = .tuple #[.int .u64 ((hi*18446744073709551616+lo) / y),.int .u64 ((hi*18446744073709551616+lo) % y)]∧Only [] w0 w':=by
  have hs:=St.nil w0
  refine ret_of_xc Tryz.func163 (by kernel_rfl) rfl Tryz.ntmps163 rfl rfl rfl ?_
  repeat' (first|refine vs (k:=?_)|refine qRg ?_|refine Nx.h ?_|(refine xc_if rfl (fun hc=>?_) (fun hc=>?_))|fail)
  · omega
  · omega
  · refine dr [] hs (k:=?_);intro hX w hs
    refine tk 0 hX (k:=?_)
    refine tk 1 hX (k:=?_)
    refine tk 2 hX (k:=?_)
    refine tk 3 hX (k:=?_)
    refine tk 4 hX (k:=?_)
    refine tk 5 hX (k:=?_)
    refine tk 6 hX (k:=?_)
    refine tk 7 hX (k:=?_)
    refine en (k:=?_)
    repeat' (first|refine Nx.h ?_|fail)
    first | refine rt (hq:=?_) | refine rt' (hq:=?_)
    refine ⟨?_,hs.only0 rfl⟩
    have:hi=0:=by omega
    subst this
    refine pairU_ok ?_ ?_ <;> simp
  (with_reducible apply xs_call);exact rfl;exact rfl;exact lz64_ret y (by omega) h2 _
  rintro v w' ⟨⟨sh,rfl,hs1,hs2,hs3⟩,ho⟩;replace hs:=hs.call0 ho
  repeat' (first|refine vs (k:=?_)|refine qRg ?_|refine Nx.h ?_|fail)
  rw [wrap_small (show (0:Int)≤(sh:Nat) by omega) (by omega)]
  have hP:(0:Int) < 2 ^ sh:=Int.pow_pos (by decide)
  have hQ:(0:Int) < 2 ^ (64 - sh):=Int.pow_pos (by decide)
  have hPQ:(2:Int) ^ sh*2 ^ (64 - sh)=18446744073709551616:=by rw [← Int.pow_add,show sh+(64 - sh)=64 by omega];rfl
  obtain ⟨g1,g2,g3,g4⟩:=kd_open hP hQ hPQ h0 h1 h3 h4
  have hhi:0≤hi*2 ^ sh:=Int.mul_nonneg h0 (by omega)
  have hA:hi*2 ^ sh < 18446744073709551616:=by omega
  (with_reducible apply xs_valE);exact rfl;(with_reducible apply r_shlS sh);exact rfl;exact rfl;exact rfl;exact (by show sh≤64;omega);exact congrArg (Value.int .u64) (wrap_small (by omega) (by omega))
  generalize hY:y*2 ^ sh=Y at *
  repeat' (first|refine vs (k:=?_)|refine qRg ?_|refine Nx.h ?_|fail)
  (with_reducible apply xs_valE);exact rfl;(with_reducible apply r_shlS sh);exact rfl;exact rfl;exact rfl;exact (by show sh≤64;omega);exact congrArg (Value.int .u64) (wrap_small hhi hA)
  repeat' (first|refine vs (k:=?_)|fail)
  (with_reducible apply xs_val);exact rfl;(with_reducible apply r_shrS (64 - sh));exact rfl;exact rfl;exact (by rw [wrap_small (by omega) (by omega)];omega);exact (by show 64 - sh≤64;omega)
  (with_reducible apply xs_val);exact rfl;(with_reducible apply r_orS sh hi);exact rfl;exact rfl;exact rfl;exact h0;exact g1;exact g2;omega
  repeat' (first|refine vs (k:=?_)|refine qRg ?_|refine Nx.h ?_|fail)
  (with_reducible apply xs_valE);exact rfl;(with_reducible apply r_shlS sh);exact rfl;exact rfl;exact rfl;exact (by show sh≤64;omega);exact congrArg (Value.int .u64) (wrap_u64 _)
  have hL:0≤lo*2 ^ sh % 18446744073709551616∧lo*2 ^ sh % 18446744073709551616 < 18446744073709551616:=by omega
  have hu0:0≤hi*2 ^ sh+lo / 2 ^ (64 - sh):=by omega
  generalize hi*2 ^ sh+lo / 2 ^ (64 - sh)=u at *
  generalize lo*2 ^ sh % 18446744073709551616=L at *
  repeat' (first|refine vs (k:=?_)|refine qRg ?_|refine Nx.h ?_|fail)
  have hK:KdOk u (L / 4294967296) (Y / 4294967296) (Y % 4294967296) Y:=⟨by omega,by omega,by omega,by omega,by omega,hu0,g3,by omega,by omega⟩
  have kk:=kd_init hK
  have e1:IntKind.u64.wrap (u / (Y / 4294967296)*(Y / 4294967296))=u / (Y / 4294967296)*(Y / 4294967296):=by
    have:=Int.mul_nonneg kk.q0 (show 0≤Y / 4294967296 by omega)
    have:=kk.sum;have:=kk.r0
    exact wrap_small (by omega) (by omega)
  have e2:IntKind.u64.wrap (u - u / (Y / 4294967296)*(Y / 4294967296))=u - u / (Y / 4294967296)*(Y / 4294967296):=wrap_small kk.r0 (by have:=kk.r1;omega)
  rw [e1,e2]
  clear e1 e2 kk
  generalize hc':Y / 4294967296=c at *
  generalize hd':Y % 4294967296=d at *
  generalize hv1:L / 4294967296=v1 at *
  generalize hv0:L % 4294967296=v0 at *
  refine xc_cutB (fun (z:Int)=>[(2,.int .u64 Y),(8,.int .u64 ((sh:Nat):Int)),(9,.int .u64 c),(10,.int .u64 d),(11,.int .u64 u),(13,.int .u64 v1),(14,.int .u64 v0),(15,.int .u64 z)]) (fun z w=>KdFin u v1 Y z∧St w0 D0 [] w) ?_ ?_
  · refine xc_loopS (fun (s:Int × Int)=>[(2,.int .u64 Y),(8,.int .u64 ((sh:Nat):Int)),(9,.int .u64 c),(10,.int .u64 d),(11,.int .u64 u),(13,.int .u64 v1),(14,.int .u64 v0),(15,.int .u64 s.1),(16,.int .u64 s.2)]) (fun s w=>Kd u v1 c d Y s.1 s.2∧St w0 D0 [] w) (fun s=>s.1.toNat) (u / c,u - u / c*c) (by (repeat (first | exact agree_nil | (apply agree_cons;exact rfl)))) ⟨kd_init hK,hs⟩ fun s env w hI=>?_
    obtain ⟨hk,hs⟩:=hI
    generalize hsq:s.1=q at *
    generalize hsr:s.2=r at *
    have hk':=hk
    obtain ⟨k1,k2,k3,k4,k5,k6⟩:=hk'
    have e1:IntKind.u64.wrap (4294967296*r)=4294967296*r:=wrap_small (by omega) (by omega)
    have e2:IntKind.u64.wrap (4294967296*r+v1)=4294967296*r+v1:=wrap_small (by omega) (by omega)
    have e3:IntKind.u64.wrap (r+c)=r+c:=wrap_small (by omega) (by omega)
    have e4:q < 4294967296→IntKind.u64.wrap (q*d)=q*d:=fun hq=>by
      have:=mul_bound (a:=q) (b:=d) (m:=4294967295) k2 (by omega) hK.d0 (by have:=hK.d1;omega)
      exact wrap_small (by omega) (by omega)
    repeat' (first|refine vs (k:=?_)|refine ps (k:=?_)|refine qRg ?_|refine Nx.h ?_|refine qBo ?_|refine qCt ?_|((with_reducible apply xs_guard);exact rfl;exact rfl;intro c hc;(fail_if_success have:true=c:=hc);(fail_if_success have:false=c:=hc);cases c)|(refine xc_if rfl (fun hc=>?_) (fun hc=>?_))|fail)
    all_goals first
      | exact cutB_exit q (by (repeat (first | exact agree_nil | (apply agree_cons;exact rfl)))) ⟨kd_stop hK hk (kd_ncond e1 e2 e4 (by assumption) (by assumption)),hs⟩
      | skip
    all_goals have hst:4294967296≤q∨4294967296*r+v1 < q*d:=by first | exact .inl (of_decide_eq_true (by assumption)) | exact kd_cond e1 e2 e4 (by assumption) (by assumption)
    all_goals obtain ⟨h1,h2,h3⟩:=kd_step hK hk hst
    all_goals have e5:IntKind.u64.wrap (q - 1)=q - 1:=wrap_small (by omega) (by omega)
    all_goals simp only [e3] at hc
    all_goals first
      | exact cutB_exit (q - 1) (by (repeat (first | exact agree_nil | (apply agree_cons;first | exact rfl | exact congrArg (Value.int .u64) e5 | exact congrArg (Value.int .u64) e3)))) ⟨h3 (by omega),hs⟩
      | exact loopS_next (q - 1,r+c) (by simp only [hsq];omega) (by (repeat (first | exact agree_nil | (apply agree_cons;first | exact rfl | exact congrArg (Value.int .u64) e5 | exact congrArg (Value.int .u64) e3)))) ⟨h2 (by omega),hs⟩
  rintro q env w ⟨hfq,hs⟩
  obtain ⟨f1,f2,f3,f4,f5⟩:=kd_fin hK hfq
  repeat' (first|refine vs (k:=?_)|refine qRg ?_|refine Nx.h ?_|fail)
  have hq0:=hfq.1
  have E1:IntKind.u64.wrap (IntKind.u64.wrap (IntKind.u64.wrap (u*4294967296)+v1) - IntKind.u64.wrap (q*Y))=u*4294967296+v1 - q*Y:=by
    clear f1 f3
    simp only [wrap_u64]
    generalize q*Y=z at *
    omega
  rw [E1]
  clear E1
  generalize hu2:u*4294967296+v1 - q*Y=u2 at *
  have hd:=hK.d0;have hdd:=hK.d1;have hcc:=hK.c0;have hcd:=hK.c1;have hyy:=hK.y_eq
  have hK2:KdOk u2 v0 c d Y:=⟨hyy,hcc,hcd,hd,hdd,f4,f5,by omega,by omega⟩
  have kk:=kd_init hK2
  have e1:IntKind.u64.wrap (u2 / c*c)=u2 / c*c:=by
    have:=Int.mul_nonneg kk.q0 (show 0≤c by omega)
    have:=kk.sum;have:=kk.r0
    exact wrap_small (by omega) (by omega)
  have e2:IntKind.u64.wrap (u2 - u2 / c*c)=u2 - u2 / c*c:=wrap_small kk.r0 (by have:=kk.r1;omega)
  rw [e1,e2]
  clear e1 e2 kk
  refine xc_cutB (fun (z:Int)=>[(2,.int .u64 Y),(8,.int .u64 ((sh:Nat):Int)),(9,.int .u64 c),(10,.int .u64 d),(14,.int .u64 v0),(15,.int .u64 q),(17,.int .u64 u2),(18,.int .u64 z)]) (fun z w=>KdFin u2 v0 Y z∧St w0 D0 [] w) ?_ ?_
  · refine xc_loopS (fun (s:Int × Int)=>[(2,.int .u64 Y),(8,.int .u64 ((sh:Nat):Int)),(9,.int .u64 c),(10,.int .u64 d),(14,.int .u64 v0),(15,.int .u64 q),(17,.int .u64 u2),(18,.int .u64 s.1),(16,.int .u64 s.2)]) (fun s w=>Kd u2 v0 c d Y s.1 s.2∧St w0 D0 [] w) (fun s=>s.1.toNat) (u2 / c,u2 - u2 / c*c) (by (repeat (first | exact agree_nil | (apply agree_cons;exact rfl)))) ⟨kd_init hK2,hs⟩ fun s env w hI=>?_
    obtain ⟨hk,hs⟩:=hI
    generalize hsq:s.1=q at *
    generalize hsr:s.2=r at *
    have hk':=hk
    obtain ⟨k1,k2,k3,k4,k5,k6⟩:=hk'
    have e1:IntKind.u64.wrap (4294967296*r)=4294967296*r:=wrap_small (by omega) (by omega)
    have e2:IntKind.u64.wrap (4294967296*r+v0)=4294967296*r+v0:=wrap_small (by omega) (by omega)
    have e3:IntKind.u64.wrap (r+c)=r+c:=wrap_small (by omega) (by omega)
    have e4:q < 4294967296→IntKind.u64.wrap (q*d)=q*d:=fun hq=>by
      have:=mul_bound (a:=q) (b:=d) (m:=4294967295) k2 (by omega) hK2.d0 (by have:=hK2.d1;omega)
      exact wrap_small (by omega) (by omega)
    repeat' (first|refine vs (k:=?_)|refine ps (k:=?_)|refine qRg ?_|refine Nx.h ?_|refine qBo ?_|refine qCt ?_|((with_reducible apply xs_guard);exact rfl;exact rfl;intro c hc;(fail_if_success have:true=c:=hc);(fail_if_success have:false=c:=hc);cases c)|(refine xc_if rfl (fun hc=>?_) (fun hc=>?_))|fail)
    all_goals first
      | exact cutB_exit q (by (repeat (first | exact agree_nil | (apply agree_cons;exact rfl)))) ⟨kd_stop hK2 hk (kd_ncond e1 e2 e4 (by assumption) (by assumption)),hs⟩
      | skip
    all_goals have hst:4294967296≤q∨4294967296*r+v0 < q*d:=by first | exact .inl (of_decide_eq_true (by assumption)) | exact kd_cond e1 e2 e4 (by assumption) (by assumption)
    all_goals obtain ⟨h1,h2,h3⟩:=kd_step hK2 hk hst
    all_goals have e5:IntKind.u64.wrap (q - 1)=q - 1:=wrap_small (by omega) (by omega)
    all_goals simp only [e3] at hc
    all_goals first
      | exact cutB_exit (q - 1) (by (repeat (first | exact agree_nil | (apply agree_cons;first | exact rfl | exact congrArg (Value.int .u64) e5 | exact congrArg (Value.int .u64) e3)))) ⟨h3 (by omega),hs⟩
      | exact loopS_next (q - 1,r+c) (by simp only [hsq];omega) (by (repeat (first | exact agree_nil | (apply agree_cons;first | exact rfl | exact congrArg (Value.int .u64) e5 | exact congrArg (Value.int .u64) e3)))) ⟨h2 (by omega),hs⟩
  rintro p env w ⟨hfp,hs⟩
  obtain ⟨i1,i2,i3,i4,i5⟩:=kd_fin hK2 hfp
  repeat' (first|refine vs (k:=?_)|refine qRg ?_|refine Nx.h ?_|fail)
  (with_reducible apply xs_val);exact rfl;(with_reducible apply r_shrS sh);exact rfl;exact rfl;exact rfl;exact (by show sh≤64;omega)
  repeat' (first|refine vs (k:=?_)|refine Nx.h ?_|fail)
  first | refine rt (hq:=?_) | refine rt' (hq:=?_)
  refine ⟨?_,hs.only0 rfl⟩
  clear hs
  have hp0:=hfp.1
  have E1:IntKind.u64.wrap (IntKind.u64.wrap (IntKind.u64.wrap (u2*4294967296)+v0) - IntKind.u64.wrap (p*Y))=u2*4294967296+v0 - p*Y:=by
    clear i1 i3 f1 f3 hu2
    simp only [wrap_u64]
    generalize p*Y=z at *
    omega
  rw [E1]
  have E2:IntKind.u64.wrap (IntKind.u64.wrap (q*4294967296)+p)=q*4294967296+p:=by
    rw [wrap_small (n:=q*4294967296) (by omega) (by omega)]
    exact wrap_small (by omega) (by omega)
  rw [E2]
  obtain ⟨j1,j2⟩:=kd_end (T:=hi*18446744073709551616+lo) (Q:=q*4294967296+p) hP (show 0 < y by omega) hY (by
    have:(q*4294967296+p)*Y=q*Y*4294967296+p*Y:=by grind
    rw [g4,this]
    omega) i4 i5
  rw [j2]
  exact pairU_ok j1 rfl
end Go.Proofs.YtalffooghioekaaGreatDoorX

namespace Go.Proofs.YtalffooghioekaaGreatDoorX
open Go Go.RowKit
attribute [local irreducible] XS XC XA thenE blockE retE loopE loopS cutB cutN doneE SE
theorem long_div (h l y:Int) (hy:0 < y) (hl0:0≤l) (hl1:l < 18446744073709551616):(h*18446744073709551616+l) / y=h / y*18446744073709551616+(h % y*18446744073709551616+l) / y ∧
    (h*18446744073709551616+l) % y=(h % y*18446744073709551616+l) % y∧0≤(h % y*18446744073709551616+l) / y∧(h % y*18446744073709551616+l) / y < 18446744073709551616:=by
  have e1:=Int.mul_ediv_add_emod h y
  have e2:=Int.emod_nonneg h (show y≠0 by omega)
  have e3:=Int.emod_lt_of_pos h hy
  have e:h*18446744073709551616+l=(h % y*18446744073709551616+l)+h / y*18446744073709551616*y:=by
    generalize h / y=q at *
    generalize h % y=r at *
    subst e1
    grind
  refine ⟨?_,?_,Int.ediv_nonneg (by omega) (by omega),?_⟩
  · rw [e,Int.add_mul_ediv_right _ _ (by omega)];omega
  · rw [e,Int.add_mul_emod_self_right]
  · rw [Int.ediv_lt_iff_lt_mul hy]
    have:(h % y+1)*18446744073709551616≤y*18446744073709551616:=by omega
    rw [Int.mul_comm 18446744073709551616 y]
    omega
def divV (x y:Int):Value:=if y=0 then .tuple #[wv 0,.int .u64 0,.bool false] else .tuple #[wv (x / y),.int .u64 (x % y),.bool true]
theorem divV_no {x:Int}:packed [Value.agg #[.int .i64 0,.int .u64 0],.int .u64 0,.bool false]=divV x 0:=rfl
theorem divV_ok {x y r:Int} {v:Value} (hy:y≠0) (hv:v=wv (x / y)) (hr:r=x % y):packed [v,.int .u64 r,.bool true]=divV x y:=by
  unfold divV;rw [if_neg hy,hv,hr];rfl
theorem neg_div {X y q r:Int} (hy:0 < y) (hq:X / y=q) (hr:X % y=r):(0 < r→-X / y=-(q+1)∧-X % y=y - r)∧(¬ 0 < r→-X / y=-q∧-X % y=0):=by
  have e1:=Int.mul_ediv_add_emod X y
  have e2:=Int.emod_nonneg X (show y≠0 by omega)
  have e3:=Int.emod_lt_of_pos X hy
  rw [hq,hr] at e1
  rw [hr] at e2 e3
  refine ⟨fun h=>?_,fun h=>?_⟩
  · have e:-X=(y - r)+-(q+1)*y:=by subst e1;grind
    constructor
    · rw [e,Int.add_mul_ediv_right _ _ (by omega),Int.ediv_eq_zero_of_lt (by omega) (by omega)];omega
    · rw [e,Int.add_mul_emod_self_right,Int.emod_eq_of_lt (by omega) (by omega)]
  · have e:-X=0+-q*y:=by subst e1;grind
    constructor
    · rw [e,Int.add_mul_ediv_right _ _ (by omega)];simp
    · rw [e,Int.add_mul_emod_self_right];simp
set_option maxHeartbeats 400000 in
theorem div_ret (x y:Int) (hx:InW x) (hy0:0≤y) (hy1:y < 18446744073709551616) (w0:World):Ret Tryz.prog 120 #[wv x,.int .u64 y] w0 fun v w'=>v=divV x y∧Only [] w0 w':=by
  have hx':=hx
  obtain ⟨hx1,hx2⟩:=hx
  have hs:=St.nil w0
  obtain ⟨X,hX⟩:=abs_ex x
  have hX0:=hX
  obtain ⟨hX1,hX2⟩:=hX
  refine ret_of_xc Tryz.func120 (by kernel_rfl) rfl Tryz.ntmps120 rfl rfl rfl ?_
  repeat' (first|refine vs (k:=?_)|(refine stA hs (k:=?_);intro w hs)|(refine al hs (k:=?_);intro b w hz hs)|(refine bx hs (k:=?_);intro b w hz hs)|refine qRg ?_|refine Nx.h ?_|(refine xc_if rfl (fun hc=>?_) (fun hc=>?_))|fail)
  · first | refine rt (hq:=?_) | refine rt' (hq:=?_)
    have:y=0:=by omega
    subst this
    exact ⟨divV_no,hs.only0 rfl⟩
  (with_reducible apply xs_call);exact rfl;exact rfl;exact size_of hx' hX0 _
  rintro v w' ⟨rfl,ho⟩;replace hs:=hs.call0 ho
  repeat' (first|refine vs (k:=?_)|refine Nx.h ?_|fail)
  refine dr [] hs (k:=?_);intro hX w hs
  refine tk 0 hX (k:=?_)
  refine tk 1 hX (k:=?_)
  refine tk 2 hX (k:=?_)
  refine tk 3 hX (k:=?_)
  refine tk 4 hX (k:=?_)
  refine tk 5 hX (k:=?_)
  refine tk 6 hX (k:=?_)
  refine tk 7 hX (k:=?_)
  refine en (k:=?_)
  repeat' (first|refine vs (k:=?_)|refine qRg ?_|refine Nx.h ?_|fail)
  (with_reducible apply xs_call);exact rfl;exact rfl;exact div64_ret _ _ _ (Int.emod_nonneg _ (by omega)) (Int.emod_lt_of_pos _ (by omega)) (by omega) (by omega) (by omega) _
  rintro v w' ⟨rfl,ho⟩;replace hs:=hs.call0 ho
  obtain ⟨d1,d2,d3,d4⟩:=long_div (X / 18446744073709551616) (X % 18446744073709551616) y (by omega) (by omega) (by omega)
  rw [show X / 18446744073709551616*18446744073709551616+X % 18446744073709551616=X by omega] at d1 d2
  have d5:=Int.emod_nonneg X (show y≠0 by omega)
  have d6:=Int.emod_lt_of_pos X (show 0 < y by omega)
  have d7:0≤X / 18446744073709551616 / y:=Int.ediv_nonneg (by omega) (by omega)
  have d8:X / y≤X:=Int.ediv_le_self y hX1
  have d9:X / y+X % y≤X:=by
    have e1:=Int.mul_ediv_add_emod X y
    have e2:1*(X / y)≤y*(X / y):=Int.mul_le_mul_of_nonneg_right (by omega) (Int.ediv_nonneg hX1 (by omega))
    omega
  rw [d2] at d5 d6 d9
  generalize X / 18446744073709551616 / y=q1 at *
  generalize (X / 18446744073709551616 % y*18446744073709551616+X % 18446744073709551616) / y=q0 at *
  generalize (X / 18446744073709551616 % y*18446744073709551616+X % 18446744073709551616) % y=r at *
  repeat' (first|refine vs (k:=?_)|(refine stA hs (k:=?_);intro w hs)|refine qRg ?_|refine Nx.h ?_|(refine xc_if rfl (fun hc=>?_) (fun hc=>?_))|fail)
  · first | refine rt (hq:=?_) | refine rt' (hq:=?_)
    refine ⟨?_,hs.only0 rfl⟩
    clear hs
    have:x=X:=by omega
    subst this
    refine divV_ok (by omega) (agg_ok ?_ ?_) d2.symm
    · simp only [wrap_i64];omega
    · omega
  · (with_reducible apply xs_call);exact rfl;exact rfl;exact add64_ret _ _ _ (by omega) (by omega) (by omega) (by omega) _
    rintro v w' ⟨rfl,rfl⟩
    repeat' (first|refine vs (k:=?_)|refine qRg ?_|refine Nx.h ?_|fail)
    (with_reducible apply xs_call);exact rfl;exact rfl;exact flip_of (agg_sgn (s:=X / y+1) (by omega) (by omega) (by simp only [wrap_u64];omega) (by omega)) (sgn_in (by omega) (by omega)) _
    rintro v w' ⟨rfl,ho⟩;replace hs:=hs.call0 ho
    repeat' (first|refine vs (k:=?_)|(refine stA hs (k:=?_);intro w hs)|refine Nx.h ?_|fail)
    first | refine rt (hq:=?_) | refine rt' (hq:=?_)
    refine ⟨?_,hs.only0 rfl⟩
    clear hs
    have:x=-X:=by omega
    obtain ⟨n1,n2⟩:=(neg_div (show 0 < y by omega) rfl d2).1 (by omega)
    subst this
    refine divV_ok (by omega) ?_ ?_
    · rw [n1]
      refine congrArg wv ?_
      unfold negW sgn
      repeat' split
      all_goals omega
    · rw [n2,wrap_u64];omega
  · (with_reducible apply xs_call);exact rfl;exact rfl;exact flip_of (agg_sgn (s:=X / y) (by omega) (by omega) (by omega) (by omega)) (sgn_in (by omega) (by omega)) _
    rintro v w' ⟨rfl,ho⟩;replace hs:=hs.call0 ho
    repeat' (first|refine vs (k:=?_)|(refine stA hs (k:=?_);intro w hs)|refine Nx.h ?_|fail)
    first | refine rt (hq:=?_) | refine rt' (hq:=?_)
    refine ⟨?_,hs.only0 rfl⟩
    clear hs
    have:x=-X:=by omega
    obtain ⟨n1,n2⟩:=(neg_div (show 0 < y by omega) rfl d2).2 (by omega)
    subst this
    refine divV_ok (by omega) ?_ ?_
    · rw [n1]
      refine congrArg wv ?_
      unfold negW sgn
      repeat' split
      all_goals omega
    · rw [n2];omega
end Go.Proofs.YtalffooghioekaaGreatDoorX

namespace Go.Proofs.YtalffooghioekaaGreatDoorX
open Go Go.RowKit
attribute [local irreducible] XS XC XA thenE blockE retE loopE loopS cutB cutN doneE SE
def In64 (x:Int):Prop:=-9223372036854775808≤x∧x < 9223372036854775808
instance (x:Int):Decidable (In64 x):=by unfold In64;infer_instance
def smallV (x:Int):Value:=if In64 x then .tuple #[.int .i64 x,.bool true] else .tuple #[.int .i64 0,.bool false]
set_option maxHeartbeats 1000000 in
theorem small_ret (x:Int) (hx:InW x) (w0:World):Ret Tryz.prog 121 #[wv x] w0 fun v w'=>v=smallV x∧Only [] w0 w':=by
  have hx':=hx
  obtain ⟨hx1,hx2⟩:=hx
  have hs:=St.nil w0
  refine ret_of_xc Tryz.func121 (by kernel_rfl) rfl Tryz.ntmps121 rfl rfl rfl ?_
  repeat' (first|refine vs (k:=?_)|(refine bx hs (k:=?_);intro b w hz hs)|refine qRg ?_|refine Nx.h ?_|fail)
  refine dr [] hs (k:=?_);intro hX w hs
  refine tk 0 hX (k:=?_)
  refine tk 2 hX (k:=?_)
  refine dt 1 hX (k:=?_)
  (with_reducible apply xs_call);exact rfl;exact rfl;exact of_ret _ (by rw [wrap_i64];omega) (by rw [wrap_i64];omega) _
  rintro v w' ⟨rfl,ho⟩;replace hs:=hs.call0 ho;repeat' (first|refine Nx.h ?_|fail)
  refine dn (k:=?_)
  refine tk 3 hX (k:=?_)
  refine en (k:=?_)
  repeat' (first|refine vs (k:=?_)|refine qRg ?_|refine Nx.h ?_|(refine xc_cond rfl (fun hc=>?_) (fun hc=>?_))|fail)
  · first | refine rt (hq:=?_) | refine rt' (hq:=?_)
    refine ⟨?_,hs.only0 rfl⟩
    clear hs
    have h1:¬ In64 x:=by
      rintro ⟨h1,h2⟩
      simp only [wrap_i64,cellEq,Bool.not_eq_true',Bool.and_eq_false_iff,beq_eq_false_iff_ne,ne_eq] at hc
      omega
    unfold smallV packed
    rw [if_neg h1]
  · first | refine rt (hq:=?_) | refine rt' (hq:=?_)
    refine ⟨?_,hs.only0 rfl⟩
    clear hs
    have h1:IntKind.i64.wrap (x % 18446744073709551616)=x∧In64 x:=by
      simp only [wrap_i64,cellEq,Bool.not_eq_false',Bool.and_eq_true,beq_iff_eq,Bool.not_not,not_true,Bool.not_eq_true',Bool.not_eq_true] at hc ⊢
      unfold In64
      constructor <;> omega
    unfold smallV packed
    rw [if_pos h1.2,h1.1]
end Go.Proofs.YtalffooghioekaaGreatDoorX

namespace Go.Proofs.YtalffooghioekaaGreatDoorX
open Go Go.RowKit
section
variable {P : Program} {ops : Array Oper} {E : List Nat} {H : List Ent} {QE : Exit → Env → World → Prop} {n : Nat} {env : Env} {w wb : World} {D : Ctx} {fuel : Nat} {listed : Array Bool}
theorem xa_core (i:Nat) {o:Oper} (hX:XH ops E QE n) (hi:ops[i]?=some o) (h:XS P ops (doneE P ops E H QE n fuel (listed.setIfInBounds i true)) n [o] env w) (a:Act) (hf:Fits n env a) :
    wpOp P ops (lift n QE) i (fun a' w'=>SE E H (listed.setIfInBounds i true) w'∧wpAnyL P ops (lift n QE) (SE E H) fuel (listed.setIfInBounds i true) a' w') a w:=by
  have hd:dOk n o=true:=List.all_eq_true.1 hX.dst o (by have:=Array.mem_of_getElem? hi;simpa using this)
  have h:=h (by simp [hd]) a hf
  have hp:∀ c a w,lift n (doneE P ops E H QE n fuel (listed.setIfInBounds i true)) (.panic c) a w→lift n QE (.panic c) a w:=fun c a w ⟨env,hf,hq⟩=>⟨env,hf,hq⟩
  have ho:LetsOut (lift n (doneE P ops E H QE n fuel (listed.setIfInBounds i true)))→LetsOut (lift n QE):=fun ⟨a,w,env,hf,hq⟩=>hq.elim
  unfold wpList at h
  unfold wpOp
  simp only [hi]
  split
  · rename_i hw
    rw [if_pos hw] at h
    rcases h with h | ⟨h1,h2⟩
    · refine .inl (upon_weaken hp ho (Oper.wp_mono (fun a' w' hn=>?_) h))
      simp only [wpList] at hn
      obtain ⟨env',hf',hS,hx⟩:=hn
      exact ⟨hS,hx a' hf'⟩
    · exact .inr ⟨h1,ho h2⟩
  · rename_i hw
    rw [if_neg hw] at h
    simp only [wpList] at h
    obtain ⟨env',hf',hS,hx⟩:=h
    exact ⟨hS,hx _ hf'⟩
theorem xa_do2 (i j:Nat) {d d':Option Nat} {op op':Op} {ty ty':Nat} {pos pos':String} {aft aft':Array Edge} {g g':Option (Nat × Bool)} (hX:XH ops E QE n) (hi:ops[i]?=some ⟨d,op,ty,pos,aft,g⟩:=by exact rfl) (hj:ops[j]?=some ⟨d',op',ty',pos',aft',g'⟩:=by exact rfl)
    (hr:Region.ready .any ops listed=[i,j]:=by kernel_rfl) (h1:XS P ops (doneE P ops E H QE n fuel (listed.setIfInBounds i true)) n [⟨d,op,ty,pos,aft,g⟩] env w) (h2:XS P ops (doneE P ops E H QE n fuel (listed.setIfInBounds j true)) n [⟨d',op',ty',pos',aft',g'⟩] env w):XA P ops E H QE n (fuel+1) listed env w:=by
  intro a hf
  refine ⟨fun h0=>(by rw [h0] at hr;cases hr),fun k hk=>?_⟩
  rw [hr] at hk
  simp only [List.mem_cons,List.not_mem_nil,or_false] at hk
  rcases hk with rfl | rfl
  · exact xa_core _ hX hi h1 a hf
  · exact xa_core _ hX hj h2 a hf
theorem St.perm {H':List Ent} (hs:St wb D H w) (h:H'.Perm H):St wb D H' w :=
  { hs with
    at_:=fun e he=>hs.at_ e (h.mem_iff.1 he)
    nd:=(h.map _).nodup_iff.2 hs.nd
    new:=fun p hp=>hs.new p ((h.map _).mem_iff.1 hp)
    frame:=fun k h1 h2 h3=>hs.frame k h1 h2 (fun h4=>h3 ((h.map _).mem_iff.2 h4))
    ap:=fun e he h4=>hs.ap e he ((h.map _).mem_iff.1 h4) }
end
section
variable {ops : Array Oper} {QE : Exit → Env → World → Prop} {n : Nat} {rest : List Oper} {env : Env} {w wb : World} {d : Option Nat} {ty : Nat} {pos : String} {aft : Array Edge} {g : Option (Nat × Bool)}
theorem lh2 {t b off:Nat} {x:Operand} {cs:List Value} {E:TypeId} {fr:Nat × Nat} {v0 v1:Value} (hb:w.heap[b]?=some (.cells cs.toArray E fr)) (h0:cs[off]?=some v0) (h1:cs[off+1]?=some v1) (hw:wantedE ops env g=true:=by exact rfl) (ht:look t tab.tks=some (true,2):=by exact rfl)
    (hp:ev env x = .pointer (some ⟨b,off,none⟩):=by exact rfl)
    (k:XS Tryz.prog ops QE n rest (updO env d (.agg #[v0,v1])) w):XS Tryz.prog ops QE n (⟨d,.load t x,ty,pos,aft,g⟩ :: rest) env w :=
  have hc:Pick cs off 2 [v0,v1] := .cons h0 (.cons h1 .nil)
  xs_val hw (by simp [execOp,hp,Instr.loadAt,Instr.sureAddr,Sem.run_bind,run_loadVar_agg (tabOk.tk ht) hb hc.le,hc.eq.2]) k
end
end Go.Proofs.YtalffooghioekaaGreatDoorX

namespace Go.Proofs.YtalffooghioekaaGreatDoorX
open Go Go.RowKit
section
variable {P : Program} {ops : Array Oper} {E : List Nat} {H HH : List Ent} {QE : Exit → Env → World → Prop} {n : Nat} {env : Env} {w wb : World} {D : Ctx} {fuel : Nat} {T : Tab}
theorem St.adopt {b:Nat} {o:Obj} {w':World} (hs:St wb D H w) (ho:Only [] w w') (hb:w'.heap[b]?=some o) (hz:w.heap.size≤b):St wb D ((b,o,true) :: H) w':=by
  have h:=hs.call0 ho
  have hlt:∀ {k:Nat} {o':Obj},w.heap[k]?=some o'→k≠b:=fun hk e=>by have:=lt_of_block hk;omega
  refine ⟨fun e he=>?_,?_,fun p hp hq=>?_,h.os,h.tape,h.output,h.size,fun k hk hd hm=>?_,h.ro,fun e he hm=>?_⟩
  · rcases List.mem_cons.1 he with rfl | he
    · exact hb
    · exact h.at_ e he
  · rw [List.map_cons,List.nodup_cons]
    refine ⟨fun hm=>?_,h.nd⟩
    obtain ⟨e,he,h1⟩:=List.mem_map.1 hm
    exact hlt (hs.at_ e he) h1
  · rw [List.map_cons,List.mem_cons] at hp
    rcases hp with rfl | hp
    · exact Nat.le_trans hs.size hz
    · exact h.new p hp hq
  · rw [List.map_cons,List.mem_cons,not_or] at hm
    exact h.frame k hk hd hm.2
  · rw [List.map_cons,List.mem_cons] at hm
    rcases hm with hm | hm
    · exact hlt (hs.ro e he) hm
    · exact h.ap e he hm
def Lasts (I:World→Prop):Prop:=∀ w w',Only [] w w'→I w→I w'
def PendC (wb:World) (D:Ctx) (H:List Ent) (o:Obj) (Y:Nat→Value):Bool→Value→World→Prop
  | false,_,w=>St wb D H w
  | true,X,w=>∃ b,X=Y b∧St wb D ((b,o,true) :: H) w
structure Pend (wb:World) (D:Ctx) (H:List Ent) (o:Obj) (Y:Nat→Value) (I:World→Prop) (f:Bool) (X:Value) (w:World):Prop where
  core:PendC wb D H o Y f X w
  inv:I w
  lasts:Lasts I
theorem PendC.st {o:Obj} {Y:Nat→Value}:∀ {f:Bool} {X:Value},PendC wb D H o Y f X w→St wb D H w
  | false,_,h=>h
  | true,_,⟨_,_,h⟩=>h.forgetNew
theorem Pend.st {o:Obj} {Y:Nat→Value} {I:World→Prop} {f:Bool} {X:Value} (h:Pend wb D H o Y I f X w):St wb D H w:=h.core.st
theorem PendC.only {o:Obj} {Y:Nat→Value} {w':World} (ho:Only [] w w'):∀ {f:Bool} {X:Value},PendC wb D H o Y f X w→PendC wb D H o Y f X w'
  | false,_,h=>St.call0 h ho
  | true,_,⟨b,e,h⟩=>⟨b,e,h.call0 ho⟩
theorem Pend.only {o:Obj} {Y:Nat→Value} {I:World→Prop} {f:Bool} {X:Value} {w':World} (h:Pend wb D H o Y I f X w) (ho:Only [] w w'):Pend wb D H o Y I f X w':=⟨h.core.only ho,h.lasts _ _ ho h.inv,h.lasts⟩
theorem PendC.call {o:Obj} {Y:Nat→Value} {w':World} {F:List Nat} (ho:Only F w w') (hl:∀ k∈F,k < wb.heap.size) (hF:∀ k∈F,k∉H.map (·.1)) (hR:∀ k∈F,k∉D.ro.map (·.1)):∀ {f:Bool} {X:Value},PendC wb D H o Y f X w→PendC wb ⟨F ++ D.dirty,D.ro⟩ H o Y f X w'
  | false,_,h=>St.call h ho hF hR
  | true,_,⟨b,e,h⟩=>⟨b,e,h.call ho (fun k hk hm=>by
      simp only [List.map_cons,List.mem_cons] at hm
      rcases hm with rfl | hm
      · have:=h.new (k,true) (by simp) rfl
        have:=hl k hk
        simp only at *
        omega
      · exact hF k hk hm) hR⟩
theorem Pend.adopt {o o':Obj} {Y:Nat→Value} {I:World→Prop} {w':World} {b':Nat} (ho:Only [] w w') (hb:w'.heap[b']?=some o') (hz:w.heap.size≤b'):∀ {f:Bool} {X:Value},Pend wb D H o Y I f X w→Pend wb D ((b',o',true) :: H) o Y I f X w'
  | false,_,⟨h,h1,h2⟩=>⟨St.adopt h ho hb hz,h2 _ _ ho h1,h2⟩
  | true,_,⟨⟨b,e,h⟩,h1,h2⟩=>⟨⟨b,e,(h.adopt ho hb hz).perm (List.Perm.swap _ _ _)⟩,h2 _ _ ho h1,h2⟩
def fl (f:Bool):Nat:=bif f then 0 else 1
def Makes (P:Program) (ops:Array Oper) (n:Nat) (o:Obj) (Y:Nat→Value) (d:Nat) (oa:Oper) (g:Value→Env):Prop :=
  ∀ (QE:Exit→Env→World→Prop) (X:Value) (w:World),(∀ b w',Only [] w w'→w'.heap[b]?=some o→w.heap.size≤b→QE .normal (upd (g X) d (Y b)) w')→XS P ops QE n [oa] (g X) w
theorem makes_alloc (hT:TabOk P T) {t d ty:Nat} {pos:String} {aft:Array Edge} {cs:List Value} {g:Value→Env} (hz:look t T.zs=some cs) :
    Makes P ops n (.cells cs.toArray t (0,0)) (fun b => .pointer (some ⟨b,0,none⟩)) d ⟨some d,.alloc t,ty,pos,aft,none⟩ g:=fun QE X w k =>
  xs_alloc hT hz rfl (St.nil w) fun b w' _ hs'=>XS.nil (k b w' (hs'.only0 rfl) (hs'.get At.head) (hs'.new (b,true) (by simp) rfl))
theorem makes_slice (hT:TabOk P T) {t e size bytes len d ty:Nat} {pos:String} {aft:Array Edge} {parts:Array (Nat × Operand)} {zs cs:List Value} {g:Value→Env} (hsl:look t T.sls=some (e,size,bytes)) (hz:look e T.zs=some zs) (hzl:Nat.beq zs.length size=true) (hsm:Nat.ble (len*size) 16777216=true) (hps:Nat.beq (len*size) 0=false)
    (hb:∀ X,Bld (g X) (rowPl len size) (rowZ zs (len*size)) parts.toList cs) :
    Makes P ops n (.cells cs.toArray e (0,0)) (fun b => .slice (some ⟨b,0,none⟩) len len) d ⟨some d,.buildSlice t len parts,ty,pos,aft,none⟩ g:=fun QE X w k =>
  xs_buildSlice hT rfl hsl hz hzl hsm hps (hb X) (St.nil w) fun b w' _ hs'=>XS.nil (k b w' (hs'.only0 rfl) (hs'.get At.head) (hs'.new (b,true) (by simp) rfl))
theorem pend_made {a d:Nat} {oa:Oper} {o:Obj} {Y:Nat→Value} {I:World→Prop} {m:Nat} {listed:Array Bool} {g:Value→Env} {X Z:Value} (hM:Makes P ops n o Y d oa g) (hp:Pend wb D H o Y I false Z w)
    (hS:∀ w',St wb D H w'→SE E HH (listed.setIfInBounds a true) w')
    (k:∀ b w',I w'→St wb D ((b,o,true) :: H) w'→XA P ops E HH QE n m (listed.setIfInBounds a true) (upd (g X) d (Y b)) w') :
    XS P ops (doneE P ops E HH QE n m (listed.setIfInBounds a true)) n [oa] (g X) w :=
  hM _ X w fun b w' ho hb hz=>⟨hS _ (St.call0 hp.core ho),k b w' (hp.lasts _ _ ho hp.inv) (St.adopt hp.core ho hb hz)⟩
theorem xa_pend (c a:Nat) {d ta:Nat} {opa:Op} {posa:String} {afta:Array Edge} {dc:Option Nat} {opc:Op} {tyc:Nat} {posc:String} {aftc:Array Edge} {gc:Option (Nat × Bool)} {o:Obj} {Y:Nat→Value} {I:World→Prop} {g:Value→Env} {L:Bool→Array Bool} {f:Bool} {X:Value}
    (hX:XH ops E QE n) (hp:Pend wb D H o Y I f X w) (ha:ops[a]?=some ⟨some d,opa,ta,posa,afta,none⟩) (hc:ops[c]?=some ⟨dc,opc,tyc,posc,aftc,gc⟩)
    (hM:Makes P ops n o Y d ⟨some d,opa,ta,posa,afta,none⟩ g)
    (hL:(L false).setIfInBounds a true=L true) (hr1:Region.ready .any ops (L true)=[c]) (hr0:(Region.ready .any ops (L false)).all (fun i=>Nat.beq i c || Nat.beq i a)=true) (hr0':(Region.ready .any ops (L false)).isEmpty=false)
    (hg:∀ X Y,upd (g X) d Y=g Y) (hS:∀ w',St wb D H w'→SE E HH (L true) w')
    (step:∀ f X w,Pend wb D H o Y I f X w→XS P ops (doneE P ops E HH QE n (fl f+fuel) ((L f).setIfInBounds c true)) n [⟨dc,opc,tyc,posc,aftc,gc⟩] (g X) w) :
    XA P ops E HH QE n (fl f+(fuel+1)) (L f) (g X) w:=by
  have h1:∀ X w,Pend wb D H o Y I true X w→XA P ops E HH QE n (fuel+1) (L true) (g X) w:=fun X w hp=>by
    have:=step true X w hp
    simp only [fl,cond_true,Nat.zero_add] at this
    exact xa_do c hX hc hr1 this
  cases f with
  | true=>simpa [fl] using h1 X w hp
  | false =>
    have e1:fl false+(fuel+1)=(fuel+1)+1:=by simp [fl];omega
    rw [e1]
    intro act hf
    refine ⟨fun h0=>(by rw [h0] at hr0';cases hr0'),fun i hi=>?_⟩
    have hi':=List.all_eq_true.1 hr0 i hi
    simp only [Bool.or_eq_true] at hi'
    rcases hi' with hi' | hi'
    · obtain rfl:i=c:=Nat.eq_of_beq_eq_true hi'
      have h2:=step false X w hp
      have e2:fl false+fuel=fuel+1:=by simp [fl];omega
      rw [e2] at h2
      exact xa_core i hX hc h2 act hf
    · obtain rfl:i=a:=Nat.eq_of_beq_eq_true hi'
      have h2:XS P ops (doneE P ops E HH QE n (fuel+1) ((L false).setIfInBounds i true)) n [⟨some d,opa,ta,posa,afta,none⟩] (g X) w:=by
        refine pend_made hM hp (by rw [hL];exact hS) fun b w' hI hs'=>?_
        rw [hL,hg]
        exact h1 _ w' ⟨⟨b,rfl,hs'⟩,hI,hp.lasts⟩
      exact xa_core i hX ha h2 act hf
theorem xa_pendE (a:Nat) {d ta:Nat} {opa:Op} {posa:String} {afta:Array Edge} {o:Obj} {Y:Nat→Value} {I:World→Prop} {g:Value→Env} {L:Bool→Array Bool} {f:Bool} {X:Value}
    (hX:XH ops E QE n) (hp:Pend wb D H o Y I f X w) (ha:ops[a]?=some ⟨some d,opa,ta,posa,afta,none⟩)
    (hM:Makes P ops n o Y d ⟨some d,opa,ta,posa,afta,none⟩ g)
    (hL:(L false).setIfInBounds a true=L true) (hr0:Region.ready .any ops (L false)=[a])
    (hg:∀ X Y,upd (g X) d Y=g Y) (hS:∀ w',St wb D H w'→SE E HH (L true) w')
    (k:∀ b w',I w'→St wb D ((b,o,true) :: H) w'→XA P ops E HH QE n fuel (L true) (g (Y b)) w') :
    XA P ops E HH QE n (fl f+fuel) (L f) (g X) w:=by
  cases f with
  | true =>
    obtain ⟨⟨b,rfl,hs⟩,hI,_⟩:=hp
    have:=k b w hI hs
    simpa [fl] using this
  | false =>
    have e1:fl false+fuel=fuel+1:=by simp [fl];omega
    rw [e1]
    refine xa_do a hX ha hr0 ?_
    refine pend_made hM hp (by rw [hL];exact hS) fun b w' hI hs'=>?_
    rw [hL,hg]
    exact k b w' hI hs'
theorem xa_pend0 (a d:Nat) (o:Obj) (Y:Nat→Value) {listed:Array Bool} (hs:St wb D H w) (hl:listed.setIfInBounds a false=listed)
    (k:∀ f X w,Pend wb D H o Y (fun _=>True) f X w→XA P ops E HH QE n (fl f+fuel) (listed.setIfInBounds a f) (upd env d X) w):XA P ops E HH QE n (fuel+1) listed env w:=by
  have h:=k false (env d) w ⟨hs,trivial,fun _ _ _ _=>trivial⟩
  have e1:fl false+fuel=fuel+1:=by simp [fl];omega
  have e2:upd env d (env d)=env:=funext fun i=>by
    by_cases e:i=d
    · subst e;rw [upd_same]
    · rw [upd_ne _ _ e]
  rwa [e1,hl,e2] at h
end
section
variable {ops : Array Oper} {E : List Nat} {H HH : List Ent} {QE : Exit → Env → World → Prop} {n : Nat} {env : Env} {w wb : World} {D : Ctx} {fuel : Nat}
theorem pgg_base {d:Nat} {X Y:Value}:upd (upd env d X) d Y=upd env d Y:=funext fun i=>by
  by_cases h:i=d
  · subst h;rw [upd_same,upd_same]
  · rw [upd_ne _ _ h,upd_ne _ _ h,upd_ne _ _ h]
theorem pgg_step {d t:Nat} {v Y:Value} {e1 e2:Env} (h:upd e1 d Y=e2) (hne:Nat.beq t d=false):upd (upd e1 t v) d Y=upd e2 t v:=funext fun i=>by
  have hne:t≠d:=fun e=>by rw [e,Nat.beq_refl] at hne;cases hne
  have h':=congrFun h i
  by_cases hi:i=d
  · subst hi
    rw [upd_same] at h' ⊢
    rw [upd_ne _ _ (Ne.symm hne),← h']
  · rw [upd_ne _ _ hi] at h' ⊢
    by_cases ht:i=t
    · subst ht;rw [upd_same,upd_same]
    · rw [upd_ne _ _ ht,upd_ne _ _ ht,h']
theorem pd0 (a d:Nat) {cs:List Value} {t ty:Nat} {pos:String} {aft:Array Edge} {listed:Array Bool} (hs:St wb D H w) (ha:ops[a]?=some ⟨some d,.alloc t,ty,pos,aft,none⟩:=by exact rfl) (hz:look t tab.zs=some cs:=by exact rfl) (hl:listed.setIfInBounds a false=listed:=by kernel_rfl)
    (k:∀ f X w,Pend wb D H (.cells cs.toArray t (0,0)) (fun b => .pointer (some ⟨b,0,none⟩)) (fun _=>True) f X w→XA Tryz.prog ops E HH QE n (fl f+fuel) (listed.setIfInBounds a f) (upd env d X) w):XA Tryz.prog ops E HH QE n (fuel+1) listed env w:=xa_pend0 a d _ _ hs hl k
theorem pd0S (a d:Nat) (cs:List Value) {t e size bytes len ty:Nat} {parts:Array (Nat × Operand)} {pos:String} {aft:Array Edge} {listed:Array Bool} (hs:St wb D H w) (ha:ops[a]?=some ⟨some d,.buildSlice t len parts,ty,pos,aft,none⟩:=by exact rfl) (hsl:look t tab.sls=some (e,size,bytes):=by exact rfl) (hl:listed.setIfInBounds a false=listed:=by kernel_rfl)
    (k:∀ f X w,Pend wb D H (.cells cs.toArray e (0,0)) (fun b => .slice (some ⟨b,0,none⟩) len len) (fun _=>True) f X w→XA Tryz.prog ops E HH QE n (fl f+fuel) (listed.setIfInBounds a f) (upd env d X) w):XA Tryz.prog ops E HH QE n (fuel+1) listed env w:=xa_pend0 a d _ _ hs hl k
theorem bsP {o:Obj} {Y:Nat→Value} {I:World→Prop} {f:Bool} {X:Value} {rest:List Oper} {d:Option Nat} {ty:Nat} {pos:String} {aft:Array Edge} {g:Option (Nat × Bool)} {t e size bytes len:Nat} {parts:Array (Nat × Operand)} {zs cs:List Value} (hp:Pend wb D H o Y I f X w) (hw:wantedE ops env g=true:=by exact rfl) (hsl:look t tab.sls=some (e,size,bytes):=by exact rfl) (hz:look e tab.zs=some zs:=by exact rfl) (hzl:Nat.beq zs.length size=true:=by exact rfl) (hsm:Nat.ble (len*size) 16777216=true:=by exact rfl) (hps:Nat.beq (len*size) 0=false:=by exact rfl)
    (hb:Bld env (rowPl len size) (rowZ zs (len*size)) parts.toList cs:=by (repeat (first | exact Bld.nil | (apply Bld.one;exact rfl;(conv=>lhs;whnf);exact rfl;(repeat (first | exact PutL.nil | apply PutL.skip | apply PutL.cons))) | (apply Bld.agg;exact rfl;exact rfl;exact rfl;(repeat (first | exact PutL.nil | apply PutL.skip | apply PutL.cons))))))
    (k:∀ b w',Only [] w w'→Pend wb D ((b,.cells cs.toArray e,true) :: H) o Y I f X w'→XS Tryz.prog ops QE n rest (updO env d (.slice (some ⟨b,0,none⟩) len len)) w'):XS Tryz.prog ops QE n (⟨d,.buildSlice t len parts,ty,pos,aft,g⟩ :: rest) env w :=
  xs_buildSlice tabOk hw hsl hz hzl hsm hps hb (St.nil w) fun b w' _ h=>k b w' (h.only0 rfl) (hp.adopt (h.only0 rfl) (h.get At.head) (h.new (b,true) (by simp) rfl))
theorem St.fresh (hs:St wb D H w) (hall:(H.all fun e=>e.2.2)=true) {k:Nat} (hk:k < wb.heap.size):k∉H.map (·.1):=fun hm=>by
  obtain ⟨e,he,rfl⟩:=List.mem_map.1 hm
  have h1:=List.all_eq_true.1 hall e he
  have:=hs.new (e.1,e.2.2) (List.mem_map.2 ⟨e,he,rfl⟩) h1
  simp only at this
  omega
theorem Pend.callN {o:Obj} {Y:Nat→Value} {I J:World→Prop} {w':World} {F:List Nat} {f:Bool} {X:Value} (hp:Pend wb D H o Y I f X w) (ho:Only F w w') (hl:∀ k∈F,k < wb.heap.size) (hall:(H.all fun e=>e.2.2)=true) (hR:D.ro=[]) (hJ:J w') (lJ:Lasts J):Pend wb ⟨F ++ D.dirty,D.ro⟩ H o Y J f X w' :=
  ⟨hp.core.call ho hl (fun k hk=>hp.st.fresh hall (hl k hk)) (by simp [hR]),hJ,lJ⟩
theorem St.callN {w':World} {F:List Nat} (hs:St wb D H w) (ho:Only F w w') (hl:∀ k∈F,k < wb.heap.size) (hall:(H.all fun e=>e.2.2)=true) (hR:D.ro=[]):St wb ⟨F ++ D.dirty,D.ro⟩ H w' :=
  hs.call ho (fun k hk=>hs.fresh hall (hl k hk)) (by simp [hR])
end
end Go.Proofs.YtalffooghioekaaGreatDoorX

namespace Go.Proofs.YtalffooghioekaaGreatDoorX
open Go Go.RowKit
attribute [local irreducible] XS XC XA thenE blockE retE loopE loopS cutB cutN doneE SE
structure Pt where
  t:Int
  r:Int
  w:Int
deriving DecidableEq
abbrev Pt.cells (p:Pt):List Value:=[.int .u64 p.t,.int .u32 p.r,.int .u32 p.w]
def pv (p:Pt):Value := .agg #[.int .u64 p.t,.int .u32 p.r,.int .u32 p.w]
def U64 (x:Int):Prop:=0≤x∧x < 18446744073709551616
def U32 (x:Int):Prop:=0≤x∧x < 4294967296
instance (x:Int):Decidable (U64 x):=by unfold U64;infer_instance
instance (x:Int):Decidable (U32 x):=by unfold U32;infer_instance
def Pt.In (p:Pt):Prop:=U64 p.t∧U32 p.r∧U32 p.w
instance (p:Pt):Decidable p.In:=by unfold Pt.In;infer_instance
def sn (t u:Int):Int:=(t - u+9223372036854775808) % 18446744073709551616 - 9223372036854775808
theorem sn_rng (t u:Int):-9223372036854775808≤sn t u∧sn t u < 9223372036854775808:=by unfold sn;omega
theorem sn_in (t u:Int):In64 (sn t u):=sn_rng t u
def lat (t d:Int):Int:=(t+d) % 18446744073709551616
theorem lat_in (t d:Int):U64 (lat t d):=by unfold lat U64;omega
theorem int_cong {k:IntKind} {a b:Int} (h:a=b):packed [Value.int k a] = .int k b:=by rw [h];rfl
theorem since_ret (t u:Int) (w0:World):Ret Tryz.prog 209 #[.int .u64 t,.int .u64 u] w0 fun v w'=>v = .int .i64 (sn t u)∧Only [] w0 w':=by
  have hs:=St.nil w0
  refine ret_of_xc Tryz.func209 (by kernel_rfl) rfl Tryz.ntmps209 rfl rfl rfl ?_
  repeat' (first|refine vs (k:=?_)|refine qRg ?_|refine Nx.h ?_|fail)
  first | refine rt (hq:=?_) | refine rt' (hq:=?_)
  refine ⟨int_cong ?_,hs.only0 rfl⟩
  simp only [wrap_u64,wrap_i64,sn];omega
theorem vadd_ret (t d:Int) (w0:World):Ret Tryz.prog 122 #[.int .u64 t,.int .i64 d] w0 fun v w'=>v = .int .u64 (lat t d)∧Only [] w0 w':=by
  have hs:=St.nil w0
  refine ret_of_xc Tryz.func122 (by kernel_rfl) rfl Tryz.ntmps122 rfl rfl rfl ?_
  repeat' (first|refine vs (k:=?_)|refine qRg ?_|refine Nx.h ?_|fail)
  first | refine rt (hq:=?_) | refine rt' (hq:=?_)
  refine ⟨int_cong ?_,hs.only0 rfl⟩
  simp only [wrap_u64,wrap_i64,lat];omega
def mayW (w:Int):Bool:=decide (1≤w) && decide (w≤1048576)
theorem weight_ret (w:Int) (w0:World):Ret Tryz.prog 208 #[.int .u32 w] w0 fun v w'=>v = .bool (mayW w)∧Only [] w0 w':=by
  have hs:=St.nil w0
  refine ret_of_xc Tryz.func208 (by kernel_rfl) rfl Tryz.ntmps208 rfl rfl rfl ?_
  repeat' (first|refine vs (k:=?_)|refine ps (k:=?_)|refine qRg ?_|refine Nx.h ?_|((with_reducible apply xs_guard);exact rfl;exact rfl;intro c hc;(fail_if_success have:true=c:=hc);(fail_if_success have:false=c:=hc);cases c)|fail)
  all_goals (first | refine rt (hq:=?_) | refine rt' (hq:=?_))
  all_goals refine ⟨?_,hs.only0 rfl⟩
  · unfold mayW;have:=of_decide_eq_false hc;simp only [packed];congr 1;simp;omega
  · unfold mayW;have:=of_decide_eq_true hc;simp only [packed];congr 1;simp;omega
def Pt.right (p:Pt):Bool:=mayW p.w && decide (p.r < p.w)
theorem pright_ret (p:Pt) (w0:World):Ret Tryz.prog 173 #[pv p] w0 fun v w'=>v = .bool p.right∧Only [] w0 w':=by
  have hs:=St.nil w0
  refine ret_of_xc Tryz.func173 (by kernel_rfl) rfl Tryz.ntmps173 rfl rfl rfl ?_
  repeat' (first|refine vs (k:=?_)|(refine bx hs (k:=?_);intro b w hz hs)|refine qRg ?_|refine Nx.h ?_|fail)
  (with_reducible apply xs_call);exact rfl;exact rfl;exact weight_ret _ _
  rintro v w' ⟨rfl,ho⟩;replace hs:=hs.call0 ho;repeat' (first|refine vs (k:=?_)|refine ps (k:=?_)|refine Nx.h ?_|((with_reducible apply xs_guard);exact rfl;exact rfl;intro c hc;(fail_if_success have:true=c:=hc);(fail_if_success have:false=c:=hc);cases c)|fail)
  all_goals (first | refine rt (hq:=?_) | refine rt' (hq:=?_))
  all_goals refine ⟨?_,hs.only0 rfl⟩
  · unfold Pt.right;rw [hc];rfl
  · unfold Pt.right;rw [hc];rfl
theorem mul_rng {w s W S:Int} (h0:0≤w) (h1:w≤W) (h2:-S≤s) (h3:s≤S):-(W*S)≤w*s∧w*s≤W*S:=by
  have hS:0≤S:=by omega
  have a:w*S≤W*S:=Int.mul_le_mul_of_nonneg_right h1 hS
  have b:w*s≤w*S:=Int.mul_le_mul_of_nonneg_left h3 h0
  have c:w*(-S)≤w*s:=Int.mul_le_mul_of_nonneg_left h2 h0
  rw [Int.mul_neg] at c
  omega
theorem u64_id {x:Int} (h:U64 x):IntKind.u64.wrap x=x:=by rw [wrap_u64];unfold U64 at h;omega
theorem u64_of32 {x:Int} (h:U32 x):IntKind.u64.wrap x=x:=by rw [wrap_u64];unfold U32 at h;omega
theorem wrap_u32 (n:Int):IntKind.u32.wrap n=n % 4294967296:=by simp [IntKind.wrap,IntKind.signed,IntKind.bits]
theorem u32_id {x:Int} (h:U32 x):IntKind.u32.wrap x=x:=by rw [wrap_u32];unfold U32 at h;omega
theorem ofU32_ret (x:Int) (h:U32 x) (w0:World):Ret Tryz.prog 100 #[.int .u64 (IntKind.u64.wrap x)] w0 fun v w'=>v=wv x∧Only [] w0 w':=by
  rw [u64_of32 h];unfold U32 at h;exact ofU_ret x (by omega) (by omega) w0
def dist (p:Pt) (base:Int):Int:=p.w*sn p.t base+p.r
theorem dist_rng {p:Pt} (h:p.In) (base:Int):-(4294967296*9223372036854775808)≤p.w*sn p.t base∧p.w*sn p.t base≤4294967296*9223372036854775808 :=
  mul_rng h.2.2.1 (Int.le_of_lt h.2.2.2) (by have:=sn_rng p.t base;omega) (by have:=sn_rng p.t base;omega)
theorem dist_in {p:Pt} (h:p.In) (base:Int):InW (dist p base):=by
  have h1:=dist_rng h base
  obtain ⟨_,⟨h2,h3⟩,_⟩:=h
  unfold dist InW;omega
theorem tell_in {x:Int} (h:InW x):tellV x = .tuple #[wv x,.bool true]:=if_pos h
theorem dist_ret (p:Pt) (base:Int) (h:p.In) (w0:World):Ret Tryz.prog 174 #[pv p,.int .u64 base] w0 fun v w'=>v=wv (dist p base)∧Only [] w0 w':=by
  have h1:=dist_rng h base
  have h4:=dist_in h base
  obtain ⟨⟨ht0,ht1⟩,⟨hr0,hr1⟩,hw0,hw1⟩:=h
  have h2:=sn_rng p.t base
  have hs:=St.nil w0
  refine ret_of_xc Tryz.func174 (by kernel_rfl) rfl Tryz.ntmps174 rfl rfl rfl ?_
  repeat' (first|(refine al hs (k:=?_);intro b w hz hs)|(refine bx hs (k:=?_);intro b w hz hs)|refine qRg ?_|refine Nx.h ?_|fail)
  refine dr [] hs (k:=?_);intro hX w hs
  refine tk 0 hX (k:=?_)
  refine tk 1 hX (k:=?_)
  refine tk 2 hX (k:=?_)
  refine tk 4 hX (k:=?_)
  refine tk 5 hX (k:=?_)
  refine tk 6 hX (k:=?_)
  refine pd0 12 5 hs (k:=?_);intro f X w hp;have hs:=hp.st
  apply xa_pend 3 12 (f:=f) (X:=X) hX hp;exact rfl;exact rfl;(apply makes_alloc tabOk;exact rfl);kernel_rfl;kernel_rfl;kernel_rfl;kernel_rfl;(intro X Y;(repeat (first | exact pgg_base | refine pgg_step ?_ (by exact rfl))));(intro w' hs;first|exact se_hold hs.hold|exact se_hold hs.hold.tail|exact se_done rfl);intro f X w hp;have hs:=hp.st
  (with_reducible apply xs_call);exact rfl;exact rfl;exact ofU32_ret p.w ⟨hw0,hw1⟩ _
  rintro v w' ⟨rfl,ho⟩;replace hp:=hp.only ho;replace hs:=hp.st;repeat' (first|refine Nx.h ?_|fail)
  refine dn (k:=?_)
  apply xa_pend 7 12 (f:=f) (X:=X) hX hp;exact rfl;exact rfl;(apply makes_alloc tabOk;exact rfl);kernel_rfl;kernel_rfl;kernel_rfl;kernel_rfl;(intro X Y;(repeat (first | exact pgg_base | refine pgg_step ?_ (by exact rfl))));(intro w' hs;first|exact se_hold hs.hold|exact se_hold hs.hold.tail|exact se_done rfl);intro f X w hp;have hs:=hp.st
  (with_reducible apply xs_call);exact rfl;exact rfl;exact since_ret p.t base _
  rintro v w' ⟨rfl,ho⟩;replace hp:=hp.only ho;replace hs:=hp.st;repeat' (first|refine Nx.h ?_|fail)
  refine dn (k:=?_)
  apply xa_pend 8 12 (f:=f) (X:=X) hX hp;exact rfl;exact rfl;(apply makes_alloc tabOk;exact rfl);kernel_rfl;kernel_rfl;kernel_rfl;kernel_rfl;(intro X Y;(repeat (first | exact pgg_base | refine pgg_step ?_ (by exact rfl))));(intro w' hs;first|exact se_hold hs.hold|exact se_hold hs.hold.tail|exact se_done rfl);intro f X w hp;have hs:=hp.st
  (with_reducible apply xs_call);exact rfl;exact rfl;exact mul_ret p.w (sn p.t base) (by unfold InW;omega) (by omega) (by omega) _
  rw [tell_in (by unfold InW;omega)]
  rintro v w' ⟨rfl,ho⟩;replace hp:=hp.only ho;replace hs:=hp.st;repeat' (first|refine Nx.h ?_|fail)
  refine dn (k:=?_)
  refine tk 9 hX (hc:=by cases f <;> kernel_rfl) (k:=?_)
  refine tk 10 hX (hc:=by cases f <;> kernel_rfl) (k:=?_)
  refine tk 11 hX (hc:=by cases f <;> kernel_rfl) (k:=?_)
  apply xa_pendE 12 (f:=f) (X:=X) hX hp;exact rfl;(apply makes_alloc tabOk;exact rfl);kernel_rfl;kernel_rfl;(intro X Y;(repeat (first | exact pgg_base | refine pgg_step ?_ (by exact rfl))));(intro w' hs;first|exact se_hold hs.hold|exact se_hold hs.hold.tail|exact se_done rfl);intro b w hI hs
  refine dt 13 hX (k:=?_)
  repeat' (first|(refine stA hs (k:=?_);intro w hs)|refine Nx.h ?_|fail)
  refine dn (k:=?_)
  refine tk 14 hX (k:=?_)
  refine en (k:=?_)
  repeat' (first|refine Nx.h ?_|fail)
  refine dr [9] hs (k:=?_);intro hX w hs
  refine tk 0 hX (k:=?_)
  refine tk 1 hX (k:=?_)
  refine tk 2 hX (k:=?_)
  refine tk 3 hX (k:=?_)
  refine dt 4 hX (k:=?_)
  (with_reducible apply xs_call);exact rfl;exact rfl;exact ofU32_ret p.r ⟨hr0,hr1⟩ _
  rintro v w' ⟨rfl,ho⟩;replace hs:=hs.call0 ho;repeat' (first|refine Nx.h ?_|fail)
  refine dn (k:=?_)
  refine dt 5 hX (k:=?_)
  (with_reducible apply xs_call);exact rfl;exact rfl;exact add_ret (p.w*sn p.t base) p.r (by unfold InW;omega) (by unfold InW;omega) _
  rw [tell_in (x:=p.w*sn p.t base+p.r) h4]
  rintro v w' ⟨rfl,ho⟩;replace hs:=hs.call0 ho;repeat' (first|refine Nx.h ?_|fail)
  refine dn (k:=?_)
  refine tk 6 hX (k:=?_)
  refine tk 7 hX (k:=?_)
  refine tk 8 hX (k:=?_)
  refine dt 9 hX (k:=?_)
  repeat' (first|(refine stA hs (k:=?_);intro w hs)|refine Nx.h ?_|fail)
  refine dn (k:=?_)
  refine en (k:=?_)
  repeat' (first|refine vs (k:=?_)|(refine stA hs (k:=?_);intro w hs)|refine qRg ?_|refine Nx.h ?_|fail)
  first | refine rt (hq:=?_) | refine rt' (hq:=?_)
  exact ⟨rfl,hs.only0 rfl⟩
theorem add_ok (x y:Int) (hx:InW x) (hy:InW y) (h:InW (x+y)) (w0:World):Ret Tryz.prog 54 #[wv x,wv y] w0 fun v w'=>v = .tuple #[wv (x+y),.bool true]∧Only [] w0 w':=by
  have:=add_ret x y hx hy w0;rwa [tell_in h] at this
theorem mul_ok (x n:Int) (hx:InW x) (hn0:-9223372036854775808≤n) (hn1:n < 9223372036854775808) (h:InW (x*n)) (w0:World):Ret Tryz.prog 101 #[wv x,.int .i64 n] w0 fun v w'=>v = .tuple #[wv (x*n),.bool true]∧Only [] w0 w':=by
  have:=mul_ret x n hx hn0 hn1 w0;rwa [tell_in h] at this
theorem div_ok (x y:Int) (hx:InW x) (hy0:0 < y) (hy1:y < 18446744073709551616) (w0:World):Ret Tryz.prog 120 #[wv x,.int .u64 y] w0 fun v w'=>v = .tuple #[wv (x / y),.int .u64 (x % y),.bool true]∧Only [] w0 w':=by
  have:=div_ret x y hx (by omega) hy1 w0;unfold divV at this;rwa [if_neg (by omega)] at this
theorem div_in {x y:Int} (hx:InW x) (hy:0 < y):InW (x / y):=by
  obtain ⟨h1,h2⟩:=hx
  unfold InW
  constructor
  · rw [Int.le_ediv_iff_mul_le hy]
    have:-170141183460469231731687303715884105728*y≤-170141183460469231731687303715884105728:=by omega
    omega
  · rw [Int.ediv_lt_iff_lt_mul hy]
    have:170141183460469231731687303715884105728≤170141183460469231731687303715884105728*y:=by omega
    omega
theorem div64_ok (x y:Int) (hx:InW x) (hy0:0 < y) (hy1:y < 4294967296) (w0:World):Ret Tryz.prog 120 #[wv x,.int .u64 (IntKind.u64.wrap y)] w0 fun v w'=>v = .tuple #[wv (x / y),.int .u64 (x % y),.bool true]∧Only [] w0 w':=by
  rw [u64_of32 ⟨by omega,hy1⟩];exact div_ok x y hx hy0 (by omega) w0
theorem small_ok (x:Int) (hx:InW x) (h:In64 x) (w0:World):Ret Tryz.prog 121 #[wv x] w0 fun v w'=>v = .tuple #[.int .i64 x,.bool true]∧Only [] w0 w':=by
  have:=small_ret x hx w0;unfold smallV at this;rwa [if_pos h] at this
theorem small_no (x:Int) (hx:InW x) (h:¬ In64 x) (w0:World):Ret Tryz.prog 121 #[wv x] w0 fun v w'=>v = .tuple #[.int .i64 0,.bool false]∧Only [] w0 w':=by
  have:=small_ret x hx w0;unfold smallV at this;rwa [if_neg h] at this
def atP (base d w:Int):Option Pt:=if mayW w=true∧In64 (d / w) then some ⟨lat base (d / w),d % w,w⟩ else none
def Pt.zero:Pt:=⟨0,0,0⟩
def ptV (o:Option Pt):Value := .tuple #[pv (o.getD .zero),.bool o.isSome]
theorem mayW_iff {w:Int}:mayW w=true↔1≤w∧w≤1048576:=by unfold mayW;simp
theorem at_some {base d w:Int} {p:Pt} (h:atP base d w=some p):p.In∧p.w=w∧p.right=true:=by
  unfold atP at h
  split at h
  · rename_i hc
    cases h
    have h1:=mayW_iff.1 hc.1
    have m0:=Int.emod_nonneg d (show w≠0 by omega)
    have m1:=Int.emod_lt_of_pos d (show 0 < w by omega)
    refine ⟨⟨lat_in _ _,⟨m0,by show d % w < _;omega⟩,by show 0≤w;omega,by show w < _;omega⟩,rfl,?_⟩
    unfold Pt.right
    simp only [hc.1,Bool.true_and,decide_eq_true_eq]
    exact m1
  · cases h
theorem at_ret (base d q:Int) (hd:InW d) (w0:World):Ret Tryz.prog 175 #[.int .u64 base,wv d,.int .u32 q] w0 fun v w'=>v=ptV (atP base d q)∧Only [] w0 w':=by
  have hs:=St.nil w0
  refine ret_of_xc Tryz.func175 (by kernel_rfl) rfl Tryz.ntmps175 rfl rfl rfl ?_
  repeat' (first|refine vs (k:=?_)|(refine al hs (k:=?_);intro b w hz hs)|(refine bx hs (k:=?_);intro b w hz hs)|refine qRg ?_|refine Nx.h ?_|fail)
  (with_reducible apply xs_call);exact rfl;exact rfl;exact weight_ret q _
  rintro v w' ⟨rfl,ho⟩;replace hs:=hs.call0 ho;repeat' (first|refine vs (k:=?_)|(refine stA hs (k:=?_);intro w hs)|refine qRg ?_|refine Nx.h ?_|(refine xc_cond rfl (fun hc=>?_) (fun hc=>?_))|fail)
  · first | refine rt (hq:=?_) | refine rt' (hq:=?_)
    refine ⟨?_,hs.only0 rfl⟩
    have:mayW q=false:=by simpa using hc
    unfold atP
    rw [this];rfl
  · have h0:mayW q=true:=by simpa using hc
    have h1:=mayW_iff.1 h0
    (with_reducible apply xs_call);exact rfl;exact rfl;exact div64_ok d q hd (by omega) (by omega) _
    rintro v w' ⟨rfl,ho⟩;replace hs:=hs.call0 ho;repeat' (first|refine vs (k:=?_)|(refine stA hs (k:=?_);intro w hs)|(refine al hs (k:=?_);intro b w hz hs)|refine qRg ?_|refine Nx.h ?_|fail)
    by_cases h64:In64 (d / q)
    · (with_reducible apply xs_call);exact rfl;exact rfl;exact small_ok (d / q) (div_in hd (by omega)) h64 _
      rintro v w' ⟨rfl,ho⟩;replace hs:=hs.call0 ho;repeat' (first|refine vs (k:=?_)|refine qRg ?_|refine Nx.h ?_|refine qCf ?_|fail)
      (with_reducible apply xs_call);exact rfl;exact rfl;exact vadd_ret base (d / q) _
      rintro v w' ⟨rfl,ho⟩;replace hs:=hs.call0 ho;repeat' (first|refine vs (k:=?_)|(refine stA hs (k:=?_);intro w hs)|refine Nx.h ?_|fail)
      first | refine rt (hq:=?_) | refine rt' (hq:=?_)
      refine ⟨?_,hs.only0 rfl⟩
      unfold atP
      rw [if_pos ⟨h0,h64⟩]
      have e:IntKind.u32.wrap (d % q)=d % q:=u32_id ⟨Int.emod_nonneg _ (by omega),by have:=Int.emod_lt_of_pos d (show 0 < q by omega);omega⟩
      rw [e];rfl
    · (with_reducible apply xs_call);exact rfl;exact rfl;exact small_no (d / q) (div_in hd (by omega)) h64 _
      rintro v w' ⟨rfl,ho⟩;replace hs:=hs.call0 ho;repeat' (first|refine vs (k:=?_)|(refine stA hs (k:=?_);intro w hs)|refine qRg ?_|refine Nx.h ?_|refine qCt ?_|fail)
      first | refine rt (hq:=?_) | refine rt' (hq:=?_)
      refine ⟨?_,hs.only0 rfl⟩
      unfold atP
      rw [if_neg (fun h=>h64 h.2)];rfl
end Go.Proofs.YtalffooghioekaaGreatDoorX

namespace Go.Proofs.YtalffooghioekaaGreatDoorX
open Go Go.RowKit
attribute [local irreducible] XS XC XA thenE blockE retE loopE loopS cutB cutN doneE SE
def tot (x:Int):Int:=if InW x then x else 0
theorem tot_in (x:Int):InW (tot x):=by unfold tot;split;assumption;decide
theorem tell_tot (x:Int):tellV x = .tuple #[wv (tot x),.bool (decide (InW x))]:=by
  unfold tellV tot;split <;> rename_i h <;> simp [h]
theorem add_t (x y:Int) (hx:InW x) (hy:InW y) (w0:World):Ret Tryz.prog 54 #[wv x,wv y] w0 fun v w'=>v = .tuple #[wv (tot (x+y)),.bool (decide (InW (x+y)))]∧Only [] w0 w':=by
  have:=add_ret x y hx hy w0;rwa [tell_tot] at this
theorem sub_t (x y:Int) (hx:InW x) (hy:InW y) (w0:World):Ret Tryz.prog 203 #[wv x,wv y] w0 fun v w'=>v = .tuple #[wv (tot (x - y)),.bool (decide (InW (x - y)))]∧Only [] w0 w':=by
  have:=sub_ret x y hx hy w0;rwa [tell_tot] at this
theorem mul_t (x n:Int) (hx:InW x) (hn:In64 n) (w0:World):Ret Tryz.prog 101 #[wv x,.int .i64 n] w0 fun v w'=>v = .tuple #[wv (tot (x*n)),.bool (decide (InW (x*n)))]∧Only [] w0 w':=by
  have:=mul_ret x n hx hn.1 hn.2 w0;rwa [tell_tot] at this
theorem neg_t (x:Int) (hx:InW x) (w0:World):Ret Tryz.prog 48 #[wv x] w0 fun v w'=>v = .tuple #[wv (tot (-x)),.bool (decide (InW (-x)))]∧Only [] w0 w':=by
  have:=neg_ret x hx w0;rwa [tell_tot] at this
def sml (x:Int):Int:=if In64 x then x else 0
theorem small_t (x:Int) (hx:InW x) (w0:World):Ret Tryz.prog 121 #[wv x] w0 fun v w'=>v = .tuple #[.int .i64 (sml x),.bool (decide (In64 x))]∧Only [] w0 w':=by
  have:=small_ret x hx w0
  have e:smallV x = .tuple #[.int .i64 (sml x),.bool (decide (In64 x))]:=by unfold smallV sml;split <;> rename_i h <;> simp [h]
  rwa [e] at this
def movP (p:Pt) (g:Int):Option Pt:=atP p.t (g+p.r) p.w
theorem move_ret (p:Pt) (g:Int) (h:p.In) (hg:U64 g) (w0:World):Ret Tryz.prog 220 #[pv p,.int .u64 g] w0 fun v w'=>v=ptV (movP p g)∧Only [] w0 w':=by
  obtain ⟨⟨ht0,ht1⟩,⟨hr0,hr1⟩,hw0,hw1⟩:=h
  obtain ⟨hg0,hg1⟩:=hg
  have hs:=St.nil w0
  refine ret_of_xc Tryz.func220 (by kernel_rfl) rfl Tryz.ntmps220 rfl rfl rfl ?_
  repeat' (first|refine vs (k:=?_)|(refine al hs (k:=?_);intro b w hz hs)|(refine bx hs (k:=?_);intro b w hz hs)|refine qRg ?_|refine Nx.h ?_|fail)
  refine dr [] hs (k:=?_);intro hX w hs
  refine tk 0 hX (k:=?_)
  refine tk 2 hX (k:=?_)
  refine tk 3 hX (k:=?_)
  refine tk 4 hX (k:=?_)
  refine pd0 10 6 hs (k:=?_);intro f X w hp;have hs:=hp.st
  apply xa_pend 1 10 (f:=f) (X:=X) hX hp;exact rfl;exact rfl;(apply makes_alloc tabOk;exact rfl);kernel_rfl;kernel_rfl;kernel_rfl;kernel_rfl;(intro X Y;(repeat (first | exact pgg_base | refine pgg_step ?_ (by exact rfl))));(intro w' hs;first|exact se_hold hs.hold|exact se_hold hs.hold.tail|exact se_done rfl);intro f X w hp;have hs:=hp.st
  (with_reducible apply xs_call);exact rfl;exact rfl;exact ofU_ret g (by omega) (by omega) _
  rintro v w' ⟨rfl,ho⟩;replace hp:=hp.only ho;replace hs:=hp.st;repeat' (first|refine Nx.h ?_|fail)
  refine dn (k:=?_)
  apply xa_pend 5 10 (f:=f) (X:=X) hX hp;exact rfl;exact rfl;(apply makes_alloc tabOk;exact rfl);kernel_rfl;kernel_rfl;kernel_rfl;kernel_rfl;(intro X Y;(repeat (first | exact pgg_base | refine pgg_step ?_ (by exact rfl))));(intro w' hs;first|exact se_hold hs.hold|exact se_hold hs.hold.tail|exact se_done rfl);intro f X w hp;have hs:=hp.st
  (with_reducible apply xs_call);exact rfl;exact rfl;exact ofU32_ret p.r ⟨hr0,hr1⟩ _
  rintro v w' ⟨rfl,ho⟩;replace hp:=hp.only ho;replace hs:=hp.st;repeat' (first|refine Nx.h ?_|fail)
  refine dn (k:=?_)
  apply xa_pend 6 10 (f:=f) (X:=X) hX hp;exact rfl;exact rfl;(apply makes_alloc tabOk;exact rfl);kernel_rfl;kernel_rfl;kernel_rfl;kernel_rfl;(intro X Y;(repeat (first | exact pgg_base | refine pgg_step ?_ (by exact rfl))));(intro w' hs;first|exact se_hold hs.hold|exact se_hold hs.hold.tail|exact se_done rfl);intro f X w hp;have hs:=hp.st
  (with_reducible apply xs_call);exact rfl;exact rfl;exact add_ok g p.r (by unfold InW;omega) (by unfold InW;omega) (by unfold InW;omega) _
  rintro v w' ⟨rfl,ho⟩;replace hp:=hp.only ho;replace hs:=hp.st;repeat' (first|refine Nx.h ?_|fail)
  refine dn (k:=?_)
  refine tk 7 hX (hc:=by cases f <;> kernel_rfl) (k:=?_)
  refine tk 8 hX (hc:=by cases f <;> kernel_rfl) (k:=?_)
  refine tk 9 hX (hc:=by cases f <;> kernel_rfl) (k:=?_)
  apply xa_pendE 10 (f:=f) (X:=X) hX hp;exact rfl;(apply makes_alloc tabOk;exact rfl);kernel_rfl;kernel_rfl;(intro X Y;(repeat (first | exact pgg_base | refine pgg_step ?_ (by exact rfl))));(intro w' hs;first|exact se_hold hs.hold|exact se_hold hs.hold.tail|exact se_done rfl);intro b w hI hs
  refine dt 11 hX (k:=?_)
  repeat' (first|(refine stA hs (k:=?_);intro w hs)|refine Nx.h ?_|fail)
  refine dn (k:=?_)
  refine tk 12 hX (k:=?_)
  refine en (k:=?_)
  repeat' (first|refine vs (k:=?_)|refine qRg ?_|refine Nx.h ?_|fail)
  (with_reducible apply xs_call);exact rfl;exact rfl;exact at_ret p.t (g+p.r) p.w (by unfold InW;omega) _
  rintro v w' ⟨rfl,ho⟩;replace hs:=hs.call0 ho;repeat' (first|refine vs (k:=?_)|(refine stA hs (k:=?_);intro w hs)|refine Nx.h ?_|fail)
  first | refine rt (hq:=?_) | refine rt' (hq:=?_)
  exact ⟨rfl,hs.only0 rfl⟩
def cmpP (p q:Pt):Int:=if cmpI 0 (sn q.t p.t)=0 then cmpI (p.r*q.w) (q.r*p.w) else cmpI 0 (sn q.t p.t)
theorem prod32 {a b:Int} (ha:U32 a) (hb:U32 b):IntKind.u64.wrap (IntKind.u64.wrap a*IntKind.u64.wrap b)=a*b:=by
  rw [u64_of32 ha,u64_of32 hb]
  refine u64_id ⟨Int.mul_nonneg ha.1 hb.1,?_⟩
  have:=mul_rng (w:=a) (s:=b) (W:=4294967296) (S:=4294967296) ha.1 (Int.le_of_lt ha.2) (by have:=hb.1;omega) (Int.le_of_lt hb.2)
  have h1:=ha.2
  have h2:a*b≤a*4294967295:=Int.mul_le_mul_of_nonneg_left (by have:=hb.2;omega) ha.1
  omega
theorem pcmp_ret (p q:Pt) (hp':p.In) (hq:q.In) (w0:World):Ret Tryz.prog 244 #[pv p,pv q] w0 fun v w'=>v = .int .i64 (cmpP p q)∧Only [] w0 w':=by
  have hs:=St.nil w0
  refine ret_of_xc Tryz.func244 (by kernel_rfl) rfl Tryz.ntmps244 rfl rfl rfl ?_
  repeat' (first|refine vs (k:=?_)|(refine bx hs (k:=?_);intro b w hz hs)|refine qRg ?_|refine Nx.h ?_|fail)
  refine dr [] hs (k:=?_);intro hX w hs
  refine tk 0 hX (k:=?_)
  refine tk 1 hX (k:=?_)
  refine tk 2 hX (k:=?_)
  refine tk 3 hX (k:=?_)
  refine tk 6 hX (k:=?_)
  refine tk 7 hX (k:=?_)
  refine tk 8 hX (k:=?_)
  refine tk 9 hX (k:=?_)
  refine tk 10 hX (k:=?_)
  refine tk 11 hX (k:=?_)
  refine tk 12 hX (k:=?_)
  refine tk 13 hX (k:=?_)
  refine tk 14 hX (k:=?_)
  refine tk 15 hX (k:=?_)
  refine tk 16 hX (k:=?_)
  refine tk 17 hX (k:=?_)
  refine tk 18 hX (k:=?_)
  refine tk 19 hX (k:=?_)
  refine xa_set 17 (congrArg (Value.int .u64) (prod32 hp'.2.1 hq.2.2)) ?_
  refine xa_set 24 (congrArg (Value.int .u64) (prod32 hq.2.1 hp'.2.2)) ?_
  refine dt 4 hX (k:=?_)
  (with_reducible apply xs_call);exact rfl;exact rfl;exact since_ret q.t p.t _
  rintro v w' ⟨rfl,ho⟩;replace hs:=hs.call0 ho;repeat' (first|refine Nx.h ?_|fail)
  refine dn (k:=?_)
  refine dt 5 hX (k:=?_)
  (with_reducible apply xs_call);exact rfl;exact rfl;exact compareS_ret 0 (sn q.t p.t) _
  rintro v w' ⟨rfl,ho⟩;replace hs:=hs.call0 ho;repeat' (first|refine Nx.h ?_|fail)
  refine dn (k:=?_)
  refine dt 20 hX (k:=?_)
  (with_reducible apply xs_call);exact rfl;exact rfl;exact compareU_ret (p.r*q.w) (q.r*p.w) _
  rintro v w' ⟨rfl,ho⟩;replace hs:=hs.call0 ho;repeat' (first|refine Nx.h ?_|fail)
  refine dn (k:=?_)
  refine dt 21 hX (k:=?_)
  repeat' (first|(refine bs hs (k:=?_);intro b w hz hs)|refine Nx.h ?_|fail)
  refine dn (k:=?_)
  refine dt 22 hX (k:=?_)
  (with_reducible apply xs_call);exact rfl;exact rfl;exact or_ret _ _ _ _ _ (hs.get At.head)
  rintro v w' ⟨rfl,ho⟩;replace hs:=hs.call0 ho;repeat' (first|refine Nx.h ?_|fail)
  refine dn (k:=?_)
  refine tk 23 hX (k:=?_)
  refine en (k:=?_)
  repeat' (first|refine Nx.h ?_|fail)
  first | refine rt (hq:=?_) | refine rt' (hq:=?_)
  exact ⟨rfl,hs.only0 rfl⟩
def Pt.shift (p:Pt) (by_:Int):Pt:=⟨lat p.t by_,p.r,p.w⟩
theorem pshift_ret (p:Pt) (d:Int) (w0:World):Ret Tryz.prog 280 #[pv p,.int .u64 d] w0 fun v w'=>v=pv (p.shift d)∧Only [] w0 w':=by
  have hs:=St.nil w0
  refine ret_of_xc Tryz.func280 (by kernel_rfl) rfl Tryz.ntmps280 rfl rfl rfl ?_
  repeat' (first|refine vs (k:=?_)|(refine st hs (k:=?_);intro w hs)|(refine stA hs (k:=?_);intro w hs)|(refine al hs (k:=?_);intro b w hz hs)|(refine bx hs (k:=?_);intro b w hz hs)|refine qRg ?_|refine Nx.h ?_|fail)
  first | refine rt (hq:=?_) | refine rt' (hq:=?_)
  refine ⟨?_,hs.only0 rfl⟩
  unfold Pt.shift pv lat packed
  rw [wrap_u64]
end Go.Proofs.YtalffooghioekaaGreatDoorX

namespace Go.Proofs.YtalffooghioekaaGreatDoorX
open Go Go.RowKit
attribute [local irreducible] XS XC XA thenE blockE retE loopE loopS cutB cutN doneE SE
structure It where
  p:Pt
  id:Int
  d:Pt
deriving DecidableEq
abbrev It.cells (a:It):List Value:=[.int .u64 a.p.t,.int .u32 a.p.r,.int .u32 a.p.w,.int .i64 a.id,.int .u64 a.d.t,.int .u32 a.d.r,.int .u32 a.d.w]
def iv (a:It):Value := .agg #[.int .u64 a.p.t,.int .u32 a.p.r,.int .u32 a.p.w,.int .i64 a.id,.int .u64 a.d.t,.int .u32 a.d.r,.int .u32 a.d.w]
def It.In (a:It):Prop:=a.p.In∧In64 a.id∧a.d.In
instance (a:It):Decidable a.In:=by unfold It.In;infer_instance
def It.zero:It:=⟨.zero,0,.zero⟩
def It.right (a:It):Bool:=a.p.right && a.d.right && decide (a.p.w=a.d.w) && decide (0 < a.id) && decide (0≤sn a.d.t a.p.t) && decide (sn a.d.t a.p.t≤1152921504606846976)
set_option maxHeartbeats 1000000 in
theorem iright_ret (a:It) (w0:World):Ret Tryz.prog 210 #[iv a] w0 fun v w'=>v = .bool a.right∧Only [] w0 w':=by
  have hs:=St.nil w0
  refine ret_of_xc Tryz.func210 (by kernel_rfl) rfl Tryz.ntmps210 rfl rfl rfl ?_
  repeat' (first|refine vs (k:=?_)|(refine bx hs (k:=?_);intro b w hz hs)|refine qRg ?_|refine Nx.h ?_|fail)
  (with_reducible apply xs_call);exact rfl;exact rfl;exact since_ret a.d.t a.p.t _
  rintro v w' ⟨rfl,ho⟩;replace hs:=hs.call0 ho;repeat' (first|refine vs (k:=?_)|refine qRg ?_|refine Nx.h ?_|fail)
  (with_reducible apply xs_call);exact rfl;exact rfl;exact pright_ret a.p _
  rintro v w' ⟨rfl,ho⟩;replace hs:=hs.call0 ho;repeat' (first|refine vs (k:=?_)|refine ps (k:=?_)|refine Nx.h ?_|((with_reducible apply xs_guard);exact rfl;exact rfl;intro c hc;(fail_if_success have:true=c:=hc);(fail_if_success have:false=c:=hc);cases c)|fail)
  · first | refine rt (hq:=?_) | refine rt' (hq:=?_)
    refine ⟨?_,hs.only0 rfl⟩
    clear hs
    unfold It.right packed
    simp_all
  · (with_reducible apply xs_call);exact rfl;exact rfl;exact pright_ret a.d _
    rintro v w' ⟨rfl,ho⟩;replace hs:=hs.call0 ho;repeat' (first|refine vs (k:=?_)|refine ps (k:=?_)|refine Nx.h ?_|((with_reducible apply xs_guard);exact rfl;exact rfl;intro c hc;(fail_if_success have:true=c:=hc);(fail_if_success have:false=c:=hc);cases c)|fail)
    all_goals (first | refine rt (hq:=?_) | refine rt' (hq:=?_))
    all_goals refine ⟨?_,hs.only0 rfl⟩
    all_goals clear hs
    all_goals (unfold It.right packed;simp_all <;> omega)
def ahead (a b:It):Bool:=decide (cmpP a.p b.p < 0) || (decide (cmpP a.p b.p=0) && decide (a.id < b.id))
set_option maxHeartbeats 1000000 in
theorem ahead_ret (x y:It) (ha:x.In) (hb:y.In) (w0:World):Ret Tryz.prog 223 #[iv x,iv y] w0 fun v w'=>v = .bool (ahead x y)∧Only [] w0 w':=by
  have hs:=St.nil w0
  refine ret_of_xc Tryz.func223 (by kernel_rfl) rfl Tryz.ntmps223 rfl rfl rfl ?_
  repeat' (first|refine vs (k:=?_)|(refine bx hs (k:=?_);intro b w hz hs)|refine qRg ?_|refine Nx.h ?_|fail)
  (with_reducible apply xs_call);exact rfl;exact rfl;exact pcmp_ret x.p y.p ha.1 hb.1 _
  rintro v w' ⟨rfl,ho⟩;replace hs:=hs.call0 ho;repeat' (first|refine vs (k:=?_)|refine ps (k:=?_)|refine qRg ?_|refine Nx.h ?_|((with_reducible apply xs_guard);exact rfl;exact rfl;intro c hc;(fail_if_success have:true=c:=hc);(fail_if_success have:false=c:=hc);cases c)|fail)
  all_goals (first | refine rt (hq:=?_) | refine rt' (hq:=?_))
  all_goals refine ⟨?_,hs.only0 rfl⟩
  all_goals clear hs
  all_goals (unfold ahead packed;simp_all)
def due (a b:It):Bool:=decide (cmpP a.d b.d < 0) || (decide (cmpP a.d b.d=0) && ahead a b)
set_option maxHeartbeats 1000000 in
theorem due_ret (x y:It) (ha:x.In) (hb:y.In) (w0:World):Ret Tryz.prog 260 #[iv x,iv y] w0 fun v w'=>v = .bool (due x y)∧Only [] w0 w':=by
  have hs:=St.nil w0
  refine ret_of_xc Tryz.func260 (by kernel_rfl) rfl Tryz.ntmps260 rfl rfl rfl ?_
  repeat' (first|refine vs (k:=?_)|(refine bx hs (k:=?_);intro b w hz hs)|refine qRg ?_|refine Nx.h ?_|fail)
  (with_reducible apply xs_call);exact rfl;exact rfl;exact pcmp_ret x.d y.d ha.2.2 hb.2.2 _
  rintro v w' ⟨rfl,ho⟩;replace hs:=hs.call0 ho;repeat' (first|refine vs (k:=?_)|refine ps (k:=?_)|refine qRg ?_|refine Nx.h ?_|((with_reducible apply xs_guard);exact rfl;exact rfl;intro c hc;(fail_if_success have:true=c:=hc);(fail_if_success have:false=c:=hc);cases c)|fail)
  · first | refine rt (hq:=?_) | refine rt' (hq:=?_)
    refine ⟨?_,hs.only0 rfl⟩
    clear hs
    unfold due packed;simp_all
  · (with_reducible apply xs_call);exact rfl;exact rfl;exact ahead_ret x y ha hb _
    rintro v w' ⟨rfl,ho⟩;replace hs:=hs.call0 ho;repeat' (first|refine vs (k:=?_)|refine Nx.h ?_|fail)
    first | refine rt (hq:=?_) | refine rt' (hq:=?_)
    refine ⟨?_,hs.only0 rfl⟩
    clear hs
    unfold due packed;simp_all
  · first | refine rt (hq:=?_) | refine rt' (hq:=?_)
    refine ⟨?_,hs.only0 rfl⟩
    clear hs
    unfold due packed;simp_all
end Go.Proofs.YtalffooghioekaaGreatDoorX

namespace Go.Proofs.YtalffooghioekaaGreatDoorX
structure OrdOn {α:Type} (lt:α→α→Bool) (S:α→Prop):Prop where
  irr:∀ a,S a→lt a a=false
  tr:∀ a b c,S a→S b→S c→lt a b=true→lt b c=true→lt a c=true
  tri:∀ a b,S a→S b→lt a b=false→lt b a=false→a=b
inductive RB (α:Type) where
  | nil
  | node (l:RB α) (x:α) (r:RB α) (c:Bool)
namespace RB
variable {α : Type}
def red:RB α→Bool
  | nil=>false
  | node _ _ _ c=>c
def left:RB α→RB α
  | nil=>nil
  | node l _ _ _=>l
def right:RB α→RB α
  | nil=>nil
  | node _ _ r _=>r
def list:RB α→List α
  | nil=>[]
  | node l x r _=>l.list ++ x :: r.list
def depth:RB α→Nat
  | nil=>0
  | node l _ r _=>1+max l.depth r.depth
def toLeft:RB α→RB α
  | node l x (node rl y rr _) c=>node (node l x rl true) y rr c
  | t=>t
def toRight:RB α→RB α
  | node (node ll y lr _) x r c=>node ll y (node lr x r true) c
  | t=>t
def flip:RB α→RB α
  | node (node a x b c1) y (node d z e c2) c=>node (node a x b !c1) y (node d z e !c2) !c
  | t=>t
def mend1 (t:RB α):RB α:=bif t.right.red && !t.left.red then toLeft t else t
def mend2 (t:RB α):RB α:=bif t.left.red && t.left.left.red then toRight t else t
def mend3 (t:RB α):RB α:=bif t.left.red && t.right.red then flip t else t
def mend (t:RB α):RB α:=mend3 (mend2 (mend1 t))
def ins (lt:α→α→Bool):RB α→α→RB α
  | nil,x=>node nil x nil true
  | node l y r c,x=>bif lt x y then mend (node (ins lt l x) y r c) else mend (node l y (ins lt r x) c)
def blacken:RB α→RB α
  | nil=>nil
  | node l x r _=>node l x r false
theorem left_node (l:RB α) (x:α) (r:RB α) (c:Bool):(node l x r c).left=l:=rfl
theorem right_node (l:RB α) (x:α) (r:RB α) (c:Bool):(node l x r c).right=r:=rfl
theorem red_node (l:RB α) (x:α) (r:RB α) (c:Bool):(node l x r c).red=c:=rfl
theorem list_toLeft:∀ t:RB α,(toLeft t).list=t.list
  | nil=>rfl
  | node l x nil c=>rfl
  | node l x (node rl y rr _) c=>by simp [toLeft,list]
theorem list_toRight:∀ t:RB α,(toRight t).list=t.list
  | nil=>rfl
  | node nil x r c=>rfl
  | node (node ll y lr _) x r c=>by simp [toRight,list]
theorem list_flip:∀ t:RB α,(flip t).list=t.list
  | nil=>rfl
  | node nil x r c=>rfl
  | node (node a x b _) y nil c=>rfl
  | node (node a x b _) y (node d z e _) c=>by simp [flip,list]
theorem list_mend (t:RB α):(mend t).list=t.list:=by
  unfold mend mend3 mend2 mend1
  repeat' (cases (_ && _) <;> simp only [cond_true,cond_false])
  all_goals simp only [list_toLeft,list_toRight,list_flip]
theorem list_blacken:∀ t:RB α,(blacken t).list=t.list
  | nil=>rfl
  | node l x r c=>rfl
def insL (lt:α→α→Bool) (x:α):List α→List α
  | []=>[x]
  | y :: l=>bif lt x y then x :: y :: l else y :: insL lt x l
theorem insL_left {lt:α→α→Bool} {x y:α} (h:lt x y=true) (R:List α):∀ L:List α,insL lt x (L ++ y :: R)=insL lt x L ++ y :: R
  | []=>by simp [insL,h]
  | z :: L=>by
    simp only [List.cons_append,insL]
    cases lt x z <;> simp [insL_left h R L]
theorem insL_right {lt:α→α→Bool} {x:α} (R:List α):∀ L:List α,(∀ z∈L,lt x z=false)→insL lt x (L ++ R)=L ++ insL lt x R
  | [],_=>rfl
  | z :: L,h=>by
    simp only [List.cons_append,insL,h z List.mem_cons_self,cond_false]
    rw [insL_right R L fun z hz=>h z (List.mem_cons_of_mem _ hz)]
def Srt (lt:α→α→Bool) (l:List α):Prop:=l.Pairwise fun a b=>lt a b=true
theorem srt_node {lt:α→α→Bool} {L R:List α} {y:α} (h:Srt lt (L ++ y :: R)):Srt lt L∧Srt lt R∧(∀ z∈L,lt z y=true)∧(∀ z∈R,lt y z=true)∧∀ a∈L,∀ b∈R,lt a b=true:=by
  unfold Srt at *
  rw [List.pairwise_append,List.pairwise_cons] at h
  obtain ⟨h1,⟨h2,h3⟩,h4⟩:=h
  exact ⟨h1,h3,fun z hz=>h4 z hz y List.mem_cons_self,h2,fun a ha b hb=>h4 a ha b (List.mem_cons_of_mem _ hb)⟩
theorem asym {lt:α→α→Bool} {S:α→Prop} (ho:OrdOn lt S) {a b:α} (ha:S a) (hb:S b) (h:lt a b=true):lt b a=false:=by
  cases h2:lt b a
  · rfl
  · have h3:=ho.tr a b a ha hb ha h h2
    rw [ho.irr a ha] at h3
    cases h3
theorem list_ins {lt:α→α→Bool} {S:α→Prop} (ho:OrdOn lt S) {x:α} (hx:S x):∀ t:RB α,Srt lt t.list→(∀ z∈t.list,S z)→(ins lt t x).list=insL lt x t.list
  | nil,_,_=>rfl
  | node l y r c,hs,hS=>by
    obtain ⟨h1,h2,h3,h4,h5⟩:=srt_node hs
    simp only [list,List.mem_append,List.mem_cons] at hS
    have hl:=list_ins ho hx l h1 fun z hz=>hS z (.inl hz)
    have hr:=list_ins ho hx r h2 fun z hz=>hS z (.inr (.inr hz))
    have hy:=hS y (.inr (.inl rfl))
    simp only [ins,list]
    cases hxy:lt x y
    · rw [cond_false,list_mend]
      simp only [list,hr]
      rw [insL_right _ l.list fun z hz=>?_]
      · simp [insL,hxy]
      · have hz':=hS z (.inl hz)
        cases hxz:lt x z
        · rfl
        · rw [ho.tr x z y hx hz' hy hxz (h3 z hz)] at hxy;cases hxy
    · rw [cond_true,list_mend]
      simp only [list,hl]
      rw [insL_left hxy]
/-! ### Balance -/
inductive Ok:RB α→Nat→Prop
  | nil:Ok nil 0
  | black {l r:RB α} {x:α} {h:Nat}:Ok l h→Ok r h→r.red=false→Ok (node l x r false) (h+1)
  | red {l r:RB α} {x:α} {h:Nat}:Ok l h→Ok r h→l.red=false→r.red=false→Ok (node l x r true) h
inductive Alm:RB α→Nat→Prop
  | ok {t:RB α} {h:Nat}:Ok t h→Alm t h
  | rr {l r:RB α} {x:α} {h:Nat}:Ok l h→Ok r h→l.red=true→r.red=false→Alm (node l x r true) h
theorem Ok.blacken {t:RB α} {h:Nat} (k:Ok t h):∃ h',Ok (blacken t) h':=by
  cases k with
  | nil=>exact ⟨_,.nil⟩
  | black a b c=>exact ⟨_,.black a b c⟩
  | red a b c d=>exact ⟨_,.black a b d⟩
theorem red_true {t:RB α} (h:t.red=true):∃ l x r,t=node l x r true:=by
  cases t with
  | nil=>cases h
  | node l x r c=>exact ⟨l,x,r,by rw [show c=true from h]⟩
theorem Ok.inv_red {l r:RB α} {x:α} {h:Nat} (k:Ok (node l x r true) h):Ok l h∧Ok r h∧l.red=false∧r.red=false:=by
  cases k with
  | red a b c d=>exact ⟨a,b,c,d⟩
theorem Ok.inv_black {l r:RB α} {x:α} {h:Nat} (k:Ok (node l x r false) h):∃ h',h=h'+1∧Ok l h'∧Ok r h'∧r.red=false:=by
  cases k with
  | black a b c=>exact ⟨_,rfl,a,b,c⟩
theorem red_left_false {t:RB α} {h:Nat} (k:Ok t h) (hr:t.red=true):t.left.red=false:=by
  obtain ⟨l,x,r,rfl⟩:=red_true hr
  exact k.inv_red.2.2.1
theorem mendL_black {l r:RB α} {y:α} {h:Nat} (hl:Alm l h) (hr:Ok r h) (h1:r.red=false):Ok (mend (node l y r false)) (h+1):=by
  cases hl with
  | ok hl =>
    have hlr:(l.red && l.left.red)=false:=by
      cases hc:l.red
      · rfl
      · rw [red_left_false hl hc];rfl
    have:mend (node l y r false)=node l y r false:=by
      simp [mend,mend1,mend2,mend3,left_node,right_node,red_node,h1,hlr]
    rw [this]
    exact .black hl hr h1
  | rr a b c d =>
    obtain ⟨ll,z,lr,rfl⟩:=red_true c
    obtain ⟨p1,p2,p3,p4⟩:=a.inv_red
    simp [mend,mend1,mend2,mend3,left_node,right_node,red_node,h1,toRight,flip]
    exact .red (.black p1 p2 p4) (.black b hr h1) rfl rfl
theorem mendL_red {l r:RB α} {y:α} {h:Nat} (hl:Ok l h) (hr:Ok r h) (h1:r.red=false):Alm (mend (node l y r true)) h:=by
  have hlr:(l.red && l.left.red)=false:=by
    cases hc:l.red
    · rfl
    · rw [red_left_false hl hc];rfl
  have:mend (node l y r true)=node l y r true:=by
    simp [mend,mend1,mend2,mend3,left_node,right_node,red_node,h1,hlr]
  rw [this]
  cases hc:l.red
  · exact .ok (.red hl hr hc h1)
  · exact .rr hl hr hc h1
theorem mendR_black {l r:RB α} {y:α} {h:Nat} (hl:Ok l h) (hr:Ok r h):Ok (mend (node l y r false)) (h+1):=by
  cases hc:r.red
  · exact mendL_black (.ok hl) hr hc
  · obtain ⟨rl,z,rr,rfl⟩:=red_true hc
    obtain ⟨p1,p2,p3,p4⟩:=hr.inv_red
    cases hd:l.red
    · have:mend (node l y (node rl z rr true) false)=node (node l y rl true) z rr false:=by
        simp [mend,mend1,mend2,mend3,left_node,right_node,red_node,toLeft,hd,p4]
      rw [this]
      exact .black (.red hl p1 hd p3) p2 p4
    · obtain ⟨ll,u,lr,rfl⟩:=red_true hd
      obtain ⟨q1,q2,q3,q4⟩:=hl.inv_red
      have:mend (node (node ll u lr true) y (node rl z rr true) false)=node (node ll u lr false) y (node rl z rr false) true:=by
        simp [mend,mend1,mend2,mend3,left_node,right_node,red_node,flip,q3]
      rw [this]
      exact .red (.black q1 q2 q4) (.black p1 p2 p4) rfl rfl
theorem mendR_red {l r:RB α} {y:α} {h:Nat} (hl:Ok l h) (hr:Ok r h) (h1:l.red=false):Alm (mend (node l y r true)) h:=by
  cases hc:r.red
  · exact mendL_red hl hr hc
  · obtain ⟨rl,z,rr,rfl⟩:=red_true hc
    obtain ⟨p1,p2,p3,p4⟩:=hr.inv_red
    have:mend (node l y (node rl z rr true) true)=node (node l y rl true) z rr true:=by
      simp [mend,mend1,mend2,mend3,left_node,right_node,red_node,toLeft,h1,p4]
    rw [this]
    exact .rr (.red hl p1 h1 p3) p2 rfl p4
theorem ok_ins (lt:α→α→Bool) (x:α):∀ {t:RB α} {h:Nat},Ok t h→Alm (ins lt t x) h∧(t.red=false→Ok (ins lt t x) h):=by
  intro t h k
  induction k with
  | nil=>exact ⟨.ok (.red .nil .nil rfl rfl),fun _ => .red .nil .nil rfl rfl⟩
  | @black l r y h a b c ia ib =>
    have key:Ok (ins lt (node l y r false) x) (h+1):=by
      simp only [ins]
      cases lt x y
      · exact mendR_black a (ib.2 c)
      · exact mendL_black ia.1 b c
    exact ⟨.ok key,fun _=>key⟩
  | @red l r y h a b c d ia ib =>
    refine ⟨?_,fun h=>by cases h⟩
    simp only [ins]
    cases lt x y
    · exact mendR_red a (ib.2 d) c
    · exact mendL_red (ia.2 c) b d
def Good (t:RB α):Prop:=t.red=false∧∃ h,Ok t h
theorem Good.nil:Good (nil:RB α):=⟨rfl,0,.nil⟩
theorem blacken_red (t:RB α):(blacken t).red=false:=by cases t <;> rfl
theorem Good.ins {lt:α→α→Bool} {x:α} {t:RB α} (k:Good t):Good (blacken (ins lt t x)):=by
  obtain ⟨hr,h,k⟩:=k
  exact ⟨blacken_red _,((ok_ins lt x k).2 hr).blacken⟩
end RB
end Go.Proofs.YtalffooghioekaaGreatDoorX
