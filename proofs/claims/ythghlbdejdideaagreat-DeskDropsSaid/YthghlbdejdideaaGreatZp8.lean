/-
  Texts of mine, put together by program (wip/slim.py), for law_deskDrops: part 8.
-/
import Derived.Test.YthghlbdejdideaaGreatZp7
import Derived.Test.YthghlbdejdideaaGreatProg
noncomputable section
set_option linter.unusedVariables false
set_option linter.unusedSimpArgs false
set_option linter.defProp false
set_option maxRecDepth 100000
/- FnS0 -/
namespace Go.Ax
open Go.Proofs
def zkf:TypeId:=3
def zaw:TypeId:=5
def zdX:TypeId:=22
def zaj:TypeId:=31
def zaz:TypeId:=33
def zav:TypeId:=36
def zbh:TypeId:=44
def zbu:TypeId:=49
def zaJ:TypeId:=56
def zah:TypeId:=60
def zb3:TypeId:=69
def zab:TypeId:=71
def zfr:TypeId:=128
def zjm:TypeId:=140
def zc7:TypeId:=161
def zfq:TypeId:=211
def zeb:TypeId:=213
def zaD:TypeId:=221
def zkg:TypeId:=223
def zcz:TypeId:=225
def zae:TypeId:=229
def zcM:TypeId:=242
def zc6:TypeId:=244
def zcN:TypeId:=249
def zbg:TypeId:=305
def zdY:TypeId:=308
def zcB:TypeId:=340
def zbE:TypeId:=389
def zd5:TypeId:=417
def zhw:TypeId:=470
def zdy:TypeId:=523
def zea:TypeId:=524
def zba:FuncId:=3
def zeZ:FuncId:=15
def zc0:FuncId:=48
def zca:FuncId:=49
def za9:FuncId:=16
def zaS:FuncId:=19
def zel:FuncId:=50
def zaW:FuncId:=51
def zaL:FuncId:=85
def zci:FuncId:=130
def zbS:FuncId:=86
def zdE:FuncId:=131
def zcs:FuncId:=82
def zcW:FuncId:=128
def zdC:FuncId:=129
def zbU:FuncId:=87
def zeH:FuncId:=132
def zfh:FuncId:=200
def zek:FuncId:=46
def zdG:FuncId:=83
def zdD:FuncId:=84
def zfQ:FuncId:=88
def zcb:FuncId:=89
def zeG:FuncId:=133
def zd7:FuncId:=201
def zff:FuncId:=278
def zbm:FuncId:=150
def zap:FuncId:=279
def zaC:FuncId:=280
def zbp:FuncId:=281
def zb9:FuncId:=282
def zcJ:FuncId:=134
def zbF:FuncId:=202
def zfR:FuncId:=68
def zfS:FuncId:=203
def znY:FuncId:=283
def zjR:FuncId:=284
def zkQ:FuncId:=318
def zjb:FuncId:=354
def zcF:FuncId:=353
def zcj:FuncId:=147
def zbj:FuncId:=236
def zck:FuncId:=135
def zfl:FuncId:=204
def ziy:FuncId:=285
def zmV:FuncId:=335
def zn6:FuncId:=336
def zlE:FuncId:=337
def zji:FuncId:=348
def zjc:FuncId:=286
def zg5:FuncId:=148
def zmS:FuncId:=237
def zb8:FuncId:=320
def zct:FuncId:=355
def zkP:FuncId:=321
def znZ:FuncId:=322
def znX:FuncId:=357
def zmR:FuncId:=356
def zcn:FuncId:=358
def zcE:FuncId:=364
def zlw:FuncId:=359
def znW:FuncId:=323
def zoV:FuncId:=324
def zlv:FuncId:=360
def zfg:FuncId:=137
def zcI:FuncId:=208
def zc2:FuncId:=136
def zhA:FuncId:=206
def zgC:FuncId:=205
def zo0:FuncId:=287
def zfk:FuncId:=207
def zcw:FuncId:=90
def zfe:FuncId:=138
def zcZ:FuncId:=209
def zdc:FuncId:=210
def zeV:FuncId:=288
def zd6:FuncId:=338
def zcv:FuncId:=139
def zg4:FuncId:=140
def zlz:FuncId:=211
def zjU:FuncId:=212
def zjx:FuncId:=141
def zkO:FuncId:=142
def zsr:FuncId:=213
def zoT:FuncId:=290
def zdh:FuncId:=289
def zg8:FuncId:=143
def zn7:FuncId:=214
def zhu:FuncId:=215
def zht:FuncId:=216
def zhS:FuncId:=291
def zhT:FuncId:=224
def zfa:FuncId:=217
def ze9:FuncId:=292
def zg7:FuncId:=221
def zg6:FuncId:=222
def zgQ:FuncId:=293
def zhR:FuncId:=294
def zg9:FuncId:=339
def zmW:FuncId:=362
def zjh:FuncId:=295
def zlD:FuncId:=218
def zjW:FuncId:=296
def ziz:FuncId:=341
def zej:FuncId:=340
def zeU:FuncId:=363
def zjX:FuncId:=297
def zlB:FuncId:=342
def zj1:FuncId:=299
def zfV:FuncId:=300
def zkT:FuncId:=310
def zbv:FuncId:=298
def zbH:FuncId:=343
def zkS:FuncId:=219
def ziA:FuncId:=220
def zjY:FuncId:=301
def zgr:FuncId:=344
def zhs:FuncId:=223
def zkR:FuncId:=144
def zdO:FuncId:=225
def zet:FuncId:=302
def zfj:FuncId:=91
def zoY:FuncId:=145
def zev:FuncId:=226
def zd0:FuncId:=227
def ziw:FuncId:=146
def znV:FuncId:=228
def zoU:FuncId:=303
def zmQ:FuncId:=346
def zlu:FuncId:=347
def zcY:FuncId:=345
def znU:FuncId:=305
def zqG:FuncId:=304
def zkN:FuncId:=306
def zlC:FuncId:=229
def zn5:FuncId:=307
def zlA:FuncId:=308
def zgq:FuncId:=309
def zhP:FuncId:=230
def zqJ:FuncId:=311
def ziv:FuncId:=312
def zmM:FuncId:=313
def zmL:FuncId:=349
def zjT:FuncId:=231
def zn4:FuncId:=314
def zj0:FuncId:=350
def zqI:FuncId:=315
def zoX:FuncId:=316
def zoS:FuncId:=232
def zjZ:FuncId:=234
def zqH:FuncId:=233
def zmP:FuncId:=317
def zeu:FuncId:=351
def zd1:FuncId:=352
def zjS:FuncId:=235
def zcX:FuncId:=319
def zbf:FuncId:=52
def zeL:FuncId:=92
def zbq:FuncId:=149
def zcS:FuncId:=151
def zhi:FuncId:=238
def zbl:FuncId:=239
def zdH:FuncId:=240
def zcT:FuncId:=93
def zbt:FuncId:=152
def zdI:FuncId:=241
def zc3:FuncId:=94
def zfi:FuncId:=153
def zeF:FuncId:=242
def zbi:FuncId:=325
def zeJ:FuncId:=243
def zeI:FuncId:=326
def zd8:FuncId:=154
def zeW:FuncId:=244
def zdd:FuncId:=155
def zfU:FuncId:=95
def zmT:FuncId:=156
def zlx:FuncId:=163
def zmO:FuncId:=246
def zmN:FuncId:=327
def zly:FuncId:=251
def zje:FuncId:=97
def zeX:FuncId:=164
def zn1:FuncId:=157
def zls:FuncId:=245
def zjd:FuncId:=158
def zjf:FuncId:=159
def zjg:FuncId:=247
def zhQ:FuncId:=329
def zdF:FuncId:=328
def zei:FuncId:=330
def zoZ:FuncId:=248
def zoW:FuncId:=331
def zix:FuncId:=249
def zjV:FuncId:=160
def zn2:FuncId:=161
def zn3:FuncId:=250
def zfT:FuncId:=53
def zn0:FuncId:=96
def zmU:FuncId:=162
def zbT:FuncId:=54
def zbc:FuncId:=98
def zbb:FuncId:=24
def zc1:FuncId:=58
def zb4:FuncId:=101
def zaZ:FuncId:=27
def zby:FuncId:=62
def zas:FuncId:=61
def zaU:FuncId:=102
def zaH:FuncId:=103
def zaF:FuncId:=104
def zbx:FuncId:=105
def za6:FuncId:=66
def zbG:FuncId:=18
def zaM:FuncId:=25
def zb5:FuncId:=59
def za8:FuncId:=17
def za7:FuncId:=26
def zaE:FuncId:=60
def zcu:FuncId:=20
def za2:FuncId:=21
def zaf:FuncId:=55
def zbJ:FuncId:=56
def zbK:FuncId:=99
def zbw:FuncId:=100
def zbL:FuncId:=22
def za1:FuncId:=57
def zbk:FuncId:=23
def zeY:FuncId:=4
def ze7:FuncId:=5
def zg3:FuncId:=28
def ze8:FuncId:=6
def zeK:FuncId:=7
def hintRows:List (Nat × List (List Nat)):=[
 (zba,[[15,16],[15,16],[15,16],[15,16],[15],[15,19],[15],[0,1,2,3,4,5,6,7,8,9,10,11,12,13,14,15],[15],[15,16],[16],[10]]),
 (zeZ,[[],[6],[],[0,1,3,4,2,5,6]]),
 (zc0,[]),
 (zca,[]),
 (za9,[]),
 (zaS,[[],[],[],[],[0,1,2,3,4,5,6,7,8,9,10,11,12]]),
 (zel,[]),
 (zaW,[]),
 (zaL,[[]]),
 (zci,[]),
 (zbS,[[],[10],[]]),
 (zdE,[]),
 (zcs,[[],[9],[]]),
 (zcW,[[],[10],[]]),
 (zdC,[]),
 (zbU,[[0,1,2,3,4,5,6,7,8,9,10,11,12,14,15,16,13]]),
 (zeH,[]),
 (zfh,[]),
 (zek,[[],[19],[],[0,1,2,3,4,5,6,7,8,9,10,11,12,13,14,15,16,17,18,19,20,21,22,23,24,25,26,27,28,29,30,31,32]]),
 (zdG,[]),
 (zdD,[[3],[3,11],[3],[3]]),
 (zfQ,[]),
 (zcb,[[],[30],[],[],[],[],[],[],[56],[],[],[],[72],[]]),
 (zeG,[[4],[0,4],[0,4],[0,1,2,3,4,5,6,7,8,9,10,11,12,13,14,16,17,15,18],[0,1,2,3,4,5,6,7,8,9,10,11,12],[]]),
 (zd7,[[0,1,2,3,4,5,6,7,8,9,10,11,12,13,14,15],[],[],[]]),
 (zff,[[]]),
 (zbm,[]),
 (zap,[]),
 (zaC,[[5],[5,28],[5]]),
 (zbp,[[5],[5,8],[5]]),
 (zb9,[[],[],[],[4],[],[0,1,2,3,4,5,8,6,9,7,10,11,12,13,14,15,16],[],[],[5],[],[],[0,1,2,3,4,5,7,6,8,9,10,11,12,13,14,15],[],[],[94],[],[0,1,2,3,4,5,6,7,8,9,10,11]]),
 (zcJ,[[],[39],[],[0,1,2,3,4,5,6,7,8,9,12,10,11]]),
 (zbF,[[],[16],[]]),
 (zfR,[]),
 (zfS,[[5],[5,13],[5],[5]]),
 (znY,[[3],[3,9],[3],[3],[3,18],[3],[3]]),
 (zjR,[]),
 (zkQ,[]),
 (zjb,[]),
 (zcF,[[],[8],[]]),
 (zcj,[[],[0,1,2,3,4,5,6,7,8,9,10,11,12]]),
 (zbj,[[0,1,2,3,4,5,6,7,8,9,10],[0,1,2,3,4,5,6,7,8,9]]),
 (zck,[]),
 (zfl,[[],[9,10]]),
 (ziy,[]),
 (zmV,[]),
 (zn6,[]),
 (zlE,[]),
 (zji,[]),
 (zjc,[[0,1,2,3,4,5,6,7,8,9,10,11]]),
 (zg5,[]),
 (zmS,[[4],[4,19],[4]]),
 (zb8,[]),
 (zct,[[],[8],[]]),
 (zkP,[]),
 (znZ,[[],[20],[0,1,2,3,4,5,6,7,8,9,10,11,12,13,14]]),
 (znX,[[],[],[0,1,2,3,4,5,6,7,8,9,10,11,12,13,14,15,16,17,18,19],[],[],[0,1,2,3,4,5,6,7],[],[],[0,1,2,3,4,5,6,7],[],[0,1,2,3,4,5,6,7,8,9,10,11,12,13,14,15],[0,1,2,3,4,5,6,7,8,9,10,11]]),
 (zmR,[]),
 (zcn,[]),
 (zcE,[[],[8],[]]),
 (zlw,[]),
 (znW,[[2],[2],[2,78],[2],[0,1,2,3,5,6,7,4,8,9],[2],[2,98],[2],[0,1,2,3,5,6,4,7,8,9],[2],[2,136],[2],[0,2,3,4,5,1,6,7,8],[2],[0,1,2,4,5,6,3,7,8,9],[2],[2,33],[2],[0,1,2,4,5,6,3,7,8,9],[0,1,2,3,4,5,6,7,8]]),
 (zoV,[[0],[0,7],[0]]),
 (zlv,[[0],[0,11],[0],[0],[0,40],[0]]),
 (zfg,[[],[0,1,2,3,4,5,6,7,8]]),
 (zcI,[[0,2],[0,2],[0,2]]),
 (zc2,[[0,1,2,3,4,5,6,7,8,9,10,11],[12],[12,35],[12],[]]),
 (zhA,[[5,6],[5,6,11],[5,6],[5],[6]]),
 (zgC,[]),
 (zo0,[]),
 (zfk,[[]]),
 (zcw,[]),
 (zfe,[[],[5],[],[6],[],[0,1,2,3,4,5,6,7,8,9,10,11],[0,1,2,3,4,5,6,7,8,9,10,11,14,15,17,18,12,16,19,13,20,21,22],[]]),
 (zcZ,[[3],[3,8],[3]]),
 (zdc,[[0,1,2,3,4,5,6,7,8,9,10,11,12]]),
 (zeV,[[6],[1,6],[1,6]]),
 (zd6,[[8,9],[9]]),
 (zcv,[[],[16],[]]),
 (zg4,[[0,1,2,3,4,5,6,7,8,9]]),
 (zlz,[]),
 (zjU,[[6],[6,16],[6]]),
 (zjx,[]),
 (zkO,[]),
 (zsr,[]),
 (zoT,[]),
 (zdh,[[],[8],[]]),
 (zg8,[[0,1,2,3,4,5,6],[],[],[],[],[],[],[],[0,1,2,3,4,5,6,7,8,9,10,11],[],[],[],[0,1,2,3,4,5,6],[],[]]),
 (zn7,[]),
 (zhu,[]),
 (zht,[]),
 (zhS,[[6],[6,20],[6],[0,1,2,3,4,5,6,7,8,9,10,11,12,13,14,15,16,17,18,19,20,21,22,23],[]]),
 (zhT,[[0,1,2,3,4,5,6,7,8,9,10,11]]),
 (zfa,[[],[],[89],[],[0,1,2,5,3,6,4,7,8,9,10,11,12],[],[],[72],[],[0,1,2,3,4,5,6,7,8,9],[],[57],[],[0,1,2,3,4,5,6,7,8,9],[],[35],[],[0,1,2,3,4,5,6,7],[],[19],[],[0,1,2,3,4,5,6,7,8,9]]),
 (ze9,[[3],[3],[3],[],[],[],[],[0,1,2,3,4,5,6,7,8,9,10,11,12,13,14,15,16]]),
 (zg7,[[]]),
 (zg6,[[7],[7,9],[7]]),
 (zgQ,[[3],[3],[3]]),
 (zhR,[]),
 (zg9,[]),
 (zmW,[[0,1,2,3,4,5,6]]),
 (zjh,[[3],[3,9],[3]]),
 (zlD,[[],[71],[],[3]]),
 (zjW,[]),
 (ziz,[]),
 (zej,[]),
 (zeU,[[],[8],[]]),
 (zjX,[[],[12],[]]),
 (zlB,[[]]),
 (zj1,[]),
 (zfV,[]),
 (zkT,[]),
 (zbv,[]),
 (zbH,[[],[8],[]]),
 (zkS,[]),
 (ziA,[]),
 (zjY,[[0,1,3,4,6,7,2,5,8,9,10,11,12,13,14]]),
 (zgr,[]),
 (zhs,[[3],[3,4],[3]]),
 (zkR,[]),
 (zdO,[]),
 (zet,[[],[8],[]]),
 (zfj,[[],[61],[],[],[],[],[0,1,2,3,4,5,6,7,8,9,10,11],[],[0,1,2,3,4,5,6,7],[0,1,2,3,4,5,6,7,8,9,10,11,12,13,14,15,16,17,18,19,20,21,23,24,22,25],[0,1,2,3,4,5,6,7,8,9,10,11,12,13],[],[],[0,1,2,3,4,5,6,7,8,9,10,11],[0,1,2,3,4,5,6,7,8]]),
 (zoY,[[6],[6,7],[6],[6]]),
 (zev,[]),
 (zd0,[[],[2,3],[],[0,1,2,3,4,5,6,7,8,9,10,11,12,13,14,15]]),
 (ziw,[[0,1,2,3,4,5,6,7,8,9,10,11],[0,1,2,3,4,5,6,8,7],[0,1,2,3,4,5,6,7,8,9,10,11,15,16,12,13,14,17,18,19],[],[0,1,2,3,4,5,6,7,8,9,10]]),
 (znV,[[4],[4],[4],[4,27],[4],[0,1,2,4,5,3,6,7],[0,2,3,4,1,5,6]]),
 (zoU,[[]]),
 (zmQ,[]),
 (zlu,[]),
 (zcY,[]),
 (znU,[[4],[3],[3],[0,1,2,3,4,5,6,7,8,9]]),
 (zqG,[[0],[0,7],[0]]),
 (zkN,[[3],[3],[3],[3],[3,9],[3],[3]]),
 (zlC,[[]]),
 (zn5,[]),
 (zlA,[]),
 (zgq,[[],[13],[],[0,1,2,3,4,5,6,7,8]]),
 (zhP,[[],[0,1,2,3,4,5,6,7,8,9,10,11,12,13],[]]),
 (zqJ,[[0,1,2,3,4,5,6],[]]),
 (ziv,[]),
 (zmM,[[],[0,1,2,3,4,8,5,6,7,9,10,11]]),
 (zmL,[]),
 (zjT,[[],[0,1,2,3,4,5,6,7,8,9,10,11,12,13],[0,1,2,3,4,5,6,7,8,9,10,11,12,13,14],[0,1,2,3,4,5,6,7,8,9,10,11,12,13,14,15]]),
 (zn4,[[10,13],[10,11,12,13,23],[10,11,12,13],[10,11,12,13]]),
 (zj0,[[4,5,6],[4,5,6,25],[4,5,6],[4,5,6],[0,1,2,3,4,5,6,7,8,9,10]]),
 (zqI,[]),
 (zoX,[[],[11],[]]),
 (zoS,[[],[],[0,1,2,3,4,5,6,7,8,9],[9]]),
 (zjZ,[[]]),
 (zqH,[[0,1,2,3,4,5,6,7]]),
 (zmP,[[],[19],[],[0,1,2,3,4,5,6,7,8,9,10,11,12],[0,1,3,4,6,7,2,5,8,9,10,11,12,13,14]]),
 (zeu,[]),
 (zd1,[]),
 (zjS,[[],[0,1,2,3,4,5,6,7,8,9,10,11,12,13],[]]),
 (zcX,[[0,1,2,3,4,5,6,7]]),
 (zbf,[[],[7],[7],[7],[7],[],[7]]),
 (zeL,[[],[0,2,3,1,4,5],[0,1,2,3,4,5,6,7,8,9,10,11,12,14,16,13,15,17,18,19,20]]),
 (zbq,[[0,1,2,3,4,5,6,7,8,9,10,11,12,13]]),
 (zcS,[[]]),
 (zhi,[[],[27],[23],[13],[8],[8]]),
 (zbl,[]),
 (zdH,[[],[9],[]]),
 (zcT,[]),
 (zbt,[[]]),
 (zdI,[[4],[4,31],[4]]),
 (zc3,[[0,1,2,3,4,5,6,7,8,9,11,10,12,13],[12],[12,48],[12],[12],[0,1,2,3,4,5,6,7,8,9,10,11,14,15,12,13,16,17],[0,1,2,3,4,5,6]]),
 (zfi,[[0,1,2,3,4,5,6,8,7,9,10],[0,1,2,3,4,5],[]]),
 (zeF,[]),
 (zbi,[[],[8],[]]),
 (zeJ,[[0,1,2,3,4,5,6],[]]),
 (zeI,[]),
 (zd8,[]),
 (zeW,[]),
 (zdd,[[],[16],[],[],[0,1,2,3,4,5,6,7,8,9,10]]),
 (zfU,[[11],[11],[0,1,2,3,4,5,6,7,8,9,10,11,12,14,15,16,13,17],[11],[0,1,2,3,4,5,6,7,8,9,10,11,12,13,14,16,17,18,15,19],[11],[0,1,2,3,4,5,6,7,8],[0,1,2,3,4,5,6,7,8,9],[11],[],[0,1,2,3,4,5,6,7,8,9,10,13,14,15,11,12,16,17],[0,1,2,3,4,5,6,7,8,9,10,11,12,13,14,15]]),
 (zmT,[]),
 (zlx,[[0,1,2,3,5,4,6,7,8,10,11,9,12]]),
 (zmO,[[]]),
 (zmN,[]),
 (zly,[[]]),
 (zje,[[],[88],[],[0,1,2,3,4,6,7,8,9,10,5,11,12,13],[],[41],[],[],[45],[],[0,1,2,3,4,5,6,7,8,9,11,12,13,10,14,15],[6],[6,18],[6],[6]]),
 (zeX,[]),
 (zn1,[]),
 (zls,[]),
 (zjd,[[],[0,1,2,3,4,5,6,7,8],[0,1,2,3,4,5,6,7,8,9,10,11,12,13,14,15,16,17,18,19,20,21,22,23,24,25,26]]),
 (zjf,[[9],[0,1,2,3,4,5,6,7,8,9,10,11,12,13,14,15,16,17,18,19,20,21,22,23,24],[0,1,2,3,4,5,6,7,8,9],[0,1,2,3,4,5,6,7,8,9],[],[0,1,2,3,4,5,6,7,8,9,10]]),
 (zjg,[]),
 (zhQ,[]),
 (zdF,[[],[8],[]]),
 (zei,[[0,1,2,3,4,5,6,7]]),
 (zoZ,[]),
 (zoW,[]),
 (zix,[]),
 (zjV,[[0,1,2,3,4,5,6,7,8,9,10,11,12,13,14,15,16,17,18],[],[0,1,2,3,4,5,6,7,8,9,10,11,12,13,14,15,16],[0,1,2,3,4,5,6,7,8,9,10]]),
 (zn2,[]),
 (zn3,[[0,1,2,3,4,5,6],[]]),
 (zfT,[[],[15],[],[0,1,2,3,4,5,6,7,8,9,10,11,13,14,15,12]]),
 (zn0,[[11],[11,71],[11],[11],[],[26],[],[],[0,1,2,3,4,5,6,7]]),
 (zmU,[]),
 (zbT,[[7],[7,11],[7]]),
 (zbc,[]),
 (zbb,[]),
 (zc1,[]),
 (zb4,[]),
 (zaZ,[]),
 (zby,[[0,1,2,3,4,6,7,5,8,9,10]]),
 (zas,[[],[139],[4]]),
 (zaU,[[],[20],[17],[10],[6],[6]]),
 (zaH,[]),
 (zaF,[[],[5],[]]),
 (zbx,[[],[3],[]]),
 (za6,[[7],[7,8],[7]]),
 (zbG,[]),
 (zaM,[]),
 (zb5,[]),
 (za8,[[0,1,2,3,4,5,6,7,8,9,10,11,12,13,14,15,16]]),
 (za7,[[],[0,1,2,3,4,5,6,7,8,9,10,11,12,14,16,13,15,17,18,19,20]]),
 (zaE,[[0,1,2,3,4,5,6,7,8,9,10,11,12,13]]),
 (zcu,[]),
 (za2,[[4],[4,5],[4,5],[0,1,2,3,4,5,6,7,8,9,10,11,12,13,14,15,16,17,18,19,20,21,22,24,25,23,26]]),
 (zaf,[[7],[7,8],[7]]),
 (zbJ,[[],[13],[],[0,1,2,3,4,5,6,7,8,9],[],[],[10],[],[0,1,2,3,6,7,8,4,9,5,10,11,12,13,14,15],[],[11],[],[0,1,2,3,6,7,8,9,10,4,5,11,12,13,14,15]]),
 (zbK,[]),
 (zbw,[[],[10],[],[0,1,2,3,6,7,8,9,10,11,12,13,16,17,18,21,22,23,26,27,28,31,32,33,4,14,19,24,29,34,5,15,20,25,30,35,36,37,38,39,40],[],[8]]),
 (zbL,[[11],[6],[0,1,2,3,4,5,6,7,8,9,10,11,12,13,14],[],[7],[],[0,1,2,3,4,5,6,7,8,9,10,11],[0,1,2,3,4,5,6,7,8,9,12,15,10,13,16,11,14,17,18,19,20]]),
 (za1,[[6],[6,7],[6,7],[8,9,10],[0,1,2,3,4,5,6,7,8,9,10,11,12,13,14,15,16,17],[9]]),
 (zbk,[[3],[3,4],[3]]),
 (zeY,[[],[7,8],[7],[],[18],[],[0,1,2,3,4,5,6,7,8,9,10,11,12,13,14,15,16,17,18,19,20],[10],[10,11],[10]]),
 (ze7,[[],[20],[],[],[0,1,2,3,4,5,6,7,8,9,10,11,12],[],[],[15],[],[],[12],[]]),
 (zg3,[]),
 (ze8,[[],[11],[],[],[7],[]]),
 (zeK,[[],[21],[],[],[26],[],[24,25],[14,18],[14,18,19],[14,18],[14,18],[],[15],[],[],[],[13],[],[],[10],[]])]
def hintOf:List (Nat × List (List Nat)) → FuncId → List (List Nat)
 | [],_=>[]
 | (g,h) :: l,f=>if g = f then h else hintOf l f
noncomputable def T:FuncId → Option Fn':=table Tryz.prog (hintOf hintRows)
noncomputable def irOf (f:FuncId):Fn':=(T f).getD ⟨0,[],.bad⟩
theorem sound:zhv Tryz.prog (sem T):=sem_ok _ _
end Go.Ax
/- Su3 -/
namespace Go.Ax.SU
open Go.Ax
theorem be_lt (l:List Nat) (h:∀ x ∈ l,x < 256):be l < 256 ^ l.length:=by
 have key:∀ (l:List Nat),(∀ x ∈ l,x < 256) → ∀ l':List Nat,l = l'.reverse → be l < 256 ^ l.length:=by
  intro l hl l' e;subst e
  induction l' with
  | nil=>simp [be]
  | cons b l' ih =>
   rw [List.reverse_cons,be_snoc,List.length_append,List.length_singleton,Nat.pow_succ];have h1:=ih fun x hx=>hl x (by rw [List.reverse_cons]; exact List.mem_append_left _ hx);have h2:=hl b (by simp);omega
 exact key l h l.reverse (by simp)
theorem or256 (a b:Nat) (h:b < 256):a * 256 ||| b = a * 256 + b:=by
 have:=Nat.shiftLeft_add_eq_or_of_lt (i:=8) (b:=b) h a;rw [Nat.shiftLeft_eq] at this;exact this.symm
abbrev By (lo:Nat) (H:Heap) (v:V) (l:List Nat):Prop:=Lc 1 lo H v (l.map by8) l.length
theorem by_at {lo:Nat} {H:Heap} {v:V} {l:List Nat} (h:By lo H v l) {i:Int} (h0:0 ≤ i) (h1:i < l.length):∃ p,(∀ {k:IntKind},Ax.iaddr none 1 v (.int k i) = some p) ∧ LdR none H p (.int .u8 (l.getD i.toNat 0:Nat)) ∧ p.pid = v.pid:=by
 obtain ⟨p,hp,hl⟩:=h.at h0 h1;have hi:i.toNat < l.length:=by omega
 have e:((l.map by8).drop (i.toNat * 1)).take 1 = [by8 l[i.toNat]]:=by
  rw [Nat.mul_one,← List.map_drop,List.drop_eq_getElem_cons hi]; rfl
 rw [e] at hl;refine ⟨p,hp,fun f Q=>?_,hl.pid.1⟩;rw [hl.ld0 (by simp)];have hg:l.getD i.toNat 0 = l[i.toNat]:=by rw [List.getD_eq_getElem?_getD,List.getElem?_eq_getElem hi]; rfl
 rw [hg]; exact zsQ
theorem by_slice {lo:Nat} {H:Heap} {v:V} {l:List Nat} (h:By lo H v l) {x y:Int} (h0:0 ≤ x) (h1:x ≤ y) (h2:y ≤ l.length) :
  ∃ v',(∀ {k k':IntKind},zaN .sl 1 v (some (.int k x)) (some (.int k' y)) none = some v') ∧ (x = 0 → ∀ {k':IntKind},zaN .sl 1 v none (some (.int k' y)) none = some v') ∧ (y = l.length → ∀ {k:IntKind},zaN .sl 1 v (some (.int k x)) none none = some v') ∧
   By lo H v' ((l.drop x.toNat).take (y.toNat - x.toNat)) ∧ v'.pid = v.pid:=by
 obtain ⟨v',a,b,c,d,e⟩:=h.slice h0 h1 h2;refine ⟨v',a,b,c,?_,e⟩;have hl:((l.drop x.toNat).take (y.toNat - x.toNat)).length = y.toNat - x.toNat:=by rw [List.length_take,List.length_drop]; omega
 have:=d;rw [Nat.mul_one,Nat.mul_one,← List.map_drop,← List.map_take] at this;unfold By;rw [hl]; exact this
theorem getD_drop {l:List Nat} {i n:Nat}:(l.drop n).getD i 0 = l.getD (n + i) 0:=by
 simp only [List.getD_eq_getElem?_getD,List.getElem?_drop]
theorem getD_lt {l:List Nat} (h:Ok8 l) (i:Nat):l.getD i 0 < 256:=by
 rw [List.getD_eq_getElem?_getD];cases e:l[i]? with
 | none=>simp
 | some x=>exact h x (List.mem_of_getElem? e)
theorem take_snoc {l:List Nat} {i:Nat} (h:i < l.length):l.take (i + 1) = l.take i ++ [l.getD i 0]:=by
 rw [List.take_add_one,List.getElem?_eq_getElem h,List.getD_eq_getElem?_getD,List.getElem?_eq_getElem h]; rfl
theorem be_take_lt {l:List Nat} (h:Ok8 l) {i n:Nat} (hi:i ≤ n):be (l.take i) < 256 ^ n:=by
 have h1:=be_lt _ (h.take i);have h2:256 ^ (l.take i).length ≤ 256 ^ n:=Nat.pow_le_pow_right (by decide) (by rw [List.length_take]; omega);omega
theorem okb_copy {β:Type} {ty e bytes m:Nat} {H:Heap} {y:V} {q:List V} {f:V → M β} {Q:β → Heap → Prop} (hy:zcm e H y = some (q,m)) (hp:∀ id,y.pid = some id → id < H.next) (hq:q.length = m * e)
  (hb:m * bytes ≤ 140737488355328) (hm:m ≤ 140737488355328)
  (k:∀ x' H',App ty e H.next H' x' q m → Grow H H' → Ok (f x') H' Q):Ok ((zay ty e bytes (.sl H.next 0 0 (.fix 0)) y).bind f) (H.new ⟨ty,[],none⟩) Q:=by
 have ha:App ty e H.next (H.new ⟨ty,[],none⟩) (.sl H.next 0 0 (.fix 0)) [] 0:=.lit (zad _ _) (Nat.le_refl _) (by rw [zag]; omega);refine zcq ha (by rw [zag]; omega) (by rw [zlh fun i hi=>zaG _ _ (by have:=hp i hi; omega)]; exact hy) hq (by simpa using hb) (by omega) fun x' H' h hs=>?_;refine k x' H' (by simpa using h) ⟨by have:=hs.next; rw [zag] at this; omega,fun i hi=>?_⟩;rw [hs.same i (by rw [zag]; omega) (by simp [V.pid]; omega),zaG _ _ (by omega)]
theorem App.keep {ty e lo n:Nat} {H H':Heap} {v:V} {cells:List V} (h:App ty e lo H v cells n) (k:Keep lo H H'):App ty e lo H' v cells n:=by
 cases h with
 | opn h ho=>exact .opn (h.to fun i hi=>k.same i (ho i hi).1 (ho i hi).2) fun i hi=>⟨(ho i hi).1,Nat.lt_of_lt_of_le (ho i hi).2 k.next⟩
 | lit h h0 h1=>exact .lit (by rw [k.same _ h0 h1,h]) h0 (Nat.lt_of_lt_of_le h1 k.next)
inductive Apf (ty e lo:Nat) (H:Heap):V → List V → Nat → Prop
 | app {v:V} {cells:List V} {n:Nat} (h:App ty e lo H v cells n):Apf ty e lo H v cells n
 | full {id n:Nat} {cells:List V} (h:H.get id = some ⟨ty,cells,none⟩) (hl:cells.length = n * e) (h0:lo ≤ id) (h1:id < H.next):Apf ty e lo H (.sl id 0 n (.fix n)) cells n
theorem Apf.lc {ty e lo n:Nat} {H:Heap} {v:V} {cells:List V} (h:Apf ty e lo H v cells n):Lc e lo H v cells n:=by
 cases h with
 | app h=>exact h.lc
 | full h hl h0 h1 =>
  refine ⟨?_,fun id hi=>by simp only [V.pid,Option.some.injEq] at hi; subst hi; exact ⟨h0,h1⟩,Nat.le_refl _⟩;simp only [zbd,h,Option.bind_some];rw [if_pos (by omega),List.drop_zero,List.take_of_length_le (by omega)]
theorem Apf.keep {ty e lo n:Nat} {H H':Heap} {v:V} {cells:List V} (h:Apf ty e lo H v cells n) (k:Keep lo H H'):Apf ty e lo H' v cells n:=by
 cases h with
 | app h=>exact .app (App.keep h k)
 | full h hl h0 h1=>exact .full (by rw [k.same _ h0 h1,h]) hl h0 (Nat.lt_of_lt_of_le h1 k.next)
structure Bel (lo:Nat) (H H':Heap):Prop where
 next:H.next ≤ H'.next
 same:∀ i,i < lo → H'.get i = H.get i
theorem Bel.refl (lo:Nat) (H:Heap):Bel lo H H:=⟨Nat.le_refl _,fun _ _=>rfl⟩
theorem Bel.trans {lo:Nat} {H H1 H2:Heap} (h:Bel lo H H1) (k:Bel lo H1 H2):Bel lo H H2:=⟨Nat.le_trans h.next k.next,fun i hi=>by rw [k.same i hi,h.same i hi]⟩
theorem _root_.Go.Ax.Grow.bel {H H':Heap} (h:Grow H H') {lo:Nat} (hl:lo ≤ H.next):Bel lo H H':=⟨h.next,fun i hi=>h.same i (by omega)⟩
theorem Bel.grow {H H':Heap} (h:Bel H.next H H'):Grow H H':=⟨h.next,fun i hi=>h.same i hi⟩
theorem _root_.Go.Ax.Grow.bel' {H0 H H':Heap} {lo:Nat} (h0:Grow H0 H) (hl:H0.next ≤ lo) (h:Bel lo H H'):Grow H0 H':=⟨Nat.le_trans h0.next h.next,fun i hi=>by rw [h.same i (by omega),h0.same i hi]⟩
theorem okb_apf {β:Type} {ty e bytes lo n m:Nat} {H:Heap} {x y:V} {cells q:List V} {f:V → M β} {Q:β → Heap → Prop} (hx:Apf ty e lo H x cells n) (hlo:lo ≤ H.next) (hy:zcm e H y = some (q,m)) (hq:q.length = m * e)
  (hb:(n + m) * bytes ≤ 140737488355328) (hm:n + m ≤ 140737488355328)
  (k:∀ x' H',Apf ty e lo H' x' (cells ++ q) (n + m) → Bel lo H H' → Step H H' x.pid.toList x'.pid.toList → Ok (f x') H' Q):Ok ((zay ty e bytes x y).bind f) H Q:=by
 cases hx with
 | app h =>
  refine zcq h hlo hy hq hb hm fun x' H' h1 hs=>k x' H' (.app h1) ⟨hs.next,fun i hi=>hs.same i (by omega) fun e=>?_⟩ hs;have:=(h.lc.own i (by simpa [zbe] using e)).1;omega
 | full h hl h0 h1 =>
  rename_i id;have hml:n + m ≤ maxLen:=Nat.le_trans hm zhl;by_cases hz:m = 0
  ·subst hz;have hq0:q = []:=List.eq_nil_of_length_eq_zero (by omega);subst hq0;refine zam ⟨.sl id 0 n (.fix n),H.set id (some ⟨ty,cells,none⟩),?_,k _ _ ?_ ⟨by rw [zbr]; exact Nat.le_refl _,fun i hi=>zat _ _ (by omega)⟩ (Step.set _ (by simp [V.pid]))⟩
   ·simp only [zay,hy,Option.bind_some,zbR,h];rw [if_pos ⟨by omega,trivial⟩];simp only [Nat.add_zero,Nat.le_refl,if_true];rw [if_pos (by omega)];simp [splice]
   ·rw [List.append_nil];exact .full (zak _ _ _) hl h0 h1
  ·refine zam ⟨.sl H.next 0 (n + m) (.opn e),H.new ⟨ty,cells ++ q,some e⟩,?_,?_⟩
   ·simp only [zay,hy,Option.bind_some,zbR,h];rw [if_pos ⟨by omega,trivial⟩,if_neg (by omega),if_pos ⟨hb,hml⟩,List.drop_zero,List.take_of_length_le (by omega)]
   ·refine k _ _ (.app (.opn (.inr ⟨H.next,rfl,zad _ _,by simp [hl,hq,Nat.add_mul]⟩) fun i hi=>?_)) ⟨by rw [zag]; omega,fun i hi=>zaG _ _ (by omega)⟩ ⟨by rw [zag]; omega,fun i hi _=>zaG _ _ (by omega),fun i hi=>.inr (by simp only [V.pid,Option.toList_some,List.mem_singleton] at hi; subst hi; exact ⟨Nat.le_refl _,by rw [zag]; omega⟩)⟩;simp only [V.pid,Option.some.injEq] at hi;subst hi;exact ⟨hlo,by rw [zag]; omega⟩
def bn (k n:Nat):List Nat:=(List.range k).map fun i=>n / 256 ^ (k - 1 - i) % 256
theorem zpT (k n:Nat):(bn k n).length = k:=by simp [bn]
theorem bn_get (k n i:Nat) (h:i < k):(bn k n).getD i 0 = n / 256 ^ (k - 1 - i) % 256:=by
 rw [List.getD_eq_getElem?_getD,List.getElem?_eq_getElem (by rw [zpT]; exact h)]; simp [bn]
abbrev Ab (lo:Nat) (H:Heap) (v:V) (l:List Nat):Prop:=Apf zaw 1 lo H v (l.map by8) l.length
theorem Ab.by {lo:Nat} {H:Heap} {v:V} {l:List Nat} (h:Ab lo H v l):By lo H v l:=h.lc
theorem zrS {β:Type} {lo:Nat} {H:Heap} {x y:V} {l m:List Nat} {f:V → M β} {Q:β → Heap → Prop} (hx:Ab lo H x l) (hlo:lo ≤ H.next) (hy:zcm 1 H y = some (m.map by8,m.length)) (hm:l.length + m.length ≤ 1099511627776)
  (k:∀ x' H',Ab lo H' x' (l ++ m) → Bel lo H H' → Step H H' x.pid.toList x'.pid.toList → Ok (f x') H' Q):Ok ((zay zaw 1 1 x y).bind f) H Q:=by
 refine okb_apf hx hlo hy (by simp) (by omega) (by omega) fun x' H' h1 h2=>k x' H' ?_ h2;show Apf zaw 1 lo H' x' ((l ++ m).map by8) (l ++ m).length;rw [List.map_append,List.length_append]; exact h1
theorem znz {β:Type} {lo:Nat} {H:Heap} {x y:V} {l m:List Nat} {f:V → M β} {Q:β → Heap → Prop} (hx:Ab lo H x l) (hlo:lo ≤ H.next) (hy:zcm 1 H y = some (m.map by8,m.length)) (hm:l.length + m.length ≤ 1099511627776)
  (k:∀ x' H',Ab lo H' x' (l ++ m) → Bel lo H H' → Ok (f x') H' Q):Ok ((zay zaw 1 1 x y).bind f) H Q :=
 zrS hx hlo hy hm fun x' H' h1 h2 _=>k x' H' h1 h2
end Go.Ax.SU
/- Su5 -/
namespace Go.Ax.SU
open Go.Ax
inductive PH
 | err (e:Nat)
 | ok (kid ctr n:Nat)
end Go.Ax.SU
/- Ax26 -/
namespace Go.Ax
section
variable {b w:Bool} {v x y:V} {α β:Type} {H:Heap} {f:V → M β} {Q:β → Heap → Prop}
end
theorem zc8 {α β:Type} {x:M α} {H:Heap} {f:α → M β} {Q:β → Heap → Prop}:@OkB α β x H ⟨f⟩ ⟨Q⟩ = Ok (x.bind f) H Q:=rfl
end Go.Ax
/- FnS1 -/
namespace Go.Ax
open Go.Proofs
def uL (o:Option V) (f:V → M Res):M Res:=(M.lift o).bind f
def uM (p:V) (f:V → M Res):M Res:=(zar none p).bind f
def uS (n:Nat) (p:V) (f:V → M Res):M Res:=(zar (some n) p).bind f
def uT (n:Nat) (p v:V) (f:V → M Res):M Res:=(zco n p v).bind f
def uF (k:Nat) (p:V) (f:V → M Res):M Res:=(M.lift (Ax.faddr k p)).bind f
def uFM (k:Nat) (p:V) (f:V → M Res):M Res:=(M.lift (Ax.faddr k p)).bind fun a=>(zar none a).bind f
def uNFM (k:Nat) (p:V) (f:V → M Res):M Res:=(M.lift (Ax.nilck p)).bind fun a=>(M.lift (Ax.faddr k a)).bind fun b=>(zar none b).bind f
def uNF (k:Nat) (p:V) (f:V → M Res):M Res:=(M.lift (Ax.nilck p)).bind fun a=>(M.lift (Ax.faddr k a)).bind f
def uE (k:Nat) (p:V) (f:V → M Res):M Res:=(M.lift (Ax.ext k p)).bind f
def uN (p:V) (f:V → M Res):M Res:=(M.lift (Ax.nilck p)).bind f
def uB (b:BinOp) (x y:V) (f:V → M Res):M Res:=(M.lift (Ax.bin b x y)).bind f
def uI (n:Option Nat) (e:Nat) (p i:V) (f:V → M Res):M Res:=(M.lift (Ax.iaddr n e p i)).bind f
def uIM (n:Option Nat) (e:Nat) (p i:V) (f:V → M Res):M Res:=(M.lift (Ax.iaddr n e p i)).bind fun a=>(zar none a).bind f
def uG (c:V) (b:Bool) (x:M V) (f:V → M Res):M Res:=(zcr [(0,c)] (some (0,b)) x).bind f
def uH (c:V) (b:Bool) (o:Option V) (f:V → M Res):M Res:=(zcr [(0,c)] (some (0,b)) (M.lift o)).bind f
def uO (t:TypeId) (x:V) (f:V → M Res):M Res:=(mbox t x).bind f
def uU (p:V) (h k:Heap) (f:Unit → M Res):M Res:=(M.unch p h k).bind f
def uc (n:Int):V:=.int .i64 n
def ub (n:Int):V:=.int .u8 n
def uq (n:Int):V:=.int .u64 n
def ug (L:List V) (n:Nat):V:=L.getD n .undef
def zaT (G:Sem') (t17 t4 t16:V) (L:List V):M Res :=
 uL (vlen t17) fun t84 =>
 uB .lss (ug L 1) t84 fun t85 =>
 M.ite t85
 (M.blk 2 (
 uI none 16 t17 (ug L 1) fun t90 =>
 uFM 0 t90 fun t92 =>
 uB .eql t92 (uc 3) fun t93 =>
 uG t93 false (M.pure t17) fun t95 =>
 uG t93 false (M.pure (ug L 1)) fun t96 =>
 uH t93 false (Ax.iaddr none 16 t95 t96) fun t97 =>
 uH t93 false (Ax.faddr 0 t97) fun t98 =>
 uG t93 false (zar none t98) fun t99 =>
 uH t93 false (Ax.bin .eql t99 (uc 4)) fun t100 =>
 uL (Ax.pick t93 (V.bool true) t100) fun t101 =>
 M.join (M.ite t101
 (uB .add (ug L 0) (uc 1) fun t103 =>
 M.pure (.nrm [t103]))
 (M.pure (.nrm [(ug L 0)]))) fun L2 =>
 uI none 16 t17 (ug L 1) fun t107 =>
 uFM 9 t107 fun t109 =>
 uL (vlen t109) fun t110 =>
 uI none 16 t17 (ug L 1) fun t113 =>
 uFM 12 t113 fun t115 =>
 uL (vlen t115) fun t116 =>
 uB .add t110 t116 fun t117 =>
 uB .add (ug L2 0) t117 fun t118 =>
 M.pure (.nrm [t118])) fun L3 =>
 uB .add (ug L 1) (uc 1) fun t87 =>
 M.pure (.nrm [(ug L3 0),t87]))
 (M.pure (.ex 1 [(ug L 0)]))
def zc5 (G:Sem') (t0 t1:V):M Res :=
 (G zeZ []).bind fun t22 =>
 (G za9 []).bind fun t23 =>
 uL (Ax.un .not t23) fun t24 =>
 uG t24 false (M.pure t22) fun t26 =>
 uH t24 false (eqr .ptr false t26 V.nilp) fun t27 =>
 uL (Ax.pick t24 (V.bool true) t27) fun t28 =>
 M.ite t28
 (M.pure (.ret [(V.bool false)]))
 (uL (vlen t0) fun t30 =>
 uB .gtr t30 (uc 3000) fun t31 =>
 M.ite t31
 (M.pure (.ret [(V.bool true)]))
 ((G za8 [t22,(uc 3),(uc 1)]).bind fun t34 =>
 uE 0 t34 fun t35 =>
 uE 1 t34 fun t36 =>
 uL (Ax.un .not t36) fun t38 =>
 M.ite t38
 (M.pure (.ret [(V.bool false)]))
 ((G zbG [t22,(uc 1)]).bind fun t41 =>
 uE 0 t41 fun t42 =>
 uE 1 t41 fun t43 =>
 uO zav (V.agg [(V.bool false),(V.bool false),(V.bool false),(V.bool false),(V.bool false),(V.bool false),(V.bool false),(V.bool false),(uc 0),(uc 0),(uc 0),(uc 0),(uc 0),(uc 0),(uc 0),(uc 0),(uc 0),(V.bool false),(uc 0),(uc 0),(uc 0),(uc 0),(uc 0),(uc 0),(uc 0),(uc 0),(uc 0),(uc 0),(uc 0),(uc 0),(uc 0),(uc 0),(uc 0),(uc 0),(uc 0),(uc 0),(uc 0),(uc 0),(V.bool false)]) fun t8 =>
 uT 39 t8 t42 fun _ =>
 M.join (M.ite t1
 (M.pure (.nrm [(uc 3)]))
 (M.pure (.nrm [(uc 4)]))) fun L0 =>
 uL (Ax.build [(uc 0),(uc 0),(uc 0),V.nils] [(0,1,(uc 1)),(1,1,(ug L0 0)),(3,1,t0)]) fun t49 =>
 (G zaS [t22,t49]).bind fun t50 =>
 uE 0 t50 fun t51 =>
 uE 1 t50 fun t52 =>
 (G zbG [t22,(uc 1)]).bind fun t55 =>
 uE 0 t55 fun t56 =>
 uE 1 t55 fun t57 =>
 uO zav (V.agg [(V.bool false),(V.bool false),(V.bool false),(V.bool false),(V.bool false),(V.bool false),(V.bool false),(V.bool false),(uc 0),(uc 0),(uc 0),(uc 0),(uc 0),(uc 0),(uc 0),(uc 0),(uc 0),(V.bool false),(uc 0),(uc 0),(uc 0),(uc 0),(uc 0),(uc 0),(uc 0),(uc 0),(uc 0),(uc 0),(uc 0),(uc 0),(uc 0),(uc 0),(uc 0),(uc 0),(uc 0),(uc 0),(uc 0),(uc 0),(V.bool false)]) fun t13 =>
 uT 39 t13 t56 fun _ =>
 M.blk 0 (
 uL (vlen t0) fun t67 =>
 uB .gtr t67 (uc 1200) fun t68 =>
 M.join (M.ite t68
 (M.pure (.nrm [(uc 1),(uc 1)]))
 (uL (Ax.un .not t1) fun t71 =>
 M.join (M.ite t71
 (M.pure (.nrm [(uc 1),(uc 2)]))
 ((G zcu [t0]).bind fun t74 =>
 M.join (M.ite t74
 ((G za2 [t0]).bind fun t77 =>
 uE 0 t77 fun t78 =>
 uE 1 t77 fun t79 =>
 uB .eql t79 (uc 0) fun t81 =>
 M.join (M.ite t81
 (M.pure (.nrm [(uc 0),(uc 4)]))
 (M.pure (.nrm [(uc 1),(uc 3)]))) fun L1 =>
 M.blk 1 (
 M.iter (zaT G t78 (V.bool false) (ug L1 1)) [(ug L1 0),(uc 0)]) fun L4 =>
 M.pure (.nrm [(ug L4 0),(ug L1 1)]))
 ((G zbL [t0]).bind fun t60 =>
 uE 0 t60 fun t61 =>
 uE 1 t60 fun t62 =>
 uO zah (V.agg [(V.bool false),(uc 0),(V.int .u16 0),(V.int .u32 0),(V.int .u32 0),V.nils,(uc 0),V.nils,(uc 0),V.nils]) fun t20 =>
 uT 10 t20 t61 fun _ =>
 uB .eql t62 (uc 0) fun t64 =>
 M.join (M.ite t64
 (M.pure (.nrm [(uc 4)]))
 (M.pure (.nrm [(uc 3)]))) fun L5 =>
 M.pure (.nrm [(uc 1),(ug L5 0)]))) fun L6 =>
 M.pure (.nrm [(ug L6 0),(ug L6 1)]))) fun L7 =>
 M.pure (.nrm [(ug L7 0),(ug L7 1)]))) fun L8 =>
 M.pure (.nrm [(ug L8 0),(ug L8 1)])) fun L9 =>
 uB .eql t52 (uc 0) fun t120 =>
 uG t120 true (M.pure t22) fun t122 =>
 uG t120 true (G zbk [t122]) fun t123 =>
 uG t120 true (M.pure (ug L9 0)) fun t124 =>
 uH t120 true (Ax.bin .eql t123 t124) fun t125 =>
 uL (Ax.pick t120 t125 (V.bool false)) fun t126 =>
 uG t126 true (M.pure t22) fun t128 =>
 uG t126 true (M.pure (ug L9 1)) fun t129 =>
 uG t126 true (G zbb [t128,t129]) fun t130 =>
 uG t126 true (M.pure (ug L9 0)) fun t131 =>
 uH t126 true (Ax.bin .eql t130 t131) fun t132 =>
 uL (Ax.pick t126 t132 (V.bool false)) fun t133 =>
 uG t133 true (M.pure t22) fun t135 =>
 uG t133 true (G zaM [t135,(uc 3)]) fun t136 =>
 uH t133 true (Ax.bin .eql t136 (uc 0)) fun t137 =>
 uL (Ax.pick t133 t137 (V.bool false)) fun t138 =>
 uG t138 true (M.pure t22) fun t140 =>
 uG t138 true (G zaM [t140,(uc 4)]) fun t141 =>
 uH t138 true (Ax.bin .eql t141 (uc 0)) fun t142 =>
 uL (Ax.pick t138 t142 (V.bool false)) fun t143 =>
 uG t143 true (zar (some 39) t13) fun t145 =>
 uG t143 true (zar (some 39) t8) fun t146 =>
 uH t143 true (eqr (.st [.bool,.bool,.bool,.bool,.bool,.bool,.bool,.bool,.int,.int,.int,.int,.int,.int,.int,.int,.int,.bool,.int,.int,.int,.int,.int,.int,.int,.int,.int,.int,.int,.int,.int,.int,.int,.int,.int,.int,.int,.int,.bool]) false t145 t146) fun t147 =>
 uL (Ax.pick t143 t147 (V.bool false)) fun t148 =>
 M.pure (.ret [t148]))))
abbrev OkT (f:FuncId) (us:List V) (x:M Res):Prop:=∀ {H:Heap} {Q:V → Heap → Prop},Ok x H (fun r H'=>∃ L,r = .ret L ∧ Q (zec L) H') → Ok (sem T f us) H Q
theorem okT {f:FuncId} {us:List V} {x:M Res} (hT:T f = some (irOf f)) (hl:Nat.ble us.length (irOf f).ntmps = true) (hx:zey (sem T) (irOf f).rv (irOf f).body [] [] (params 0 us) = x):OkT f us x:=fun h=>ok_sem hT (Nat.le_of_ble_eq_true hl) hx h
theorem zeR {t0 t1:V}:OkT zba [t0,t1] (zc5 (sem T) t0 t1):=okT (by kernel_rfl) (by kernel_rfl) (by kernel_rfl)
def zhb (G:Sem') (t1 t0:V) (L:List V):M Res :=
 uB .lss (ug L 0) (uc 64) fun t7 =>
 M.ite t7
 (M.blk 1 (
 uNF 1470 t1 fun t13 =>
 (G zca [(uc 32)]).bind fun t11 =>
 uI (some 64) 1 t13 (ug L 0) fun t14 =>
 uT 1 t14 t11 fun _ =>
 M.pure (.nrm [])) fun _ =>
 uB .add (ug L 0) (uc 1) fun t15 =>
 M.pure (.nrm [t15]))
 (M.pure (.ex 0 []))
def zl3 (G:Sem'):M Res :=
 let p:=V.int .u32 0
 (G zc0 [(uc 11)]).bind fun t3 =>
 uL (Ax.build [(V.bool false),(V.bool false),(V.bool false),(V.bool false),(V.bool false),(V.bool false),(V.bool false),(V.bool false),(uc 0),(uc 0),(uc 0),(uc 0),(uc 0),(uc 0),(uc 0),(uc 0),(uc 0),(V.bool false),(uc 0),(uc 0),(uc 0),(uc 0),(uc 0),(uc 0),(uc 0),(uc 0),(uc 0),(uc 0),(uc 0),(uc 0),(uc 0),(uc 0),(uc 0),(uc 0),(uc 0),(uc 0),(uc 0),(uc 0),(V.bool false),(V.bool false),p,(uc 0),(uc 0),(uc 0),V.nils,(uc 0),V.nils,V.nils,p,V.nils,(V.bool false),p,(uc 0),(uc 0),(uc 0),V.nils,(uc 0),V.nils,V.nils,p,V.nils,(V.bool false),p,(uc 0),(uc 0),(uc 0),V.nils,(uc 0),V.nils,V.nils,p,V.nils,(V.bool false),p,(uc 0),(uc 0),(uc 0),V.nils,(uc 0),V.nils,V.nils,p,V.nils,(V.bool false),p,(uc 0),(uc 0),(uc 0),V.nils,(uc 0),V.nils,V.nils,p,V.nils,(V.bool false),p,(uc 0),(uc 0),(uc 0),V.nils,(uc 0),V.nils,V.nils,p,V.nils,(V.bool false),p,(uc 0),(uc 0),(uc 0),V.nils,(uc 0),V.nils,V.nils,p,V.nils,(V.bool false),p,(uc 0),(uc 0),(uc 0),V.nils,(uc 0),V.nils,V.nils,p,V.nils,(V.bool false),p,(uc 0),(uc 0),(uc 0),V.nils,(uc 0),V.nils,V.nils,p,V.nils,(V.bool false),p,(uc 0),(uc 0),(uc 0),V.nils,(uc 0),V.nils,V.nils,p,V.nils,(V.bool false),p,(uc 0),(uc 0),(uc 0),V.nils,(uc 0),V.nils,V.nils,p,V.nils,(V.bool false),p,(uc 0),(uc 0),(uc 0),V.nils,(uc 0),V.nils,V.nils,p,V.nils,(V.bool false),p,(uc 0),(uc 0),(uc 0),V.nils,(uc 0),V.nils,V.nils,p,V.nils,(V.bool false),p,(uc 0),(uc 0),(uc 0),V.nils,(uc 0),V.nils,V.nils,p,V.nils,(V.bool false),p,(uc 0),(uc 0),(uc 0),V.nils,(uc 0),V.nils,V.nils,p,V.nils,(V.bool false),p,(uc 0),(uc 0),(uc 0),V.nils,(uc 0),V.nils,V.nils,p,V.nils,(V.bool false),p,(uc 0),(uc 0),(uc 0),V.nils,(uc 0),V.nils,V.nils,p,V.nils,(V.bool false),p,(uc 0),(uc 0),(uc 0),V.nils,(uc 0),V.nils,V.nils,p,V.nils,(V.bool false),p,(uc 0),(uc 0),(uc 0),V.nils,(uc 0),V.nils,V.nils,p,V.nils,(V.bool false),p,(uc 0),(uc 0),(uc 0),V.nils,(uc 0),V.nils,V.nils,p,V.nils,(V.bool false),p,(uc 0),(uc 0),(uc 0),V.nils,(uc 0),V.nils,V.nils,p,V.nils,(V.bool false),p,(uc 0),(uc 0),(uc 0),V.nils,(uc 0),V.nils,V.nils,p,V.nils,(V.bool false),p,(uc 0),(uc 0),(uc 0),V.nils,(uc 0),V.nils,V.nils,p,V.nils,(V.bool false),p,(uc 0),(uc 0),(uc 0),V.nils,(uc 0),V.nils,V.nils,p,V.nils,V.nilp,V.nilp,V.nilp,V.nilp,V.nilp,V.nilp,V.nilp,V.nilp,V.nilp,V.nilp,V.nilp,V.nilp,V.nilp,V.nilp,V.nilp,V.nilp,V.nilp,V.nilp,V.nilp,V.nilp,V.nilp,V.nilp,V.nilp,V.nilp,V.nilp,V.nilp,V.nilp,V.nilp,V.nilp,V.nilp,V.nilp,V.nilp,V.nilp,V.nilp,V.nilp,V.nilp,V.nilp,V.nilp,V.nilp,V.nilp,V.nilp,V.nilp,V.nilp,V.nilp,V.nilp,V.nilp,V.nilp,V.nilp,V.nilp,V.nilp,V.nilp,V.nilp,V.nilp,V.nilp,V.nilp,V.nilp,V.nilp,V.nilp,V.nilp,V.nilp,V.nilp,V.nilp,V.nilp,V.nilp,(V.bool false),(V.bool false),(V.bool false),(V.bool false),(V.bool false),(V.bool false),(V.bool false),(V.bool false),(uc 0),(uc 0),(uc 0),(uc 0),(uc 0),(uc 0),(uc 0),(uc 0),(uc 0),(V.bool false),(uc 0),(uc 0),(uc 0),(uc 0),(uc 0),(uc 0),(uc 0),(uc 0),(uc 0),(uc 0),(uc 0),(uc 0),(uc 0),(uc 0),(uc 0),(uc 0),(uc 0),(uc 0),(uc 0),(uc 0),(V.bool false),(V.bool false),p,(uc 0),(uc 0),(uc 0),V.nils,(uc 0),V.nils,V.nils,p,V.nils,(V.bool false),p,(uc 0),(uc 0),(uc 0),V.nils,(uc 0),V.nils,V.nils,p,V.nils,(V.bool false),p,(uc 0),(uc 0),(uc 0),V.nils,(uc 0),V.nils,V.nils,p,V.nils,(V.bool false),p,(uc 0),(uc 0),(uc 0),V.nils,(uc 0),V.nils,V.nils,p,V.nils,(V.bool false),p,(uc 0),(uc 0),(uc 0),V.nils,(uc 0),V.nils,V.nils,p,V.nils,(V.bool false),p,(uc 0),(uc 0),(uc 0),V.nils,(uc 0),V.nils,V.nils,p,V.nils,(V.bool false),p,(uc 0),(uc 0),(uc 0),V.nils,(uc 0),V.nils,V.nils,p,V.nils,(V.bool false),p,(uc 0),(uc 0),(uc 0),V.nils,(uc 0),V.nils,V.nils,p,V.nils,(V.bool false),p,(uc 0),(uc 0),(uc 0),V.nils,(uc 0),V.nils,V.nils,p,V.nils,(V.bool false),p,(uc 0),(uc 0),(uc 0),V.nils,(uc 0),V.nils,V.nils,p,V.nils,(V.bool false),p,(uc 0),(uc 0),(uc 0),V.nils,(uc 0),V.nils,V.nils,p,V.nils,(V.bool false),p,(uc 0),(uc 0),(uc 0),V.nils,(uc 0),V.nils,V.nils,p,V.nils,(V.bool false),p,(uc 0),(uc 0),(uc 0),V.nils,(uc 0),V.nils,V.nils,p,V.nils,(V.bool false),p,(uc 0),(uc 0),(uc 0),V.nils,(uc 0),V.nils,V.nils,p,V.nils,(V.bool false),p,(uc 0),(uc 0),(uc 0),V.nils,(uc 0),V.nils,V.nils,p,V.nils,(V.bool false),p,(uc 0),(uc 0),(uc 0),V.nils,(uc 0),V.nils,V.nils,p,V.nils,(V.bool false),p,(uc 0),(uc 0),(uc 0),V.nils,(uc 0),V.nils,V.nils,p,V.nils,(V.bool false),p,(uc 0),(uc 0),(uc 0),V.nils,(uc 0),V.nils,V.nils,p,V.nils,(V.bool false),p,(uc 0),(uc 0),(uc 0),V.nils,(uc 0),V.nils,V.nils,p,V.nils,(V.bool false),p,(uc 0),(uc 0),(uc 0),V.nils,(uc 0),V.nils,V.nils,p,V.nils,(V.bool false),p,(uc 0),(uc 0),(uc 0),V.nils,(uc 0),V.nils,V.nils,p,V.nils,(V.bool false),p,(uc 0),(uc 0),(uc 0),V.nils,(uc 0),V.nils,V.nils,p,V.nils,(V.bool false),p,(uc 0),(uc 0),(uc 0),V.nils,(uc 0),V.nils,V.nils,p,V.nils,(V.bool false),p,(uc 0),(uc 0),(uc 0),V.nils,(uc 0),V.nils,V.nils,p,V.nils,V.nilp,V.nilp,V.nilp,V.nilp,V.nilp,V.nilp,V.nilp,V.nilp,V.nilp,V.nilp,V.nilp,V.nilp,V.nilp,V.nilp,V.nilp,V.nilp,V.nilp,V.nilp,V.nilp,V.nilp,V.nilp,V.nilp,V.nilp,V.nilp,V.nilp,V.nilp,V.nilp,V.nilp,V.nilp,V.nilp,V.nilp,V.nilp,V.nilp,V.nilp,V.nilp,V.nilp,V.nilp,V.nilp,V.nilp,V.nilp,V.nilp,V.nilp,V.nilp,V.nilp,V.nilp,V.nilp,V.nilp,V.nilp,V.nilp,V.nilp,V.nilp,V.nilp,V.nilp,V.nilp,V.nilp,V.nilp,V.nilp,V.nilp,V.nilp,V.nilp,V.nilp,V.nilp,V.nilp,V.nilp,(V.bool false),(V.bool false),(V.bool false),(V.bool false),(V.bool false),(V.bool false),(V.bool false),(V.bool false),(uc 0),(uc 0),(uc 0),(uc 0),(uc 0),(uc 0),(uc 0),(uc 0),(uc 0),(V.bool false),(uc 0),(uc 0),(uc 0),(uc 0),(uc 0),(uc 0),(uc 0),(uc 0),(uc 0),(uc 0),(uc 0),(uc 0),(uc 0),(uc 0),(uc 0),(uc 0),(uc 0),(uc 0),(uc 0),(uc 0),(V.bool false),(V.bool false),p,(uc 0),(uc 0),(uc 0),V.nils,(uc 0),V.nils,V.nils,p,V.nils,(V.bool false),p,(uc 0),(uc 0),(uc 0),V.nils,(uc 0),V.nils,V.nils,p,V.nils,(V.bool false),p,(uc 0),(uc 0),(uc 0),V.nils,(uc 0),V.nils,V.nils,p,V.nils,(V.bool false),p,(uc 0),(uc 0),(uc 0),V.nils,(uc 0),V.nils,V.nils,p,V.nils,(V.bool false),p,(uc 0),(uc 0),(uc 0),V.nils,(uc 0),V.nils,V.nils,p,V.nils,(V.bool false),p,(uc 0),(uc 0),(uc 0),V.nils,(uc 0),V.nils,V.nils,p,V.nils,(V.bool false),p,(uc 0),(uc 0),(uc 0),V.nils,(uc 0),V.nils,V.nils,p,V.nils,(V.bool false),p,(uc 0),(uc 0),(uc 0),V.nils,(uc 0),V.nils,V.nils,p,V.nils,(V.bool false),p,(uc 0),(uc 0),(uc 0),V.nils,(uc 0),V.nils,V.nils,p,V.nils,(V.bool false),p,(uc 0),(uc 0),(uc 0),V.nils,(uc 0),V.nils,V.nils,p,V.nils,(V.bool false),p,(uc 0),(uc 0),(uc 0),V.nils,(uc 0),V.nils,V.nils,p,V.nils,(V.bool false),p,(uc 0),(uc 0),(uc 0),V.nils,(uc 0),V.nils,V.nils,p,V.nils,(V.bool false),p,(uc 0),(uc 0),(uc 0),V.nils,(uc 0),V.nils,V.nils,p,V.nils,(V.bool false),p,(uc 0),(uc 0),(uc 0),V.nils,(uc 0),V.nils,V.nils,p,V.nils,(V.bool false),p,(uc 0),(uc 0),(uc 0),V.nils,(uc 0),V.nils,V.nils,p,V.nils,(V.bool false),p,(uc 0),(uc 0),(uc 0),V.nils,(uc 0),V.nils,V.nils,p,V.nils,(V.bool false),p,(uc 0),(uc 0),(uc 0),V.nils,(uc 0),V.nils,V.nils,p,V.nils,(V.bool false),p,(uc 0),(uc 0),(uc 0),V.nils,(uc 0),V.nils,V.nils,p,V.nils,(V.bool false),p,(uc 0),(uc 0),(uc 0),V.nils,(uc 0),V.nils,V.nils,p,V.nils,(V.bool false),p,(uc 0),(uc 0),(uc 0),V.nils,(uc 0),V.nils,V.nils,p,V.nils,(V.bool false),p,(uc 0),(uc 0),(uc 0),V.nils,(uc 0),V.nils,V.nils,p,V.nils,(V.bool false),p,(uc 0),(uc 0),(uc 0),V.nils,(uc 0),V.nils,V.nils,p,V.nils,(V.bool false),p,(uc 0),(uc 0),(uc 0),V.nils,(uc 0),V.nils,V.nils,p,V.nils,(V.bool false),p,(uc 0),(uc 0),(uc 0),V.nils,(uc 0),V.nils,V.nils,p,V.nils,V.nilp,V.nilp,V.nilp,V.nilp,V.nilp,V.nilp,V.nilp,V.nilp,V.nilp,V.nilp,V.nilp,V.nilp,V.nilp,V.nilp,V.nilp,V.nilp,V.nilp,V.nilp,V.nilp,V.nilp,V.nilp,V.nilp,V.nilp,V.nilp,V.nilp,V.nilp,V.nilp,V.nilp,V.nilp,V.nilp,V.nilp,V.nilp,V.nilp,V.nilp,V.nilp,V.nilp,V.nilp,V.nilp,V.nilp,V.nilp,V.nilp,V.nilp,V.nilp,V.nilp,V.nilp,V.nilp,V.nilp,V.nilp,V.nilp,V.nilp,V.nilp,V.nilp,V.nilp,V.nilp,V.nilp,V.nilp,V.nilp,V.nilp,V.nilp,V.nilp,V.nilp,V.nilp,V.nilp,V.nilp,(V.bool false),(V.bool false),(V.bool false),(V.bool false),(V.bool false),(V.bool false),(V.bool false),(V.bool false),(uc 0),(uc 0),(uc 0),(uc 0),(uc 0),(uc 0),(uc 0),(uc 0),(uc 0),(V.bool false),(uc 0),(uc 0),(uc 0),(uc 0),(uc 0),(uc 0),(uc 0),(uc 0),(uc 0),(uc 0),(uc 0),(uc 0),(uc 0),(uc 0),(uc 0),(uc 0),(uc 0),(uc 0),(uc 0),(uc 0),(V.bool false),(V.bool false),p,(uc 0),(uc 0),(uc 0),V.nils,(uc 0),V.nils,V.nils,p,V.nils,(V.bool false),p,(uc 0),(uc 0),(uc 0),V.nils,(uc 0),V.nils,V.nils,p,V.nils,(V.bool false),p,(uc 0),(uc 0),(uc 0),V.nils,(uc 0),V.nils,V.nils,p,V.nils,(V.bool false),p,(uc 0),(uc 0),(uc 0),V.nils,(uc 0),V.nils,V.nils,p,V.nils,(V.bool false),p,(uc 0),(uc 0),(uc 0),V.nils,(uc 0),V.nils,V.nils,p,V.nils,(V.bool false),p,(uc 0),(uc 0),(uc 0),V.nils,(uc 0),V.nils,V.nils,p,V.nils,(V.bool false),p,(uc 0),(uc 0),(uc 0),V.nils,(uc 0),V.nils,V.nils,p,V.nils,(V.bool false),p,(uc 0),(uc 0),(uc 0),V.nils,(uc 0),V.nils,V.nils,p,V.nils,(V.bool false),p,(uc 0),(uc 0),(uc 0),V.nils,(uc 0),V.nils,V.nils,p,V.nils,(V.bool false),p,(uc 0),(uc 0),(uc 0),V.nils,(uc 0),V.nils,V.nils,p,V.nils,(V.bool false),p,(uc 0),(uc 0),(uc 0),V.nils,(uc 0),V.nils,V.nils,p,V.nils,(V.bool false),p,(uc 0),(uc 0),(uc 0),V.nils,(uc 0),V.nils,V.nils,p,V.nils,(V.bool false),p,(uc 0),(uc 0),(uc 0),V.nils,(uc 0),V.nils,V.nils,p,V.nils,(V.bool false),p,(uc 0),(uc 0),(uc 0),V.nils,(uc 0),V.nils,V.nils,p,V.nils,(V.bool false),p,(uc 0),(uc 0),(uc 0),V.nils,(uc 0),V.nils,V.nils,p,V.nils,(V.bool false),p,(uc 0),(uc 0),(uc 0),V.nils,(uc 0),V.nils,V.nils,p,V.nils,(V.bool false),p,(uc 0),(uc 0),(uc 0),V.nils,(uc 0),V.nils,V.nils,p,V.nils,(V.bool false),p,(uc 0),(uc 0),(uc 0),V.nils,(uc 0),V.nils,V.nils,p,V.nils,(V.bool false),p,(uc 0),(uc 0),(uc 0),V.nils,(uc 0),V.nils,V.nils,p,V.nils,(V.bool false),p,(uc 0),(uc 0),(uc 0),V.nils,(uc 0),V.nils,V.nils,p,V.nils,(V.bool false),p,(uc 0),(uc 0),(uc 0),V.nils,(uc 0),V.nils,V.nils,p,V.nils,(V.bool false),p,(uc 0),(uc 0),(uc 0),V.nils,(uc 0),V.nils,V.nils,p,V.nils,(V.bool false),p,(uc 0),(uc 0),(uc 0),V.nils,(uc 0),V.nils,V.nils,p,V.nils,(V.bool false),p,(uc 0),(uc 0),(uc 0),V.nils,(uc 0),V.nils,V.nils,p,V.nils,V.nilp,V.nilp,V.nilp,V.nilp,V.nilp,V.nilp,V.nilp,V.nilp,V.nilp,V.nilp,V.nilp,V.nilp,V.nilp,V.nilp,V.nilp,V.nilp,V.nilp,V.nilp,V.nilp,V.nilp,V.nilp,V.nilp,V.nilp,V.nilp,V.nilp,V.nilp,V.nilp,V.nilp,V.nilp,V.nilp,V.nilp,V.nilp,V.nilp,V.nilp,V.nilp,V.nilp,V.nilp,V.nilp,V.nilp,V.nilp,V.nilp,V.nilp,V.nilp,V.nilp,V.nilp,V.nilp,V.nilp,V.nilp,V.nilp,V.nilp,V.nilp,V.nilp,V.nilp,V.nilp,V.nilp,V.nilp,V.nilp,V.nilp,V.nilp,V.nilp,V.nilp,V.nilp,V.nilp,V.nilp,(uc 0),V.nils,V.nilp,V.nilp,V.nilp,V.nilp,V.nilp,V.nilp,V.nilp,V.nilp,V.nilp,V.nilp,V.nilp,V.nilp,V.nilp,V.nilp,V.nilp,V.nilp,V.nilp,V.nilp,V.nilp,V.nilp,V.nilp,V.nilp,V.nilp,V.nilp,V.nilp,V.nilp,V.nilp,V.nilp,V.nilp,V.nilp,V.nilp,V.nilp,V.nilp,V.nilp,V.nilp,V.nilp,V.nilp,V.nilp,V.nilp,V.nilp,V.nilp,V.nilp,V.nilp,V.nilp,V.nilp,V.nilp,V.nilp,V.nilp,V.nilp,V.nilp,V.nilp,V.nilp,V.nilp,V.nilp,V.nilp,V.nilp,V.nilp,V.nilp,V.nilp,V.nilp,V.nilp,V.nilp,V.nilp,V.nilp,V.nilp] [(1534,1,t3)]) fun t4 =>
 uO zjm t4 fun t5 =>
 M.blk 0 (
 M.iter (zhb G t5 V.nilp) [(uc 0)]) fun _ =>
 M.pure (.ret [t5])
theorem zoI:OkT zeZ [] (zl3 (sem T)):=okT (by kernel_rfl) (by kernel_rfl) (by kernel_rfl)
def zgD (G:Sem') (t0:V):M Res :=
 uL (Ax.minmax true t0 [(uc 0)]) fun t4 =>
 uL (Ax.minmax false t4 [(uc 100)]) fun t5 =>
 (zcV zcN 8 [(uc 0)] t5 t5).bind fun t6 =>
 uL (Ax.build [V.nils] [(0,1,t6)]) fun t7 =>
 uO zfq t7 fun t8 =>
 M.pure (.ret [t8])
theorem ziY {t0:V}:OkT zc0 [t0] (zgD (sem T) t0):=okT (by kernel_rfl) (by kernel_rfl) (by kernel_rfl)
def ze1 (G:Sem') (t0:V):M Res :=
 uL (Ax.minmax true t0 [(uc 1)]) fun t4 =>
 uL (Ax.minmax false t4 [(uc 1000)]) fun t5 =>
 uL (Ax.build [(uc 0),V.nils] [(0,1,t5)]) fun t6 =>
 uO zeb t6 fun t7 =>
 M.pure (.ret [t7])
theorem zho {t0:V}:OkT zca [t0] (ze1 (sem T) t0):=okT (by kernel_rfl) (by kernel_rfl) (by kernel_rfl)
def zdV (G:Sem'):M Res :=
 (G zeZ []).bind fun t9 =>
 uL (eqr .ptr false t9 V.nilp) fun t11 =>
 M.ite t11
 (M.pure (.ret [(V.bool false)]))
 ((zbQ zaw 1 [(ub 0)] [(0,1,(ub 120))]).bind fun t14 =>
 (zgY zaw t14).bind fun t15 =>
 uL (Ax.build [(uc 0),(uc 0),(uc 0),V.nils] [(0,1,(uc 1)),(1,1,(uc 5)),(3,1,t15)]) fun t16 =>
 (G zaS [t9,t16]).bind fun t17 =>
 uE 0 t17 fun t18 =>
 uE 1 t17 fun t19 =>
 (G zbb [t9,(uc 2)]).bind fun t21 =>
 uL (Ax.build [(uc 0),(uc 0),(uc 0),(uc 0),(uc 0),(uc 0),V.nils] [(0,1,(uc 1))]) fun t24 =>
 (G zaZ [t24]).bind fun t25 =>
 uL (Ax.build [(uc 0),(uc 0),(uc 0),V.nils] [(0,1,(uc 2)),(1,1,(uc 5)),(3,1,t25)]) fun t26 =>
 (G zaS [t9,t26]).bind fun t27 =>
 uE 0 t27 fun t28 =>
 uE 1 t27 fun t29 =>
 (G zbG [t9,(uc 0)]).bind fun t32 =>
 uE 0 t32 fun t33 =>
 uE 1 t32 fun t34 =>
 uO zav (V.agg [(V.bool false),(V.bool false),(V.bool false),(V.bool false),(V.bool false),(V.bool false),(V.bool false),(V.bool false),(uc 0),(uc 0),(uc 0),(uc 0),(uc 0),(uc 0),(uc 0),(uc 0),(uc 0),(V.bool false),(uc 0),(uc 0),(uc 0),(uc 0),(uc 0),(uc 0),(uc 0),(uc 0),(uc 0),(uc 0),(uc 0),(uc 0),(uc 0),(uc 0),(uc 0),(uc 0),(uc 0),(uc 0),(uc 0),(uc 0),(V.bool false)]) fun t7 =>
 uT 39 t7 t33 fun _ =>
 uB .eql t19 (uc 0) fun t36 =>
 uG t36 true (M.pure t21) fun t38 =>
 uH t36 true (Ax.bin .eql t38 (uc 1)) fun t39 =>
 uL (Ax.pick t36 t39 (V.bool false)) fun t40 =>
 uG t40 true (M.pure t29) fun t42 =>
 uH t40 true (Ax.bin .eql t42 (uc 0)) fun t43 =>
 uL (Ax.pick t40 t43 (V.bool false)) fun t44 =>
 uG t44 true (M.pure t9) fun t46 =>
 uG t44 true (G zaM [t46,(uc 5)]) fun t47 =>
 uH t44 true (Ax.bin .eql t47 (uc 1)) fun t48 =>
 uL (Ax.pick t44 t48 (V.bool false)) fun t49 =>
 uG t49 true (M.pure t34) fun t51 =>
 uL (Ax.pick t49 t51 (V.bool false)) fun t52 =>
 uH t52 true (Ax.faddr 0 t7) fun t54 =>
 uH t52 true (Ax.faddr 0 t54) fun t55 =>
 uH t52 true (Ax.iaddr (some 8) 1 t55 (uc 0)) fun t56 =>
 uG t52 true (zar none t56) fun t57 =>
 uL (Ax.pick t52 t57 (V.bool false)) fun t58 =>
 uH t58 true (Ax.faddr 0 t7) fun t60 =>
 uH t58 true (Ax.faddr 8 t60) fun t61 =>
 uH t58 true (Ax.iaddr (some 8) 1 t61 (uc 0)) fun t62 =>
 uG t58 true (zar none t62) fun t63 =>
 uH t58 true (Ax.bin .eql t63 (uc 5)) fun t64 =>
 uL (Ax.pick t58 t64 (V.bool false)) fun t65 =>
 M.pure (.ret [t65]))
theorem zgj:OkT za9 [] (zdV (sem T)):=okT (by kernel_rfl) (by kernel_rfl) (by kernel_rfl)
def zd9 (G:Sem') (t0 t1:V):M Res :=
 uO zbh t1 fun t3 =>
 uFM 0 t3 fun t7 =>
 uB .lss t7 (uc 1) fun t8 =>
 uH t8 false (Ax.faddr 0 t3) fun t10 =>
 uG t8 false (zar none t10) fun t11 =>
 uH t8 false (Ax.bin .gtr t11 (uc 5)) fun t12 =>
 uL (Ax.pick t8 (V.bool true) t12) fun t13 =>
 uH t13 false (Ax.faddr 0 t3) fun t15 =>
 uG t13 false (zar none t15) fun t16 =>
 uH t13 false (Ax.bin .neq t16 (uc 3)) fun t17 =>
 uG t13 false (M.pure t17) fun t18 =>
 uH t18 true (Ax.faddr 0 t3) fun t19 =>
 uG t18 true (zar none t19) fun t20 =>
 uH t18 true (Ax.bin .neq t20 (uc 4)) fun t21 =>
 uH t13 false (Ax.pick t18 t21 (V.bool false)) fun t22 =>
 uG t13 false (M.pure t22) fun t23 =>
 uH t23 true (Ax.faddr 1 t3) fun t24 =>
 uG t23 true (zar none t24) fun t25 =>
 uG t23 true (G zel [t25]) fun t26 =>
 uH t23 true (Ax.un .not t26) fun t27 =>
 uH t13 false (Ax.pick t23 t27 (V.bool false)) fun t28 =>
 uL (Ax.pick t13 (V.bool true) t28) fun t29 =>
 M.ite t29
 (M.pure (.ret [V.nils,(uc 1)]))
 (uFM 0 t3 fun t31 =>
 M.blk 0 (
 uB .eql t31 (uc 1) fun t47 =>
 M.join (M.ite t47
 (uFM 1 t3 fun t50 =>
 uFM 3 t3 fun t52 =>
 (G zaW [t0,t50,t52]).bind fun t53 =>
 M.pure (.nrm []))
 (uB .eql t31 (uc 2) fun t55 =>
 M.join (M.ite t55
 (uFM 1 t3 fun t58 =>
 uFM 3 t3 fun t60 =>
 (G zbf [t0,t58,t60]).bind fun t61 =>
 M.pure (.nrm []))
 (uB .eql t31 (uc 3) fun t63 =>
 M.join (M.ite t63
 (uFM 2 t3 fun t65 =>
 uB .lss t65 (uc 0) fun t66 =>
 uH t66 false (Ax.faddr 2 t3) fun t68 =>
 uG t66 false (zar none t68) fun t69 =>
 uH t66 false (Ax.bin .gtr t69 (uc 100000)) fun t70 =>
 uL (Ax.pick t66 (V.bool true) t70) fun t71 =>
 M.ite t71
 (M.pure (.ret [V.nils,(uc 1)]))
 (uFM 2 t3 fun t74 =>
 (G zfT [t0,t74]).bind fun t75 =>
 M.pure (.nrm [])))
 (uB .eql t31 (uc 4) fun t77 =>
 M.ite t77
 (uFM 2 t3 fun t79 =>
 uB .lss t79 (uc 0) fun t80 =>
 uH t80 false (Ax.faddr 2 t3) fun t82 =>
 uG t80 false (zar none t82) fun t83 =>
 uH t80 false (Ax.bin .gtr t83 (uc 4294967295)) fun t84 =>
 uL (Ax.pick t80 (V.bool true) t84) fun t85 =>
 M.ite t85
 (M.pure (.ret [V.nils,(uc 1)]))
 (uNFM 1469 t0 fun t89 =>
 uL (vlen t89) fun t90 =>
 uB .geq t90 (uc 16) fun t91 =>
 M.ite t91
 (M.pure (.ret [V.nils,(uc 5)]))
 (uNFM 1469 t0 fun t96 =>
 uFM 2 t3 fun t98 =>
 uL (Ax.cint .u32 t98) fun t99 =>
 (zbQ zbu 1 [(V.int .u32 0)] [(0,1,t99)]).bind fun t100 =>
 (zay zbu 1 4 t96 t100).bind fun t101 =>
 uNF 1469 t0 fun t103 =>
 uT 1 t103 t101 fun _ =>
 M.pure (.nrm []))))
 (uFM 2 t3 fun t33 =>
 uB .lss t33 (uc 0) fun t34 =>
 uH t34 false (Ax.faddr 2 t3) fun t36 =>
 uG t34 false (zar none t36) fun t37 =>
 uH t34 false (Ax.bin .gtr t37 (uc 32)) fun t38 =>
 uL (Ax.pick t34 (V.bool true) t38) fun t39 =>
 M.ite t39
 (M.pure (.ret [V.nils,(uc 1)]))
 (uFM 1 t3 fun t42 =>
 uFM 2 t3 fun t44 =>
 (G zbT [t0,t42,t44]).bind fun t45 =>
 M.pure (.ret [t45,(uc 0)]))))) fun _ =>
 M.pure (.nrm []))) fun _ =>
 M.pure (.nrm []))) fun _ =>
 M.pure (.nrm [])) fun _ =>
 M.pure (.ret [V.nils,(uc 0)]))
theorem zeS {t0 t1:V}:OkT zaS [t0,t1] (zd9 (sem T) t0 t1):=okT (by kernel_rfl) (by kernel_rfl) (by kernel_rfl)
def zk2 (G:Sem') (t0:V):M Res :=
 uB .geq t0 (uc 0) fun t4 =>
 uG t4 true (M.pure t0) fun t6 =>
 uH t4 true (Ax.bin .leq t6 (uc 63)) fun t7 =>
 uL (Ax.pick t4 t7 (V.bool false)) fun t8 =>
 M.pure (.ret [t8])
theorem znG {t0:V}:OkT zel [t0] (zk2 (sem T) t0):=okT (by kernel_rfl) (by kernel_rfl) (by kernel_rfl)
def zcc (G:Sem') (t0 t1 t2:V):M Res :=
 uL (vlen t2) fun t12 =>
 uB .gtr t12 (uc 1200) fun t13 =>
 M.ite t13
 (uNFM 1534 t0 fun t17 =>
 (G zaL [t17,(uc 1)]).bind fun t18 =>
 M.pure (.ret []))
 ((G zbS [t0,t1]).bind fun t22 =>
 uE 0 t22 fun t23 =>
 uE 1 t22 fun t24 =>
 uE 2 t22 fun t25 =>
 uL (Ax.un .not t25) fun t27 =>
 M.ite t27
 (uNFM 1534 t0 fun t31 =>
 (G zaL [t31,(uc 2)]).bind fun t32 =>
 M.pure (.ret []))
 ((G zbU [t0,t23,t1]).bind fun t36 =>
 (G zfQ [t2]).bind fun t38 =>
 M.ite t38
 ((G zcb [t0,t23,t24,t2]).bind fun t43 =>
 M.pure (.ret []))
 ((G zcw [t23,t24,t2]).bind fun t48 =>
 uE 0 t48 fun t49 =>
 uE 1 t48 fun t50 =>
 uO zcz (V.agg [(V.bool false),(uc 0),(V.int .u16 0),(V.int .u32 0),(V.int .u32 0),V.nils,(uc 0),V.nils,(uc 0),V.nils,(uc 0),(uc 0),(V.bool false),(V.bool false),(uc 0),(V.int .u16 0),(V.bool false),(uc 0),(uc 0),V.nils,(uc 0),V.nils,V.nils,(V.bool false),(V.int .u32 0),(V.bool false),(V.bool false),(V.bool false),V.nils,V.nils,V.nils]) fun t9 =>
 uT 31 t9 t49 fun _ =>
 uB .neq t50 (uc 0) fun t52 =>
 M.ite t52
 (uNFM 1534 t0 fun t56 =>
 (G zaL [t56,t50]).bind fun t58 =>
 M.pure (.ret []))
 (uS 31 t9 fun t62 =>
 (G zfj [t0,t23,t24,t62]).bind fun t63 =>
 M.pure (.ret [])))))
theorem zcQ {t0 t1 t2:V}:OkT zaW [t0,t1,t2] (zcc (sem T) t0 t1 t2):=okT (by kernel_rfl) (by kernel_rfl) (by kernel_rfl)
def zfX (G:Sem') (t0 t1:V):M Res :=
 uB .geq t1 (uc 0) fun t5 =>
 uG t5 true (M.pure t1) fun t7 =>
 uG t5 true (M.pure t0) fun t8 =>
 uH t5 true (Ax.nilck t8) fun t9 =>
 uH t5 true (Ax.faddr 0 t9) fun t10 =>
 uG t5 true (zar none t10) fun t11 =>
 uH t5 true (vlen t11) fun t12 =>
 uH t5 true (Ax.bin .lss t7 t12) fun t13 =>
 uL (Ax.pick t5 t13 (V.bool false)) fun t14 =>
 M.join (M.ite t14
 (uNFM 0 t0 fun t18 =>
 uI none 1 t18 t1 fun t20 =>
 (G zci [t20,(uc 1)]).bind fun t21 =>
 M.pure (.nrm []))
 (M.pure (.nrm []))) fun _ =>
 M.pure (.ret [])
theorem zia {t0 t1:V}:OkT zaL [t0,t1] (zfX (sem T) t0 t1):=okT (by kernel_rfl) (by kernel_rfl) (by kernel_rfl)
def zdJ (G:Sem') (t0 t1:V):M Res :=
 uNF 0 t0 fun t7 =>
 (zgl .i64 t7 t1).bind fun t9 =>
 M.pure (.ret [t9])
theorem zfK {t0 t1:V}:OkT zci [t0,t1] (zdJ (sem T) t0 t1):=okT (by kernel_rfl) (by kernel_rfl) (by kernel_rfl)
def zdl (G:Sem') (t1 t0:V) (L:List V):M Res :=
 uB .lss (ug L 0) (uc 4) fun t11 =>
 M.ite t11
 (M.blk 1 (
 uNF 0 t0 fun t17 =>
 uI (some 4) 367 t17 (ug L 0) fun t18 =>
 uF 0 t18 fun t19 =>
 uF 0 t19 fun t20 =>
 uS 16 t20 fun t21 =>
 (G zdE [t21,t1]).bind fun t23 =>
 uE 0 t23 fun t24 =>
 uE 1 t23 fun t25 =>
 M.ite t25
 (uNF 0 t0 fun t30 =>
 uI (some 4) 367 t30 (ug L 0) fun t31 =>
 M.pure (.ret [t31,t24,(V.bool true)]))
 (M.pure (.nrm []))) fun _ =>
 uB .add (ug L 0) (uc 1) fun t33 =>
 M.pure (.nrm [t33]))
 (M.pure (.ex 0 []))
def zf1 (G:Sem') (t0 t1:V):M Res :=
 M.blk 0 (
 M.iter (zdl G t1 t0) [(uc 0)]) fun _ =>
 M.pure (.ret [V.nilp,(uc 0),(V.bool false)])
theorem zie {t0 t1:V}:OkT zbS [t0,t1] (zf1 (sem T) t0 t1):=okT (by kernel_rfl) (by kernel_rfl) (by kernel_rfl)
def zjD (G:Sem') (t0 t1:V):M Res :=
 uO zaj t0 fun t2 =>
 uS 16 t2 fun t6 =>
 (G zcs [t6]).bind fun t7 =>
 uL (Ax.un .not t7) fun t8 =>
 M.ite t8
 (M.pure (.ret [(uc 0),(V.bool false)]))
 (uS 16 t2 fun t9 =>
 (G zcW [t9,t1]).bind fun t11 =>
 uE 0 t11 fun t12 =>
 uE 1 t11 fun t13 =>
 M.pure (.ret [t12,t13]))
theorem zms {t0 t1:V}:OkT zdE [t0,t1] (zjD (sem T) t0 t1):=okT (by kernel_rfl) (by kernel_rfl) (by kernel_rfl)
def zfC (G:Sem') (t8 t1:V) (L:List V):M Res :=
 uB .lss (ug L 0) (uc 8) fun t10 =>
 M.ite t10
 (M.blk 1 (
 uL (Ax.index 8 1 none t8 (ug L 0)) fun t12 =>
 uF 0 t1 fun t14 =>
 uIM (some 8) 1 t14 (ug L 0) fun t16 =>
 uL (Ax.un .not t16) fun t17 =>
 M.ite t17
 (uB .neq t12 (uc 0) fun t19 =>
 M.ite t19
 (M.pure (.ret [(V.bool false)]))
 (M.pure (.ex 1 [])))
 (uS 16 t1 fun t21 =>
 (G zcW [t21,t12]).bind fun t23 =>
 uE 0 t23 fun t24 =>
 uE 1 t23 fun t25 =>
 uB .neq t24 (ug L 0) fun t28 =>
 uG t28 false (M.pure t12) fun t30 =>
 uG t28 false (G zdC [t30]) fun t31 =>
 uH t28 false (Ax.un .not t31) fun t32 =>
 uL (Ax.pick t28 (V.bool true) t32) fun t33 =>
 M.ite t33
 (M.pure (.ret [(V.bool false)]))
 (M.pure (.nrm [])))) fun _ =>
 uB .add (ug L 0) (uc 1) fun t34 =>
 M.pure (.nrm [t34]))
 (M.pure (.ex 0 []))
def zjC (G:Sem') (t0:V):M Res :=
 uO zaj t0 fun t1 =>
 uF 8 t1 fun t7 =>
 uS 8 t7 fun t8 =>
 M.blk 0 (
 M.iter (zfC G t8 t1) [(uc 0)]) fun _ =>
 M.pure (.ret [(V.bool true)])
theorem zmr {t0:V}:OkT zcs [t0] (zjC (sem T) t0):=okT (by kernel_rfl) (by kernel_rfl) (by kernel_rfl)
def zfA (G:Sem') (t9 t2 t1:V) (L:List V):M Res :=
 uB .lss (ug L 0) (uc 8) fun t11 =>
 M.ite t11
 (M.blk 1 (
 uL (Ax.index 8 1 none t9 (ug L 0)) fun t13 =>
 uF 0 t2 fun t15 =>
 uIM (some 8) 1 t15 (ug L 0) fun t17 =>
 uG t17 true (M.pure t1) fun t19 =>
 uG t17 true (M.pure t13) fun t20 =>
 uH t17 true (Ax.bin .eql t19 t20) fun t21 =>
 uL (Ax.pick t17 t21 (V.bool false)) fun t22 =>
 M.ite t22
 (M.pure (.ret [(ug L 0),(V.bool true)]))
 (M.pure (.nrm []))) fun _ =>
 uB .add (ug L 0) (uc 1) fun t24 =>
 M.pure (.nrm [t24]))
 (M.pure (.ex 0 []))
def zjy (G:Sem') (t0 t1:V):M Res :=
 uO zaj t0 fun t2 =>
 uF 8 t2 fun t8 =>
 uS 8 t8 fun t9 =>
 M.blk 0 (
 M.iter (zfA G t9 t2 t1) [(uc 0)]) fun _ =>
 M.pure (.ret [(uc 0),(V.bool false)])
theorem zmn {t0 t1:V}:OkT zcW [t0,t1] (zjy (sem T) t0 t1):=okT (by kernel_rfl) (by kernel_rfl) (by kernel_rfl)
def zjz (G:Sem') (t0:V):M Res :=
 uB .geq t0 (uc 0) fun t4 =>
 uG t4 true (M.pure t0) fun t6 =>
 uH t4 true (Ax.bin .leq t6 (uc 63)) fun t7 =>
 uL (Ax.pick t4 t7 (V.bool false)) fun t8 =>
 M.pure (.ret [t8])
theorem zmo {t0:V}:OkT zdC [t0] (zjz (sem T) t0):=okT (by kernel_rfl) (by kernel_rfl) (by kernel_rfl)
def zf3 (G:Sem') (t0 t1 t2:V):M Res :=
 uNF 0 t1 fun t10 =>
 uS 39 t10 fun t11 =>
 uNFM 1468 t0 fun t16 =>
 (G zeH [t11,t2,t16]).bind fun t17 =>
 uE 0 t17 fun t18 =>
 uNF 0 t1 fun t21 =>
 uT 39 t21 t18 fun _ =>
 uE 1 t17 fun t19 =>
 M.pure (.ret [])
theorem zig {t0 t1 t2:V}:OkT zbU [t0,t1,t2] (zf3 (sem T) t0 t1 t2):=okT (by kernel_rfl) (by kernel_rfl) (by kernel_rfl)
def zjG (G:Sem') (t0 t1 t2:V):M Res :=
 uO zav t0 fun t3 =>
 uO zav (V.agg [(V.bool false),(V.bool false),(V.bool false),(V.bool false),(V.bool false),(V.bool false),(V.bool false),(V.bool false),(uc 0),(uc 0),(uc 0),(uc 0),(uc 0),(uc 0),(uc 0),(uc 0),(uc 0),(V.bool false),(uc 0),(uc 0),(uc 0),(uc 0),(uc 0),(uc 0),(uc 0),(uc 0),(uc 0),(uc 0),(uc 0),(uc 0),(uc 0),(uc 0),(uc 0),(uc 0),(uc 0),(uc 0),(uc 0),(uc 0),(V.bool false)]) fun t6 =>
 uS 39 t3 fun t11 =>
 (G zfh [t11,t1]).bind fun t13 =>
 uE 0 t13 fun t14 =>
 uE 1 t13 fun t15 =>
 uB .neq t15 (uc 0) fun t17 =>
 M.ite t17
 (uS 39 t3 fun t18 =>
 uT 39 t6 t18 fun _ =>
 uS 39 t6 fun r0 =>
 M.pure (.ret [r0,t15]))
 (uF 22 t3 fun t22 =>
 uI (some 8) 1 t22 t14 fun t23 =>
 uT 1 t23 t2 fun _ =>
 uS 39 t3 fun t24 =>
 uT 39 t6 t24 fun _ =>
 uS 39 t6 fun r0 =>
 M.pure (.ret [r0,(uc 0)]))
theorem zmu {t0 t1 t2:V}:OkT zeH [t0,t1,t2] (zjG (sem T) t0 t1 t2):=okT (by kernel_rfl) (by kernel_rfl) (by kernel_rfl)
def zkZ (G:Sem') (t0 t1:V):M Res :=
 uO zav t0 fun t2 =>
 uS 39 t2 fun t8 =>
 (G zek [t8]).bind fun t9 =>
 uL (Ax.un .not t9) fun t10 =>
 M.ite t10
 (M.pure (.ret [(uc 0),(uc 1)]))
 (uF 0 t2 fun t12 =>
 uS 16 t12 fun t13 =>
 (G zdE [t13,t1]).bind fun t15 =>
 uE 0 t15 fun t16 =>
 uE 1 t15 fun t17 =>
 uL (Ax.un .not t17) fun t19 =>
 M.ite t19
 (M.pure (.ret [(uc 0),(uc 6)]))
 (M.pure (.ret [t16,(uc 0)])))
theorem znD {t0 t1:V}:OkT zfh [t0,t1] (zkZ (sem T) t0 t1):=okT (by kernel_rfl) (by kernel_rfl) (by kernel_rfl)
def zgt (G:Sem') (t18 t1:V) (L:List V):M Res :=
 uB .lss (ug L 0) (uc 8) fun t20 =>
 M.ite t20
 (M.blk 1 (
 uL (Ax.index 8 1 none t18 (ug L 0)) fun t22 =>
 uL (Ax.un .not t22) fun t24 =>
 uG t24 true (M.pure (ug L 0)) fun t26 =>
 uH t24 true (Ax.faddr 22 t1) fun t27 =>
 uH t24 true (Ax.iaddr (some 8) 1 t27 t26) fun t28 =>
 uG t24 true (zar none t28) fun t29 =>
 uH t24 true (Ax.bin .neq t29 (uc 0)) fun t30 =>
 uG t24 true (M.pure t30) fun t31 =>
 uG t31 false (M.pure (ug L 0)) fun t32 =>
 uH t31 false (Ax.faddr 30 t1) fun t33 =>
 uH t31 false (Ax.iaddr (some 8) 1 t33 t32) fun t34 =>
 uG t31 false (zar none t34) fun t35 =>
 uH t31 false (Ax.bin .neq t35 (uc 0)) fun t36 =>
 uH t24 true (Ax.pick t31 (V.bool true) t36) fun t37 =>
 uL (Ax.pick t24 t37 (V.bool false)) fun t38 =>
 uG t38 false (M.pure (ug L 0)) fun t40 =>
 uH t38 false (Ax.faddr 30 t1) fun t41 =>
 uH t38 false (Ax.iaddr (some 8) 1 t41 t40) fun t42 =>
 uG t38 false (zar none t42) fun t43 =>
 uH t38 false (Ax.bin .lss t43 (uc 0)) fun t44 =>
 uL (Ax.pick t38 (V.bool true) t44) fun t45 =>
 uG t45 false (M.pure (ug L 0)) fun t47 =>
 uH t45 false (Ax.faddr 30 t1) fun t48 =>
 uH t45 false (Ax.iaddr (some 8) 1 t48 t47) fun t49 =>
 uG t45 false (zar none t49) fun t50 =>
 uH t45 false (Ax.faddr 16 t1) fun t51 =>
 uH t45 false (Ax.faddr 0 t51) fun t52 =>
 uG t45 false (zar none t52) fun t53 =>
 uH t45 false (Ax.bin .gtr t50 t53) fun t54 =>
 uL (Ax.pick t45 (V.bool true) t54) fun t55 =>
 M.ite t55
 (M.pure (.ret [(V.bool false)]))
 (M.pure (.nrm []))) fun _ =>
 uB .add (ug L 0) (uc 1) fun t56 =>
 M.pure (.nrm [t56]))
 (M.pure (.ex 0 []))
def zk1 (G:Sem') (t0:V):M Res :=
 uO zav t0 fun t1 =>
 uF 0 t1 fun t6 =>
 uS 16 t6 fun t7 =>
 (G zcs [t7]).bind fun t8 =>
 uL (Ax.un .not t8) fun t9 =>
 uH t9 false (Ax.faddr 16 t1) fun t11 =>
 uG t9 false (zar (some 6) t11) fun t12 =>
 uG t9 false (G zdG [t12]) fun t13 =>
 uH t9 false (Ax.un .not t13) fun t14 =>
 uL (Ax.pick t9 (V.bool true) t14) fun t15 =>
 M.ite t15
 (M.pure (.ret [(V.bool false)]))
 (uF 0 t1 fun t16 =>
 uF 0 t16 fun t17 =>
 uS 8 t17 fun t18 =>
 M.blk 0 (
 M.iter (zgt G t18 t1) [(uc 0)]) fun _ =>
 uF 0 t1 fun t57 =>
 uS 16 t57 fun t58 =>
 (G zdD [t58]).bind fun t59 =>
 uF 16 t1 fun t60 =>
 uFM 1 t60 fun t62 =>
 uL (Ax.un .not t62) fun t63 =>
 uH t63 false (Ax.faddr 16 t1) fun t65 =>
 uH t63 false (Ax.faddr 3 t65) fun t66 =>
 uG t63 false (zar none t66) fun t67 =>
 uG t63 false (M.pure t59) fun t68 =>
 uH t63 false (Ax.bin .andNot t67 t68) fun t69 =>
 uH t63 false (Ax.bin .eql t69 (uc 0)) fun t70 =>
 uL (Ax.pick t63 (V.bool true) t70) fun t71 =>
 uH t71 true (Ax.faddr 38 t1) fun t73 =>
 uG t71 true (zar none t73) fun t74 =>
 uH t71 true (Ax.un .not t74) fun t75 =>
 uG t71 true (M.pure t75) fun t76 =>
 uG t76 false (M.pure t59) fun t77 =>
 uH t76 false (Ax.bin .eql t77 (uc 0)) fun t78 =>
 uH t71 true (Ax.pick t76 (V.bool true) t78) fun t79 =>
 uL (Ax.pick t71 t79 (V.bool false)) fun t80 =>
 M.pure (.ret [t80]))
theorem znF {t0:V}:OkT zek [t0] (zk1 (sem T) t0):=okT (by kernel_rfl) (by kernel_rfl) (by kernel_rfl)
def zjJ (G:Sem') (t0:V):M Res :=
 uO zaz t0 fun t1 =>
 uFM 0 t1 fun t4 =>
 uB .lss t4 (uc 0) fun t5 =>
 uH t5 false (Ax.faddr 0 t1) fun t7 =>
 uG t5 false (zar none t7) fun t8 =>
 uH t5 false (Ax.bin .gtr t8 (uc 65535)) fun t9 =>
 uL (Ax.pick t5 (V.bool true) t9) fun t10 =>
 M.ite t10
 (M.pure (.ret [(V.bool false)]))
 (uFM 1 t1 fun t12 =>
 uL (Ax.un .not t12) fun t13 =>
 M.ite t13
 (uS 6 t1 fun t14 =>
 uFM 0 t1 fun t16 =>
 uL (Ax.build [(uc 0),(V.bool false),(uc 0),(uc 0),(uc 0),(uc 0)] [(0,1,t16)]) fun t17 =>
 uL (eqr (.st [.int,.bool,.int,.int,.int,.int]) false t14 t17) fun t18 =>
 M.pure (.ret [t18]))
 (uFM 2 t1 fun t20 =>
 uFM 0 t1 fun t22 =>
 uB .gtr t20 t22 fun t23 =>
 uH t23 true (Ax.faddr 2 t1) fun t25 =>
 uG t23 true (zar none t25) fun t26 =>
 uH t23 true (Ax.bin .leq t26 (uc 65535)) fun t27 =>
 uL (Ax.pick t23 t27 (V.bool false)) fun t28 =>
 uH t28 true (Ax.faddr 3 t1) fun t30 =>
 uG t28 true (zar none t30) fun t31 =>
 uH t28 true (Ax.bin .geq t31 (uc 1)) fun t32 =>
 uL (Ax.pick t28 t32 (V.bool false)) fun t33 =>
 uH t33 true (Ax.faddr 3 t1) fun t35 =>
 uG t33 true (zar none t35) fun t36 =>
 uH t33 true (Ax.bin .leq t36 (uc 255)) fun t37 =>
 uL (Ax.pick t33 t37 (V.bool false)) fun t38 =>
 uH t38 true (Ax.faddr 4 t1) fun t40 =>
 uG t38 true (zar none t40) fun t41 =>
 uH t38 true (Ax.faddr 3 t1) fun t42 =>
 uG t38 true (zar none t42) fun t43 =>
 uH t38 true (Ax.bin .andNot t41 t43) fun t44 =>
 uH t38 true (Ax.bin .eql t44 (uc 0)) fun t45 =>
 uL (Ax.pick t38 t45 (V.bool false)) fun t46 =>
 uH t46 true (Ax.faddr 4 t1) fun t48 =>
 uG t46 true (zar none t48) fun t49 =>
 uH t46 true (Ax.faddr 3 t1) fun t50 =>
 uG t46 true (zar none t50) fun t51 =>
 uH t46 true (Ax.bin .neq t49 t51) fun t52 =>
 uL (Ax.pick t46 t52 (V.bool false)) fun t53 =>
 M.pure (.ret [t53])))
theorem zmx {t0:V}:OkT zdG [t0] (zjJ (sem T) t0):=okT (by kernel_rfl) (by kernel_rfl) (by kernel_rfl)
end Go.Ax
/- FnS2 -/
namespace Go.Ax
open Go.Proofs
def zfB (G:Sem') (t10 t2:V) (L:List V):M Res :=
 uB .lss (ug L 1) (uc 8) fun t12 =>
 M.ite t12
 (M.blk 1 (
 uL (Ax.index 8 1 none t10 (ug L 1)) fun t14 =>
 M.join (M.ite t14
 (uB .shl (uc 1) (ug L 1) fun t18 =>
 uB .or (ug L 0) t18 fun t19 =>
 M.pure (.nrm [t19]))
 (M.pure (.nrm [(ug L 0)]))) fun L0 =>
 M.pure (.nrm [(ug L0 0)])) fun L1 =>
 uB .add (ug L 1) (uc 1) fun t20 =>
 M.pure (.nrm [(ug L1 0),t20]))
 (M.pure (.ex 0 [(ug L 0)]))
def zjB (G:Sem') (t0:V):M Res :=
 uO zaj t0 fun t1 =>
 uS 16 t1 fun t6 =>
 (G zcs [t6]).bind fun t7 =>
 uL (Ax.un .not t7) fun t8 =>
 M.ite t8
 (M.pure (.ret [(uc 0)]))
 (uF 0 t1 fun t9 =>
 uS 8 t9 fun t10 =>
 M.blk 0 (
 M.iter (zfB G t10 (uc 0)) [(uc 0),(uc 0)]) fun L2 =>
 M.pure (.ret [(ug L2 0)]))
theorem zmq {t0:V}:OkT zdD [t0] (zjB (sem T) t0):=okT (by kernel_rfl) (by kernel_rfl) (by kernel_rfl)
def zoa (G:Sem') (t0:V):M Res :=
 uL (vlen t0) fun t4 =>
 uB .geq t4 (uc 2) fun t5 =>
 uG t5 true (M.pure t0) fun t7 =>
 uH t5 true (Ax.iaddr none 1 t7 (uc 1)) fun t8 =>
 uG t5 true (zar none t8) fun t9 =>
 uH t5 true (Ax.bin .geq t9 (ub 192)) fun t10 =>
 uL (Ax.pick t5 t10 (V.bool false)) fun t11 =>
 uG t11 true (M.pure t0) fun t13 =>
 uH t11 true (Ax.iaddr none 1 t13 (uc 1)) fun t14 =>
 uG t11 true (zar none t14) fun t15 =>
 uH t11 true (Ax.bin .leq t15 (ub 223)) fun t16 =>
 uL (Ax.pick t11 t16 (V.bool false)) fun t17 =>
 M.pure (.ret [t17])
theorem zql {t0:V}:OkT zfQ [t0] (zoa (sem T) t0):=okT (by kernel_rfl) (by kernel_rfl) (by kernel_rfl)
def zb1 (G:Sem') (t55 t54 t0 t1 t2:V) (L:List V):M Res :=
 uB .lss (ug L 0) t55 fun t57 =>
 M.ite t57
 (M.blk 4 (
 uI none 2 t54 (ug L 0) fun t58 =>
 uS 2 t58 fun t59 =>
 uO zdY (V.agg [(V.int .u32 0),(ub 0)]) fun t13 =>
 uT 2 t13 t59 fun _ =>
 uFM 0 t13 fun t64 =>
 (G zck [t0,t1,t2,t64]).bind fun t65 =>
 M.pure (.nrm [])) fun _ =>
 uB .add (ug L 0) (uc 1) fun t66 =>
 M.pure (.nrm [t66]))
 (M.pure (.ex 3 []))
def zb0 (G:Sem') (t71 t70 t0 t1 t2 t11:V) (L:List V):M Res :=
 uB .lss (ug L 0) t71 fun t73 =>
 M.ite t73
 (M.blk 6 (
 uIM none 1 t70 (ug L 0) fun t75 =>
 uS 16 t11 fun t80 =>
 (G zfg [t80]).bind fun t81 =>
 (G zc2 [t0,t1,t2,t75,t81]).bind fun t82 =>
 M.pure (.nrm [])) fun _ =>
 uB .add (ug L 0) (uc 1) fun t83 =>
 M.pure (.nrm [t83]))
 (M.pure (.ex 5 []))
def zbZ (G:Sem') (t29 t28 t0 t1 t2:V) (L:List V):M Res :=
 let p:=V.int .u32 0
 uB .lss (ug L 0) t29 fun t31 =>
 M.ite t31
 (M.blk 1 (
 uI none 16 t28 (ug L 0) fun t32 =>
 uS 16 t32 fun t33 =>
 uO zbg (V.agg [(uc 0),p,p,(uq 0),p,p,p,V.nils,V.nils,V.nils,(uc 0),p,V.nils,(uc 0),(uc 0),V.nils]) fun t11 =>
 uT 16 t11 t33 fun _ =>
 uFM 0 t11 fun t35 =>
 M.blk 2 (
 uB .eql t35 (uc 3) fun t37 =>
 M.join (M.ite t37
 (uS 16 t11 fun t41 =>
 (G zcJ [t0,t1,t2,t41]).bind fun t42 =>
 M.pure (.nrm []))
 (uB .eql t35 (uc 4) fun t44 =>
 M.join (M.ite t44
 (uFM 2 t11 fun t49 =>
 (G zck [t0,t1,t2,t49]).bind fun t50 =>
 M.pure (.nrm []))
 (uB .eql t35 (uc 5) fun t52 =>
 M.join (M.ite t52
 (uFM 9 t11 fun t54 =>
 uL (vlen t54) fun t55 =>
 M.blk 3 (
 M.iter (zb1 G t55 t54 t0 t1 t2) [(uc 0)]) fun _ =>
 M.pure (.nrm []))
 (uB .eql t35 (uc 6) fun t68 =>
 M.join (M.ite t68
 (uFM 12 t11 fun t70 =>
 uL (vlen t70) fun t71 =>
 M.blk 5 (
 M.iter (zb0 G t71 t70 t0 t1 t2 t11) [(uc 0)]) fun _ =>
 M.pure (.nrm []))
 (M.pure (.nrm []))) fun _ =>
 M.pure (.nrm []))) fun _ =>
 M.pure (.nrm []))) fun _ =>
 M.pure (.nrm []))) fun _ =>
 M.pure (.nrm [])) fun _ =>
 M.pure (.nrm [])) fun _ =>
 uB .add (ug L 0) (uc 1) fun t84 =>
 M.pure (.nrm [t84]))
 (M.pure (.ex 0 []))
def ze4 (G:Sem') (t0 t1 t2 t3:V):M Res :=
 (G zeG [t3]).bind fun t18 =>
 uE 0 t18 fun t19 =>
 uE 1 t18 fun t20 =>
 uB .neq t20 (uc 0) fun t22 =>
 M.ite t22
 (uNFM 1534 t0 fun t26 =>
 (G zaL [t26,(uc 3)]).bind fun t27 =>
 M.pure (.ret []))
 (uL (vlen t19) fun t29 =>
 M.blk 0 (
 M.iter (zbZ G t29 t19 t0 t1 t2) [(uc 0)]) fun _ =>
 M.pure (.ret []))
theorem zhq {t0 t1 t2 t3:V}:OkT zcb [t0,t1,t2,t3] (ze4 (sem T) t0 t1 t2 t3):=okT (by kernel_rfl) (by kernel_rfl) (by kernel_rfl)
def zhC (G:Sem') (L:List V):M Res :=
 let p:=V.int .u32 0
 uL (vlen (ug L 0)) fun t17 =>
 uB .gtr t17 (uc 0) fun t18 =>
 M.ite t18
 (M.blk 2 (
 uL (vlen (ug L 0)) fun t20 =>
 uB .lss t20 (uc 4) fun t21 =>
 M.ite t21
 (M.pure (.ret [V.nils,(uc 3)]))
 (uL (Ax.iaddr none 1 (ug L 0) (uc 0)) fun t23 =>
 uM t23 fun t24 =>
 uB .andNot t24 (ub 31) fun t25 =>
 uB .neq t25 (ub 128) fun t26 =>
 uG t26 false (M.pure (ug L 0)) fun t28 =>
 uG t26 false (G zfQ [t28]) fun t29 =>
 uH t26 false (Ax.un .not t29) fun t30 =>
 uL (Ax.pick t26 (V.bool true) t30) fun t31 =>
 M.ite t31
 (M.pure (.ret [V.nils,(uc 2)]))
 (uL (Ax.iaddr none 1 (ug L 0) (uc 2)) fun t33 =>
 uM t33 fun t34 =>
 uL (Ax.cint .i64 t34) fun t35 =>
 uB .shl t35 (uq 8) fun t36 =>
 uL (Ax.iaddr none 1 (ug L 0) (uc 3)) fun t38 =>
 uM t38 fun t39 =>
 uL (Ax.cint .i64 t39) fun t40 =>
 uB .or t36 t40 fun t41 =>
 uB .mul (uc 4) t41 fun t42 =>
 uB .add (uc 4) t42 fun t43 =>
 uL (vlen (ug L 0)) fun t45 =>
 uB .lss t45 t43 fun t47 =>
 M.ite t47
 (M.pure (.ret [V.nils,(uc 3)]))
 (uL (Ax.iaddr none 1 (ug L 0) (uc 1)) fun t50 =>
 uM t50 fun t51 =>
 uL (Ax.cint .i64 t51) fun t52 =>
 uL (Ax.iaddr none 1 (ug L 0) (uc 0)) fun t54 =>
 uM t54 fun t55 =>
 uB .and t55 (ub 31) fun t56 =>
 uL (Ax.cint .i64 t56) fun t57 =>
 uL (zaN .sl 1 (ug L 0) (some (uc 4)) (some t43) none) fun t60 =>
 (G zd7 [t52,t57,t60]).bind fun t61 =>
 uE 0 t61 fun t62 =>
 uO zbg (V.agg [(uc 0),p,p,(uq 0),p,p,p,V.nils,V.nils,V.nils,(uc 0),p,V.nils,(uc 0),(uc 0),V.nils]) fun t6 =>
 uT 16 t6 t62 fun _ =>
 uE 1 t61 fun t63 =>
 uL (Ax.un .not t63) fun t65 =>
 M.ite t65
 (M.pure (.ret [V.nils,(uc 2)]))
 (uS 16 t6 fun t67 =>
 (zbQ zbg 1 [(uc 0),p,p,(uq 0),p,p,p,V.nils,V.nils,V.nils,(uc 0),p,V.nils,(uc 0),(uc 0),V.nils] [(0,16,t67)]).bind fun t68 =>
 (zay zbg 16 192 (ug L 1) t68).bind fun t69 =>
 uL (zaN .sl 1 (ug L 0) (some t43) none none) fun t72 =>
 M.pure (.nrm [t72,t69])))))) fun L1 =>
 M.pure (.nrm [(ug L1 0),(ug L1 1)]))
 (M.pure (.ex 1 [(ug L 1)]))
def zjF (G:Sem') (t0:V):M Res :=
 M.blk 0 (
 uL (vlen t0) fun t10 =>
 uB .gtr t10 (uc 1200) fun t11 =>
 M.ite t11
 (M.pure (.ret [V.nils,(uc 4)]))
 (uL (vlen t0) fun t14 =>
 uB .eql t14 (uc 0) fun t15 =>
 M.ite t15
 (M.pure (.ret [V.nils,(uc 3)]))
 (M.pure (.nrm [])))) fun _ =>
 M.blk 1 (
 M.iter (zhC G) [t0,V.nils]) fun L2 =>
 M.pure (.ret [(ug L2 0),(uc 0)])
theorem zmt {t0:V}:OkT zeG [t0] (zjF (sem T) t0):=okT (by kernel_rfl) (by kernel_rfl) (by kernel_rfl)
def ziE (G:Sem') (t0 t1 t2:V):M Res :=
 let p:=V.int .u32 0
 uO zbg (V.agg [(uc 0),p,p,(uq 0),p,p,p,V.nils,V.nils,V.nils,(uc 0),p,V.nils,(uc 0),(uc 0),V.nils]) fun t6 =>
 (G zff [t0,t1,t2]).bind fun t13 =>
 uL (Ax.build [(uc 0),p,p,(uq 0),p,p,p,V.nils,V.nils,V.nils,(uc 0),p,V.nils,(uc 0),(uc 0),V.nils] [(0,1,t13)]) fun t14 =>
 uO zbg (V.agg [(uc 0),p,p,(uq 0),p,p,p,V.nils,V.nils,V.nils,(uc 0),p,V.nils,(uc 0),(uc 0),V.nils]) fun t8 =>
 uT 16 t8 t14 fun _ =>
 uL (Ax.build [V.nils,(V.bool false)] [(0,1,t2)]) fun t16 =>
 uO zhw t16 fun t17 =>
 uFM 0 t8 fun t19 =>
 uB .eql t19 (uc 7) fun t20 =>
 M.ite t20
 ((G zbm [t2]).bind fun t24 =>
 uF 13 t8 fun t25 =>
 uT 1 t25 t0 fun _ =>
 uF 14 t8 fun t26 =>
 uT 1 t26 t1 fun _ =>
 uF 15 t8 fun t27 =>
 uT 1 t27 t24 fun _ =>
 uS 16 t8 fun t28 =>
 uT 16 t6 t28 fun _ =>
 uS 16 t6 fun r0 =>
 M.pure (.ret [r0,(V.bool true)]))
 ((G zap [t17]).bind fun t30 =>
 uF 1 t8 fun t31 =>
 uT 1 t31 t30 fun _ =>
 uFM 0 t8 fun t33 =>
 M.blk 0 (
 uB .eql t33 (uc 1) fun t37 =>
 M.join (M.ite t37
 ((G zaC [t17,(uc 8)]).bind fun t39 =>
 uF 3 t8 fun t40 =>
 uT 1 t40 t39 fun _ =>
 (G zap [t17]).bind fun t42 =>
 (G zap [t17]).bind fun t44 =>
 (G zap [t17]).bind fun t46 =>
 uF 4 t8 fun t47 =>
 uT 1 t47 t42 fun _ =>
 uF 5 t8 fun t48 =>
 uT 1 t48 t44 fun _ =>
 uF 6 t8 fun t49 =>
 uT 1 t49 t46 fun _ =>
 (G zbp [t17,t1]).bind fun t52 =>
 uF 7 t8 fun t53 =>
 uT 1 t53 t52 fun _ =>
 M.pure (.nrm []))
 (uB .eql t33 (uc 2) fun t55 =>
 M.join (M.ite t55
 ((G zbp [t17,t1]).bind fun t58 =>
 uF 7 t8 fun t59 =>
 uT 1 t59 t58 fun _ =>
 M.pure (.nrm []))
 ((G zb9 [t17,t8]).bind fun t35 =>
 M.pure (.nrm []))) fun _ =>
 M.pure (.nrm []))) fun _ =>
 M.pure (.nrm [])) fun _ =>
 uS 16 t8 fun t60 =>
 uNFM 1 t17 fun t64 =>
 uL (Ax.un .not t64) fun t65 =>
 uG t65 true (M.pure t17) fun t67 =>
 uH t65 true (Ax.nilck t67) fun t68 =>
 uH t65 true (Ax.faddr 0 t68) fun t69 =>
 uG t65 true (zar none t69) fun t70 =>
 uH t65 true (vlen t70) fun t71 =>
 uH t65 true (Ax.bin .eql t71 (uc 0)) fun t72 =>
 uL (Ax.pick t65 t72 (V.bool false)) fun t73 =>
 M.getH.bind fun h0 =>
 uT 16 t6 t60 fun _ =>
 M.getH.bind fun h0' =>
 uU t69 h0 h0' fun _ =>
 uS 16 t6 fun r0 =>
 M.pure (.ret [r0,t73]))
theorem zlm {t0 t1 t2:V}:OkT zd7 [t0,t1,t2] (ziE (sem T) t0 t1 t2):=okT (by kernel_rfl) (by kernel_rfl) (by kernel_rfl)
def zkX (G:Sem') (t0 t1 t2:V):M Res :=
 M.blk 0 (
 uB .eql t0 (uc 200) fun t9 =>
 M.ite t9
 (M.pure (.ret [(uc 1)]))
 (uB .eql t0 (uc 201) fun t12 =>
 M.ite t12
 (M.pure (.ret [(uc 2)]))
 (uB .eql t0 (uc 205) fun t15 =>
 uG t15 true (M.pure t1) fun t17 =>
 uH t15 true (Ax.bin .eql t17 (uc 1)) fun t18 =>
 uL (Ax.pick t15 t18 (V.bool false)) fun t19 =>
 M.ite t19
 (M.pure (.ret [(uc 3)]))
 (uB .eql t0 (uc 206) fun t22 =>
 uG t22 true (M.pure t1) fun t24 =>
 uH t22 true (Ax.bin .eql t24 (uc 1)) fun t25 =>
 uL (Ax.pick t22 t25 (V.bool false)) fun t26 =>
 M.ite t26
 (M.pure (.ret [(uc 4)]))
 (uB .eql t0 (uc 206) fun t29 =>
 uG t29 true (M.pure t1) fun t31 =>
 uH t29 true (Ax.bin .eql t31 (uc 4)) fun t32 =>
 uL (Ax.pick t29 t32 (V.bool false)) fun t33 =>
 M.ite t33
 (M.pure (.ret [(uc 5)]))
 (uB .eql t0 (uc 206) fun t36 =>
 uG t36 true (M.pure t1) fun t38 =>
 uH t36 true (Ax.bin .eql t38 (uc 15)) fun t39 =>
 uL (Ax.pick t36 t39 (V.bool false)) fun t40 =>
 uG t40 true (M.pure t2) fun t42 =>
 uH t40 true (vlen t42) fun t43 =>
 uH t40 true (Ax.bin .geq t43 (uc 12)) fun t44 =>
 uL (Ax.pick t40 t44 (V.bool false)) fun t45 =>
 uG t45 true (M.pure t2) fun t47 =>
 uH t45 true (zaN .sl 1 t47 (some (uc 8)) (some (uc 12)) none) fun t48 =>
 uG t45 true (zfM t48) fun t49 =>
 uH t45 true (Ax.bin .eql t49 (V.str ⟨#[82,69,77,66]⟩)) fun t50 =>
 uL (Ax.pick t45 t50 (V.bool false)) fun t51 =>
 M.ite t51
 (M.pure (.ret [(uc 6)]))
 (M.pure (.nrm [])))))))) fun _ =>
 M.pure (.ret [(uc 7)])
theorem znB {t0 t1 t2:V}:OkT zff [t0,t1,t2] (zkX (sem T) t0 t1 t2):=okT (by kernel_rfl) (by kernel_rfl) (by kernel_rfl)
def zgv (G:Sem') (t0:V):M Res :=
 uL (eqr .sl false t0 V.nils) fun t4 =>
 M.ite t4
 (M.pure (.ret [V.nils]))
 ((zbQ zaw 0 [(ub 0)] []).bind fun t5 =>
 (zay zaw 1 1 t5 t0).bind fun t7 =>
 M.pure (.ret [t7]))
theorem zhx {t0:V}:OkT zbm [t0] (zgv (sem T) t0):=okT (by kernel_rfl) (by kernel_rfl) (by kernel_rfl)
def zfm (G:Sem') (t0:V):M Res :=
 (G zaC [t0,(uc 4)]).bind fun t4 =>
 uL (Ax.cint .u32 t4) fun t5 =>
 M.pure (.ret [t5])
theorem zhJ {t0:V}:OkT zap [t0] (zfm (sem T) t0):=okT (by kernel_rfl) (by kernel_rfl) (by kernel_rfl)
def zdi (G:Sem') (t27 t26 t4:V) (L:List V):M Res :=
 uB .lss (ug L 1) t27 fun t29 =>
 M.ite t29
 (M.blk 1 (
 uIM none 1 t26 (ug L 1) fun t31 =>
 uB .shl (ug L 0) (uq 8) fun t33 =>
 uL (Ax.cint .u64 t31) fun t35 =>
 uB .or t33 t35 fun t36 =>
 M.pure (.nrm [t36])) fun L0 =>
 uB .add (ug L 1) (uc 1) fun t37 =>
 M.pure (.nrm [(ug L0 0),t37]))
 (M.pure (.ex 0 [(ug L 0)]))
def zfW (G:Sem') (t0 t1:V):M Res :=
 uNFM 0 t0 fun t11 =>
 uL (vlen t11) fun t12 =>
 uB .lss t12 t1 fun t14 =>
 M.ite t14
 (uNF 1 t0 fun t18 =>
 (zco 1 t18 (V.bool true)).bind fun _ =>
 uNF 0 t0 fun t20 =>
 (zco 1 t20 V.nils).bind fun _ =>
 M.pure (.ret [(uq 0)]))
 (uNFM 0 t0 fun t24 =>
 uL (zaN .sl 1 t24 none (some t1) none) fun t26 =>
 uL (vlen t26) fun t27 =>
 M.blk 0 (
 M.iter (zdi G t27 t26 (uq 0)) [(uq 0),(uc 0)]) fun L1 =>
 uNFM 0 t0 fun t42 =>
 uL (zaN .sl 1 t42 (some t1) none none) fun t44 =>
 uNF 0 t0 fun t46 =>
 uT 1 t46 t44 fun _ =>
 M.pure (.ret [(ug L1 0)]))
theorem zh9 {t0 t1:V}:OkT zaC [t0,t1] (zfW (sem T) t0 t1):=okT (by kernel_rfl) (by kernel_rfl) (by kernel_rfl)
def zcG (G:Sem') (t7 t0 t4:V) (L:List V):M Res :=
 let p:=V.int .u32 0
 uB .lss (ug L 1) t7 fun t9 =>
 M.ite t9
 (M.blk 1 (
 (G zap [t0]).bind fun t11 =>
 (G zaC [t0,(uc 1)]).bind fun t13 =>
 uL (Ax.cint .u8 t13) fun t14 =>
 (G zaC [t0,(uc 3)]).bind fun t16 =>
 uL (Ax.cint .u32 t16) fun t17 =>
 uL (Ax.build [p,(ub 0),p,p,p,p,p] [(0,1,t11),(1,1,t14),(2,1,t17)]) fun t18 =>
 uO zdy (V.agg [p,(ub 0),p,p,p,p,p]) fun t6 =>
 uT 7 t6 t18 fun _ =>
 (G zap [t0]).bind fun t20 =>
 (G zap [t0]).bind fun t22 =>
 (G zap [t0]).bind fun t24 =>
 (G zap [t0]).bind fun t26 =>
 uF 3 t6 fun t27 =>
 uT 1 t27 t20 fun _ =>
 uF 4 t6 fun t28 =>
 uT 1 t28 t22 fun _ =>
 uF 5 t6 fun t29 =>
 uT 1 t29 t24 fun _ =>
 uF 6 t6 fun t30 =>
 uT 1 t30 t26 fun _ =>
 uS 7 t6 fun t32 =>
 (zbQ zdy 1 [p,(ub 0),p,p,p,p,p] [(0,7,t32)]).bind fun t33 =>
 (zay zdy 7 28 (ug L 0) t33).bind fun t34 =>
 M.pure (.nrm [t34])) fun L0 =>
 uB .add (ug L 1) (uc 1) fun t35 =>
 M.pure (.nrm [(ug L0 0),t35]))
 (M.pure (.ex 0 [(ug L 0)]))
def zeA (G:Sem') (t0 t1:V):M Res :=
 M.blk 0 (
 M.iter (zcG G t1 t0 V.nils) [V.nils,(uc 0)]) fun L1 =>
 M.pure (.ret [(ug L1 0)])
theorem zgU {t0 t1:V}:OkT zbp [t0,t1] (zeA (sem T) t0 t1):=okT (by kernel_rfl) (by kernel_rfl) (by kernel_rfl)
def zbX (G:Sem') (t1 t0:V) (L:List V):M Res :=
 M.ite (ug L 0)
 (M.blk 2 (
 uNF 8 t1 fun t29 =>
 uM t29 fun t30 =>
 M.getH.bind fun h0 =>
 (G zaC [t0,(uc 2)]).bind fun t32 =>
 M.getH.bind fun h0' =>
 uU t29 h0 h0' fun _ =>
 M.getH.bind fun h1 =>
 (G zaC [t0,(uc 2)]).bind fun t35 =>
 M.getH.bind fun h1' =>
 uU t29 h1 h1' fun _ =>
 uL (Ax.cint .u16 t32) fun t33 =>
 uL (Ax.cint .u16 t35) fun t36 =>
 uL (Ax.build [(V.int .u16 0),(V.int .u16 0)] [(0,1,t33),(1,1,t36)]) fun t37 =>
 (zbQ zea 1 [(V.int .u16 0),(V.int .u16 0)] [(0,2,t37)]).bind fun t38 =>
 (zay zea 2 4 t30 t38).bind fun t39 =>
 uNF 8 t1 fun t41 =>
 uT 1 t41 t39 fun _ =>
 M.pure (.nrm [])) fun _ =>
 uNFM 0 t0 fun t23 =>
 uL (vlen t23) fun t24 =>
 uB .gtr t24 (uc 0) fun t25 =>
 M.pure (.nrm [t25]))
 (M.pure (.ex 1 []))
def zbW (G:Sem') (t1 t0:V) (L:List V):M Res :=
 M.ite (ug L 0)
 (M.blk 4 (
 uNF 9 t1 fun t54 =>
 uM t54 fun t55 =>
 M.getH.bind fun h2 =>
 (G zap [t0]).bind fun t57 =>
 M.getH.bind fun h2' =>
 uU t54 h2 h2' fun _ =>
 M.getH.bind fun h3 =>
 (G zaC [t0,(uc 1)]).bind fun t59 =>
 M.getH.bind fun h3' =>
 uU t54 h3 h3' fun _ =>
 uL (Ax.cint .u8 t59) fun t60 =>
 uL (Ax.build [(V.int .u32 0),(ub 0)] [(0,1,t57),(1,1,t60)]) fun t61 =>
 (zbQ zdY 1 [(V.int .u32 0),(ub 0)] [(0,2,t61)]).bind fun t62 =>
 (zay zdY 2 8 t55 t62).bind fun t63 =>
 uNF 9 t1 fun t65 =>
 uT 1 t65 t63 fun _ =>
 (G zaC [t0,(uc 3)]).bind fun t67 =>
 uB .neq t67 (uq 0) fun t68 =>
 M.join (M.ite t68
 (uNF 1 t0 fun t71 =>
 (zco 1 t71 (V.bool true)).bind fun _ =>
 M.pure (.nrm []))
 (M.pure (.nrm []))) fun _ =>
 M.pure (.nrm [])) fun _ =>
 uNFM 0 t0 fun t48 =>
 uL (vlen t48) fun t49 =>
 uB .gtr t49 (uc 0) fun t50 =>
 M.pure (.nrm [t50]))
 (M.pure (.ex 3 []))
def zbV (G:Sem') (t93 t1 t0:V) (L:List V):M Res :=
 uB .lss (ug L 0) t93 fun t95 =>
 M.ite t95
 (M.blk 6 (
 uNF 12 t1 fun t99 =>
 uM t99 fun t100 =>
 M.getH.bind fun h4 =>
 (G zap [t0]).bind fun t102 =>
 M.getH.bind fun h4' =>
 uU t99 h4 h4' fun _ =>
 (zbQ zbu 1 [(V.int .u32 0)] [(0,1,t102)]).bind fun t103 =>
 (zay zbu 1 4 t100 t103).bind fun t104 =>
 uNF 12 t1 fun t106 =>
 uT 1 t106 t104 fun _ =>
 M.pure (.nrm [])) fun _ =>
 uB .add (ug L 0) (uc 1) fun t107 =>
 M.pure (.nrm [t107]))
 (M.pure (.ex 5 []))
def ze0 (G:Sem') (t0 t1:V):M Res :=
 (G zap [t0]).bind fun t10 =>
 uNF 2 t1 fun t12 =>
 uT 1 t12 t10 fun _ =>
 uNFM 0 t1 fun t16 =>
 M.blk 0 (
 uB .eql t16 (uc 3) fun t18 =>
 M.join (M.ite t18
 (M.blk 1 (
 M.iter (zbX G t1 t0) [(V.bool true)]) fun _ =>
 M.pure (.nrm []))
 (uB .eql t16 (uc 5) fun t43 =>
 M.join (M.ite t43
 (M.blk 3 (
 M.iter (zbW G t1 t0) [(V.bool true)]) fun _ =>
 M.pure (.nrm []))
 (uB .eql t16 (uc 6) fun t73 =>
 M.join (M.ite t73
 ((G zap [t0]).bind fun t75 =>
 (G zaC [t0,(uc 1)]).bind fun t77 =>
 uL (Ax.cint .i64 t77) fun t78 =>
 (G zaC [t0,(uc 3)]).bind fun t80 =>
 uB .shr t80 (uq 18) fun t84 =>
 uL (Ax.cint .i64 t84) fun t85 =>
 uB .and t80 (uq 262143) fun t87 =>
 uL (Ax.cint .u32 t87) fun t88 =>
 uNF 10 t1 fun t90 =>
 uT 1 t90 t85 fun _ =>
 uNF 11 t1 fun t92 =>
 uT 1 t92 t88 fun _ =>
 M.blk 5 (
 M.iter (zbV G t78 t1 t0) [(uc 0)]) fun _ =>
 M.pure (.nrm []))
 (M.pure (.nrm []))) fun _ =>
 M.pure (.nrm []))) fun _ =>
 M.pure (.nrm []))) fun _ =>
 M.pure (.nrm [])) fun _ =>
 M.pure (.ret [])
theorem zhn {t0 t1:V}:OkT zb9 [t0,t1] (ze0 (sem T) t0 t1):=okT (by kernel_rfl) (by kernel_rfl) (by kernel_rfl)
def zhW (G:Sem') (t38 t37 t0 t1 t2:V) (L:List V):M Res :=
 uB .lss (ug L 0) t38 fun t40 =>
 M.ite t40
 (M.blk 1 (
 uIM none 1 t37 (ug L 0) fun t42 =>
 uNF 0 t1 fun t47 =>
 uF 0 t47 fun t48 =>
 uF 8 t48 fun t49 =>
 uIM (some 8) 1 t49 t2 fun t51 =>
 (G zcj [t0,t51,(uc 1),t42]).bind fun t53 =>
 M.pure (.nrm [])) fun _ =>
 uB .add (ug L 0) (uc 1) fun t54 =>
 M.pure (.nrm [t54]))
 (M.pure (.ex 0 []))
def zf4 (G:Sem') (t0 t1 t2 t3:V):M Res :=
 uO zbg t3 fun t7 =>
 uFM 2 t7 fun t16 =>
 (G zbF [t1,t2,t16]).bind fun t17 =>
 uE 0 t17 fun t18 =>
 uE 1 t17 fun t19 =>
 uL (Ax.un .not t19) fun t21 =>
 M.ite t21
 (uNFM 1534 t0 fun t25 =>
 (G zaL [t25,(uc 4)]).bind fun t26 =>
 M.pure (.ret []))
 (uNF 303 t1 fun t31 =>
 uI (some 8) 8 t31 t2 fun t32 =>
 uIM (some 8) 1 t32 t18 fun t34 =>
 uFM 8 t7 fun t36 =>
 (G zfS [t34,t36]).bind fun t37 =>
 uL (vlen t37) fun t38 =>
 M.blk 0 (
 M.iter (zhW G t38 t37 t0 t1 t2) [(uc 0)]) fun _ =>
 M.pure (.ret []))
theorem zih {t0 t1 t2 t3:V}:OkT zcJ [t0,t1,t2,t3] (zf4 (sem T) t0 t1 t2 t3):=okT (by kernel_rfl) (by kernel_rfl) (by kernel_rfl)
def zdK (G:Sem') (t15 t2:V) (L:List V):M Res :=
 uB .lss (ug L 0) (uc 8) fun t17 =>
 M.ite t17
 (M.blk 1 (
 uL (Ax.index 8 1 none t15 (ug L 0)) fun t19 =>
 uL (eqr .ptr true t19 V.nilp) fun t21 =>
 uG t21 true (M.pure t19) fun t23 =>
 uG t21 true (G zfR [t23]) fun t24 =>
 uG t21 true (M.pure t2) fun t25 =>
 uH t21 true (Ax.bin .eql t24 t25) fun t26 =>
 uL (Ax.pick t21 t26 (V.bool false)) fun t27 =>
 M.ite t27
 (M.pure (.ret [(ug L 0),(V.bool true)]))
 (M.pure (.nrm []))) fun _ =>
 uB .add (ug L 0) (uc 1) fun t29 =>
 M.pure (.nrm [t29]))
 (M.pure (.ex 0 []))
def zgF (G:Sem') (t0 t1 t2:V):M Res :=
 uNF 303 t0 fun t13 =>
 uI (some 8) 8 t13 t1 fun t14 =>
 uS 8 t14 fun t15 =>
 M.blk 0 (
 M.iter (zdK G t15 t2) [(uc 0)]) fun _ =>
 M.pure (.ret [(uc 0),(V.bool false)])
theorem zi0 {t0 t1 t2:V}:OkT zbF [t0,t1,t2] (zgF (sem T) t0 t1 t2):=okT (by kernel_rfl) (by kernel_rfl) (by kernel_rfl)
def zgG (G:Sem') (t0 t1 t2 t3:V):M Res :=
 uNF 1470 t0 fun t11 =>
 uI (some 64) 1 t11 t1 fun t12 =>
 uM t12 fun t13 =>
 M.getH.bind fun h0 =>
 (G zbm [t3]).bind fun t17 =>
 M.getH.bind fun h0' =>
 uU t12 h0 h0' fun _ =>
 uL (Ax.build [(uc 0),(uc 0),V.nils] [(0,1,t1),(1,1,t2),(2,1,t17)]) fun t18 =>
 (G zbj [t13,t18]).bind fun t19 =>
 uL (Ax.un .not t19) fun t20 =>
 M.join (M.ite t20
 (uNFM 1534 t0 fun t24 =>
 (G zaL [t24,(uc 10)]).bind fun t25 =>
 M.pure (.nrm []))
 (M.pure (.nrm []))) fun _ =>
 M.pure (.ret [])
theorem zi1 {t0 t1 t2 t3:V}:OkT zcj [t0,t1,t2,t3] (zgG (sem T) t0 t1 t2 t3):=okT (by kernel_rfl) (by kernel_rfl) (by kernel_rfl)
def zdt (G:Sem') (t0 t1:V):M Res :=
 uO zb3 t1 fun t3 =>
 uNFM 1 t0 fun t8 =>
 uL (vlen t8) fun t9 =>
 uNFM 0 t0 fun t13 =>
 uB .geq t9 t13 fun t14 =>
 M.ite t14
 (M.pure (.ret [(V.bool false)]))
 (uNFM 1 t0 fun t19 =>
 uS 3 t3 fun t20 =>
 (zbQ zb3 1 [(uc 0),(uc 0),V.nils] [(0,3,t20)]).bind fun t21 =>
 (zay zb3 3 40 t19 t21).bind fun t22 =>
 uNF 1 t0 fun t24 =>
 uT 1 t24 t22 fun _ =>
 M.pure (.ret [(V.bool true)]))
theorem zfx {t0 t1:V}:OkT zbj [t0,t1] (zdt (sem T) t0 t1):=okT (by kernel_rfl) (by kernel_rfl) (by kernel_rfl)
def zgI (G:Sem') (t0 t1 t2 t3:V):M Res :=
 (G zbF [t1,t2,t3]).bind fun t14 =>
 uE 0 t14 fun t15 =>
 uE 1 t14 fun t16 =>
 uL (Ax.un .not t16) fun t18 =>
 M.ite t18
 (uNFM 1534 t0 fun t22 =>
 (G zaL [t22,(uc 4)]).bind fun t23 =>
 M.pure (.ret []))
 ((G zfl [t0,t1,t2,t15]).bind fun t28 =>
 M.pure (.ret []))
theorem zi3 {t0 t1 t2 t3:V}:OkT zck [t0,t1,t2,t3] (zgI (sem T) t0 t1 t2 t3):=okT (by kernel_rfl) (by kernel_rfl) (by kernel_rfl)
end Go.Ax
/- FnS3 -/
namespace Go.Ax
open Go.Proofs
def zkY (G:Sem') (t0:V):M Res :=
 uO zbg t0 fun t1 =>
 uFM 11 t1 fun t6 =>
 uL (Ax.cint .u64 t6) fun t7 =>
 uFM 10 t1 fun t9 =>
 uL (Ax.minmax true t9 [(uc 0)]) fun t10 =>
 uL (Ax.minmax false t10 [(uc 64)]) fun t11 =>
 M.blk 0 (
 uB .eql t7 (uq 0) fun t14 =>
 M.ite t14
 (M.pure (.ret [(uq 0)]))
 ((G zcI [t7]).bind fun t17 =>
 uB .add t17 t11 fun t19 =>
 uB .gtr t19 (uc 64) fun t20 =>
 M.ite t20
 (M.pure (.ret [(uq 18446744073709551615)]))
 (M.pure (.nrm [])))) fun _ =>
 uB .shl t7 t11 fun t23 =>
 M.pure (.ret [t23])
theorem znC {t0:V}:OkT zfg [t0] (zkY (sem T) t0):=okT (by kernel_rfl) (by kernel_rfl) (by kernel_rfl)
def zbP:ByteArray:=⟨#[0,1,2,2,3,3,3,3,4,4,4,4,4,4,4,4,5,5,5,5,5,5,5,5,5,5,5,5,5,5,5,5,6,6,6,6,6,6,6,6,6,6,6,6,6,6,6,6,6,6,6,6,6,6,6,6,6,6,6,6,6,6,6,6,7,7,7,7,7,7,7,7,7,7,7,7,7,7,7,7,7,7,7,7,7,7,7,7,7,7,7,7,7,7,7,7,7,7,7,7,7,7,7,7,7,7,7,7,7,7,7,7,7,7,7,7,7,7,7,7,7,7,7,7,7,7,7,7,8,8,8,8,8,8,8,8,8,8,8,8,8,8,8,8,8,8,8,8,8,8,8,8,8,8,8,8,8,8,8,8,8,8,8,8,8,8,8,8,8,8,8,8,8,8,8,8,8,8,8,8,8,8,8,8,8,8,8,8,8,8,8,8,8,8,8,8,8,8,8,8,8,8,8,8,8,8,8,8,8,8,8,8,8,8,8,8,8,8,8,8,8,8,8,8,8,8,8,8,8,8,8,8,8,8,8,8,8,8,8,8,8,8,8,8,8,8,8,8,8,8,8,8,8,8,8,8]⟩
def zf0 (G:Sem') (t0:V):M Res :=
 uB .geq t0 (uq 4294967296) fun t4 =>
 M.join (M.ite t4
 (uB .shr t0 (uq 32) fun t6 =>
 M.pure (.nrm [t6,(uc 32)]))
 (M.pure (.nrm [t0,(uc 0)]))) fun L0 =>
 uB .geq (ug L0 0) (uq 65536) fun t8 =>
 M.join (M.ite t8
 (uB .shr (ug L0 0) (uq 16) fun t10 =>
 uB .add (ug L0 1) (uc 16) fun t12 =>
 M.pure (.nrm [t10,t12]))
 (M.pure (.nrm [(ug L0 0),(ug L0 1)]))) fun L1 =>
 uB .geq (ug L1 0) (uq 256) fun t14 =>
 M.join (M.ite t14
 (uB .shr (ug L1 0) (uq 8) fun t16 =>
 uB .add (ug L1 1) (uc 8) fun t18 =>
 M.pure (.nrm [t16,t18]))
 (M.pure (.nrm [(ug L1 0),(ug L1 1)]))) fun L2 =>
 uL (Ax.cint .u8 (ug L2 0)) fun t21 =>
 uL (Ax.sindex (V.str zbP) t21) fun t22 =>
 uL (Ax.cint .i64 t22) fun t23 =>
 uB .add (ug L2 1) t23 fun t24 =>
 M.pure (.ret [t24])
theorem zid {t0:V}:OkT zcI [t0] (zf0 (sem T) t0):=okT (by kernel_rfl) (by kernel_rfl) (by kernel_rfl)
def ziH (G:Sem') (t34:V) (L:List V):M Res :=
 uB .lss (ug L 1) (uc 3) fun t36 =>
 M.ite t36
 (M.blk 1 (
 uL (Ax.index 3 11 (some 11) t34 (ug L 1)) fun t37 =>
 uO zfr (V.agg [(V.bool false),(V.int .u32 0),(uc 0),(uc 0),(uc 0),V.nils,(uc 0),V.nils,V.nils,(V.int .u32 0),V.nils]) fun t14 =>
 uT 11 t14 t37 fun _ =>
 uFM 0 t14 fun t39 =>
 uL (Ax.un .not t39) fun t40 =>
 M.join (M.ite t40
 (uF 2 t14 fun t41 =>
 (zco 1 t41 (uc (-1))).bind fun _ =>
 M.pure (.nrm []))
 (M.pure (.nrm []))) fun _ =>
 uFM 2 t14 fun t44 =>
 (zbQ zkf 1 [(uc 0)] [(0,1,t44)]).bind fun t45 =>
 (zay zkf 1 8 (ug L 0) t45).bind fun t46 =>
 M.pure (.nrm [t46])) fun L1 =>
 uB .add (ug L 1) (uc 1) fun t47 =>
 M.pure (.nrm [(ug L1 0),t47]))
 (M.pure (.ex 0 [(ug L 0)]))
def zgH (G:Sem') (t0 t1 t2 t3 t4:V):M Res :=
 (G zbF [t1,t2,t3]).bind fun t19 =>
 uE 0 t19 fun t20 =>
 uE 1 t19 fun t21 =>
 uL (Ax.un .not t21) fun t23 =>
 M.ite t23
 (uNFM 1534 t0 fun t27 =>
 (G zaL [t27,(uc 4)]).bind fun t28 =>
 M.pure (.ret []))
 (uNF 39 t1 fun t32 =>
 uI (some 8) 33 t32 t20 fun t33 =>
 uS 33 t33 fun t34 =>
 M.blk 0 (
 M.iter (ziH G t34) [V.nils,(uc 0)]) fun L2 =>
 uNF 303 t1 fun t52 =>
 uI (some 8) 8 t52 t2 fun t53 =>
 uI (some 8) 1 t53 t20 fun t54 =>
 uM t54 fun t55 =>
 M.getH.bind fun h0 =>
 (G zhA [t4,(ug L2 0)]).bind fun t58 =>
 M.getH.bind fun h0' =>
 uU t54 h0 h0' fun _ =>
 (G zgC [t55,t58]).bind fun t59 =>
 (G zfk [t0,t1,t2,t20]).bind fun t64 =>
 M.pure (.ret []))
theorem zi2 {t0 t1 t2 t3 t4:V}:OkT zc2 [t0,t1,t2,t3,t4] (zgH (sem T) t0 t1 t2 t3 t4):=okT (by kernel_rfl) (by kernel_rfl) (by kernel_rfl)
def zfp (G:Sem') (t0 t1 t2:V):M Res :=
 let p:=V.int .u32 0
 uO zcz (V.agg [(V.bool false),(uc 0),(V.int .u16 0),p,p,V.nils,(uc 0),V.nils,(uc 0),V.nils,(uc 0),(uc 0),(V.bool false),(V.bool false),(uc 0),(V.int .u16 0),(V.bool false),(uc 0),(uc 0),V.nils,(uc 0),V.nils,V.nils,(V.bool false),p,(V.bool false),(V.bool false),(V.bool false),V.nils,V.nils,V.nils]) fun t6 =>
 (G zfe [t2]).bind fun t24 =>
 uE 0 t24 fun t25 =>
 uE 1 t24 fun t26 =>
 uO zaD (V.agg [(V.bool false),(uc 0),(V.int .u16 0),p,p,V.nils,(uc 0),V.nils,(uc 0),V.nils]) fun t8 =>
 uT 10 t8 t25 fun _ =>
 uB .neq t26 (uc 0) fun t28 =>
 M.ite t28
 (uL (Ax.build [(V.bool false),(uc 0),(V.int .u16 0),p,p,V.nils,(uc 0),V.nils,(uc 0),V.nils,(uc 0),(uc 0),(V.bool false),(V.bool false),(uc 0),(V.int .u16 0),(V.bool false),(uc 0),(uc 0),V.nils,(uc 0),V.nils,V.nils,(V.bool false),p,(V.bool false),(V.bool false),(V.bool false),V.nils,V.nils,V.nils] []) fun t29 =>
 uT 31 t6 t29 fun _ =>
 uS 31 t6 fun r0 =>
 M.pure (.ret [r0,(uc 3)]))
 (uFM 4 t8 fun t34 =>
 (G zcv [t0,t1,t34]).bind fun t35 =>
 uE 0 t35 fun t36 =>
 uE 1 t35 fun t37 =>
 uL (Ax.un .not t37) fun t39 =>
 M.ite t39
 (uL (Ax.build [(V.bool false),(uc 0),(V.int .u16 0),p,p,V.nils,(uc 0),V.nils,(uc 0),V.nils,(uc 0),(uc 0),(V.bool false),(V.bool false),(uc 0),(V.int .u16 0),(V.bool false),(uc 0),(uc 0),V.nils,(uc 0),V.nils,V.nils,(V.bool false),p,(V.bool false),(V.bool false),(V.bool false),V.nils,V.nils,V.nils] []) fun t40 =>
 uT 31 t6 t40 fun _ =>
 uS 31 t6 fun r0 =>
 M.pure (.ret [r0,(uc 4)]))
 (uFM 9 t8 fun t43 =>
 (G zg4 [t43]).bind fun t44 =>
 uE 0 t44 fun t45 =>
 uE 1 t44 fun t46 =>
 uE 2 t44 fun t47 =>
 uE 3 t44 fun t48 =>
 (G zjx [t45]).bind fun t51 =>
 uE 0 t51 fun t52 =>
 uE 1 t51 fun t53 =>
 uE 2 t51 fun t54 =>
 uE 3 t51 fun t55 =>
 uB .neq t48 (uc 0) fun t57 =>
 uG t57 false (M.pure t55) fun t59 =>
 uH t57 false (Ax.un .not t59) fun t60 =>
 uL (Ax.pick t57 (V.bool true) t60) fun t61 =>
 M.ite t61
 (uL (Ax.build [(V.bool false),(uc 0),(V.int .u16 0),p,p,V.nils,(uc 0),V.nils,(uc 0),V.nils,(uc 0),(uc 0),(V.bool false),(V.bool false),(uc 0),(V.int .u16 0),(V.bool false),(uc 0),(uc 0),V.nils,(uc 0),V.nils,V.nils,(V.bool false),p,(V.bool false),(V.bool false),(V.bool false),V.nils,V.nils,V.nils] []) fun t62 =>
 uT 31 t6 t62 fun _ =>
 uS 31 t6 fun r0 =>
 M.pure (.ret [r0,(uc 5)]))
 (uNF 0 t0 fun t65 =>
 uF 16 t65 fun t66 =>
 uFM 0 t66 fun t68 =>
 uB .neq t54 t1 fun t71 =>
 uG t71 false (M.pure t52) fun t73 =>
 uG t71 false (M.pure t68) fun t74 =>
 uH t71 false (Ax.bin .neq t73 t74) fun t75 =>
 uG t71 false (M.pure t75) fun t76 =>
 uG t76 true (M.pure t52) fun t77 =>
 uG t76 true (M.pure t68) fun t78 =>
 uH t76 true (Ax.bin .sub t78 (uc 1)) fun t79 =>
 uH t76 true (Ax.bin .neq t77 t79) fun t80 =>
 uH t71 false (Ax.pick t76 t80 (V.bool false)) fun t81 =>
 uL (Ax.pick t71 (V.bool true) t81) fun t82 =>
 M.ite t82
 (uL (Ax.build [(V.bool false),(uc 0),(V.int .u16 0),p,p,V.nils,(uc 0),V.nils,(uc 0),V.nils,(uc 0),(uc 0),(V.bool false),(V.bool false),(uc 0),(V.int .u16 0),(V.bool false),(uc 0),(uc 0),V.nils,(uc 0),V.nils,V.nils,(V.bool false),p,(V.bool false),(V.bool false),(V.bool false),V.nils,V.nils,V.nils] []) fun t83 =>
 uT 31 t6 t83 fun _ =>
 uS 31 t6 fun r0 =>
 M.pure (.ret [r0,(uc 6)]))
 (uS 10 t8 fun t85 =>
 (G zkO [t85,(uc 1)]).bind fun t86 =>
 uE 0 t86 fun t87 =>
 uE 1 t86 fun t88 =>
 uL (Ax.un .not t88) fun t90 =>
 M.ite t90
 (uL (Ax.build [(V.bool false),(uc 0),(V.int .u16 0),p,p,V.nils,(uc 0),V.nils,(uc 0),V.nils,(uc 0),(uc 0),(V.bool false),(V.bool false),(uc 0),(V.int .u16 0),(V.bool false),(uc 0),(uc 0),V.nils,(uc 0),V.nils,V.nils,(V.bool false),p,(V.bool false),(V.bool false),(V.bool false),V.nils,V.nils,V.nils] []) fun t91 =>
 uT 31 t6 t91 fun _ =>
 uS 31 t6 fun r0 =>
 M.pure (.ret [r0,(uc 7)]))
 (uNF 39 t0 fun t96 =>
 uI (some 8) 33 t96 t1 fun t97 =>
 uI (some 3) 11 t97 t36 fun t98 =>
 uS 11 t98 fun t99 =>
 uO zfr (V.agg [(V.bool false),p,(uc 0),(uc 0),(uc 0),V.nils,(uc 0),V.nils,V.nils,p,V.nils]) fun t20 =>
 uT 11 t20 t99 fun _ =>
 uF 3 t20 fun t102 =>
 uS 6 t102 fun t103 =>
 (G zg8 [t87,t103]).bind fun t104 =>
 uE 0 t104 fun t105 =>
 uE 1 t104 fun t106 =>
 uO zkg (V.agg [(V.bool false),(V.bool false),(uc 0),(V.int .u16 0),(V.bool false),(uc 0),(uc 0),V.nils,(uc 0),V.nils,V.nils,(V.bool false),p,(V.bool false),(V.bool false),(V.bool false),V.nils,V.nils,V.nils]) fun t21 =>
 uT 19 t21 t105 fun _ =>
 uB .neq t106 (uc 0) fun t108 =>
 M.ite t108
 (uL (Ax.build [(V.bool false),(uc 0),(V.int .u16 0),p,p,V.nils,(uc 0),V.nils,(uc 0),V.nils,(uc 0),(uc 0),(V.bool false),(V.bool false),(uc 0),(V.int .u16 0),(V.bool false),(uc 0),(uc 0),V.nils,(uc 0),V.nils,V.nils,(V.bool false),p,(V.bool false),(V.bool false),(V.bool false),V.nils,V.nils,V.nils] []) fun t109 =>
 uT 31 t6 t109 fun _ =>
 uS 31 t6 fun r0 =>
 M.pure (.ret [r0,(uc 8)]))
 (uFM 10 t20 fun t111 =>
 uFM 2 t8 fun t113 =>
 (G zkR [t111,t113]).bind fun t114 =>
 M.ite t114
 (uL (Ax.build [(V.bool false),(uc 0),(V.int .u16 0),p,p,V.nils,(uc 0),V.nils,(uc 0),V.nils,(uc 0),(uc 0),(V.bool false),(V.bool false),(uc 0),(V.int .u16 0),(V.bool false),(uc 0),(uc 0),V.nils,(uc 0),V.nils,V.nils,(V.bool false),p,(V.bool false),(V.bool false),(V.bool false),V.nils,V.nils,V.nils] []) fun t115 =>
 uT 31 t6 t115 fun _ =>
 uS 31 t6 fun r0 =>
 M.pure (.ret [r0,(uc 9)]))
 (uS 10 t8 fun t116 =>
 uS 19 t21 fun t119 =>
 uL (Ax.build [(V.bool false),(uc 0),(V.int .u16 0),p,p,V.nils,(uc 0),V.nils,(uc 0),V.nils,(uc 0),(uc 0),(V.bool false),(V.bool false),(uc 0),(V.int .u16 0),(V.bool false),(uc 0),(uc 0),V.nils,(uc 0),V.nils,V.nils,(V.bool false),p,(V.bool false),(V.bool false),(V.bool false),V.nils,V.nils,V.nils] [(0,10,t116),(10,1,t36),(11,1,t52),(12,19,t119)]) fun t120 =>
 uT 31 t6 t120 fun _ =>
 uS 31 t6 fun r0 =>
 M.pure (.ret [r0,(uc 0)]))))))))
theorem zhM {t0 t1 t2:V}:OkT zcw [t0,t1,t2] (zfp (sem T) t0 t1 t2):=okT (by kernel_rfl) (by kernel_rfl) (by kernel_rfl)
def zeM (G:Sem') (t5 t0 t4 t2:V) (L:List V):M Res :=
 uB .lss (ug L 0) t5 fun t62 =>
 M.ite t62
 (M.blk 2 (
 uF 5 t4 fun t65 =>
 uM t65 fun t66 =>
 uB .add (ug L 0) (uc 4) fun t70 =>
 uL (zaN .sl 1 t0 (some (ug L 0)) (some t70) none) fun t71 =>
 M.getH.bind fun h3 =>
 (G zcZ [t71]).bind fun t72 =>
 M.getH.bind fun h3' =>
 uU t65 h3 h3' fun _ =>
 (zbQ zbu 1 [(V.int .u32 0)] [(0,1,t72)]).bind fun t73 =>
 (zay zbu 1 4 t66 t73).bind fun t74 =>
 uF 5 t4 fun t75 =>
 uT 1 t75 t74 fun _ =>
 M.pure (.nrm [])) fun _ =>
 uB .add (ug L 0) (uc 4) fun t64 =>
 M.pure (.nrm [t64]))
 (M.pure (.ex 1 []))
def zkW (G:Sem') (t0:V):M Res :=
 let p:=V.int .u32 0
 uO zaD (V.agg [(V.bool false),(uc 0),(V.int .u16 0),p,p,V.nils,(uc 0),V.nils,(uc 0),V.nils]) fun t2 =>
 M.blk 0 (
 uL (vlen t0) fun t12 =>
 uB .gtr t12 (uc 1200) fun t13 =>
 M.ite t13
 (uL (Ax.build [(V.bool false),(uc 0),(V.int .u16 0),p,p,V.nils,(uc 0),V.nils,(uc 0),V.nils] []) fun t14 =>
 uT 10 t2 t14 fun _ =>
 uS 10 t2 fun r0 =>
 M.pure (.ret [r0,(uc 4)]))
 (uL (vlen t0) fun t17 =>
 uB .lss t17 (uc 12) fun t18 =>
 M.ite t18
 (uL (Ax.build [(V.bool false),(uc 0),(V.int .u16 0),p,p,V.nils,(uc 0),V.nils,(uc 0),V.nils] []) fun t19 =>
 uT 10 t2 t19 fun _ =>
 uS 10 t2 fun r0 =>
 M.pure (.ret [r0,(uc 3)]))
 (uIM none 1 t0 (uc 0) fun t23 =>
 uB .shr t23 (uq 6) fun t24 =>
 uB .neq t24 (ub 2) fun t25 =>
 M.ite t25
 (uL (Ax.build [(V.bool false),(uc 0),(V.int .u16 0),p,p,V.nils,(uc 0),V.nils,(uc 0),V.nils] []) fun t26 =>
 uT 10 t2 t26 fun _ =>
 uS 10 t2 fun r0 =>
 M.pure (.ret [r0,(uc 2)]))
 (M.pure (.nrm []))))) fun _ =>
 uI none 1 t0 (uc 1) fun t28 =>
 uM t28 fun t29 =>
 uB .and t29 (ub 128) fun t30 =>
 uB .neq t30 (ub 0) fun t31 =>
 uI none 1 t0 (uc 1) fun t33 =>
 uM t33 fun t34 =>
 uB .andNot t34 (ub 128) fun t35 =>
 uL (Ax.cint .i64 t35) fun t36 =>
 uL (zaN .sl 1 t0 (some (uc 2)) (some (uc 4)) none) fun t38 =>
 uL (zaN .sl 1 t0 (some (uc 4)) (some (uc 8)) none) fun t42 =>
 uL (zaN .sl 1 t0 (some (uc 8)) (some (uc 12)) none) fun t45 =>
 M.getH.bind fun h0 =>
 (G zcZ [t38]).bind fun t39 =>
 M.getH.bind fun h0' =>
 uU t33 h0 h0' fun _ =>
 uU t28 h0 h0' fun _ =>
 M.getH.bind fun h1 =>
 (G zcZ [t42]).bind fun t43 =>
 M.getH.bind fun h1' =>
 uU t33 h1 h1' fun _ =>
 uU t28 h1 h1' fun _ =>
 M.getH.bind fun h2 =>
 (G zcZ [t45]).bind fun t46 =>
 M.getH.bind fun h2' =>
 uU t33 h2 h2' fun _ =>
 uU t28 h2 h2' fun _ =>
 uL (Ax.cint .u16 t39) fun t40 =>
 uL (Ax.build [(V.bool false),(uc 0),(V.int .u16 0),p,p,V.nils,(uc 0),V.nils,(uc 0),V.nils] [(0,1,t31),(1,1,t36),(2,1,t40),(3,1,t43),(4,1,t46)]) fun t47 =>
 uO zaD (V.agg [(V.bool false),(uc 0),(V.int .u16 0),p,p,V.nils,(uc 0),V.nils,(uc 0),V.nils]) fun t4 =>
 uT 10 t4 t47 fun _ =>
 uIM none 1 t0 (uc 0) fun t50 =>
 uB .and t50 (ub 15) fun t51 =>
 uL (Ax.cint .i64 t51) fun t52 =>
 uB .mul (uc 4) t52 fun t53 =>
 uB .add (uc 12) t53 fun t54 =>
 uL (vlen t0) fun t56 =>
 uB .lss t56 t54 fun t58 =>
 M.ite t58
 (uL (Ax.build [(V.bool false),(uc 0),(V.int .u16 0),p,p,V.nils,(uc 0),V.nils,(uc 0),V.nils] []) fun t59 =>
 uT 10 t2 t59 fun _ =>
 uS 10 t2 fun r0 =>
 M.pure (.ret [r0,(uc 3)]))
 (M.blk 1 (
 M.iter (zeM G t54 t0 t4 t2) [(uc 12)]) fun _ =>
 uIM none 1 t0 (uc 0) fun t78 =>
 uB .and t78 (ub 16) fun t79 =>
 uB .neq t79 (ub 0) fun t80 =>
 M.join (M.ite t80
 (uL (zaN .sl 1 t0 (some t54) none none) fun t84 =>
 (G zdc [t4,t84]).bind fun t85 =>
 uE 0 t85 fun t86 =>
 uE 1 t85 fun t87 =>
 uB .neq t87 (uc 0) fun t89 =>
 M.ite t89
 (uL (Ax.build [(V.bool false),(uc 0),(V.int .u16 0),p,p,V.nils,(uc 0),V.nils,(uc 0),V.nils] []) fun t90 =>
 uT 10 t2 t90 fun _ =>
 uS 10 t2 fun r0 =>
 M.pure (.ret [r0,t87]))
 (uB .add t54 t86 fun t94 =>
 M.pure (.nrm [t94])))
 (M.pure (.nrm [t54]))) fun L3 =>
 uL (zaN .sl 1 t0 (some (ug L3 0)) none none) fun t97 =>
 uIM none 1 t0 (uc 0) fun t100 =>
 uB .and t100 (ub 32) fun t101 =>
 uB .neq t101 (ub 0) fun t102 =>
 M.join (M.ite t102
 (uL (vlen t0) fun t105 =>
 uB .sub t105 (uc 1) fun t106 =>
 uIM none 1 t0 t106 fun t108 =>
 uL (Ax.cint .i64 t108) fun t109 =>
 uF 8 t4 fun t110 =>
 uT 1 t110 t109 fun _ =>
 uFM 8 t4 fun t112 =>
 uB .eql t112 (uc 0) fun t113 =>
 uH t113 false (Ax.faddr 8 t4) fun t115 =>
 uG t113 false (zar none t115) fun t116 =>
 uG t113 false (M.pure t97) fun t117 =>
 uH t113 false (vlen t117) fun t118 =>
 uH t113 false (Ax.bin .gtr t116 t118) fun t119 =>
 uL (Ax.pick t113 (V.bool true) t119) fun t120 =>
 M.ite t120
 (uL (Ax.build [(V.bool false),(uc 0),(V.int .u16 0),p,p,V.nils,(uc 0),V.nils,(uc 0),V.nils] []) fun t121 =>
 uT 10 t2 t121 fun _ =>
 uS 10 t2 fun r0 =>
 M.pure (.ret [r0,(uc 2)]))
 (M.pure (.nrm [])))
 (M.pure (.nrm []))) fun _ =>
 uL (vlen t97) fun t124 =>
 uFM 8 t4 fun t126 =>
 uB .sub t124 t126 fun t127 =>
 uL (zaN .sl 1 t97 none (some t127) none) fun t128 =>
 (G zbm [t128]).bind fun t129 =>
 uF 9 t4 fun t130 =>
 uT 1 t130 t129 fun _ =>
 uS 10 t4 fun t131 =>
 uT 10 t2 t131 fun _ =>
 uS 10 t2 fun r0 =>
 M.pure (.ret [r0,(uc 0)]))
theorem znA {t0:V}:OkT zfe [t0] (zkW (sem T) t0):=okT (by kernel_rfl) (by kernel_rfl) (by kernel_rfl)
end Go.Ax
/- FnS4 -/
namespace Go.Ax
open Go.Proofs
def zhV (G:Sem') (t7 t6 t2:V) (L:List V):M Res :=
 uB .lss (ug L 1) t7 fun t9 =>
 M.ite t9
 (M.blk 1 (
 uIM none 1 t6 (ug L 1) fun t11 =>
 uB .shl (ug L 0) (uq 8) fun t13 =>
 uL (Ax.cint .u32 t11) fun t15 =>
 uB .or t13 t15 fun t16 =>
 M.pure (.nrm [t16])) fun L0 =>
 uB .add (ug L 1) (uc 1) fun t17 =>
 M.pure (.nrm [(ug L0 0),t17]))
 (M.pure (.ex 0 [(ug L 0)]))
def zn9 (G:Sem') (t0:V):M Res :=
 uL (vlen t0) fun t7 =>
 M.blk 0 (
 M.iter (zhV G t7 t0 (V.int .u32 0)) [(V.int .u32 0),(uc 0)]) fun L1 =>
 M.pure (.ret [(ug L1 0)])
theorem zqk {t0:V}:OkT zcZ [t0] (zn9 (sem T) t0):=okT (by kernel_rfl) (by kernel_rfl) (by kernel_rfl)
def zha (G:Sem') (t0 t1:V):M Res :=
 uL (vlen t1) fun t10 =>
 uB .lss t10 (uc 4) fun t11 =>
 M.ite t11
 (M.pure (.ret [(uc 0),(uc 3)]))
 (uL (zaN .sl 1 t1 (some (uc 2)) (some (uc 4)) none) fun t13 =>
 (G zcZ [t13]).bind fun t14 =>
 uL (Ax.cint .i64 t14) fun t15 =>
 uB .mul (uc 4) t15 fun t16 =>
 uB .add (uc 4) t16 fun t17 =>
 uL (vlen t1) fun t19 =>
 uB .lss t19 t17 fun t21 =>
 M.ite t21
 (M.pure (.ret [(uc 0),(uc 3)]))
 (uL (zaN .sl 1 t1 none (some (uc 2)) none) fun t24 =>
 (G zcZ [t24]).bind fun t25 =>
 uL (Ax.cint .i64 t25) fun t26 =>
 uNF 6 t0 fun t28 =>
 uT 1 t28 t26 fun _ =>
 uNFM 6 t0 fun t32 =>
 uB .neq t32 (uc 48862) fun t33 =>
 uG t33 true (M.pure t0) fun t35 =>
 uH t33 true (Ax.nilck t35) fun t36 =>
 uH t33 true (Ax.faddr 6 t36) fun t37 =>
 uG t33 true (zar none t37) fun t38 =>
 uH t33 true (Ax.bin .neq t38 (uc 4096)) fun t39 =>
 uL (Ax.pick t33 t39 (V.bool false)) fun t40 =>
 M.ite t40
 (M.pure (.ret [(uc 0),(uc 2)]))
 (uNFM 6 t0 fun t45 =>
 uL (zaN .sl 1 t1 (some (uc 4)) (some t17) none) fun t48 =>
 (G zeV [t45,t48]).bind fun t49 =>
 uE 0 t49 fun t50 =>
 uE 1 t49 fun t51 =>
 uL (Ax.un .not t51) fun t53 =>
 M.ite t53
 (M.pure (.ret [(uc 0),(uc 2)]))
 (uNF 7 t0 fun t57 =>
 uT 1 t57 t50 fun _ =>
 M.pure (.ret [t17,(uc 0)])))))
theorem zjP {t0 t1:V}:OkT zdc [t0,t1] (zha (sem T) t0 t1):=okT (by kernel_rfl) (by kernel_rfl) (by kernel_rfl)
def zjE (G:Sem') (t0:V) (L:List V):M Res :=
 uL (vlen (ug L 0)) fun t11 =>
 uB .gtr t11 (uc 0) fun t12 =>
 M.ite t12
 (M.blk 1 (
 uL (Ax.iaddr none 1 (ug L 0) (uc 0)) fun t14 =>
 uM t14 fun t15 =>
 uB .eql t15 (ub 0) fun t16 =>
 M.ite t16
 (uL (zaN .sl 1 (ug L 0) (some (uc 1)) none none) fun t18 =>
 M.pure (.ex 1 [t18,(ug L 1)]))
 (uB .eql t0 (uc 48862) fun t20 =>
 uG t20 true (M.pure (ug L 0)) fun t22 =>
 uH t20 true (Ax.iaddr none 1 t22 (uc 0)) fun t23 =>
 uG t20 true (zar none t23) fun t24 =>
 uH t20 true (Ax.bin .shr t24 (uq 4)) fun t25 =>
 uH t20 true (Ax.bin .eql t25 (ub 15)) fun t26 =>
 uL (Ax.pick t20 t26 (V.bool false)) fun t27 =>
 M.ite t27
 (M.pure (.ex 0 [(ug L 1)]))
 ((G zd6 [t0,(ug L 0)]).bind fun t31 =>
 uE 0 t31 fun t32 =>
 uE 1 t31 fun t33 =>
 uE 2 t31 fun t34 =>
 uO zbE (V.agg [(uc 0),V.nils]) fun t7 =>
 uT 2 t7 t32 fun _ =>
 uL (Ax.un .not t34) fun t36 =>
 M.ite t36
 (M.pure (.ret [V.nils,(V.bool false)]))
 (uS 2 t7 fun t38 =>
 (zbQ zbE 1 [(uc 0),V.nils] [(0,2,t38)]).bind fun t39 =>
 (zay zbE 2 32 (ug L 1) t39).bind fun t40 =>
 uL (zaN .sl 1 (ug L 0) (some t33) none none) fun t43 =>
 M.pure (.nrm [t43,t40]))))) fun L0 =>
 M.pure (.nrm [(ug L0 0),(ug L0 1)]))
 (M.pure (.ex 0 [(ug L 1)]))
def zl2 (G:Sem') (t0 t1:V):M Res :=
 M.blk 0 (
 M.iter (zjE G t0) [t1,V.nils]) fun L1 =>
 M.pure (.ret [(ug L1 0),(V.bool true)])
theorem zoF {t0 t1:V}:OkT zeV [t0,t1] (zl2 (sem T) t0 t1):=okT (by kernel_rfl) (by kernel_rfl) (by kernel_rfl)
def ziD (G:Sem') (t0 t1:V):M Res :=
 uO zbE (V.agg [(uc 0),V.nils]) fun t4 =>
 uIM none 1 t1 (uc 0) fun t12 =>
 uL (Ax.cint .i64 t12) fun t13 =>
 uL (Ax.build [(uc 0),V.nils] [(0,1,t13)]) fun t14 =>
 uO zbE (V.agg [(uc 0),V.nils]) fun t7 =>
 uT 2 t7 t14 fun _ =>
 uB .eql t0 (uc 48862) fun t16 =>
 M.join (M.ite t16
 (uIM none 1 t1 (uc 0) fun t19 =>
 uB .shr t19 (uq 4) fun t20 =>
 uL (Ax.cint .i64 t20) fun t21 =>
 uF 0 t7 fun t22 =>
 uT 1 t22 t21 fun _ =>
 uIM none 1 t1 (uc 0) fun t25 =>
 uB .and t25 (ub 15) fun t26 =>
 uL (Ax.cint .i64 t26) fun t27 =>
 uB .add t27 (uc 1) fun t28 =>
 M.pure (.nrm [(uc 1),t28]))
 (uL (vlen t1) fun t30 =>
 uB .gtr t30 (uc 1) fun t31 =>
 M.join (M.ite t31
 (uIM none 1 t1 (uc 1) fun t34 =>
 uL (Ax.cint .i64 t34) fun t35 =>
 M.pure (.nrm [t35]))
 (M.pure (.nrm [(uc 0)]))) fun L0 =>
 M.pure (.nrm [(uc 2),(ug L0 0)]))) fun L1 =>
 uFM 0 t7 fun t37 =>
 uB .eql t37 (uc 0) fun t38 =>
 uG t38 false (M.pure t1) fun t40 =>
 uH t38 false (vlen t40) fun t41 =>
 uG t38 false (M.pure (ug L1 0)) fun t42 =>
 uG t38 false (M.pure (ug L1 1)) fun t43 =>
 uH t38 false (Ax.bin .add t42 t43) fun t44 =>
 uH t38 false (Ax.bin .lss t41 t44) fun t45 =>
 uL (Ax.pick t38 (V.bool true) t45) fun t46 =>
 M.ite t46
 (uL (Ax.build [(uc 0),V.nils] []) fun t47 =>
 uT 2 t4 t47 fun _ =>
 uS 2 t4 fun r0 =>
 M.pure (.ret [r0,(uc 0),(V.bool false)]))
 (uB .add (ug L1 0) (ug L1 1) fun t52 =>
 uL (zaN .sl 1 t1 (some (ug L1 0)) (some t52) none) fun t53 =>
 (G zbm [t53]).bind fun t54 =>
 uF 1 t7 fun t55 =>
 uT 1 t55 t54 fun _ =>
 uS 2 t7 fun t56 =>
 uB .add (ug L1 0) (ug L1 1) fun t59 =>
 uT 2 t4 t56 fun _ =>
 uS 2 t4 fun r0 =>
 M.pure (.ret [r0,t59,(V.bool true)]))
theorem zll {t0 t1:V}:OkT zd6 [t0,t1] (ziD (sem T) t0 t1):=okT (by kernel_rfl) (by kernel_rfl) (by kernel_rfl)
def zc9 (G:Sem') (t15 t2:V) (L:List V):M Res :=
 uB .lss (ug L 0) (uc 3) fun t17 =>
 M.ite t17
 (M.blk 1 (
 uL (Ax.index 3 11 (some 11) t15 (ug L 0)) fun t19 =>
 uO zfr (V.agg [(V.bool false),(V.int .u32 0),(uc 0),(uc 0),(uc 0),V.nils,(uc 0),V.nils,V.nils,(V.int .u32 0),V.nils]) fun t9 =>
 uT 11 t9 t19 fun _ =>
 uFM 0 t9 fun t21 =>
 uH t21 true (Ax.faddr 1 t9) fun t23 =>
 uG t21 true (zar none t23) fun t24 =>
 uG t21 true (M.pure t2) fun t25 =>
 uH t21 true (Ax.bin .eql t24 t25) fun t26 =>
 uL (Ax.pick t21 t26 (V.bool false)) fun t27 =>
 M.ite t27
 (M.pure (.ret [(ug L 0),(V.bool true)]))
 (M.pure (.nrm []))) fun _ =>
 uB .add (ug L 0) (uc 1) fun t29 =>
 M.pure (.nrm [t29]))
 (M.pure (.ex 0 []))
def zfo (G:Sem') (t0 t1 t2:V):M Res :=
 uNF 39 t0 fun t13 =>
 uI (some 8) 33 t13 t1 fun t14 =>
 uS 33 t14 fun t15 =>
 M.blk 0 (
 M.iter (zc9 G t15 t2) [(uc 0)]) fun _ =>
 M.pure (.ret [(uc 0),(V.bool false)])
theorem zhL {t0 t1 t2:V}:OkT zcv [t0,t1,t2] (zfo (sem T) t0 t1 t2):=okT (by kernel_rfl) (by kernel_rfl) (by kernel_rfl)
end Go.Ax
/- FnS5 -/
namespace Go.Ax
open Go.Proofs
end Go.Ax
/- FnS6 -/
namespace Go.Ax
open Go.Proofs
def zex (G:Sem') (t0 t1 t2:V):M Res :=
 (G zeL [t2]).bind fun t13 =>
 uE 0 t13 fun t14 =>
 uE 1 t13 fun t15 =>
 uO zae (V.agg [(uc 0),(uc 0),(uc 0),(uc 0),(uc 0),(uc 0),V.nils]) fun t6 =>
 uT 7 t6 t14 fun _ =>
 uB .eql t15 (uc 0) fun t17 =>
 uH t17 true (Ax.faddr 0 t6) fun t19 =>
 uG t17 true (zar none t19) fun t20 =>
 uH t17 true (Ax.bin .gtr t20 (uc 9)) fun t21 =>
 uL (Ax.pick t17 t21 (V.bool false)) fun t22 =>
 M.join (M.ite t22
 (M.pure (.nrm [(uc 1)]))
 (M.pure (.nrm [t15]))) fun L0 =>
 uB .neq (ug L0 0) (uc 0) fun t24 =>
 M.ite t24
 ((G zcT [t0,t1,(ug L0 0),(uc 0)]).bind fun t28 =>
 M.pure (.ret []))
 ((G zbS [t0,t1]).bind fun t32 =>
 uE 0 t32 fun t33 =>
 uE 1 t32 fun t34 =>
 uE 2 t32 fun t35 =>
 M.join (M.ite t35
 ((G zbU [t0,t33,t1]).bind fun t40 =>
 M.pure (.nrm []))
 (M.pure (.nrm []))) fun _ =>
 M.blk 0 (
 uFM 0 t6 fun t48 =>
 uB .eql t48 (uc 1) fun t49 =>
 uG t49 true (M.pure t35) fun t51 =>
 uL (Ax.pick t49 t51 (V.bool false)) fun t52 =>
 M.join (M.ite t52
 (M.pure (.nrm [(uc 7)]))
 (uFM 0 t6 fun t55 =>
 uB .eql t55 (uc 1) fun t56 =>
 M.join (M.ite t56
 (uS 7 t6 fun t59 =>
 (G zc3 [t0,t1,t59]).bind fun t60 =>
 M.pure (.nrm [t60]))
 (uL (Ax.un .not t35) fun t63 =>
 M.join (M.ite t63
 (M.pure (.nrm [(uc 6)]))
 (uS 7 t6 fun t44 =>
 (G zfU [t0,t33,t34,t44]).bind fun t45 =>
 M.pure (.nrm [t45]))) fun L2 =>
 M.pure (.nrm [(ug L2 0)]))) fun L3 =>
 M.pure (.nrm [(ug L3 0)]))) fun L4 =>
 M.pure (.nrm [(ug L4 0)])) fun L5 =>
 uB .neq (ug L5 0) (uc 0) fun t65 =>
 M.join (M.ite t65
 (uFM 0 t6 fun t70 =>
 (G zcT [t0,t1,(ug L5 0),t70]).bind fun t71 =>
 M.pure (.nrm []))
 (M.pure (.nrm []))) fun _ =>
 M.pure (.ret []))
theorem zfL {t0 t1 t2:V}:OkT zbf [t0,t1,t2] (zex (sem T) t0 t1 t2):=okT (by kernel_rfl) (by kernel_rfl) (by kernel_rfl)
def zjK (G:Sem') (t0:V):M Res :=
 uO zdX t0 fun t1 =>
 uO zae (V.agg [(uc 0),(uc 0),(uc 0),(uc 0),(uc 0),(uc 0),V.nils]) fun t2 =>
 uM t1 fun t8 =>
 uL (vlen t8) fun t9 =>
 uB .lss t9 (uc 11) fun t10 =>
 M.ite t10
 (uL (Ax.build [(uc 0),(uc 0),(uc 0),(uc 0),(uc 0),(uc 0),V.nils] []) fun t11 =>
 uT 7 t2 t11 fun _ =>
 uS 7 t2 fun r0 =>
 M.pure (.ret [r0,(uc 3)]))
 ((M.pure (.fn zbq [t1])).bind fun t12 =>
 uM t1 fun t13 =>
 uI none 1 t13 (uc 0) fun t14 =>
 uM t14 fun t15 =>
 uL (Ax.cint .i64 t15) fun t16 =>
 uM t1 fun t17 =>
 uI none 1 t17 (uc 1) fun t18 =>
 uM t18 fun t19 =>
 uL (Ax.cint .i64 t19) fun t20 =>
 uM t1 fun t21 =>
 uI none 1 t21 (uc 2) fun t22 =>
 uM t22 fun t23 =>
 uL (Ax.cint .i64 t23) fun t24 =>
 M.getH.bind fun h0 =>
 (callv G t12 [(uc 3)]).bind fun t26 =>
 M.getH.bind fun h0' =>
 uU t22 h0 h0' fun _ =>
 uU t1 h0 h0' fun _ =>
 uU t18 h0 h0' fun _ =>
 uU t1 h0 h0' fun _ =>
 uU t14 h0 h0' fun _ =>
 uU t1 h0 h0' fun _ =>
 M.getH.bind fun h1 =>
 (callv G t12 [(uc 5)]).bind fun t28 =>
 M.getH.bind fun h1' =>
 uU t22 h1 h1' fun _ =>
 uU t1 h1 h1' fun _ =>
 uU t18 h1 h1' fun _ =>
 uU t1 h1 h1' fun _ =>
 uU t14 h1 h1' fun _ =>
 uU t1 h1 h1' fun _ =>
 M.getH.bind fun h2 =>
 (callv G t12 [(uc 7)]).bind fun t30 =>
 M.getH.bind fun h2' =>
 uU t22 h2 h2' fun _ =>
 uU t1 h2 h2' fun _ =>
 uU t18 h2 h2' fun _ =>
 uU t1 h2 h2' fun _ =>
 uU t14 h2 h2' fun _ =>
 uU t1 h2 h2' fun _ =>
 uL (Ax.build [(uc 0),(uc 0),(uc 0),(uc 0),(uc 0),(uc 0),V.nils] [(0,1,t16),(1,1,t20),(2,1,t24),(3,1,t26),(4,1,t28),(5,1,t30)]) fun t31 =>
 uO zae (V.agg [(uc 0),(uc 0),(uc 0),(uc 0),(uc 0),(uc 0),V.nils]) fun t5 =>
 uT 7 t5 t31 fun _ =>
 uM t1 fun t34 =>
 uL (zaN .sl 1 t34 (some (uc 11)) none none) fun t35 =>
 M.getH.bind fun h3 =>
 (callv G t12 [(uc 9)]).bind fun t33 =>
 M.getH.bind fun h3' =>
 uU t1 h3 h3' fun _ =>
 M.blk 0 (
 uB .gtr t33 (uc 200) fun t38 =>
 M.ite t38
 (uL (Ax.build [(uc 0),(uc 0),(uc 0),(uc 0),(uc 0),(uc 0),V.nils] []) fun t39 =>
 uT 7 t2 t39 fun _ =>
 uS 7 t2 fun r0 =>
 M.pure (.ret [r0,(uc 4)]))
 (uL (vlen t35) fun t43 =>
 uB .gtr t33 t43 fun t44 =>
 M.ite t44
 (uL (Ax.build [(uc 0),(uc 0),(uc 0),(uc 0),(uc 0),(uc 0),V.nils] []) fun t45 =>
 uT 7 t2 t45 fun _ =>
 uS 7 t2 fun r0 =>
 M.pure (.ret [r0,(uc 3)]))
 (uL (vlen t35) fun t49 =>
 uB .lss t33 t49 fun t50 =>
 M.ite t50
 (uL (Ax.build [(uc 0),(uc 0),(uc 0),(uc 0),(uc 0),(uc 0),V.nils] []) fun t51 =>
 uT 7 t2 t51 fun _ =>
 uS 7 t2 fun r0 =>
 M.pure (.ret [r0,(uc 2)]))
 (M.pure (.nrm []))))) fun _ =>
 (G zbm [t35]).bind fun t53 =>
 uF 6 t5 fun t54 =>
 uT 1 t54 t53 fun _ =>
 uS 7 t5 fun t55 =>
 (G zcS [t55]).bind fun t56 =>
 uL (Ax.un .not t56) fun t57 =>
 M.ite t57
 (uL (Ax.build [(uc 0),(uc 0),(uc 0),(uc 0),(uc 0),(uc 0),V.nils] []) fun t58 =>
 uT 7 t2 t58 fun _ =>
 uS 7 t2 fun r0 =>
 M.pure (.ret [r0,(uc 2)]))
 (uS 7 t5 fun t59 =>
 uT 7 t2 t59 fun _ =>
 uS 7 t2 fun r0 =>
 M.pure (.ret [r0,(uc 0)])))
theorem zmy {t0:V}:OkT zeL [t0] (zjK (sem T) t0):=okT (by kernel_rfl) (by kernel_rfl) (by kernel_rfl)
def zhF (G:Sem') (t0 t1:V):M Res :=
 uM t1 fun t4 =>
 uIM none 1 t4 t0 fun t7 =>
 uL (Ax.cint .i64 t7) fun t8 =>
 uB .shl t8 (uq 8) fun t9 =>
 uM t1 fun t10 =>
 uB .add t0 (uc 1) fun t12 =>
 uIM none 1 t10 t12 fun t14 =>
 uL (Ax.cint .i64 t14) fun t15 =>
 uB .or t9 t15 fun t16 =>
 M.pure (.ret [t16])
theorem zkv {t0 t1:V}:OkT zbq [t0,t1] (zhF (sem T) t0 t1):=okT (by kernel_rfl) (by kernel_rfl) (by kernel_rfl)
def zgu (G:Sem') (t0:V):M Res :=
 uO zae t0 fun t1 =>
 uFM 0 t1 fun t7 =>
 (G zhi [t7]).bind fun t8 =>
 uE 0 t8 fun t9 =>
 uE 1 t8 fun t10 =>
 uO zd5 (V.agg [(uc 0),(uc 0),(uc 0),(uc 0),(uc 0),(uc 0),(uc 0)]) fun t3 =>
 uT 7 t3 t9 fun _ =>
 uL (Ax.un .not t10) fun t12 =>
 uH t12 false (Ax.faddr 1 t1) fun t14 =>
 uG t12 false (zar none t14) fun t15 =>
 uH t12 false (Ax.faddr 0 t3) fun t16 =>
 uG t12 false (zar none t16) fun t17 =>
 uG t12 false (G zbl [t15,t17]) fun t18 =>
 uH t12 false (Ax.un .not t18) fun t19 =>
 uL (Ax.pick t12 (V.bool true) t19) fun t20 =>
 uH t20 false (Ax.faddr 2 t1) fun t22 =>
 uG t20 false (zar none t22) fun t23 =>
 uH t20 false (Ax.faddr 1 t3) fun t24 =>
 uG t20 false (zar none t24) fun t25 =>
 uG t20 false (G zbl [t23,t25]) fun t26 =>
 uH t20 false (Ax.un .not t26) fun t27 =>
 uL (Ax.pick t20 (V.bool true) t27) fun t28 =>
 uH t28 false (Ax.faddr 3 t1) fun t30 =>
 uG t28 false (zar none t30) fun t31 =>
 uH t28 false (Ax.faddr 2 t3) fun t32 =>
 uG t28 false (zar none t32) fun t33 =>
 uG t28 false (G zbl [t31,t33]) fun t34 =>
 uH t28 false (Ax.un .not t34) fun t35 =>
 uL (Ax.pick t28 (V.bool true) t35) fun t36 =>
 uH t36 false (Ax.faddr 4 t1) fun t38 =>
 uG t36 false (zar none t38) fun t39 =>
 uH t36 false (Ax.faddr 3 t3) fun t40 =>
 uG t36 false (zar none t40) fun t41 =>
 uG t36 false (G zbl [t39,t41]) fun t42 =>
 uH t36 false (Ax.un .not t42) fun t43 =>
 uL (Ax.pick t36 (V.bool true) t43) fun t44 =>
 uH t44 false (Ax.faddr 5 t1) fun t46 =>
 uG t44 false (zar none t46) fun t47 =>
 uH t44 false (Ax.faddr 4 t3) fun t48 =>
 uG t44 false (zar none t48) fun t49 =>
 uG t44 false (G zbl [t47,t49]) fun t50 =>
 uH t44 false (Ax.un .not t50) fun t51 =>
 uL (Ax.pick t44 (V.bool true) t51) fun t52 =>
 uH t52 false (Ax.faddr 6 t1) fun t54 =>
 uG t52 false (zar none t54) fun t55 =>
 uH t52 false (vlen t55) fun t56 =>
 uH t52 false (Ax.faddr 5 t3) fun t57 =>
 uG t52 false (zar none t57) fun t58 =>
 uH t52 false (Ax.bin .lss t56 t58) fun t59 =>
 uL (Ax.pick t52 (V.bool true) t59) fun t60 =>
 uH t60 false (Ax.faddr 6 t1) fun t62 =>
 uG t60 false (zar none t62) fun t63 =>
 uH t60 false (vlen t63) fun t64 =>
 uH t60 false (Ax.faddr 6 t3) fun t65 =>
 uG t60 false (zar none t65) fun t66 =>
 uH t60 false (Ax.bin .gtr t64 t66) fun t67 =>
 uL (Ax.pick t60 (V.bool true) t67) fun t68 =>
 M.ite t68
 (M.pure (.ret [(V.bool false)]))
 (uFM 0 t1 fun t70 =>
 M.blk 0 (
 uB .eql t70 (uc 17) fun t72 =>
 M.ite t72
 (uS 7 t1 fun t73 =>
 (G zdH [t73]).bind fun t74 =>
 M.pure (.ret [t74]))
 (uB .eql t70 (uc 18) fun t76 =>
 M.ite t76
 (uFM 4 t1 fun t78 =>
 uB .geq t78 (uc 1) fun t79 =>
 M.pure (.ret [t79]))
 (uB .eql t70 (uc 19) fun t81 =>
 M.ite t81
 (uFM 4 t1 fun t83 =>
 uFM 2 t1 fun t85 =>
 uB .shr t83 t85 fun t86 =>
 uB .and t86 (uc 1) fun t87 =>
 uB .eql t87 (uc 1) fun t88 =>
 M.pure (.ret [t88]))
 (uB .eql t70 (uc 20) fun t90 =>
 M.ite t90
 (uFM 4 t1 fun t92 =>
 uFM 2 t1 fun t94 =>
 uB .shr t92 t94 fun t95 =>
 uB .and t95 (uc 1) fun t96 =>
 uB .eql t96 (uc 0) fun t97 =>
 M.pure (.ret [t97]))
 (M.pure (.nrm [])))))) fun _ =>
 M.pure (.ret [(V.bool true)]))
theorem zgX {t0:V}:OkT zcS [t0] (zgu (sem T) t0):=okT (by kernel_rfl) (by kernel_rfl) (by kernel_rfl)
def zob (G:Sem') (t0:V):M Res :=
 uO zd5 (V.agg [(uc 0),(uc 0),(uc 0),(uc 0),(uc 0),(uc 0),(uc 0)]) fun t2 =>
 M.blk 0 (
 uB .eql t0 (uc 1) fun t6 =>
 M.ite t6
 (uL (Ax.build [(uc 0),(uc 0),(uc 0),(uc 0),(uc 0),(uc 0),(uc 0)] [(0,1,(uc 3))]) fun t7 =>
 uT 7 t2 t7 fun _ =>
 uS 7 t2 fun r0 =>
 M.pure (.ret [r0,(V.bool true)]))
 (uB .eql t0 (uc 2) fun t9 =>
 M.join (M.ite t9
 (M.pure (.nrm [t9]))
 (uB .eql t0 (uc 9) fun t10 =>
 M.join (M.ite t10
 (M.pure (.nrm [t10]))
 (uB .eql t0 (uc 23) fun t11 =>
 M.pure (.nrm [t11]))) fun L0 =>
 M.pure (.nrm [(ug L0 0)]))) fun L1 =>
 M.ite (ug L1 0)
 (uL (Ax.build [(uc 0),(uc 0),(uc 0),(uc 0),(uc 0),(uc 0),(uc 0)] []) fun t12 =>
 uT 7 t2 t12 fun _ =>
 uS 7 t2 fun r0 =>
 M.pure (.ret [r0,(V.bool true)]))
 (uB .eql t0 (uc 3) fun t14 =>
 M.join (M.ite t14
 (M.pure (.nrm [t14]))
 (uB .eql t0 (uc 6) fun t15 =>
 M.pure (.nrm [t15]))) fun L2 =>
 M.ite (ug L2 0)
 (uL (Ax.build [(uc 0),(uc 0),(uc 0),(uc 0),(uc 0),(uc 0),(uc 0)] [(1,1,(uc 7))]) fun t16 =>
 uT 7 t2 t16 fun _ =>
 uS 7 t2 fun r0 =>
 M.pure (.ret [r0,(V.bool true)]))
 (uB .eql t0 (uc 4) fun t18 =>
 M.ite t18
 (uL (Ax.build [(uc 0),(uc 0),(uc 0),(uc 0),(uc 0),(uc 0),(uc 0)] [(3,1,(uc 2)),(4,1,(uc 65535)),(5,1,(uc 4)),(6,1,(uc 4))]) fun t19 =>
 uT 7 t2 t19 fun _ =>
 uS 7 t2 fun r0 =>
 M.pure (.ret [r0,(V.bool true)]))
 (uB .eql t0 (uc 5) fun t21 =>
 M.ite t21
 (uL (Ax.build [(uc 0),(uc 0),(uc 0),(uc 0),(uc 0),(uc 0),(uc 0)] [(1,1,(uc 7)),(3,1,(uc 3)),(4,1,(uc 7))]) fun t22 =>
 uT 7 t2 t22 fun _ =>
 uS 7 t2 fun r0 =>
 M.pure (.ret [r0,(V.bool true)]))
 (uB .eql t0 (uc 7) fun t24 =>
 M.join (M.ite t24
 (M.pure (.nrm [t24]))
 (uB .eql t0 (uc 21) fun t25 =>
 M.pure (.nrm [t25]))) fun L3 =>
 M.ite (ug L3 0)
 (uL (Ax.build [(uc 0),(uc 0),(uc 0),(uc 0),(uc 0),(uc 0),(uc 0)] [(1,1,(uc 7)),(2,1,(uc 65535)),(3,1,(uc 31)),(5,1,(uc 1)),(6,1,(uc 200))]) fun t26 =>
 uT 7 t2 t26 fun _ =>
 uS 7 t2 fun r0 =>
 M.pure (.ret [r0,(V.bool true)]))
 (uB .eql t0 (uc 8) fun t28 =>
 M.join (M.ite t28
 (M.pure (.nrm [t28]))
 (uB .eql t0 (uc 22) fun t29 =>
 M.pure (.nrm [t29]))) fun L4 =>
 M.ite (ug L4 0)
 (uL (Ax.build [(uc 0),(uc 0),(uc 0),(uc 0),(uc 0),(uc 0),(uc 0)] [(2,1,(uc 65535))]) fun t30 =>
 uT 7 t2 t30 fun _ =>
 uS 7 t2 fun r0 =>
 M.pure (.ret [r0,(V.bool true)]))
 (uB .eql t0 (uc 17) fun t32 =>
 M.ite t32
 (uL (Ax.build [(uc 0),(uc 0),(uc 0),(uc 0),(uc 0),(uc 0),(uc 0)] [(0,1,(uc 3)),(1,1,(uc 7)),(2,1,(uc 65535)),(3,1,(uc 255)),(4,1,(uc 65535)),(5,1,(uc 8)),(6,1,(uc 8))]) fun t33 =>
 uT 7 t2 t33 fun _ =>
 uS 7 t2 fun r0 =>
 M.pure (.ret [r0,(V.bool true)]))
 (uB .eql t0 (uc 18) fun t35 =>
 M.ite t35
 (uL (Ax.build [(uc 0),(uc 0),(uc 0),(uc 0),(uc 0),(uc 0),(uc 0)] [(3,1,(uc 13)),(4,1,(uc 9))]) fun t36 =>
 uT 7 t2 t36 fun _ =>
 uS 7 t2 fun r0 =>
 M.pure (.ret [r0,(V.bool true)]))
 (uB .eql t0 (uc 19) fun t38 =>
 M.ite t38
 (uL (Ax.build [(uc 0),(uc 0),(uc 0),(uc 0),(uc 0),(uc 0),(uc 0)] [(1,1,(uc 7)),(2,1,(uc 65535)),(3,1,(uc 255)),(4,1,(uc 63))]) fun t39 =>
 uT 7 t2 t39 fun _ =>
 uS 7 t2 fun r0 =>
 M.pure (.ret [r0,(V.bool true)]))
 (uB .eql t0 (uc 20) fun t41 =>
 M.ite t41
 (uL (Ax.build [(uc 0),(uc 0),(uc 0),(uc 0),(uc 0),(uc 0),(uc 0)] [(1,1,(uc 7)),(2,1,(uc 65535)),(3,1,(uc 255))]) fun t42 =>
 uT 7 t2 t42 fun _ =>
 uS 7 t2 fun r0 =>
 M.pure (.ret [r0,(V.bool true)]))
 (uB .eql t0 (uc 24) fun t44 =>
 M.ite t44
 (uL (Ax.build [(uc 0),(uc 0),(uc 0),(uc 0),(uc 0),(uc 0),(uc 0)] [(1,1,(uc 7)),(5,1,(uc 4)),(6,1,(uc 4))]) fun t45 =>
 uT 7 t2 t45 fun _ =>
 uS 7 t2 fun r0 =>
 M.pure (.ret [r0,(V.bool true)]))
 (M.pure (.nrm [])))))))))))))) fun _ =>
 uL (Ax.build [(uc 0),(uc 0),(uc 0),(uc 0),(uc 0),(uc 0),(uc 0)] []) fun t46 =>
 uT 7 t2 t46 fun _ =>
 uS 7 t2 fun r0 =>
 M.pure (.ret [r0,(V.bool false)])
theorem zqm {t0:V}:OkT zhi [t0] (zob (sem T) t0):=okT (by kernel_rfl) (by kernel_rfl) (by kernel_rfl)
def ziF (G:Sem') (t0 t1:V):M Res :=
 uB .geq t0 (uc 0) fun t6 =>
 uG t6 true (M.pure t0) fun t8 =>
 uG t6 true (M.pure t1) fun t9 =>
 uH t6 true (Ax.bin .leq t8 t9) fun t10 =>
 uL (Ax.pick t6 t10 (V.bool false)) fun t11 =>
 M.pure (.ret [t11])
theorem zln {t0 t1:V}:OkT zbl [t0,t1] (ziF (sem T) t0 t1):=okT (by kernel_rfl) (by kernel_rfl) (by kernel_rfl)
def zew (G:Sem') (t8 t7 t1:V) (L:List V):M Res :=
 uB .lss (ug L 0) t8 fun t10 =>
 M.ite t10
 (M.blk 1 (
 uIM none 1 t7 (ug L 0) fun t13 =>
 uFM 4 t1 fun t15 =>
 uB .shr t15 (ug L 0) fun t17 =>
 uB .and t17 (uc 1) fun t18 =>
 uB .eql t18 (uc 1) fun t19 =>
 uG t19 true (M.pure t13) fun t22 =>
 uH t19 true (Ax.bin .gtr t22 (ub 63)) fun t23 =>
 uL (Ax.pick t19 t23 (V.bool false)) fun t24 =>
 uG t24 false (M.pure t19) fun t26 =>
 uH t24 false (Ax.un .not t26) fun t27 =>
 uG t24 false (M.pure t27) fun t28 =>
 uG t28 true (M.pure t13) fun t29 =>
 uH t28 true (Ax.bin .neq t29 (ub 255)) fun t30 =>
 uH t24 false (Ax.pick t28 t30 (V.bool false)) fun t31 =>
 uL (Ax.pick t24 (V.bool true) t31) fun t32 =>
 M.ite t32
 (M.pure (.ret [(V.bool false)]))
 (M.pure (.nrm []))) fun _ =>
 uB .add (ug L 0) (uc 1) fun t33 =>
 M.pure (.nrm [t33]))
 (M.pure (.ex 0 []))
def zhE (G:Sem') (t0:V):M Res :=
 uO zae t0 fun t1 =>
 uFM 6 t1 fun t7 =>
 uL (vlen t7) fun t8 =>
 M.blk 0 (
 M.iter (zew G t8 t7 t1) [(uc 0)]) fun _ =>
 uFM 5 t1 fun t35 =>
 uFM 3 t1 fun t37 =>
 uB .geq t35 t37 fun t38 =>
 uH t38 true (Ax.faddr 4 t1) fun t40 =>
 uG t38 true (zar none t40) fun t41 =>
 uH t38 true (Ax.faddr 2 t1) fun t42 =>
 uG t38 true (zar none t42) fun t43 =>
 uH t38 true (Ax.bin .shr t41 t43) fun t44 =>
 uH t38 true (Ax.bin .and t44 (uc 1)) fun t45 =>
 uH t38 true (Ax.bin .eql t45 (uc 1)) fun t46 =>
 uL (Ax.pick t38 t46 (V.bool false)) fun t47 =>
 M.pure (.ret [t47])
theorem zku {t0:V}:OkT zdH [t0] (zhE (sem T) t0):=okT (by kernel_rfl) (by kernel_rfl) (by kernel_rfl)
end Go.Ax
/- FnS7 -/
namespace Go.Ax
open Go.Proofs
def zhG (G:Sem') (t0 t1 t2 t3:V):M Res :=
 uL (Ax.build [(uc 0),(uc 0),(uc 0),(uc 0),(uc 0),(uc 0),V.nils] [(0,1,(uc 18)),(4,1,t2),(5,1,t3)]) fun t12 =>
 (G zbt [t0,t1,t12]).bind fun t13 =>
 M.pure (.ret [])
theorem zkw {t0 t1 t2 t3:V}:OkT zcT [t0,t1,t2,t3] (zhG (sem T) t0 t1 t2 t3):=okT (by kernel_rfl) (by kernel_rfl) (by kernel_rfl)
def ze3 (G:Sem') (t0 t1 t2:V):M Res :=
 uO zae t2 fun t5 =>
 uS 7 t5 fun t9 =>
 (G zdI [t9]).bind fun t10 =>
 uE 0 t10 fun t11 =>
 uE 1 t10 fun t12 =>
 uB .eql t12 (uc 0) fun t14 =>
 M.join (M.ite t14
 ((G zcj [t0,t1,(uc 2),t11]).bind fun t18 =>
 M.pure (.nrm []))
 (M.pure (.nrm []))) fun _ =>
 M.pure (.ret [])
theorem zgB {t0 t1 t2:V}:OkT zbt [t0,t1,t2] (ze3 (sem T) t0 t1 t2):=okT (by kernel_rfl) (by kernel_rfl) (by kernel_rfl)
def zfD (G:Sem') (t30 t29 t2 t3:V) (L:List V):M Res :=
 uB .lss (ug L 1) t30 fun t32 =>
 M.ite t32
 (M.blk 1 (
 uIM none 1 t29 (ug L 1) fun t34 =>
 uB .shr t34 (uq 8) fun t37 =>
 uL (Ax.cint .u8 t37) fun t38 =>
 uL (Ax.cint .u8 t34) fun t40 =>
 (zbQ zaw 2 [(ub 0)] [(0,1,t38),(1,1,t40)]).bind fun t41 =>
 (zay zaw 1 1 (ug L 0) t41).bind fun t42 =>
 M.pure (.nrm [t42])) fun L0 =>
 uB .add (ug L 1) (uc 1) fun t43 =>
 M.pure (.nrm [(ug L0 0),t43]))
 (M.pure (.ex 0 [(ug L 0)]))
def zjL (G:Sem') (t0:V):M Res :=
 uO zae t0 fun t1 =>
 uS 7 t1 fun t7 =>
 (G zcS [t7]).bind fun t8 =>
 uL (Ax.un .not t8) fun t9 =>
 M.ite t9
 (M.pure (.ret [V.nils,(uc 1)]))
 (uFM 0 t1 fun t11 =>
 uL (Ax.cint .u8 t11) fun t12 =>
 uFM 1 t1 fun t14 =>
 uL (Ax.cint .u8 t14) fun t15 =>
 uFM 2 t1 fun t17 =>
 uL (Ax.cint .u8 t17) fun t18 =>
 (zbQ zaw 3 [(ub 0)] [(0,1,t12),(1,1,t15),(2,1,t18)]).bind fun t19 =>
 uFM 3 t1 fun t21 =>
 uFM 4 t1 fun t23 =>
 uFM 5 t1 fun t25 =>
 uFM 6 t1 fun t27 =>
 uL (vlen t27) fun t28 =>
 (zbQ zkf 4 [(uc 0)] [(0,1,t21),(1,1,t23),(2,1,t25),(3,1,t28)]).bind fun t29 =>
 uL (vlen t29) fun t30 =>
 M.blk 0 (
 M.iter (zfD G t30 t29 V.nils (uc 0)) [t19,(uc 0)]) fun L1 =>
 uFM 6 t1 fun t46 =>
 (zay zaw 1 1 (ug L1 0) t46).bind fun t47 =>
 M.pure (.ret [t47,(uc 0)]))
theorem zmz {t0:V}:OkT zdI [t0] (zjL (sem T) t0):=okT (by kernel_rfl) (by kernel_rfl) (by kernel_rfl)
def zdL (G:Sem') (t47 t8 t6:V) (L:List V):M Res :=
 uB .lss (ug L 1) (uc 8) fun t49 =>
 M.ite t49
 (M.blk 1 (
 uL (Ax.index 8 1 none t47 (ug L 1)) fun t51 =>
 M.join (M.ite t51
 (uF 0 t8 fun t55 =>
 uF 8 t55 fun t56 =>
 uIM (some 8) 1 t56 (ug L 1) fun t58 =>
 uL (Ax.cint .u8 t58) fun t59 =>
 (zbQ zaw 1 [(ub 0)] [(0,1,t59)]).bind fun t60 =>
 (zay zaw 1 1 (ug L 0) t60).bind fun t61 =>
 M.pure (.nrm [t61]))
 ((zbQ zaw 1 [(ub 0)] [(0,1,(ub 255))]).bind fun t63 =>
 (zay zaw 1 1 (ug L 0) t63).bind fun t64 =>
 M.pure (.nrm [t64]))) fun L0 =>
 M.pure (.nrm [(ug L0 0)])) fun L1 =>
 uB .add (ug L 1) (uc 1) fun t65 =>
 M.pure (.nrm [(ug L1 0),t65]))
 (M.pure (.ex 0 [(ug L 0)]))
def zgJ (G:Sem') (t0 t1 t2:V):M Res :=
 uO zae t2 fun t5 =>
 uFM 1 t5 fun t17 =>
 uNF 0 t0 fun t19 =>
 uI (some 4) 367 t19 t17 fun t20 =>
 uNF 0 t20 fun t24 =>
 uS 39 t24 fun t25 =>
 uNFM 1468 t0 fun t30 =>
 (G zfi [t25,t1,t30]).bind fun t31 =>
 uE 0 t31 fun t32 =>
 uO zav (V.agg [(V.bool false),(V.bool false),(V.bool false),(V.bool false),(V.bool false),(V.bool false),(V.bool false),(V.bool false),(uc 0),(uc 0),(uc 0),(uc 0),(uc 0),(uc 0),(uc 0),(uc 0),(uc 0),(V.bool false),(uc 0),(uc 0),(uc 0),(uc 0),(uc 0),(uc 0),(uc 0),(uc 0),(uc 0),(uc 0),(uc 0),(uc 0),(uc 0),(uc 0),(uc 0),(uc 0),(uc 0),(uc 0),(uc 0),(uc 0),(V.bool false)]) fun t8 =>
 uT 39 t8 t32 fun _ =>
 uE 1 t31 fun t33 =>
 uE 2 t31 fun t34 =>
 uB .neq t34 (uc 0) fun t36 =>
 M.ite t36
 (M.pure (.ret [t34]))
 (uS 39 t8 fun t39 =>
 uNF 0 t20 fun t41 =>
 uT 39 t41 t39 fun _ =>
 uF 0 t8 fun t42 =>
 uS 16 t42 fun t43 =>
 (G zdD [t43]).bind fun t44 =>
 uF 0 t8 fun t45 =>
 uF 0 t45 fun t46 =>
 uS 8 t46 fun t47 =>
 M.blk 0 (
 M.iter (zdL G t47 t8 (uc 0)) [V.nils,(uc 0)]) fun L2 =>
 uF 1 t5 fun t68 =>
 uM t68 fun t69 =>
 uF 16 t8 fun t71 =>
 uF 0 t71 fun t72 =>
 uM t72 fun t73 =>
 M.getH.bind fun h0 =>
 (G zd8 [t20]).bind fun t76 =>
 M.getH.bind fun h0' =>
 uU t72 h0 h0' fun _ =>
 uU t68 h0 h0' fun _ =>
 uL (Ax.build [(uc 0),(uc 0),(uc 0),(uc 0),(uc 0),(uc 0),V.nils] [(0,1,(uc 17)),(1,1,t69),(2,1,t33),(3,1,t73),(4,1,t44),(5,1,t76),(6,1,(ug L2 0))]) fun t78 =>
 (G zbt [t0,t1,t78]).bind fun t79 =>
 uF 16 t8 fun t84 =>
 uFM 0 t84 fun t86 =>
 uL (Ax.build [(uc 0),(uc 0),(uc 0),(uc 0),(uc 0),(uc 0),V.nils] [(0,1,(uc 19)),(2,1,t33),(3,1,t86),(4,1,t44),(5,1,t1)]) fun t89 =>
 (G zdd [t0,t20,t33,t89]).bind fun t90 =>
 M.pure (.ret [(uc 0)]))
theorem zi4 {t0 t1 t2:V}:OkT zc3 [t0,t1,t2] (zgJ (sem T) t0 t1 t2):=okT (by kernel_rfl) (by kernel_rfl) (by kernel_rfl)
def zk0 (G:Sem') (t0 t1 t2:V):M Res :=
 uO zav t0 fun t3 =>
 uO zav (V.agg [(V.bool false),(V.bool false),(V.bool false),(V.bool false),(V.bool false),(V.bool false),(V.bool false),(V.bool false),(uc 0),(uc 0),(uc 0),(uc 0),(uc 0),(uc 0),(uc 0),(uc 0),(uc 0),(V.bool false),(uc 0),(uc 0),(uc 0),(uc 0),(uc 0),(uc 0),(uc 0),(uc 0),(uc 0),(uc 0),(uc 0),(uc 0),(uc 0),(uc 0),(uc 0),(uc 0),(uc 0),(uc 0),(uc 0),(uc 0),(V.bool false)]) fun t6 =>
 M.blk 0 (
 uS 39 t3 fun t14 =>
 (G zek [t14]).bind fun t15 =>
 uL (Ax.un .not t15) fun t16 =>
 M.ite t16
 (uS 39 t3 fun t17 =>
 uT 39 t6 t17 fun _ =>
 uS 39 t6 fun r0 =>
 M.pure (.ret [r0,(uc 0),(uc 1)]))
 (uFM 38 t3 fun t20 =>
 M.ite t20
 (uS 39 t3 fun t21 =>
 uT 39 t6 t21 fun _ =>
 uS 39 t6 fun r0 =>
 M.pure (.ret [r0,(uc 0),(uc 12)]))
 (M.pure (.nrm [])))) fun _ =>
 uF 0 t3 fun t23 =>
 uS 16 t23 fun t24 =>
 (G zeF [t24,t1]).bind fun t26 =>
 uE 0 t26 fun t27 =>
 uE 1 t26 fun t28 =>
 uE 2 t26 fun t29 =>
 uO zaj (V.agg [(V.bool false),(V.bool false),(V.bool false),(V.bool false),(V.bool false),(V.bool false),(V.bool false),(V.bool false),(uc 0),(uc 0),(uc 0),(uc 0),(uc 0),(uc 0),(uc 0),(uc 0)]) fun t9 =>
 uT 16 t9 t27 fun _ =>
 uB .neq t29 (uc 0) fun t31 =>
 M.ite t31
 (uS 39 t3 fun t32 =>
 uT 39 t6 t32 fun _ =>
 uS 39 t6 fun r0 =>
 M.pure (.ret [r0,(uc 0),t29]))
 (uF 16 t3 fun t35 =>
 uS 6 t35 fun t36 =>
 (G zeJ [t36,t28]).bind fun t38 =>
 uE 0 t38 fun t39 =>
 uE 1 t38 fun t40 =>
 uO zaz (V.agg [(uc 0),(V.bool false),(uc 0),(uc 0),(uc 0),(uc 0)]) fun t12 =>
 uT 6 t12 t39 fun _ =>
 uB .neq t40 (uc 0) fun t42 =>
 M.ite t42
 (uS 39 t3 fun t43 =>
 uT 39 t6 t43 fun _ =>
 uS 39 t6 fun r0 =>
 M.pure (.ret [r0,(uc 0),t40]))
 (uS 16 t9 fun t45 =>
 uS 6 t12 fun t46 =>
 uF 0 t3 fun t47 =>
 M.getH.bind fun h0 =>
 uT 16 t47 t45 fun _ =>
 M.getH.bind fun h0' =>
 uU t12 h0 h0' fun _ =>
 uF 16 t3 fun t48 =>
 uT 6 t48 t46 fun _ =>
 uF 0 t12 fun t52 =>
 uM t52 fun t53 =>
 uF 22 t3 fun t54 =>
 uI (some 8) 1 t54 t28 fun t55 =>
 uF 30 t3 fun t56 =>
 M.getH.bind fun h1 =>
 uT 1 t55 t2 fun _ =>
 M.getH.bind fun h1' =>
 uU t52 h1 h1' fun _ =>
 uI (some 8) 1 t56 t28 fun t57 =>
 uT 1 t57 t53 fun _ =>
 uS 39 t3 fun t58 =>
 uT 39 t6 t58 fun _ =>
 uS 39 t6 fun r0 =>
 M.pure (.ret [r0,t28,(uc 0)])))
theorem znE {t0 t1 t2:V}:OkT zfi [t0,t1,t2] (zk0 (sem T) t0 t1 t2):=okT (by kernel_rfl) (by kernel_rfl) (by kernel_rfl)
def zjA (G:Sem') (t0 t1:V):M Res :=
 uO zaj t0 fun t2 =>
 uO zaj (V.agg [(V.bool false),(V.bool false),(V.bool false),(V.bool false),(V.bool false),(V.bool false),(V.bool false),(V.bool false),(uc 0),(uc 0),(uc 0),(uc 0),(uc 0),(uc 0),(uc 0),(uc 0)]) fun t4 =>
 uS 16 t2 fun t10 =>
 (G zcs [t10]).bind fun t11 =>
 uL (Ax.un .not t11) fun t12 =>
 uG t12 false (M.pure t1) fun t14 =>
 uG t12 false (G zdC [t14]) fun t15 =>
 uH t12 false (Ax.un .not t15) fun t16 =>
 uL (Ax.pick t12 (V.bool true) t16) fun t17 =>
 M.ite t17
 (uS 16 t2 fun t18 =>
 uT 16 t4 t18 fun _ =>
 uS 16 t4 fun r0 =>
 M.pure (.ret [r0,(uc 0),(uc 1)]))
 (uS 16 t2 fun t20 =>
 (G zcW [t20,t1]).bind fun t22 =>
 uE 0 t22 fun t23 =>
 uE 1 t22 fun t24 =>
 M.ite t24
 (uS 16 t2 fun t26 =>
 uT 16 t4 t26 fun _ =>
 uS 16 t4 fun r0 =>
 M.pure (.ret [r0,(uc 0),(uc 7)]))
 (uF 0 t2 fun t27 =>
 uL (zaN (.arr 8) 1 t27 none none none) fun t28 =>
 (G zbi [t28,(V.bool false)]).bind fun t29 =>
 uB .lss t29 (uc 0) fun t31 =>
 M.ite t31
 (uS 16 t2 fun t32 =>
 uT 16 t4 t32 fun _ =>
 uS 16 t4 fun r0 =>
 M.pure (.ret [r0,(uc 0),(uc 5)]))
 (uF 0 t2 fun t36 =>
 uI (some 8) 1 t36 t29 fun t37 =>
 (zco 1 t37 (V.bool true)).bind fun _ =>
 uF 8 t2 fun t38 =>
 uI (some 8) 1 t38 t29 fun t39 =>
 uT 1 t39 t1 fun _ =>
 uS 16 t2 fun t40 =>
 uT 16 t4 t40 fun _ =>
 uS 16 t4 fun r0 =>
 M.pure (.ret [r0,t29,(uc 0)]))))
theorem zmp {t0 t1:V}:OkT zeF [t0,t1] (zjA (sem T) t0 t1):=okT (by kernel_rfl) (by kernel_rfl) (by kernel_rfl)
def zbN (G:Sem') (t7 t1 t0:V) (L:List V):M Res :=
 uB .lss (ug L 0) t7 fun t9 =>
 M.ite t9
 (M.blk 1 (
 uIM none 1 t0 (ug L 0) fun t15 =>
 uL (eqr .bool false t1 t15) fun t16 =>
 M.ite t16
 (M.pure (.ret [(ug L 0)]))
 (M.pure (.nrm []))) fun _ =>
 uB .add (ug L 0) (uc 1) fun t18 =>
 M.pure (.nrm [t18]))
 (M.pure (.ex 0 []))
def zdr (G:Sem') (t0 t1:V):M Res :=
 uL (vlen t0) fun t7 =>
 M.blk 0 (
 M.iter (zbN G t7 t1 t0) [(uc 0)]) fun _ =>
 M.pure (.ret [(uc (-1))])
theorem zfv {t0 t1:V}:OkT zbi [t0,t1] (zdr (sem T) t0 t1):=okT (by kernel_rfl) (by kernel_rfl) (by kernel_rfl)
def zjI (G:Sem') (t0 t1:V):M Res :=
 uO zaz t0 fun t2 =>
 uO zaz (V.agg [(uc 0),(V.bool false),(uc 0),(uc 0),(uc 0),(uc 0)]) fun t4 =>
 M.blk 0 (
 uS 6 t2 fun t7 =>
 (G zdG [t7]).bind fun t8 =>
 uL (Ax.un .not t8) fun t9 =>
 uG t9 false (M.pure t1) fun t11 =>
 uG t9 false (G zeI [t11]) fun t12 =>
 uH t9 false (Ax.un .not t12) fun t13 =>
 uL (Ax.pick t9 (V.bool true) t13) fun t14 =>
 M.ite t14
 (uS 6 t2 fun t15 =>
 uT 6 t4 t15 fun _ =>
 uS 6 t4 fun r0 =>
 M.pure (.ret [r0,(uc 1)]))
 (uFM 1 t2 fun t18 =>
 uL (Ax.un .not t18) fun t19 =>
 M.ite t19
 (uS 6 t2 fun t20 =>
 uT 6 t4 t20 fun _ =>
 uS 6 t4 fun r0 =>
 M.pure (.ret [r0,(uc 0)]))
 (uFM 3 t2 fun t23 =>
 uB .shr t23 t1 fun t25 =>
 uB .and t25 (uc 1) fun t26 =>
 uB .eql t26 (uc 1) fun t27 =>
 M.ite t27
 (uS 6 t2 fun t28 =>
 uT 6 t4 t28 fun _ =>
 uS 6 t4 fun r0 =>
 M.pure (.ret [r0,(uc 7)]))
 (M.pure (.nrm []))))) fun _ =>
 uFM 3 t2 fun t30 =>
 uB .shl (uc 1) t1 fun t32 =>
 uB .or t30 t32 fun t33 =>
 uF 3 t2 fun t34 =>
 uT 1 t34 t33 fun _ =>
 uS 6 t2 fun t35 =>
 uT 6 t4 t35 fun _ =>
 uS 6 t4 fun r0 =>
 M.pure (.ret [r0,(uc 0)])
theorem zmw {t0 t1:V}:OkT zeJ [t0,t1] (zjI (sem T) t0 t1):=okT (by kernel_rfl) (by kernel_rfl) (by kernel_rfl)
def zjH (G:Sem') (t0:V):M Res :=
 uB .geq t0 (uc 0) fun t4 =>
 uG t4 true (M.pure t0) fun t6 =>
 uH t4 true (Ax.bin .lss t6 (uc 8)) fun t7 =>
 uL (Ax.pick t4 t7 (V.bool false)) fun t8 =>
 M.pure (.ret [t8])
theorem zmv {t0:V}:OkT zeI [t0] (zjH (sem T) t0):=okT (by kernel_rfl) (by kernel_rfl) (by kernel_rfl)
def ziG (G:Sem') (t0:V):M Res :=
 uNF 0 t0 fun t5 =>
 uF 16 t5 fun t6 =>
 uS 6 t6 fun t7 =>
 (G zeW [t7]).bind fun t8 =>
 M.pure (.ret [t8])
theorem zlo {t0:V}:OkT zd8 [t0] (ziG (sem T) t0):=okT (by kernel_rfl) (by kernel_rfl) (by kernel_rfl)
def zhD (G:Sem') (t0:V):M Res :=
 uO zaz t0 fun t1 =>
 uFM 1 t1 fun t4 =>
 M.ite t4
 (uFM 2 t1 fun t6 =>
 M.pure (.ret [t6]))
 (uFM 0 t1 fun t8 =>
 M.pure (.ret [t8]))
theorem zkt {t0:V}:OkT zeW [t0] (zhD (sem T) t0):=okT (by kernel_rfl) (by kernel_rfl) (by kernel_rfl)
def zd2 (G:Sem') (t15 t2 t0 t1 t7:V) (L:List V):M Res :=
 uB .lss (ug L 0) (uc 8) fun t17 =>
 M.ite t17
 (M.blk 1 (
 uL (Ax.index 8 1 none t15 (ug L 0)) fun t19 =>
 uG t19 true (M.pure (ug L 0)) fun t22 =>
 uG t19 true (M.pure t2) fun t23 =>
 uH t19 true (Ax.bin .neq t22 t23) fun t24 =>
 uL (Ax.pick t19 t24 (V.bool false)) fun t25 =>
 M.join (M.ite t25
 (uNF 0 t1 fun t30 =>
 uF 0 t30 fun t31 =>
 uF 8 t31 fun t32 =>
 uIM (some 8) 1 t32 (ug L 0) fun t34 =>
 uS 7 t7 fun t35 =>
 (G zbt [t0,t34,t35]).bind fun t36 =>
 M.pure (.nrm []))
 (M.pure (.nrm []))) fun _ =>
 M.pure (.nrm [])) fun _ =>
 uB .add (ug L 0) (uc 1) fun t37 =>
 M.pure (.nrm [t37]))
 (M.pure (.ex 0 []))
def zhc (G:Sem') (t0 t1 t2 t3:V):M Res :=
 uO zae t3 fun t7 =>
 uNF 0 t1 fun t12 =>
 uF 0 t12 fun t13 =>
 uF 0 t13 fun t14 =>
 uS 8 t14 fun t15 =>
 M.blk 0 (
 M.iter (zd2 G t15 t2 t0 t1 t7) [(uc 0)]) fun _ =>
 M.pure (.ret [])
theorem zjQ {t0 t1 t2 t3:V}:OkT zdd [t0,t1,t2,t3] (zhc (sem T) t0 t1 t2 t3):=okT (by kernel_rfl) (by kernel_rfl) (by kernel_rfl)
end Go.Ax
/- FnS8 -/
namespace Go.Ax
open Go.Proofs
def zdm (G:Sem') (t10 t0 t1 t6:V) (L:List V):M Res :=
 uB .lss (ug L 1) t10 fun t12 =>
 M.ite t12
 (M.blk 1 (
 uNF 1470 t0 fun t17 =>
 uIM (some 64) 1 t17 t1 fun t19 =>
 (G zbc [t19]).bind fun t20 =>
 uE 0 t20 fun t21 =>
 uE 1 t20 fun t22 =>
 uO zb3 (V.agg [(uc 0),(uc 0),V.nils]) fun t8 =>
 uT 3 t8 t21 fun _ =>
 uL (Ax.un .not t22) fun t24 =>
 M.ite t24
 (M.pure (.ex 0 [(ug L 0)]))
 (uS 3 t8 fun t26 =>
 (zbQ zb3 1 [(uc 0),(uc 0),V.nils] [(0,3,t26)]).bind fun t27 =>
 (zay zb3 3 40 (ug L 0) t27).bind fun t28 =>
 M.pure (.nrm [t28]))) fun L0 =>
 uB .add (ug L 1) (uc 1) fun t29 =>
 M.pure (.nrm [(ug L0 0),t29]))
 (M.pure (.ex 0 [(ug L 0)]))
def zf2 (G:Sem') (t0 t1 t2:V):M Res :=
 M.blk 0 (
 M.iter (zdm G t2 t0 t1 V.nils) [V.nils,(uc 0)]) fun L1 =>
 M.pure (.ret [(ug L1 0)])
theorem zif {t0 t1 t2:V}:OkT zbT [t0,t1,t2] (zf2 (sem T) t0 t1 t2):=okT (by kernel_rfl) (by kernel_rfl) (by kernel_rfl)
def zdb (G:Sem') (t0:V):M Res :=
 uO zb3 (V.agg [(uc 0),(uc 0),V.nils]) fun t2 =>
 uO zb3 (V.agg [(uc 0),(uc 0),V.nils]) fun t4 =>
 uNFM 1 t0 fun t9 =>
 uL (vlen t9) fun t10 =>
 uB .eql t10 (uc 0) fun t11 =>
 M.ite t11
 (uS 3 t4 fun t12 =>
 uT 3 t2 t12 fun _ =>
 uS 3 t2 fun r0 =>
 M.pure (.ret [r0,(V.bool false)]))
 (uNFM 1 t0 fun t16 =>
 uI none 3 t16 (uc 0) fun t17 =>
 uS 3 t17 fun t18 =>
 uO zb3 (V.agg [(uc 0),(uc 0),V.nils]) fun t5 =>
 uT 3 t5 t18 fun _ =>
 uNFM 1 t0 fun t23 =>
 uL (zaN .sl 3 t23 (some (uc 1)) none none) fun t24 =>
 uNF 1 t0 fun t26 =>
 uT 1 t26 t24 fun _ =>
 uS 3 t5 fun t27 =>
 uT 3 t2 t27 fun _ =>
 uS 3 t2 fun r0 =>
 M.pure (.ret [r0,(V.bool true)]))
theorem ze6 {t0:V}:OkT zbc [t0] (zdb (sem T) t0):=okT (by kernel_rfl) (by kernel_rfl) (by kernel_rfl)
def zf6 (G:Sem') (t0 t1:V):M Res :=
 uNFM 1534 t0 fun t8 =>
 (G zc1 [t8,t1]).bind fun t10 =>
 M.pure (.ret [t10])
theorem zij {t0 t1:V}:OkT zbb [t0,t1] (zf6 (sem T) t0 t1):=okT (by kernel_rfl) (by kernel_rfl) (by kernel_rfl)
def zgE (G:Sem') (t0 t1:V):M Res :=
 uB .lss t1 (uc 0) fun t6 =>
 uG t6 false (M.pure t1) fun t8 =>
 uG t6 false (M.pure t0) fun t9 =>
 uH t6 false (Ax.nilck t9) fun t10 =>
 uH t6 false (Ax.faddr 0 t10) fun t11 =>
 uG t6 false (zar none t11) fun t12 =>
 uH t6 false (vlen t12) fun t13 =>
 uH t6 false (Ax.bin .geq t8 t13) fun t14 =>
 uL (Ax.pick t6 (V.bool true) t14) fun t15 =>
 M.ite t15
 (M.pure (.ret [(uc 0)]))
 (uNFM 0 t0 fun t19 =>
 uI none 1 t19 t1 fun t21 =>
 (G zb4 [t21]).bind fun t22 =>
 M.pure (.ret [t22]))
theorem ziZ {t0 t1:V}:OkT zc1 [t0,t1] (zgE (sem T) t0 t1):=okT (by kernel_rfl) (by kernel_rfl) (by kernel_rfl)
def zdq (G:Sem') (t0:V):M Res :=
 uNF 0 t0 fun t5 =>
 (zeD .i64 t5).bind fun t6 =>
 M.pure (.ret [t6])
theorem zfu {t0:V}:OkT zb4 [t0] (zdq (sem T) t0):=okT (by kernel_rfl) (by kernel_rfl) (by kernel_rfl)
def zep (G:Sem') (t0:V):M Res :=
 uO zab t0 fun t1 =>
 uS 7 t1 fun t6 =>
 (G zby [t6]).bind fun t7 =>
 uE 0 t7 fun t8 =>
 uE 1 t7 fun t9 =>
 M.pure (.ret [t8])
theorem zgO {t0:V}:OkT zaZ [t0] (zep (sem T) t0):=okT (by kernel_rfl) (by kernel_rfl) (by kernel_rfl)
def zdT (G:Sem') (t0:V):M Res :=
 uO zab t0 fun t1 =>
 uS 7 t1 fun t5 =>
 (G zas [t5]).bind fun t6 =>
 uL (Ax.un .not t6) fun t7 =>
 M.ite t7
 (M.pure (.ret [V.nils,(uc 1)]))
 (uFM 0 t1 fun t9 =>
 uL (Ax.cint .u8 t9) fun t10 =>
 uFM 1 t1 fun t12 =>
 uL (Ax.cint .u8 t12) fun t13 =>
 uFM 2 t1 fun t15 =>
 uL (Ax.cint .u8 t15) fun t16 =>
 (zbQ zaw 3 [(ub 0)] [(0,1,t10),(1,1,t13),(2,1,t16)]).bind fun t17 =>
 uFM 3 t1 fun t20 =>
 uL (Ax.cint .u64 t20) fun t21 =>
 (G za6 [t17,t21,(uc 2)]).bind fun t22 =>
 uFM 4 t1 fun t25 =>
 uL (Ax.cint .u64 t25) fun t26 =>
 (G za6 [t22,t26,(uc 2)]).bind fun t27 =>
 uFM 5 t1 fun t30 =>
 uL (Ax.cint .u64 t30) fun t31 =>
 (G za6 [t27,t31,(uc 2)]).bind fun t32 =>
 uFM 6 t1 fun t35 =>
 uL (vlen t35) fun t36 =>
 uL (Ax.cint .u64 t36) fun t37 =>
 uF 6 t1 fun t39 =>
 uM t39 fun t40 =>
 M.getH.bind fun h0 =>
 (G za6 [t32,t37,(uc 2)]).bind fun t38 =>
 M.getH.bind fun h0' =>
 uU t39 h0 h0' fun _ =>
 (zay zaw 1 1 t38 t40).bind fun t41 =>
 M.pure (.ret [t41,(uc 0)]))
theorem zgh {t0:V}:OkT zby [t0] (zdT (sem T) t0):=okT (by kernel_rfl) (by kernel_rfl) (by kernel_rfl)
def zbY (G:Sem') (t0:V):M Res :=
 uO zab t0 fun t1 =>
 uFM 0 t1 fun t6 =>
 (G zaU [t6]).bind fun t7 =>
 uB .eql t7 (V.str ⟨#[]⟩) fun t9 =>
 uH t9 false (Ax.faddr 1 t1) fun t11 =>
 uG t9 false (zar none t11) fun t12 =>
 uG t9 false (G zaH [t12,(uc 0),(uc 3)]) fun t13 =>
 uH t9 false (Ax.un .not t13) fun t14 =>
 uL (Ax.pick t9 (V.bool true) t14) fun t15 =>
 uH t15 false (Ax.faddr 2 t1) fun t17 =>
 uG t15 false (zar none t17) fun t18 =>
 uG t15 false (G zaH [t18,(uc 0),(uc 7)]) fun t19 =>
 uH t15 false (Ax.un .not t19) fun t20 =>
 uL (Ax.pick t15 (V.bool true) t20) fun t21 =>
 uH t21 false (Ax.faddr 3 t1) fun t23 =>
 uG t21 false (zar none t23) fun t24 =>
 uG t21 false (G zaH [t24,(uc 0),(uc 65535)]) fun t25 =>
 uH t21 false (Ax.un .not t25) fun t26 =>
 uL (Ax.pick t21 (V.bool true) t26) fun t27 =>
 uH t27 false (Ax.faddr 4 t1) fun t29 =>
 uG t27 false (zar none t29) fun t30 =>
 uG t27 false (G zaH [t30,(uc 0),(uc 65535)]) fun t31 =>
 uH t27 false (Ax.un .not t31) fun t32 =>
 uL (Ax.pick t27 (V.bool true) t32) fun t33 =>
 uH t33 false (Ax.faddr 5 t1) fun t35 =>
 uG t33 false (zar none t35) fun t36 =>
 uG t33 false (G zaH [t36,(uc 0),(uc 65535)]) fun t37 =>
 uH t33 false (Ax.un .not t37) fun t38 =>
 uL (Ax.pick t33 (V.bool true) t38) fun t39 =>
 uH t39 false (Ax.faddr 6 t1) fun t41 =>
 uG t39 false (zar none t41) fun t42 =>
 uH t39 false (vlen t42) fun t43 =>
 uH t39 false (Ax.bin .gtr t43 (uc 200)) fun t44 =>
 uL (Ax.pick t39 (V.bool true) t44) fun t45 =>
 M.ite t45
 (M.pure (.ret [(V.bool false)]))
 ((G zaF [t7,(ub 114)]).bind fun t47 =>
 uL (Ax.un .not t47) fun t48 =>
 uH t48 true (Ax.faddr 1 t1) fun t50 =>
 uG t48 true (zar none t50) fun t51 =>
 uH t48 true (Ax.bin .neq t51 (uc 0)) fun t52 =>
 uL (Ax.pick t48 t52 (V.bool false)) fun t53 =>
 uG t53 false (M.pure t7) fun t55 =>
 uG t53 false (G zaF [t55,(ub 115)]) fun t56 =>
 uH t53 false (Ax.un .not t56) fun t57 =>
 uG t53 false (M.pure t57) fun t58 =>
 uH t58 true (Ax.faddr 2 t1) fun t59 =>
 uG t58 true (zar none t59) fun t60 =>
 uH t58 true (Ax.bin .neq t60 (uc 0)) fun t61 =>
 uH t53 false (Ax.pick t58 t61 (V.bool false)) fun t62 =>
 uL (Ax.pick t53 (V.bool true) t62) fun t63 =>
 uG t63 false (M.pure t7) fun t65 =>
 uG t63 false (G zaF [t65,(ub 101)]) fun t66 =>
 uH t63 false (Ax.un .not t66) fun t67 =>
 uG t63 false (M.pure t67) fun t68 =>
 uH t68 true (Ax.faddr 3 t1) fun t69 =>
 uG t68 true (zar none t69) fun t70 =>
 uH t68 true (Ax.bin .neq t70 (uc 0)) fun t71 =>
 uH t63 false (Ax.pick t68 t71 (V.bool false)) fun t72 =>
 uL (Ax.pick t63 (V.bool true) t72) fun t73 =>
 uG t73 false (M.pure t7) fun t75 =>
 uG t73 false (G zaF [t75,(ub 110)]) fun t76 =>
 uH t73 false (Ax.un .not t76) fun t77 =>
 uG t73 false (M.pure t77) fun t78 =>
 uH t78 true (Ax.faddr 4 t1) fun t79 =>
 uG t78 true (zar none t79) fun t80 =>
 uH t78 true (Ax.bin .neq t80 (uc 0)) fun t81 =>
 uH t73 false (Ax.pick t78 t81 (V.bool false)) fun t82 =>
 uL (Ax.pick t73 (V.bool true) t82) fun t83 =>
 uG t83 false (M.pure t7) fun t85 =>
 uG t83 false (G zaF [t85,(ub 109)]) fun t86 =>
 uH t83 false (Ax.un .not t86) fun t87 =>
 uG t83 false (M.pure t87) fun t88 =>
 uH t88 true (Ax.faddr 5 t1) fun t89 =>
 uG t88 true (zar none t89) fun t90 =>
 uH t88 true (Ax.bin .neq t90 (uc 0)) fun t91 =>
 uH t83 false (Ax.pick t88 t91 (V.bool false)) fun t92 =>
 uL (Ax.pick t83 (V.bool true) t92) fun t93 =>
 uG t93 false (M.pure t7) fun t95 =>
 uG t93 false (G zaF [t95,(ub 98)]) fun t96 =>
 uH t93 false (Ax.un .not t96) fun t97 =>
 uG t93 false (M.pure t97) fun t98 =>
 uH t98 true (Ax.faddr 6 t1) fun t99 =>
 uG t98 true (zar none t99) fun t100 =>
 uH t98 true (vlen t100) fun t101 =>
 uH t98 true (Ax.bin .gtr t101 (uc 0)) fun t102 =>
 uH t93 false (Ax.pick t98 t102 (V.bool false)) fun t103 =>
 uL (Ax.pick t93 (V.bool true) t103) fun t104 =>
 M.ite t104
 (M.pure (.ret [(V.bool false)]))
 (uFM 4 t1 fun t106 =>
 uB .lss t106 (uc 256) fun t107 =>
 M.join (M.ite t107
 (uFM 4 t1 fun t109 =>
 uFM 2 t1 fun t111 =>
 uL (Ax.cint .u64 t111) fun t112 =>
 uB .shr t109 t112 fun t113 =>
 uB .and t113 (uc 1) fun t114 =>
 uB .eql t114 (uc 1) fun t115 =>
 M.pure (.nrm [t115]))
 (M.pure (.nrm [(V.bool false)]))) fun L0 =>
 uFM 0 t1 fun t117 =>
 M.blk 0 (
 uB .eql t117 (uc 4) fun t119 =>
 M.ite t119
 (uFM 4 t1 fun t121 =>
 uB .lss t121 (uc 3) fun t122 =>
 uH t122 true (Ax.faddr 6 t1) fun t124 =>
 uG t122 true (zar none t124) fun t125 =>
 uH t122 true (vlen t125) fun t126 =>
 uH t122 true (Ax.bin .eql t126 (uc 4)) fun t127 =>
 uL (Ax.pick t122 t127 (V.bool false)) fun t128 =>
 M.pure (.ret [t128]))
 (uB .eql t117 (uc 5) fun t130 =>
 M.ite t130
 (uFM 4 t1 fun t132 =>
 uB .lss t132 (uc 4) fun t133 =>
 uH t133 true (Ax.faddr 5 t1) fun t135 =>
 uG t133 true (zar none t135) fun t136 =>
 uH t133 true (Ax.bin .lss t136 (uc 8)) fun t137 =>
 uL (Ax.pick t133 t137 (V.bool false)) fun t138 =>
 M.pure (.ret [t138]))
 (uB .eql t117 (uc 7) fun t140 =>
 M.join (M.ite t140
 (M.pure (.nrm [t140]))
 (uB .eql t117 (uc 21) fun t141 =>
 M.pure (.nrm [t141]))) fun L1 =>
 M.ite (ug L1 0)
 (uFM 4 t1 fun t143 =>
 uB .lss t143 (uc 32) fun t144 =>
 uH t144 true (Ax.faddr 6 t1) fun t146 =>
 uG t144 true (zar none t146) fun t147 =>
 uH t144 true (vlen t147) fun t148 =>
 uH t144 true (Ax.bin .gtr t148 (uc 0)) fun t149 =>
 uL (Ax.pick t144 t149 (V.bool false)) fun t150 =>
 M.pure (.ret [t150]))
 (uB .eql t117 (uc 17) fun t152 =>
 M.ite t152
 (uFM 4 t1 fun t154 =>
 uB .lss t154 (uc 256) fun t155 =>
 uG t155 true (M.pure (ug L0 0)) fun t157 =>
 uL (Ax.pick t155 t157 (V.bool false)) fun t158 =>
 uH t158 true (Ax.faddr 5 t1) fun t160 =>
 uG t158 true (zar none t160) fun t161 =>
 uH t158 true (Ax.faddr 3 t1) fun t162 =>
 uG t158 true (zar none t162) fun t163 =>
 uH t158 true (Ax.bin .geq t161 t163) fun t164 =>
 uL (Ax.pick t158 t164 (V.bool false)) fun t165 =>
 uG t165 true (zar (some 7) t1) fun t167 =>
 uG t165 true (G zbx [t167]) fun t168 =>
 uL (Ax.pick t165 t168 (V.bool false)) fun t169 =>
 M.pure (.ret [t169]))
 (uB .eql t117 (uc 18) fun t171 =>
 M.ite t171
 (uFM 4 t1 fun t173 =>
 (G zaH [t173,(uc 1),(uc 13)]).bind fun t174 =>
 uH t174 true (Ax.faddr 5 t1) fun t176 =>
 uG t174 true (zar none t176) fun t177 =>
 uH t174 true (Ax.bin .leq t177 (uc 9)) fun t178 =>
 uL (Ax.pick t174 t178 (V.bool false)) fun t179 =>
 M.pure (.ret [t179]))
 (uB .eql t117 (uc 19) fun t181 =>
 M.ite t181
 (uFM 4 t1 fun t183 =>
 uB .lss t183 (uc 256) fun t184 =>
 uG t184 true (M.pure (ug L0 0)) fun t186 =>
 uL (Ax.pick t184 t186 (V.bool false)) fun t187 =>
 uH t187 true (Ax.faddr 5 t1) fun t189 =>
 uG t187 true (zar none t189) fun t190 =>
 uH t187 true (Ax.bin .leq t190 (uc 63)) fun t191 =>
 uL (Ax.pick t187 t191 (V.bool false)) fun t192 =>
 M.pure (.ret [t192]))
 (uB .eql t117 (uc 20) fun t194 =>
 M.ite t194
 (uFM 4 t1 fun t196 =>
 uB .lss t196 (uc 256) fun t197 =>
 uG t197 true (M.pure (ug L0 0)) fun t199 =>
 uH t197 true (Ax.un .not t199) fun t200 =>
 uL (Ax.pick t197 t200 (V.bool false)) fun t201 =>
 M.pure (.ret [t201]))
 (uB .eql t117 (uc 24) fun t203 =>
 M.ite t203
 (uFM 6 t1 fun t205 =>
 uL (vlen t205) fun t206 =>
 uB .eql t206 (uc 4) fun t207 =>
 M.pure (.ret [t207]))
 (M.pure (.nrm [])))))))))) fun _ =>
 M.pure (.ret [(V.bool true)])))
theorem zcC {t0:V}:OkT zas [t0] (zbY (sem T) t0):=okT (by kernel_rfl) (by kernel_rfl) (by kernel_rfl)
def zbD (G:Sem') (t0:V):M Res :=
 M.blk 0 (
 uB .eql t0 (uc 1) fun t5 =>
 M.ite t5
 (M.pure (.ret [(V.str ⟨#[114]⟩)]))
 (uB .eql t0 (uc 2) fun t7 =>
 M.join (M.ite t7
 (M.pure (.nrm [t7]))
 (uB .eql t0 (uc 9) fun t8 =>
 M.join (M.ite t8
 (M.pure (.nrm [t8]))
 (uB .eql t0 (uc 23) fun t9 =>
 M.pure (.nrm [t9]))) fun L0 =>
 M.pure (.nrm [(ug L0 0)]))) fun L1 =>
 M.ite (ug L1 0)
 (M.pure (.ret [(V.str ⟨#[45]⟩)]))
 (uB .eql t0 (uc 3) fun t11 =>
 M.join (M.ite t11
 (M.pure (.nrm [t11]))
 (uB .eql t0 (uc 6) fun t12 =>
 M.pure (.nrm [t12]))) fun L2 =>
 M.ite (ug L2 0)
 (M.pure (.ret [(V.str ⟨#[115]⟩)]))
 (uB .eql t0 (uc 4) fun t14 =>
 M.ite t14
 (M.pure (.ret [(V.str ⟨#[110,109,98]⟩)]))
 (uB .eql t0 (uc 5) fun t16 =>
 M.ite t16
 (M.pure (.ret [(V.str ⟨#[115,110,109]⟩)]))
 (uB .eql t0 (uc 7) fun t18 =>
 M.join (M.ite t18
 (M.pure (.nrm [t18]))
 (uB .eql t0 (uc 21) fun t19 =>
 M.pure (.nrm [t19]))) fun L3 =>
 M.ite (ug L3 0)
 (M.pure (.ret [(V.str ⟨#[115,101,110,98]⟩)]))
 (uB .eql t0 (uc 8) fun t21 =>
 M.join (M.ite t21
 (M.pure (.nrm [t21]))
 (uB .eql t0 (uc 22) fun t22 =>
 M.pure (.nrm [t22]))) fun L4 =>
 M.ite (ug L4 0)
 (M.pure (.ret [(V.str ⟨#[101]⟩)]))
 (uB .eql t0 (uc 17) fun t24 =>
 M.ite t24
 (M.pure (.ret [(V.str ⟨#[114,115,101,110,109,98]⟩)]))
 (uB .eql t0 (uc 18) fun t26 =>
 M.ite t26
 (M.pure (.ret [(V.str ⟨#[110,109]⟩)]))
 (uB .eql t0 (uc 19) fun t28 =>
 M.ite t28
 (M.pure (.ret [(V.str ⟨#[115,101,110,109]⟩)]))
 (uB .eql t0 (uc 20) fun t30 =>
 M.ite t30
 (M.pure (.ret [(V.str ⟨#[115,101,110]⟩)]))
 (uB .eql t0 (uc 24) fun t32 =>
 M.ite t32
 (M.pure (.ret [(V.str ⟨#[115,98]⟩)]))
 (M.pure (.nrm [])))))))))))))) fun _ =>
 M.pure (.ret [(V.str ⟨#[]⟩)])
theorem zcg {t0:V}:OkT zaU [t0] (zbD (sem T) t0):=okT (by kernel_rfl) (by kernel_rfl) (by kernel_rfl)
def ze2 (G:Sem') (t0 t1 t2:V):M Res :=
 uB .geq t0 t1 fun t9 =>
 uG t9 true (M.pure t0) fun t11 =>
 uG t9 true (M.pure t2) fun t12 =>
 uH t9 true (Ax.bin .leq t11 t12) fun t13 =>
 uL (Ax.pick t9 t13 (V.bool false)) fun t14 =>
 M.pure (.ret [t14])
theorem zhp {t0 t1 t2:V}:OkT zaH [t0,t1,t2] (ze2 (sem T) t0 t1 t2):=okT (by kernel_rfl) (by kernel_rfl) (by kernel_rfl)
def zcH (G:Sem') (t0 t1:V) (L:List V):M Res :=
 uL (Ax.slen t0) fun t8 =>
 uB .lss (ug L 0) t8 fun t9 =>
 M.ite t9
 (M.blk 1 (
 uL (Ax.sindex t0 (ug L 0)) fun t14 =>
 uB .eql t14 t1 fun t16 =>
 M.ite t16
 (M.pure (.ret [(V.bool true)]))
 (M.pure (.nrm []))) fun _ =>
 uB .add (ug L 0) (uc 1) fun t11 =>
 M.pure (.nrm [t11]))
 (M.pure (.ex 0 []))
def zeC (G:Sem') (t0 t1:V):M Res :=
 M.blk 0 (
 M.iter (zcH G t0 t1) [(uc 0)]) fun _ =>
 M.pure (.ret [(V.bool false)])
theorem zgW {t0 t1:V}:OkT zaF [t0,t1] (zeC (sem T) t0 t1):=okT (by kernel_rfl) (by kernel_rfl) (by kernel_rfl)
def zcl (G:Sem') (t1:V) (L:List V):M Res :=
 uB .lss (ug L 0) (uc 8) fun t10 =>
 M.ite t10
 (M.blk 1 (
 uFM 4 t1 fun t14 =>
 uL (Ax.cint .u64 (ug L 0)) fun t16 =>
 uB .shr t14 t16 fun t17 =>
 uB .and t17 (uc 1) fun t18 =>
 uB .eql t18 (uc 1) fun t19 =>
 uH t19 true (Ax.faddr 6 t1) fun t22 =>
 uG t19 true (zar none t22) fun t23 =>
 uG t19 true (M.pure (ug L 0)) fun t24 =>
 uH t19 true (Ax.iaddr none 1 t23 t24) fun t25 =>
 uG t19 true (zar none t25) fun t26 =>
 uH t19 true (Ax.bin .gtr t26 (ub 63)) fun t27 =>
 uL (Ax.pick t19 t27 (V.bool false)) fun t28 =>
 uG t28 false (M.pure t19) fun t30 =>
 uH t28 false (Ax.un .not t30) fun t31 =>
 uG t28 false (M.pure t31) fun t32 =>
 uH t32 true (Ax.faddr 6 t1) fun t33 =>
 uG t32 true (zar none t33) fun t34 =>
 uG t32 true (M.pure (ug L 0)) fun t35 =>
 uH t32 true (Ax.iaddr none 1 t34 t35) fun t36 =>
 uG t32 true (zar none t36) fun t37 =>
 uH t32 true (Ax.bin .neq t37 (ub 255)) fun t38 =>
 uH t28 false (Ax.pick t32 t38 (V.bool false)) fun t39 =>
 uL (Ax.pick t28 (V.bool true) t39) fun t40 =>
 M.ite t40
 (M.pure (.ret [(V.bool false)]))
 (M.pure (.nrm []))) fun _ =>
 uB .add (ug L 0) (uc 1) fun t12 =>
 M.pure (.nrm [t12]))
 (M.pure (.ex 0 []))
def zdR (G:Sem') (t0:V):M Res :=
 uO zab t0 fun t1 =>
 uFM 6 t1 fun t6 =>
 uL (vlen t6) fun t7 =>
 uB .neq t7 (uc 8) fun t8 =>
 M.ite t8
 (M.pure (.ret [(V.bool false)]))
 (M.blk 0 (
 M.iter (zcl G t1) [(uc 0)]) fun _ =>
 M.pure (.ret [(V.bool true)]))
theorem zgf {t0:V}:OkT zbx [t0] (zdR (sem T) t0):=okT (by kernel_rfl) (by kernel_rfl) (by kernel_rfl)
def zdk (G:Sem') (t1 t6:V) (L:List V):M Res :=
 uB .geq (ug L 1) (uc 0) fun t15 =>
 M.ite t15
 (M.blk 1 (
 uB .mul (uc 8) (ug L 1) fun t21 =>
 uL (Ax.cint .u64 t21) fun t22 =>
 uB .shr t1 t22 fun t23 =>
 uL (Ax.cint .u8 t23) fun t24 =>
 (zbQ zaw 1 [(ub 0)] [(0,1,t24)]).bind fun t25 =>
 (zay zaw 1 1 (ug L 0) t25).bind fun t26 =>
 M.pure (.nrm [t26])) fun L0 =>
 uB .sub (ug L 1) (uc 1) fun t17 =>
 M.pure (.nrm [(ug L0 0),t17]))
 (M.pure (.ex 0 [(ug L 0)]))
def zfZ (G:Sem') (t0 t1 t2:V):M Res :=
 (zbQ zaw 0 [(ub 0)] []).bind fun t9 =>
 (zay zaw 1 1 t9 t0).bind fun t11 =>
 uB .sub t2 (uc 1) fun t13 =>
 M.blk 0 (
 M.iter (zdk G t1 V.nils) [t11,t13]) fun L1 =>
 M.pure (.ret [(ug L1 0)])
theorem zic {t0 t1 t2:V}:OkT za6 [t0,t1,t2] (zfZ (sem T) t0 t1 t2):=okT (by kernel_rfl) (by kernel_rfl) (by kernel_rfl)
def zgK (G:Sem') (t0 t1:V):M Res :=
 uO zav (V.agg [(V.bool false),(V.bool false),(V.bool false),(V.bool false),(V.bool false),(V.bool false),(V.bool false),(V.bool false),(uc 0),(uc 0),(uc 0),(uc 0),(uc 0),(uc 0),(uc 0),(uc 0),(uc 0),(V.bool false),(uc 0),(uc 0),(uc 0),(uc 0),(uc 0),(uc 0),(uc 0),(uc 0),(uc 0),(uc 0),(uc 0),(uc 0),(uc 0),(uc 0),(uc 0),(uc 0),(uc 0),(uc 0),(uc 0),(uc 0),(V.bool false)]) fun t4 =>
 uB .lss t1 (uc 0) fun t7 =>
 uG t7 false (M.pure t1) fun t9 =>
 uH t7 false (Ax.bin .geq t9 (uc 4)) fun t10 =>
 uL (Ax.pick t7 (V.bool true) t10) fun t11 =>
 M.ite t11
 (uL (Ax.build [(V.bool false),(V.bool false),(V.bool false),(V.bool false),(V.bool false),(V.bool false),(V.bool false),(V.bool false),(uc 0),(uc 0),(uc 0),(uc 0),(uc 0),(uc 0),(uc 0),(uc 0),(uc 0),(V.bool false),(uc 0),(uc 0),(uc 0),(uc 0),(uc 0),(uc 0),(uc 0),(uc 0),(uc 0),(uc 0),(uc 0),(uc 0),(uc 0),(uc 0),(uc 0),(uc 0),(uc 0),(uc 0),(uc 0),(uc 0),(V.bool false)] []) fun t12 =>
 uT 39 t4 t12 fun _ =>
 uS 39 t4 fun r0 =>
 M.pure (.ret [r0,(V.bool false)]))
 (uNF 0 t0 fun t16 =>
 uI (some 4) 367 t16 t1 fun t17 =>
 uF 0 t17 fun t18 =>
 uS 39 t18 fun t19 =>
 uT 39 t4 t19 fun _ =>
 uS 39 t4 fun r0 =>
 M.pure (.ret [r0,(V.bool true)]))
theorem zi5 {t0 t1:V}:OkT zbG [t0,t1] (zgK (sem T) t0 t1):=okT (by kernel_rfl) (by kernel_rfl) (by kernel_rfl)
def zf5 (G:Sem') (t0 t1:V):M Res :=
 (G zel [t1]).bind fun t6 =>
 uL (Ax.un .not t6) fun t7 =>
 M.ite t7
 (M.pure (.ret [(uc 0)]))
 (uNF 1470 t0 fun t11 =>
 uIM (some 64) 1 t11 t1 fun t13 =>
 (G zb5 [t13]).bind fun t14 =>
 M.pure (.ret [t14]))
theorem zii {t0 t1:V}:OkT zaM [t0,t1] (zf5 (sem T) t0 t1):=okT (by kernel_rfl) (by kernel_rfl) (by kernel_rfl)
def zds (G:Sem') (t0:V):M Res :=
 uNFM 1 t0 fun t6 =>
 uL (vlen t6) fun t7 =>
 M.pure (.ret [t7])
theorem zfw {t0:V}:OkT zb5 [t0] (zds (sem T) t0):=okT (by kernel_rfl) (by kernel_rfl) (by kernel_rfl)
def zdU (G:Sem') (t0 t1 t2:V):M Res :=
 uL (Ax.build [(uc 0),(uc 0),(uc 0),(uc 0),(uc 0),(uc 0),V.nils] [(0,1,(uc 1)),(1,1,t2)]) fun t15 =>
 (G zaZ [t15]).bind fun t16 =>
 uL (Ax.build [(uc 0),(uc 0),(uc 0),V.nils] [(0,1,(uc 2)),(1,1,t1),(3,1,t16)]) fun t17 =>
 (G zaS [t0,t17]).bind fun t18 =>
 uL (Ax.build [(uc 0),(uc 0),(uc 0),V.nils] [(0,1,(uc 5)),(1,1,t1),(2,1,(uc 32))]) fun t22 =>
 (G zaS [t0,t22]).bind fun t23 =>
 uE 0 t23 fun t24 =>
 uE 1 t23 fun t25 =>
 uB .neq t25 (uc 0) fun t27 =>
 uG t27 false (M.pure t24) fun t29 =>
 uH t27 false (vlen t29) fun t30 =>
 uH t27 false (Ax.bin .eql t30 (uc 0)) fun t31 =>
 uL (Ax.pick t27 (V.bool true) t31) fun t32 =>
 M.ite t32
 (M.pure (.ret [(uc 0),(V.bool false)]))
 (uL (vlen t24) fun t36 =>
 uB .sub t36 (uc 1) fun t37 =>
 uI none 3 t24 t37 fun t38 =>
 uFM 2 t38 fun t40 =>
 (G za7 [t40]).bind fun t41 =>
 uE 0 t41 fun t42 =>
 uE 1 t41 fun t43 =>
 uO zab (V.agg [(uc 0),(uc 0),(uc 0),(uc 0),(uc 0),(uc 0),V.nils]) fun t10 =>
 uT 7 t10 t42 fun _ =>
 uFM 2 t10 fun t45 =>
 uB .eql t43 (uc 0) fun t47 =>
 uH t47 true (Ax.faddr 0 t10) fun t49 =>
 uG t47 true (zar none t49) fun t50 =>
 uH t47 true (Ax.bin .eql t50 (uc 17)) fun t51 =>
 uL (Ax.pick t47 t51 (V.bool false)) fun t52 =>
 uH t52 true (Ax.faddr 1 t10) fun t54 =>
 uG t52 true (zar none t54) fun t55 =>
 uG t52 true (M.pure t2) fun t56 =>
 uH t52 true (Ax.bin .eql t55 t56) fun t57 =>
 uL (Ax.pick t52 t57 (V.bool false)) fun t58 =>
 M.pure (.ret [t45,t58]))
theorem zgi {t0 t1 t2:V}:OkT za8 [t0,t1,t2] (zdU (sem T) t0 t1 t2):=okT (by kernel_rfl) (by kernel_rfl) (by kernel_rfl)
end Go.Ax
/- FnS9 -/
namespace Go.Ax
open Go.Proofs
def zdS (G:Sem') (t0:V):M Res :=
 uO zab (V.agg [(uc 0),(uc 0),(uc 0),(uc 0),(uc 0),(uc 0),V.nils]) fun t2 =>
 uL (vlen t0) fun t7 =>
 uB .lss t7 (uc 11) fun t8 =>
 M.ite t8
 (uL (Ax.build [(uc 0),(uc 0),(uc 0),(uc 0),(uc 0),(uc 0),V.nils] []) fun t9 =>
 uT 7 t2 t9 fun _ =>
 uS 7 t2 fun r0 =>
 M.pure (.ret [r0,(uc 3)]))
 (uI none 1 t0 (uc 0) fun t11 =>
 uM t11 fun t12 =>
 uL (Ax.cint .i64 t12) fun t13 =>
 uI none 1 t0 (uc 1) fun t15 =>
 uM t15 fun t16 =>
 uL (Ax.cint .i64 t16) fun t17 =>
 uI none 1 t0 (uc 2) fun t19 =>
 uM t19 fun t20 =>
 uL (Ax.cint .i64 t20) fun t21 =>
 M.getH.bind fun h0 =>
 (G zaE [t0,(uc 3)]).bind fun t23 =>
 M.getH.bind fun h0' =>
 uU t19 h0 h0' fun _ =>
 uU t15 h0 h0' fun _ =>
 uU t11 h0 h0' fun _ =>
 M.getH.bind fun h1 =>
 (G zaE [t0,(uc 5)]).bind fun t25 =>
 M.getH.bind fun h1' =>
 uU t19 h1 h1' fun _ =>
 uU t15 h1 h1' fun _ =>
 uU t11 h1 h1' fun _ =>
 M.getH.bind fun h2 =>
 (G zaE [t0,(uc 7)]).bind fun t27 =>
 M.getH.bind fun h2' =>
 uU t19 h2 h2' fun _ =>
 uU t15 h2 h2' fun _ =>
 uU t11 h2 h2' fun _ =>
 uL (Ax.build [(uc 0),(uc 0),(uc 0),(uc 0),(uc 0),(uc 0),V.nils] [(0,1,t13),(1,1,t17),(2,1,t21),(3,1,t23),(4,1,t25),(5,1,t27),(6,1,V.nils)]) fun t28 =>
 uO zab (V.agg [(uc 0),(uc 0),(uc 0),(uc 0),(uc 0),(uc 0),V.nils]) fun t4 =>
 uT 7 t4 t28 fun _ =>
 (G zaE [t0,(uc 9)]).bind fun t30 =>
 M.blk 0 (
 uB .gtr t30 (uc 200) fun t33 =>
 M.ite t33
 (uL (Ax.build [(uc 0),(uc 0),(uc 0),(uc 0),(uc 0),(uc 0),V.nils] []) fun t34 =>
 uT 7 t2 t34 fun _ =>
 uS 7 t2 fun r0 =>
 M.pure (.ret [r0,(uc 4)]))
 (uL (vlen t0) fun t38 =>
 uB .sub t38 (uc 11) fun t39 =>
 uB .gtr t30 t39 fun t40 =>
 M.ite t40
 (uL (Ax.build [(uc 0),(uc 0),(uc 0),(uc 0),(uc 0),(uc 0),V.nils] []) fun t41 =>
 uT 7 t2 t41 fun _ =>
 uS 7 t2 fun r0 =>
 M.pure (.ret [r0,(uc 3)]))
 (uL (vlen t0) fun t45 =>
 uB .sub t45 (uc 11) fun t46 =>
 uB .lss t30 t46 fun t47 =>
 M.ite t47
 (uL (Ax.build [(uc 0),(uc 0),(uc 0),(uc 0),(uc 0),(uc 0),V.nils] []) fun t48 =>
 uT 7 t2 t48 fun _ =>
 uS 7 t2 fun r0 =>
 M.pure (.ret [r0,(uc 2)]))
 (M.pure (.nrm []))))) fun _ =>
 (zbQ zaw 0 [(ub 0)] []).bind fun t49 =>
 uL (zaN .sl 1 t0 (some (uc 11)) none none) fun t51 =>
 (zay zaw 1 1 t49 t51).bind fun t52 =>
 uF 6 t4 fun t53 =>
 uT 1 t53 t52 fun _ =>
 uS 7 t4 fun t54 =>
 (G zas [t54]).bind fun t55 =>
 uL (Ax.un .not t55) fun t56 =>
 M.ite t56
 (uL (Ax.build [(uc 0),(uc 0),(uc 0),(uc 0),(uc 0),(uc 0),V.nils] []) fun t57 =>
 uT 7 t2 t57 fun _ =>
 uS 7 t2 fun r0 =>
 M.pure (.ret [r0,(uc 2)]))
 (uS 7 t4 fun t58 =>
 uT 7 t2 t58 fun _ =>
 uS 7 t2 fun r0 =>
 M.pure (.ret [r0,(uc 0)])))
theorem zgg {t0:V}:OkT za7 [t0] (zdS (sem T) t0):=okT (by kernel_rfl) (by kernel_rfl) (by kernel_rfl)
def zeB (G:Sem') (t0 t1:V):M Res :=
 uIM none 1 t0 t1 fun t8 =>
 uL (Ax.cint .i64 t8) fun t9 =>
 uB .shl t9 (uq 8) fun t10 =>
 uB .add t1 (uc 1) fun t13 =>
 uIM none 1 t0 t13 fun t15 =>
 uL (Ax.cint .i64 t15) fun t16 =>
 uB .or t10 t16 fun t17 =>
 M.pure (.ret [t17])
theorem zgV {t0 t1:V}:OkT zaE [t0,t1] (zeB (sem T) t0 t1):=okT (by kernel_rfl) (by kernel_rfl) (by kernel_rfl)
def zfn (G:Sem') (t0:V):M Res :=
 uL (vlen t0) fun t4 =>
 uB .geq t4 (uc 2) fun t5 =>
 uG t5 true (M.pure t0) fun t7 =>
 uH t5 true (Ax.iaddr none 1 t7 (uc 1)) fun t8 =>
 uG t5 true (zar none t8) fun t9 =>
 uH t5 true (Ax.bin .geq t9 (ub 192)) fun t10 =>
 uL (Ax.pick t5 t10 (V.bool false)) fun t11 =>
 uG t11 true (M.pure t0) fun t13 =>
 uH t11 true (Ax.iaddr none 1 t13 (uc 1)) fun t14 =>
 uG t11 true (zar none t14) fun t15 =>
 uH t11 true (Ax.bin .leq t15 (ub 223)) fun t16 =>
 uL (Ax.pick t11 t16 (V.bool false)) fun t17 =>
 M.pure (.ret [t17])
theorem zhK {t0:V}:OkT zcu [t0] (zfn (sem T) t0):=okT (by kernel_rfl) (by kernel_rfl) (by kernel_rfl)
def zcp (G:Sem') (t0:V) (L:List V):M Res :=
 let p:=V.int .u32 0
 uL (vlen t0) fun t17 =>
 uB .lss (ug L 1) t17 fun t18 =>
 M.ite t18
 (M.blk 1 (
 uL (vlen t0) fun t20 =>
 uB .sub t20 (ug L 1) fun t22 =>
 uB .lss t22 (uc 4) fun t23 =>
 M.ite t23
 (M.pure (.ret [V.nils,(uc 3)]))
 (uIM none 1 t0 (ug L 1) fun t27 =>
 uB .shr t27 (uq 5) fun t28 =>
 uB .neq t28 (ub 4) fun t29 =>
 uG t29 false (M.pure t0) fun t31 =>
 uG t29 false (M.pure (ug L 1)) fun t32 =>
 uH t29 false (Ax.bin .add t32 (uc 1)) fun t33 =>
 uH t29 false (Ax.iaddr none 1 t31 t33) fun t34 =>
 uG t29 false (zar none t34) fun t35 =>
 uH t29 false (Ax.bin .lss t35 (ub 192)) fun t36 =>
 uL (Ax.pick t29 (V.bool true) t36) fun t37 =>
 uG t37 false (M.pure t0) fun t39 =>
 uG t37 false (M.pure (ug L 1)) fun t40 =>
 uH t37 false (Ax.bin .add t40 (uc 1)) fun t41 =>
 uH t37 false (Ax.iaddr none 1 t39 t41) fun t42 =>
 uG t37 false (zar none t42) fun t43 =>
 uH t37 false (Ax.bin .gtr t43 (ub 223)) fun t44 =>
 uL (Ax.pick t37 (V.bool true) t44) fun t45 =>
 M.ite t45
 (M.pure (.ret [V.nils,(uc 2)]))
 (uB .add (ug L 1) (uc 2) fun t48 =>
 (G zaf [t0,t48,(uc 2)]).bind fun t49 =>
 uL (Ax.cint .i64 t49) fun t50 =>
 uB .mul (uc 4) t50 fun t51 =>
 uB .add (ug L 1) (uc 4) fun t53 =>
 uB .add t53 t51 fun t55 =>
 uL (vlen t0) fun t57 =>
 uB .gtr t55 t57 fun t58 =>
 M.ite t58
 (M.pure (.ret [V.nils,(uc 3)]))
 (uB .add (ug L 1) (uc 1) fun t62 =>
 uIM none 1 t0 t62 fun t64 =>
 uL (Ax.cint .i64 t64) fun t65 =>
 uIM none 1 t0 (ug L 1) fun t69 =>
 uB .and t69 (ub 31) fun t70 =>
 uL (Ax.cint .i64 t70) fun t71 =>
 uB .add (ug L 1) (uc 4) fun t74 =>
 uB .add (ug L 1) (uc 4) fun t76 =>
 uB .add t76 t51 fun t78 =>
 uL (zaN .sl 1 t0 (some t74) (some t78) none) fun t79 =>
 (G zbJ [t65,t71,t79]).bind fun t80 =>
 uE 0 t80 fun t81 =>
 uO zaJ (V.agg [(uc 0),p,p,(uq 0),p,p,p,V.nils,V.nils,V.nils,(uc 0),p,V.nils,(uc 0),(uc 0),V.nils]) fun t7 =>
 uT 16 t7 t81 fun _ =>
 uE 1 t80 fun t82 =>
 uL (Ax.un .not t82) fun t84 =>
 M.ite t84
 (M.pure (.ret [V.nils,(uc 2)]))
 (uS 16 t7 fun t86 =>
 (zbQ zaJ 1 [(uc 0),p,p,(uq 0),p,p,p,V.nils,V.nils,V.nils,(uc 0),p,V.nils,(uc 0),(uc 0),V.nils] [(0,16,t86)]).bind fun t87 =>
 (zay zaJ 16 192 (ug L 0) t87).bind fun t88 =>
 uB .add (ug L 1) (uc 4) fun t90 =>
 uB .add t90 t51 fun t92 =>
 M.pure (.nrm [t88,t92])))))) fun L0 =>
 M.pure (.nrm [(ug L0 0),(ug L0 1)]))
 (M.pure (.ex 0 [(ug L 0)]))
def zcK (G:Sem') (t0:V):M Res :=
 uL (vlen t0) fun t10 =>
 uB .gtr t10 (uc 1200) fun t11 =>
 M.ite t11
 (M.pure (.ret [V.nils,(uc 4)]))
 (uL (vlen t0) fun t13 =>
 uB .eql t13 (uc 0) fun t14 =>
 M.ite t14
 (M.pure (.ret [V.nils,(uc 3)]))
 (M.blk 0 (
 M.iter (zcp G t0) [V.nils,(uc 0)]) fun L1 =>
 M.pure (.ret [(ug L1 0),(uc 0)])))
theorem zer {t0:V}:OkT za2 [t0] (zcK (sem T) t0):=okT (by kernel_rfl) (by kernel_rfl) (by kernel_rfl)
def zdj (G:Sem') (t2 t0 t1 t6:V) (L:List V):M Res :=
 uB .lss (ug L 1) t2 fun t11 =>
 M.ite t11
 (M.blk 1 (
 uB .shl (ug L 0) (uq 8) fun t15 =>
 uB .add t1 (ug L 1) fun t19 =>
 uIM none 1 t0 t19 fun t21 =>
 uL (Ax.cint .u64 t21) fun t22 =>
 uB .or t15 t22 fun t23 =>
 M.pure (.nrm [t23])) fun L0 =>
 uB .add (ug L 1) (uc 1) fun t13 =>
 M.pure (.nrm [(ug L0 0),t13]))
 (M.pure (.ex 0 [(ug L 0)]))
def zfY (G:Sem') (t0 t1 t2:V):M Res :=
 M.blk 0 (
 M.iter (zdj G t2 t0 t1 (uq 0)) [(uq 0),(uc 0)]) fun L1 =>
 M.pure (.ret [(ug L1 0)])
theorem zib {t0 t1 t2:V}:OkT zaf [t0,t1,t2] (zfY (sem T) t0 t1 t2):=okT (by kernel_rfl) (by kernel_rfl) (by kernel_rfl)
def zbB (G:Sem') (t9 t8 t6 t7:V) (L:List V):M Res :=
 uL (vlen t9) fun t52 =>
 uB .lss (ug L 0) t52 fun t53 =>
 M.ite t53
 (M.blk 2 (
 uF 8 t8 fun t56 =>
 uM t56 fun t57 =>
 uB .add (ug L 0) (uc 2) fun t64 =>
 M.getH.bind fun h0 =>
 (G zaf [t9,(ug L 0),(uc 2)]).bind fun t60 =>
 M.getH.bind fun h0' =>
 uU t56 h0 h0' fun _ =>
 M.getH.bind fun h1 =>
 (G zaf [t9,t64,(uc 2)]).bind fun t65 =>
 M.getH.bind fun h1' =>
 uU t56 h1 h1' fun _ =>
 uL (Ax.cint .u16 t60) fun t61 =>
 uL (Ax.cint .u16 t65) fun t66 =>
 uL (Ax.build [(V.int .u16 0),(V.int .u16 0)] [(0,1,t61),(1,1,t66)]) fun t67 =>
 (zbQ zcM 1 [(V.int .u16 0),(V.int .u16 0)] [(0,2,t67)]).bind fun t68 =>
 (zay zcM 2 4 t57 t68).bind fun t69 =>
 uF 8 t8 fun t70 =>
 uT 1 t70 t69 fun _ =>
 M.pure (.nrm [])) fun _ =>
 uB .add (ug L 0) (uc 4) fun t55 =>
 M.pure (.nrm [t55]))
 (M.pure (.ex 1 []))
def zbA (G:Sem') (t9 t8 t6:V) (L:List V):M Res :=
 uL (vlen t9) fun t99 =>
 uB .lss (ug L 0) t99 fun t100 =>
 M.ite t100
 (M.blk 4 (
 uF 9 t8 fun t103 =>
 uM t103 fun t104 =>
 uB .add (ug L 0) (uc 4) fun t111 =>
 uI none 1 t9 t111 fun t112 =>
 uM t112 fun t113 =>
 M.getH.bind fun h2 =>
 (G zaf [t9,(ug L 0),(uc 4)]).bind fun t107 =>
 M.getH.bind fun h2' =>
 uU t112 h2 h2' fun _ =>
 uU t103 h2 h2' fun _ =>
 uL (Ax.cint .u32 t107) fun t108 =>
 uL (Ax.build [(V.int .u32 0),(ub 0)] [(0,1,t108),(1,1,t113)]) fun t114 =>
 (zbQ zc6 1 [(V.int .u32 0),(ub 0)] [(0,2,t114)]).bind fun t115 =>
 (zay zc6 2 8 t104 t115).bind fun t116 =>
 uF 9 t8 fun t117 =>
 uT 1 t117 t116 fun _ =>
 uB .add (ug L 0) (uc 5) fun t120 =>
 (G zaf [t9,t120,(uc 3)]).bind fun t121 =>
 uB .neq t121 (uq 0) fun t122 =>
 M.ite t122
 (uS 16 t8 fun t123 =>
 uT 16 t6 t123 fun _ =>
 uS 16 t6 fun r0 =>
 M.pure (.ret [r0,(V.bool false)]))
 (M.pure (.nrm []))) fun _ =>
 uB .add (ug L 0) (uc 8) fun t102 =>
 M.pure (.nrm [t102]))
 (M.pure (.ex 3 []))
def zbz (G:Sem') (t9 t8 t6:V) (L:List V):M Res :=
 uL (vlen t9) fun t153 =>
 uB .lss (ug L 0) t153 fun t154 =>
 M.ite t154
 (M.blk 6 (
 uF 12 t8 fun t157 =>
 uM t157 fun t158 =>
 M.getH.bind fun h3 =>
 (G zaf [t9,(ug L 0),(uc 4)]).bind fun t161 =>
 M.getH.bind fun h3' =>
 uU t157 h3 h3' fun _ =>
 uL (Ax.cint .u32 t161) fun t162 =>
 (zbQ zbu 1 [(V.int .u32 0)] [(0,1,t162)]).bind fun t163 =>
 (zay zbu 1 4 t158 t163).bind fun t164 =>
 uF 12 t8 fun t165 =>
 uT 1 t165 t164 fun _ =>
 M.pure (.nrm [])) fun _ =>
 uB .add (ug L 0) (uc 4) fun t156 =>
 M.pure (.nrm [t156]))
 (M.pure (.ex 5 []))
def zem (G:Sem') (t0 t1 t2:V):M Res :=
 let p:=V.int .u32 0
 uO zaJ (V.agg [(uc 0),p,p,(uq 0),p,p,p,V.nils,V.nils,V.nils,(uc 0),p,V.nils,(uc 0),(uc 0),V.nils]) fun t6 =>
 (G zbK [t0,t1,t2]).bind fun t17 =>
 uL (Ax.un .not t17) fun t18 =>
 M.ite t18
 ((zbQ zaw 0 [(ub 0)] []).bind fun t21 =>
 (zay zaw 1 1 t21 t2).bind fun t23 =>
 uL (Ax.build [(uc 0),p,p,(uq 0),p,p,p,V.nils,V.nils,V.nils,(uc 0),p,V.nils,(uc 0),(uc 0),V.nils] [(0,1,(uc 7)),(13,1,t0),(14,1,t1),(15,1,t23)]) fun t24 =>
 uT 16 t6 t24 fun _ =>
 uS 16 t6 fun r0 =>
 M.pure (.ret [r0,(V.bool true)]))
 (uB .leq t0 (uc 201) fun t26 =>
 M.ite t26
 (uB .sub t0 (uc 199) fun t28 =>
 (G zbw [t28,t1,t2]).bind fun t31 =>
 uE 0 t31 fun t32 =>
 uE 1 t31 fun t33 =>
 uT 16 t6 t32 fun _ =>
 uS 16 t6 fun r0 =>
 M.pure (.ret [r0,t33]))
 (uL (vlen t2) fun t35 =>
 uB .lss t35 (uc 8) fun t36 =>
 M.ite t36
 (uL (Ax.build [(uc 0),p,p,(uq 0),p,p,p,V.nils,V.nils,V.nils,(uc 0),p,V.nils,(uc 0),(uc 0),V.nils] []) fun t37 =>
 uT 16 t6 t37 fun _ =>
 uS 16 t6 fun r0 =>
 M.pure (.ret [r0,(V.bool false)]))
 ((G zaf [t2,(uc 0),(uc 4)]).bind fun t39 =>
 uL (Ax.cint .u32 t39) fun t40 =>
 (G zaf [t2,(uc 4),(uc 4)]).bind fun t42 =>
 uL (Ax.cint .u32 t42) fun t43 =>
 uL (Ax.build [(uc 0),p,p,(uq 0),p,p,p,V.nils,V.nils,V.nils,(uc 0),p,V.nils,(uc 0),(uc 0),V.nils] [(0,1,(uc 3)),(1,1,t40),(2,1,t43)]) fun t44 =>
 uO zaJ (V.agg [(uc 0),p,p,(uq 0),p,p,p,V.nils,V.nils,V.nils,(uc 0),p,V.nils,(uc 0),(uc 0),V.nils]) fun t8 =>
 uT 16 t8 t44 fun _ =>
 uL (zaN .sl 1 t2 (some (uc 8)) none none) fun t46 =>
 M.blk 0 (
 uB .eql t0 (uc 205) fun t49 =>
 M.ite t49
 (M.blk 1 (
 M.iter (zbB G t46 t8 t6 (V.bool false)) [(uc 0)]) fun _ =>
 uS 16 t8 fun t71 =>
 uL (vlen t46) fun t73 =>
 uB .gtr t73 (uc 0) fun t74 =>
 uT 16 t6 t71 fun _ =>
 uS 16 t6 fun r0 =>
 M.pure (.ret [r0,t74]))
 (uB .eql t1 (uc 1) fun t77 =>
 M.ite t77
 (uF 0 t8 fun t78 =>
 (zco 1 t78 (uc 4)).bind fun _ =>
 uS 16 t8 fun t79 =>
 uL (vlen t46) fun t81 =>
 uB .eql t81 (uc 0) fun t82 =>
 uT 16 t6 t79 fun _ =>
 uS 16 t6 fun r0 =>
 M.pure (.ret [r0,t82]))
 (uB .eql t1 (uc 4) fun t85 =>
 M.ite t85
 (uF 0 t8 fun t86 =>
 (zco 1 t86 (uc 5)).bind fun _ =>
 uL (vlen t46) fun t88 =>
 uB .eql t88 (uc 0) fun t89 =>
 uG t89 false (M.pure t46) fun t91 =>
 uH t89 false (vlen t91) fun t92 =>
 uH t89 false (Ax.bin .rem t92 (uc 8)) fun t93 =>
 uH t89 false (Ax.bin .neq t93 (uc 0)) fun t94 =>
 uL (Ax.pick t89 (V.bool true) t94) fun t95 =>
 M.ite t95
 (uS 16 t8 fun t96 =>
 uT 16 t6 t96 fun _ =>
 uS 16 t6 fun r0 =>
 M.pure (.ret [r0,(V.bool false)]))
 (M.blk 3 (
 M.iter (zbA G t46 t8 t6) [(uc 0)]) fun _ =>
 uS 16 t8 fun t124 =>
 uT 16 t6 t124 fun _ =>
 uS 16 t6 fun r0 =>
 M.pure (.ret [r0,(V.bool true)])))
 (M.pure (.nrm []))))) fun _ =>
 uF 0 t8 fun t125 =>
 (zco 1 t125 (uc 6)).bind fun _ =>
 uL (vlen t46) fun t127 =>
 uB .lss t127 (uc 8) fun t128 =>
 uG t128 false (M.pure t46) fun t130 =>
 uH t128 false (vlen t130) fun t131 =>
 uG t128 false (M.pure t46) fun t132 =>
 uH t128 false (Ax.iaddr none 1 t132 (uc 4)) fun t133 =>
 uG t128 false (zar none t133) fun t134 =>
 uH t128 false (Ax.cint .i64 t134) fun t135 =>
 uH t128 false (Ax.bin .mul (uc 4) t135) fun t136 =>
 uH t128 false (Ax.bin .add (uc 8) t136) fun t137 =>
 uH t128 false (Ax.bin .neq t131 t137) fun t138 =>
 uL (Ax.pick t128 (V.bool true) t138) fun t139 =>
 M.ite t139
 (uS 16 t8 fun t140 =>
 uT 16 t6 t140 fun _ =>
 uS 16 t6 fun r0 =>
 M.pure (.ret [r0,(V.bool false)]))
 ((G zaf [t46,(uc 5),(uc 3)]).bind fun t142 =>
 uB .shr t142 (uq 18) fun t144 =>
 uL (Ax.cint .i64 t144) fun t145 =>
 uB .and t142 (uq 262143) fun t147 =>
 uL (Ax.cint .u32 t147) fun t148 =>
 uF 10 t8 fun t149 =>
 uT 1 t149 t145 fun _ =>
 uF 11 t8 fun t150 =>
 uT 1 t150 t148 fun _ =>
 M.blk 5 (
 M.iter (zbz G t46 t8 t6) [(uc 8)]) fun _ =>
 uS 16 t8 fun t166 =>
 uT 16 t6 t166 fun _ =>
 uS 16 t6 fun r0 =>
 M.pure (.ret [r0,(V.bool true)])))))
theorem zgL {t0 t1 t2:V}:OkT zbJ [t0,t1,t2] (zem (sem T) t0 t1 t2):=okT (by kernel_rfl) (by kernel_rfl) (by kernel_rfl)
def zen (G:Sem') (t0 t1 t2:V):M Res :=
 uB .eql t0 (uc 200) fun t8 =>
 uG t8 false (M.pure t0) fun t10 =>
 uH t8 false (Ax.bin .eql t10 (uc 201)) fun t11 =>
 uL (Ax.pick t8 (V.bool true) t11) fun t12 =>
 uG t12 false (M.pure t0) fun t14 =>
 uH t12 false (Ax.bin .eql t14 (uc 205)) fun t15 =>
 uG t12 false (M.pure t15) fun t16 =>
 uG t16 true (M.pure t1) fun t17 =>
 uH t16 true (Ax.bin .eql t17 (uc 1)) fun t18 =>
 uH t12 false (Ax.pick t16 t18 (V.bool false)) fun t19 =>
 uL (Ax.pick t12 (V.bool true) t19) fun t20 =>
 uG t20 false (M.pure t0) fun t22 =>
 uH t20 false (Ax.bin .eql t22 (uc 206)) fun t23 =>
 uG t20 false (M.pure t23) fun t24 =>
 uG t24 true (M.pure t1) fun t25 =>
 uH t24 true (Ax.bin .eql t25 (uc 1)) fun t26 =>
 uG t24 true (M.pure t26) fun t27 =>
 uG t27 false (M.pure t1) fun t28 =>
 uH t27 false (Ax.bin .eql t28 (uc 4)) fun t29 =>
 uH t24 true (Ax.pick t27 (V.bool true) t29) fun t30 =>
 uG t24 true (M.pure t30) fun t31 =>
 uG t31 false (M.pure t1) fun t32 =>
 uH t31 false (Ax.bin .eql t32 (uc 15)) fun t33 =>
 uG t31 false (M.pure t33) fun t34 =>
 uG t34 true (M.pure t2) fun t35 =>
 uH t34 true (vlen t35) fun t36 =>
 uH t34 true (Ax.bin .geq t36 (uc 12)) fun t37 =>
 uH t31 false (Ax.pick t34 t37 (V.bool false)) fun t38 =>
 uG t31 false (M.pure t38) fun t39 =>
 uG t39 true (M.pure t2) fun t40 =>
 uH t39 true (zaN .sl 1 t40 (some (uc 8)) (some (uc 12)) none) fun t41 =>
 uG t39 true (zfM t41) fun t42 =>
 uH t39 true (Ax.bin .eql t42 (V.str ⟨#[82,69,77,66]⟩)) fun t43 =>
 uH t31 false (Ax.pick t39 t43 (V.bool false)) fun t44 =>
 uH t24 true (Ax.pick t31 (V.bool true) t44) fun t45 =>
 uH t20 false (Ax.pick t24 t45 (V.bool false)) fun t46 =>
 uL (Ax.pick t20 (V.bool true) t46) fun t47 =>
 M.pure (.ret [t47])
theorem zgM {t0 t1 t2:V}:OkT zbK [t0,t1,t2] (zen (sem T) t0 t1 t2):=okT (by kernel_rfl) (by kernel_rfl) (by kernel_rfl)
def zbs (G:Sem') (t2 t9 t6 t7:V) (L:List V):M Res :=
 let p:=V.int .u32 0
 uL (vlen t2) fun t46 =>
 uB .lss (ug L 0) t46 fun t47 =>
 M.ite t47
 (M.blk 1 (
 uF 7 t9 fun t50 =>
 uM t50 fun t51 =>
 uB .add (ug L 0) (uc 4) fun t58 =>
 uI none 1 t2 t58 fun t59 =>
 uM t59 fun t60 =>
 uB .add (ug L 0) (uc 5) fun t63 =>
 uB .add (ug L 0) (uc 8) fun t68 =>
 uB .add (ug L 0) (uc 12) fun t73 =>
 uB .add (ug L 0) (uc 16) fun t78 =>
 uB .add (ug L 0) (uc 20) fun t83 =>
 M.getH.bind fun h0 =>
 (G zaf [t2,(ug L 0),(uc 4)]).bind fun t54 =>
 M.getH.bind fun h0' =>
 uU t59 h0 h0' fun _ =>
 uU t50 h0 h0' fun _ =>
 M.getH.bind fun h1 =>
 (G zaf [t2,t63,(uc 3)]).bind fun t64 =>
 M.getH.bind fun h1' =>
 uU t59 h1 h1' fun _ =>
 uU t50 h1 h1' fun _ =>
 M.getH.bind fun h2 =>
 (G zaf [t2,t68,(uc 4)]).bind fun t69 =>
 M.getH.bind fun h2' =>
 uU t59 h2 h2' fun _ =>
 uU t50 h2 h2' fun _ =>
 M.getH.bind fun h3 =>
 (G zaf [t2,t73,(uc 4)]).bind fun t74 =>
 M.getH.bind fun h3' =>
 uU t59 h3 h3' fun _ =>
 uU t50 h3 h3' fun _ =>
 M.getH.bind fun h4 =>
 (G zaf [t2,t78,(uc 4)]).bind fun t79 =>
 M.getH.bind fun h4' =>
 uU t59 h4 h4' fun _ =>
 uU t50 h4 h4' fun _ =>
 M.getH.bind fun h5 =>
 (G zaf [t2,t83,(uc 4)]).bind fun t84 =>
 M.getH.bind fun h5' =>
 uU t59 h5 h5' fun _ =>
 uU t50 h5 h5' fun _ =>
 uL (Ax.cint .u32 t54) fun t55 =>
 uL (Ax.cint .u32 t64) fun t65 =>
 uL (Ax.cint .u32 t69) fun t70 =>
 uL (Ax.cint .u32 t74) fun t75 =>
 uL (Ax.cint .u32 t79) fun t80 =>
 uL (Ax.cint .u32 t84) fun t85 =>
 uL (Ax.build [p,(ub 0),p,p,p,p,p] [(0,1,t55),(1,1,t60),(2,1,t65),(3,1,t70),(4,1,t75),(5,1,t80),(6,1,t85)]) fun t86 =>
 (zbQ zcB 1 [p,(ub 0),p,p,p,p,p] [(0,7,t86)]).bind fun t87 =>
 (zay zcB 7 28 t51 t87).bind fun t88 =>
 uF 7 t9 fun t89 =>
 uT 1 t89 t88 fun _ =>
 M.pure (.nrm [])) fun _ =>
 uB .add (ug L 0) (uc 24) fun t49 =>
 M.pure (.nrm [t49]))
 (M.pure (.ex 0 []))
def zdQ (G:Sem') (t0 t1 t2:V):M Res :=
 let p:=V.int .u32 0
 uO zaJ (V.agg [(uc 0),p,p,(uq 0),p,p,p,V.nils,V.nils,V.nils,(uc 0),p,V.nils,(uc 0),(uc 0),V.nils]) fun t6 =>
 uB .eql t0 (uc 1) fun t12 =>
 M.join (M.ite t12
 (M.pure (.nrm [(uc 24)]))
 (M.pure (.nrm [(uc 4)]))) fun L0 =>
 uL (vlen t2) fun t14 =>
 uB .mul (uc 24) t1 fun t17 =>
 uB .add (ug L0 0) t17 fun t18 =>
 uB .neq t14 t18 fun t19 =>
 M.ite t19
 (uL (Ax.build [(uc 0),p,p,(uq 0),p,p,p,V.nils,V.nils,V.nils,(uc 0),p,V.nils,(uc 0),(uc 0),V.nils] []) fun t20 =>
 uT 16 t6 t20 fun _ =>
 uS 16 t6 fun r0 =>
 M.pure (.ret [r0,(V.bool false)]))
 ((G zaf [t2,(uc 0),(uc 4)]).bind fun t23 =>
 uL (Ax.cint .u32 t23) fun t24 =>
 uL (Ax.build [(uc 0),p,p,(uq 0),p,p,p,V.nils,V.nils,V.nils,(uc 0),p,V.nils,(uc 0),(uc 0),V.nils] [(0,1,t0),(1,1,t24)]) fun t25 =>
 uO zaJ (V.agg [(uc 0),p,p,(uq 0),p,p,p,V.nils,V.nils,V.nils,(uc 0),p,V.nils,(uc 0),(uc 0),V.nils]) fun t9 =>
 uT 16 t9 t25 fun _ =>
 uB .eql t0 (uc 1) fun t27 =>
 M.join (M.ite t27
 ((G zaf [t2,(uc 4),(uc 8)]).bind fun t29 =>
 (G zaf [t2,(uc 12),(uc 4)]).bind fun t31 =>
 uL (Ax.cint .u32 t31) fun t32 =>
 (G zaf [t2,(uc 16),(uc 4)]).bind fun t34 =>
 uL (Ax.cint .u32 t34) fun t35 =>
 (G zaf [t2,(uc 20),(uc 4)]).bind fun t37 =>
 uL (Ax.cint .u32 t37) fun t38 =>
 uF 3 t9 fun t39 =>
 uT 1 t39 t29 fun _ =>
 uF 4 t9 fun t40 =>
 uT 1 t40 t32 fun _ =>
 uF 5 t9 fun t41 =>
 uT 1 t41 t35 fun _ =>
 uF 6 t9 fun t42 =>
 uT 1 t42 t38 fun _ =>
 M.pure (.nrm []))
 (M.pure (.nrm []))) fun _ =>
 M.blk 0 (
 M.iter (zbs G t2 t9 t6 (V.bool false)) [(ug L0 0)]) fun _ =>
 uS 16 t9 fun t90 =>
 uT 16 t6 t90 fun _ =>
 uS 16 t6 fun r0 =>
 M.pure (.ret [r0,(V.bool true)]))
theorem zge {t0 t1 t2:V}:OkT zbw [t0,t1,t2] (zdQ (sem T) t0 t1 t2):=okT (by kernel_rfl) (by kernel_rfl) (by kernel_rfl)
def zbC (G:Sem') (t5 t0 t4 t2 t3:V) (L:List V):M Res :=
 uB .lss (ug L 0) t5 fun t60 =>
 M.ite t60
 (M.blk 1 (
 uF 5 t4 fun t63 =>
 uM t63 fun t64 =>
 uB .mul (uc 4) (ug L 0) fun t67 =>
 uB .add (uc 12) t67 fun t68 =>
 M.getH.bind fun h3 =>
 (G zaf [t0,t68,(uc 4)]).bind fun t69 =>
 M.getH.bind fun h3' =>
 uU t63 h3 h3' fun _ =>
 uL (Ax.cint .u32 t69) fun t70 =>
 (zbQ zbu 1 [(V.int .u32 0)] [(0,1,t70)]).bind fun t71 =>
 (zay zbu 1 4 t64 t71).bind fun t72 =>
 uF 5 t4 fun t73 =>
 uT 1 t73 t72 fun _ =>
 M.pure (.nrm [])) fun _ =>
 uB .add (ug L 0) (uc 1) fun t62 =>
 M.pure (.nrm [t62]))
 (M.pure (.ex 0 []))
def zeo (G:Sem') (t0:V):M Res :=
 let p:=V.int .u32 0
 uO zah (V.agg [(V.bool false),(uc 0),(V.int .u16 0),p,p,V.nils,(uc 0),V.nils,(uc 0),V.nils]) fun t2 =>
 uL (vlen t0) fun t13 =>
 uB .gtr t13 (uc 1200) fun t14 =>
 M.ite t14
 (uL (Ax.build [(V.bool false),(uc 0),(V.int .u16 0),p,p,V.nils,(uc 0),V.nils,(uc 0),V.nils] []) fun t15 =>
 uT 10 t2 t15 fun _ =>
 uS 10 t2 fun r0 =>
 M.pure (.ret [r0,(uc 4)]))
 (uL (vlen t0) fun t17 =>
 uB .lss t17 (uc 12) fun t18 =>
 M.ite t18
 (uL (Ax.build [(V.bool false),(uc 0),(V.int .u16 0),p,p,V.nils,(uc 0),V.nils,(uc 0),V.nils] []) fun t19 =>
 uT 10 t2 t19 fun _ =>
 uS 10 t2 fun r0 =>
 M.pure (.ret [r0,(uc 3)]))
 (uIM none 1 t0 (uc 0) fun t22 =>
 uB .shr t22 (uq 6) fun t23 =>
 uB .neq t23 (ub 2) fun t24 =>
 M.ite t24
 (uL (Ax.build [(V.bool false),(uc 0),(V.int .u16 0),p,p,V.nils,(uc 0),V.nils,(uc 0),V.nils] []) fun t25 =>
 uT 10 t2 t25 fun _ =>
 uS 10 t2 fun r0 =>
 M.pure (.ret [r0,(uc 2)]))
 (uI none 1 t0 (uc 1) fun t27 =>
 uM t27 fun t28 =>
 uB .gtr t28 (ub 127) fun t29 =>
 uI none 1 t0 (uc 1) fun t31 =>
 uM t31 fun t32 =>
 uB .and t32 (ub 127) fun t33 =>
 uL (Ax.cint .i64 t33) fun t34 =>
 M.getH.bind fun h0 =>
 (G zaf [t0,(uc 2),(uc 2)]).bind fun t36 =>
 M.getH.bind fun h0' =>
 uU t31 h0 h0' fun _ =>
 uU t27 h0 h0' fun _ =>
 M.getH.bind fun h1 =>
 (G zaf [t0,(uc 4),(uc 4)]).bind fun t39 =>
 M.getH.bind fun h1' =>
 uU t31 h1 h1' fun _ =>
 uU t27 h1 h1' fun _ =>
 M.getH.bind fun h2 =>
 (G zaf [t0,(uc 8),(uc 4)]).bind fun t42 =>
 M.getH.bind fun h2' =>
 uU t31 h2 h2' fun _ =>
 uU t27 h2 h2' fun _ =>
 uL (Ax.cint .u16 t36) fun t37 =>
 uL (Ax.cint .u32 t39) fun t40 =>
 uL (Ax.cint .u32 t42) fun t43 =>
 uL (Ax.build [(V.bool false),(uc 0),(V.int .u16 0),p,p,V.nils,(uc 0),V.nils,(uc 0),V.nils] [(0,1,t29),(1,1,t34),(2,1,t37),(3,1,t40),(4,1,t43)]) fun t44 =>
 uO zah (V.agg [(V.bool false),(uc 0),(V.int .u16 0),p,p,V.nils,(uc 0),V.nils,(uc 0),V.nils]) fun t4 =>
 uT 10 t4 t44 fun _ =>
 uIM none 1 t0 (uc 0) fun t47 =>
 uB .and t47 (ub 15) fun t48 =>
 uL (Ax.cint .i64 t48) fun t49 =>
 uB .mul (uc 4) t49 fun t51 =>
 uB .add (uc 12) t51 fun t52 =>
 uL (vlen t0) fun t55 =>
 uB .gtr t52 t55 fun t56 =>
 M.ite t56
 (uL (Ax.build [(V.bool false),(uc 0),(V.int .u16 0),p,p,V.nils,(uc 0),V.nils,(uc 0),V.nils] []) fun t57 =>
 uT 10 t2 t57 fun _ =>
 uS 10 t2 fun r0 =>
 M.pure (.ret [r0,(uc 3)]))
 (M.blk 0 (
 M.iter (zbC G t49 t0 t4 t2 (uc 0)) [(uc 0)]) fun _ =>
 uIM none 1 t0 (uc 0) fun t76 =>
 uB .shr t76 (uq 4) fun t77 =>
 uB .and t77 (ub 1) fun t78 =>
 uB .eql t78 (ub 1) fun t79 =>
 M.join (M.ite t79
 (uB .add t52 (uc 4) fun t81 =>
 uL (vlen t0) fun t83 =>
 uB .gtr t81 t83 fun t84 =>
 M.ite t84
 (uL (Ax.build [(V.bool false),(uc 0),(V.int .u16 0),p,p,V.nils,(uc 0),V.nils,(uc 0),V.nils] []) fun t85 =>
 uT 10 t2 t85 fun _ =>
 uS 10 t2 fun r0 =>
 M.pure (.ret [r0,(uc 3)]))
 ((G zaf [t0,t52,(uc 2)]).bind fun t88 =>
 uL (Ax.cint .i64 t88) fun t89 =>
 uF 6 t4 fun t90 =>
 uT 1 t90 t89 fun _ =>
 uB .add t52 (uc 2) fun t93 =>
 (G zaf [t0,t93,(uc 2)]).bind fun t94 =>
 uL (Ax.cint .i64 t94) fun t95 =>
 uB .add t52 (uc 4) fun t97 =>
 uB .mul (uc 4) t95 fun t100 =>
 uB .add t97 t100 fun t101 =>
 uL (vlen t0) fun t103 =>
 uB .gtr t101 t103 fun t104 =>
 M.ite t104
 (uL (Ax.build [(V.bool false),(uc 0),(V.int .u16 0),p,p,V.nils,(uc 0),V.nils,(uc 0),V.nils] []) fun t105 =>
 uT 10 t2 t105 fun _ =>
 uS 10 t2 fun r0 =>
 M.pure (.ret [r0,(uc 3)]))
 (uFM 6 t4 fun t107 =>
 uB .neq t107 (uc 48862) fun t108 =>
 uH t108 true (Ax.faddr 6 t4) fun t110 =>
 uG t108 true (zar none t110) fun t111 =>
 uH t108 true (Ax.bin .neq t111 (uc 4096)) fun t112 =>
 uL (Ax.pick t108 t112 (V.bool false)) fun t113 =>
 M.ite t113
 (uL (Ax.build [(V.bool false),(uc 0),(V.int .u16 0),p,p,V.nils,(uc 0),V.nils,(uc 0),V.nils] []) fun t114 =>
 uT 10 t2 t114 fun _ =>
 uS 10 t2 fun r0 =>
 M.pure (.ret [r0,(uc 2)]))
 (uB .mul (uc 4) t95 fun t120 =>
 uB .add t97 t120 fun t121 =>
 uL (zaN .sl 1 t0 (some t97) (some t121) none) fun t122 =>
 uFM 6 t4 fun t124 =>
 (G za1 [t122,t124]).bind fun t125 =>
 uE 0 t125 fun t126 =>
 uE 1 t125 fun t127 =>
 uL (Ax.un .not t127) fun t129 =>
 M.ite t129
 (uL (Ax.build [(V.bool false),(uc 0),(V.int .u16 0),p,p,V.nils,(uc 0),V.nils,(uc 0),V.nils] []) fun t130 =>
 uT 10 t2 t130 fun _ =>
 uS 10 t2 fun r0 =>
 M.pure (.ret [r0,(uc 2)]))
 (uF 7 t4 fun t132 =>
 uT 1 t132 t126 fun _ =>
 uB .mul (uc 4) t95 fun t135 =>
 uB .add t97 t135 fun t136 =>
 M.pure (.nrm [t136]))))))
 (M.pure (.nrm [t52]))) fun L2 =>
 uL (vlen t0) fun t138 =>
 uIM none 1 t0 (uc 0) fun t141 =>
 uB .shr t141 (uq 5) fun t142 =>
 uB .and t142 (ub 1) fun t143 =>
 uB .eql t143 (ub 1) fun t144 =>
 M.join (M.ite t144
 (uL (vlen t0) fun t147 =>
 uB .sub t147 (uc 1) fun t148 =>
 uIM none 1 t0 t148 fun t150 =>
 uL (Ax.cint .i64 t150) fun t151 =>
 uF 8 t4 fun t152 =>
 uT 1 t152 t151 fun _ =>
 uFM 8 t4 fun t154 =>
 uB .eql t154 (uc 0) fun t155 =>
 uH t155 false (Ax.faddr 8 t4) fun t157 =>
 uG t155 false (zar none t157) fun t158 =>
 uG t155 false (M.pure t0) fun t159 =>
 uH t155 false (vlen t159) fun t160 =>
 uG t155 false (M.pure (ug L2 0)) fun t161 =>
 uH t155 false (Ax.bin .sub t160 t161) fun t162 =>
 uH t155 false (Ax.bin .gtr t158 t162) fun t163 =>
 uL (Ax.pick t155 (V.bool true) t163) fun t164 =>
 M.ite t164
 (uL (Ax.build [(V.bool false),(uc 0),(V.int .u16 0),p,p,V.nils,(uc 0),V.nils,(uc 0),V.nils] []) fun t165 =>
 uT 10 t2 t165 fun _ =>
 uS 10 t2 fun r0 =>
 M.pure (.ret [r0,(uc 2)]))
 (uL (vlen t0) fun t167 =>
 uFM 8 t4 fun t169 =>
 uB .sub t167 t169 fun t170 =>
 M.pure (.nrm [t170])))
 (M.pure (.nrm [t138]))) fun L3 =>
 (zbQ zaw 0 [(ub 0)] []).bind fun t171 =>
 uL (zaN .sl 1 t0 (some (ug L2 0)) (some (ug L3 0)) none) fun t175 =>
 (zay zaw 1 1 t171 t175).bind fun t176 =>
 uF 9 t4 fun t177 =>
 uT 1 t177 t176 fun _ =>
 uS 10 t4 fun t178 =>
 uT 10 t2 t178 fun _ =>
 uS 10 t2 fun r0 =>
 M.pure (.ret [r0,(uc 0)])))))
theorem zgN {t0:V}:OkT zbL [t0] (zeo (sem T) t0):=okT (by kernel_rfl) (by kernel_rfl) (by kernel_rfl)
def zc4 (G:Sem') (t1 t0:V) (L:List V):M Res :=
 uL (vlen t0) fun t13 =>
 uB .lss (ug L 1) t13 fun t14 =>
 M.ite t14
 (M.blk 1 (
 uIM none 1 t0 (ug L 1) fun t18 =>
 uB .eql t18 (ub 0) fun t19 =>
 M.ite t19
 (uB .add (ug L 1) (uc 1) fun t21 =>
 M.pure (.ex 1 [(ug L 0),t21]))
 (uIM none 1 t0 (ug L 1) fun t25 =>
 uL (Ax.cint .i64 t25) fun t26 =>
 uB .add (ug L 1) (uc 2) fun t28 =>
 uB .eql t1 (uc 48862) fun t30 =>
 M.join (M.ite t30
 (uIM none 1 t0 (ug L 1) fun t34 =>
 uB .shr t34 (uq 4) fun t35 =>
 uL (Ax.cint .i64 t35) fun t36 =>
 uIM none 1 t0 (ug L 1) fun t40 =>
 uB .and t40 (ub 15) fun t41 =>
 uL (Ax.cint .i64 t41) fun t42 =>
 uB .add t42 (uc 1) fun t43 =>
 uB .add (ug L 1) (uc 1) fun t45 =>
 uB .eql t36 (uc 15) fun t47 =>
 M.ite t47
 (M.pure (.ret [(ug L 0),(V.bool true)]))
 (uB .eql t36 (uc 0) fun t50 =>
 M.ite t50
 (M.pure (.ret [V.nils,(V.bool false)]))
 (M.pure (.nrm [t36,t43,t45]))))
 (uB .add (ug L 1) (uc 1) fun t52 =>
 uL (vlen t0) fun t54 =>
 uB .lss t52 t54 fun t55 =>
 M.join (M.ite t55
 (uB .add (ug L 1) (uc 1) fun t58 =>
 uIM none 1 t0 t58 fun t60 =>
 uL (Ax.cint .i64 t60) fun t61 =>
 M.pure (.nrm [t61]))
 (M.pure (.nrm [(uc 0)]))) fun L0 =>
 M.pure (.nrm [t26,(ug L0 0),t28]))) fun L1 =>
 uL (vlen t0) fun t64 =>
 uB .gtr (ug L1 2) t64 fun t65 =>
 uG t65 false (M.pure (ug L1 1)) fun t67 =>
 uG t65 false (M.pure t0) fun t68 =>
 uH t65 false (vlen t68) fun t69 =>
 uG t65 false (M.pure (ug L1 2)) fun t70 =>
 uH t65 false (Ax.bin .sub t69 t70) fun t71 =>
 uH t65 false (Ax.bin .gtr t67 t71) fun t72 =>
 uL (Ax.pick t65 (V.bool true) t72) fun t73 =>
 M.ite t73
 (M.pure (.ret [V.nils,(V.bool false)]))
 ((zbQ zaw 0 [(ub 0)] []).bind fun t76 =>
 uB .add (ug L1 2) (ug L1 1) fun t81 =>
 uL (zaN .sl 1 t0 (some (ug L1 2)) (some t81) none) fun t82 =>
 (zay zaw 1 1 t76 t82).bind fun t83 =>
 uL (Ax.build [(uc 0),V.nils] [(0,1,(ug L1 0)),(1,1,t83)]) fun t84 =>
 (zbQ zc7 1 [(uc 0),V.nils] [(0,2,t84)]).bind fun t85 =>
 (zay zc7 2 32 (ug L 0) t85).bind fun t86 =>
 uB .add (ug L1 2) (ug L1 1) fun t89 =>
 M.pure (.nrm [t86,t89])))) fun L2 =>
 M.pure (.nrm [(ug L2 0),(ug L2 1)]))
 (M.pure (.ex 0 [(ug L 0)]))
def zdu (G:Sem') (t0 t1:V):M Res :=
 M.blk 0 (
 M.iter (zc4 G t1 t0) [V.nils,(uc 0)]) fun L3 =>
 M.pure (.ret [(ug L3 0),(V.bool true)])
theorem zfy {t0 t1:V}:OkT za1 [t0,t1] (zdu (sem T) t0 t1):=okT (by kernel_rfl) (by kernel_rfl) (by kernel_rfl)
def zbO (G:Sem') (t0 t2:V) (L:List V):M Res :=
 uB .leq (ug L 1) (uc 10) fun t6 =>
 M.ite t6
 (M.blk 1 (
 (G zbb [t0,(ug L 1)]).bind fun t12 =>
 uB .add (ug L 0) t12 fun t13 =>
 M.pure (.nrm [t13])) fun L0 =>
 uB .add (ug L 1) (uc 1) fun t8 =>
 M.pure (.nrm [(ug L0 0),t8]))
 (M.pure (.ex 0 [(ug L 0)]))
def zdv (G:Sem') (t0:V):M Res :=
 M.blk 0 (
 M.iter (zbO G t0 (uc 0)) [(uc 0),(uc 1)]) fun L1 =>
 M.pure (.ret [(ug L1 0)])
theorem zfz {t0:V}:OkT zbk [t0] (zdv (sem T) t0):=okT (by kernel_rfl) (by kernel_rfl) (by kernel_rfl)
end Go.Ax
/- FnS10 -/
namespace Go.Ax
open Go.Proofs
end Go.Ax
/- Dk1 -/
namespace Go.Ax.SU
open Go.Ax
structure AtS (S:List Nat) (H H':Heap):Prop where
 next:H.next ≤ H'.next
 same:∀ i,i < H.next → i ∉ S → H'.get i = H.get i
theorem AtS.refl (S:List Nat) (H:Heap):AtS S H H:=⟨Nat.le_refl _,fun _ _ _=>rfl⟩
theorem AtS.trans {S:List Nat} {H H1 H2:Heap} (h:AtS S H H1) (g:AtS S H1 H2):AtS S H H2:=⟨Nat.le_trans h.next g.next,fun i hi hk=>by rw [g.same i (Nat.lt_of_lt_of_le hi h.next) hk,h.same i hi hk]⟩
theorem _root_.Go.Ax.Grow.atS {H H':Heap} (h:Grow H H') (S:List Nat):AtS S H H':=⟨h.next,fun i hi _=>h.same i hi⟩
theorem AtS.set {S:List Nat} (H:Heap) {k:Nat} (h:k ∈ S) (b:Option Blk):AtS S H (H.set k b):=⟨Nat.le_refl _,fun i _ hk=>zat _ _ (fun e=>hk (e ▸ h))⟩
theorem AtS.mono {S S':List Nat} {H H':Heap} (h:AtS S H H') (g:∀ i ∈ S,i ∈ S'):AtS S' H H':=⟨h.next,fun i hi hk=>h.same i hi fun e=>hk (g i e)⟩
theorem AtS.grow {H H':Heap} (h:AtS [] H H'):Grow H H':=⟨h.next,fun i hi=>h.same i hi (by simp)⟩
theorem AtS.new {S:List Nat} {H0 H H':Heap} (g:Grow H0 H) (h:AtS S H H') (hS:∀ i ∈ S,H0.next ≤ i):Grow H0 H' :=
 ⟨Nat.le_trans g.next h.next,fun i hi=>by rw [h.same i (Nat.lt_of_lt_of_le hi g.next) (fun e=>by have:=hS i e; omega),g.same i hi]⟩
theorem _root_.Go.Ax.Lc.atS {e lo n:Nat} {S:List Nat} {H H':Heap} {v:V} {cells:List V} (h:Lc e lo H v cells n) (s:AtS S H H') (hk:∀ i,v.pid = some i → i ∉ S):Lc e lo H' v cells n :=
 ⟨by rw [zcf fun i hi=>s.same i (h.own i hi).2 (hk i hi)]; exact h.rc,fun i hi=>⟨(h.own i hi).1,Nat.lt_of_lt_of_le (h.own i hi).2 s.next⟩,h.cap⟩
theorem copy8 {β:Type} {lo:Nat} {H:Heap} {y:V} {l:List Nat} {f:V → M β} {Q:β → Heap → Prop} (hy:By lo H y l) (hl:l.length ≤ 140737488355328)
  (k:∀ x' H',Ab H.next H' x' l → Grow H H' → Ok (f x') H' Q):Ok ((zay zaw 1 1 (.sl H.next 0 0 (.fix 0)) y).bind f) (H.new ⟨zaw,[],none⟩) Q :=
 okb_copy hy.ac (fun i hi=>(hy.own i hi).2) (by rw [List.length_map]; omega) (by omega) (by omega) fun x' H' h g=>k x' H' (.app h) g
theorem U_ok {lo:Nat} {H:Heap} {bv:V} {b:List Nat} (n k:Nat) (hb:By lo H bv b) (hn:n < 18446744073709551616) (hk:k ≤ 16) (hbl:b.length ≤ 1099511627000):Ok (sem T za6 [bv,.int .u64 (n:Nat),.int .i64 (k:Nat)]) H fun r H'=>Ab H.next H' r (b ++ num n k) ∧ Grow H H':=by
 refine zic ?_;unfold zfZ uB uc ub ug;simp (disch:=omega) only [↓RD,RZ];rw [zc8];refine copy8 hb (by omega) fun x0 H0' hx0 s0=>?_;simp (disch:=omega) only [↓RD,RZ];refine zaV (fun m L H'=>∃ w,L = [w,.int .i64 ((k:Int) - 1 - (m:Nat))] ∧ Ab H.next H' w (b ++ (bn k n).take m) ∧ Bel H.next H H') k ?_ ?_ ?_
 ·exact ⟨x0,by simp,by simpa using hx0,s0.bel (Nat.le_refl _)⟩
 ·rintro m L H1 hm ⟨w,rfl,ha,hb'⟩;have e1:(k:Int) - 1 - (m:Nat) = ((k - 1 - m:Nat):Int):=by omega
  have e2:(8:Int) * ((k - 1 - m:Nat):Int) = ((8 * (k - 1 - m):Nat):Int):=by omega
  have e2':IntKind.u64.wrap ((8 * (k - 1 - m):Nat):Int) = ((8 * (k - 1 - m):Nat):Int):=by rw [wrap_u64]; omega
  have e3:shr n (8 * (k - 1 - m)) = n / 256 ^ (k - 1 - m):=by rw [zmj,Nat.shiftRight_eq_div_pow,Nat.pow_mul]
  have hlo1:=hb'.next;have hbg:=bn_get k n m hm;rw [e1];generalize hw:k - 1 - m = w' at *;have e8:IntKind.u8.wrap ((n / 256 ^ w':Nat):Int) = ((n / 256 ^ w' % 256:Nat):Int):=by rw [wrap_u8]; rfl
  unfold zdk uL uB uc ub ug;simp (disch:=omega) only [↓RD,RZ,e2,e2',e3,e8];refine znz (m:=[n / 256 ^ w' % 256]) (Apf.keep ha ((Grow.new _ _).keep _)) (by rw [zag]; omega) (zaQ rfl) (by rw [List.length_append,List.length_take,zpT]; simp; omega) fun w2 H2 h2 hb2=>?_;simp (disch:=omega) only [↓RD,RZ];refine ⟨w2,by rw [show ((w':Nat):Int) - 1 = (k:Int) - 1 - ((m + 1:Nat):Int) by omega],?_,hb'.trans (((Grow.new _ _).bel (by omega)).trans hb2)⟩;rw [take_snoc (by rw [zpT]; exact hm),hbg,← List.append_assoc];exact h2
 ·rintro L H1 ⟨w,rfl,ha,hb'⟩;have e1:(k:Int) - 1 - (k:Nat) = -1:=by omega
  rw [e1];unfold zdk uL uB uc ub ug;simp (disch:=omega) only [↓RD,RZ];rw [List.take_of_length_le (by rw [zpT]; exact Nat.le_refl _)] at ha;exact ⟨ha,hb'.grow⟩
theorem Ab.nil {lo:Nat} {H:Heap}:Ab lo H .nils []:=.app .nil
theorem eq_nils {lo:Nat} {H:Heap} {v:V} {l:List Nat} (hv:By lo H v l):(v = .nils ∧ l = []) ∨ Ax.eqr .sl false v .nils = some (.bool false):=by
 rcases hv.cases with ⟨rfl,h,_⟩ | ⟨id,off,cap,b,rfl,_⟩ | ⟨cs,rfl,_⟩
 ·exact .inl ⟨rfl,by simpa using h⟩
 ·exact .inr rfl
 ·exact .inr rfl
theorem zm1 {lo:Nat} {H:Heap} {v:V} {l:List Nat} (hv:By lo H v l) (hl:l.length ≤ 140737488355328):Ok (sem T zbm [v]) H fun r H'=>Ab H.next H' r l ∧ Grow H H':=by
 refine zhx ?_;unfold zgv uL ub;rcases eq_nils hv with ⟨rfl,rfl⟩ | e
 ·have e:Ax.eqr .sl false .nils .nils = some (.bool true):=rfl;simp (disch:=omega) only [↓RD,RZ,e];exact ⟨Ab.nil,Grow.refl _⟩
 ·simp (disch:=omega) only [↓RD,RZ,e];rw [zc8];refine copy8 hv hl fun x0 H0' hx0 s0=>?_;simp (disch:=omega) only [↓RD,RZ];exact ⟨hx0,s0⟩
/-! Notes. -/
theorem zfE {H:Heap} (x m:Int):Ok (sem T zbl [.int .i64 x,.int .i64 m]) H fun r H'=>r = .bool (decide (0 ≤ x) && decide (x ≤ m)) ∧ H' = H:=by
 refine zln ?_;unfold ziF uL uB uG uH uc;by_cases h:0 ≤ x
 ·have d:decide ((0:Int) ≤ x) = true:=decide_eq_true h;simp (disch:=omega) only [↓RD,RZ,d,Bool.true_and]
 ·have d:decide ((0:Int) ≤ x) = false:=decide_eq_false h;simp (disch:=omega) only [↓RD,RZ,d,Bool.false_and]
def bnd (k:Int):List Int × Bool :=
 if k = 1 then ([3,0,0,0,0,0,0],true) else if k = 2 ∨ k = 9 ∨ k = 23 then ([0,0,0,0,0,0,0],true) else if k = 3 ∨ k = 6 then ([0,7,0,0,0,0,0],true) else
 if k = 4 then ([0,0,0,2,65535,4,4],true) else if k = 5 then ([0,7,0,3,7,0,0],true) else if k = 7 ∨ k = 21 then ([0,7,65535,31,0,1,200],true) else
 if k = 8 ∨ k = 22 then ([0,0,65535,0,0,0,0],true) else if k = 17 then ([3,7,65535,255,65535,8,8],true) else if k = 18 then ([0,0,0,13,9,0,0],true) else
 if k = 19 then ([0,7,65535,255,63,0,0],true) else if k = 20 then ([0,7,65535,255,0,0,0],true) else if k = 24 then ([0,7,0,0,0,4,4],true) else ([0,0,0,0,0,0,0],false)
theorem of_ok {H:Heap} (k:Int):Ok (sem T zhi [.int .i64 k]) H fun r H'=>r = .tup [.agg ((bnd k).1.map (.int .i64)),.bool (bnd k).2] ∧ Grow H H':=by
 refine zqm ?_;unfold zob uL uS uT uB uO uc ug;have fin:∀ cs:List V,Grow H ((H.new ⟨zd5,[.int .i64 0,.int .i64 0,.int .i64 0,.int .i64 0,.int .i64 0,.int .i64 0,.int .i64 0],none⟩).set H.next (some ⟨zd5,cs,none⟩)):=fun cs=>(Grow.new _ _).set (Nat.le_refl _) _;by_cases h1:k = 1
 ·subst h1; simp (maxSteps:=1000000) (disch:=first | omega | (simp only [RY] <;> omega) | decide) only [↓RD,RZ,eq_self,Int.reduceToNat,Int.reduceAdd,Int.reduceSub,Int.reduceMul,Nat.reduceAdd,Nat.reduceSub,Nat.reduceMul,Nat.reduceDiv,Nat.reduceMod,Nat.reduceBEq,Nat.reduceLeDiff]; exact ⟨rfl,fin _⟩
 by_cases h2:k = 2
 ·subst h2; simp (maxSteps:=1000000) (disch:=first | omega | (simp only [RY] <;> omega) | decide) only [↓RD,RZ,eq_self,Int.reduceToNat,Int.reduceAdd,Int.reduceSub,Int.reduceMul,Nat.reduceAdd,Nat.reduceSub,Nat.reduceMul,Nat.reduceDiv,Nat.reduceMod,Nat.reduceBEq,Nat.reduceLeDiff]; exact ⟨rfl,fin _⟩
 by_cases h3:k = 9
 ·subst h3; simp (maxSteps:=1000000) (disch:=first | omega | (simp only [RY] <;> omega) | decide) only [↓RD,RZ,eq_self,Int.reduceToNat,Int.reduceAdd,Int.reduceSub,Int.reduceMul,Nat.reduceAdd,Nat.reduceSub,Nat.reduceMul,Nat.reduceDiv,Nat.reduceMod,Nat.reduceBEq,Nat.reduceLeDiff]; exact ⟨rfl,fin _⟩
 by_cases h4:k = 23
 ·subst h4; simp (maxSteps:=1000000) (disch:=first | omega | (simp only [RY] <;> omega) | decide) only [↓RD,RZ,eq_self,Int.reduceToNat,Int.reduceAdd,Int.reduceSub,Int.reduceMul,Nat.reduceAdd,Nat.reduceSub,Nat.reduceMul,Nat.reduceDiv,Nat.reduceMod,Nat.reduceBEq,Nat.reduceLeDiff]; exact ⟨rfl,fin _⟩
 by_cases h5:k = 3
 ·subst h5; simp (maxSteps:=1000000) (disch:=first | omega | (simp only [RY] <;> omega) | decide) only [↓RD,RZ,eq_self,Int.reduceToNat,Int.reduceAdd,Int.reduceSub,Int.reduceMul,Nat.reduceAdd,Nat.reduceSub,Nat.reduceMul,Nat.reduceDiv,Nat.reduceMod,Nat.reduceBEq,Nat.reduceLeDiff]; exact ⟨rfl,fin _⟩
 by_cases h6:k = 6
 ·subst h6; simp (maxSteps:=1000000) (disch:=first | omega | (simp only [RY] <;> omega) | decide) only [↓RD,RZ,eq_self,Int.reduceToNat,Int.reduceAdd,Int.reduceSub,Int.reduceMul,Nat.reduceAdd,Nat.reduceSub,Nat.reduceMul,Nat.reduceDiv,Nat.reduceMod,Nat.reduceBEq,Nat.reduceLeDiff]; exact ⟨rfl,fin _⟩
 by_cases h7:k = 4
 ·subst h7; simp (maxSteps:=1000000) (disch:=first | omega | (simp only [RY] <;> omega) | decide) only [↓RD,RZ,eq_self,Int.reduceToNat,Int.reduceAdd,Int.reduceSub,Int.reduceMul,Nat.reduceAdd,Nat.reduceSub,Nat.reduceMul,Nat.reduceDiv,Nat.reduceMod,Nat.reduceBEq,Nat.reduceLeDiff]; exact ⟨rfl,fin _⟩
 by_cases h8:k = 5
 ·subst h8; simp (maxSteps:=1000000) (disch:=first | omega | (simp only [RY] <;> omega) | decide) only [↓RD,RZ,eq_self,Int.reduceToNat,Int.reduceAdd,Int.reduceSub,Int.reduceMul,Nat.reduceAdd,Nat.reduceSub,Nat.reduceMul,Nat.reduceDiv,Nat.reduceMod,Nat.reduceBEq,Nat.reduceLeDiff]; exact ⟨rfl,fin _⟩
 by_cases h9:k = 7
 ·subst h9; simp (maxSteps:=1000000) (disch:=first | omega | (simp only [RY] <;> omega) | decide) only [↓RD,RZ,eq_self,Int.reduceToNat,Int.reduceAdd,Int.reduceSub,Int.reduceMul,Nat.reduceAdd,Nat.reduceSub,Nat.reduceMul,Nat.reduceDiv,Nat.reduceMod,Nat.reduceBEq,Nat.reduceLeDiff]; exact ⟨rfl,fin _⟩
 by_cases h10:k = 21
 ·subst h10; simp (maxSteps:=1000000) (disch:=first | omega | (simp only [RY] <;> omega) | decide) only [↓RD,RZ,eq_self,Int.reduceToNat,Int.reduceAdd,Int.reduceSub,Int.reduceMul,Nat.reduceAdd,Nat.reduceSub,Nat.reduceMul,Nat.reduceDiv,Nat.reduceMod,Nat.reduceBEq,Nat.reduceLeDiff]; exact ⟨rfl,fin _⟩
 by_cases h11:k = 8
 ·subst h11; simp (maxSteps:=1000000) (disch:=first | omega | (simp only [RY] <;> omega) | decide) only [↓RD,RZ,eq_self,Int.reduceToNat,Int.reduceAdd,Int.reduceSub,Int.reduceMul,Nat.reduceAdd,Nat.reduceSub,Nat.reduceMul,Nat.reduceDiv,Nat.reduceMod,Nat.reduceBEq,Nat.reduceLeDiff]; exact ⟨rfl,fin _⟩
 by_cases h12:k = 22
 ·subst h12; simp (maxSteps:=1000000) (disch:=first | omega | (simp only [RY] <;> omega) | decide) only [↓RD,RZ,eq_self,Int.reduceToNat,Int.reduceAdd,Int.reduceSub,Int.reduceMul,Nat.reduceAdd,Nat.reduceSub,Nat.reduceMul,Nat.reduceDiv,Nat.reduceMod,Nat.reduceBEq,Nat.reduceLeDiff]; exact ⟨rfl,fin _⟩
 by_cases h13:k = 17
 ·subst h13; simp (maxSteps:=1000000) (disch:=first | omega | (simp only [RY] <;> omega) | decide) only [↓RD,RZ,eq_self,Int.reduceToNat,Int.reduceAdd,Int.reduceSub,Int.reduceMul,Nat.reduceAdd,Nat.reduceSub,Nat.reduceMul,Nat.reduceDiv,Nat.reduceMod,Nat.reduceBEq,Nat.reduceLeDiff]; exact ⟨rfl,fin _⟩
 by_cases h14:k = 18
 ·subst h14; simp (maxSteps:=1000000) (disch:=first | omega | (simp only [RY] <;> omega) | decide) only [↓RD,RZ,eq_self,Int.reduceToNat,Int.reduceAdd,Int.reduceSub,Int.reduceMul,Nat.reduceAdd,Nat.reduceSub,Nat.reduceMul,Nat.reduceDiv,Nat.reduceMod,Nat.reduceBEq,Nat.reduceLeDiff]; exact ⟨rfl,fin _⟩
 by_cases h15:k = 19
 ·subst h15; simp (maxSteps:=1000000) (disch:=first | omega | (simp only [RY] <;> omega) | decide) only [↓RD,RZ,eq_self,Int.reduceToNat,Int.reduceAdd,Int.reduceSub,Int.reduceMul,Nat.reduceAdd,Nat.reduceSub,Nat.reduceMul,Nat.reduceDiv,Nat.reduceMod,Nat.reduceBEq,Nat.reduceLeDiff]; exact ⟨rfl,fin _⟩
 by_cases h16:k = 20
 ·subst h16; simp (maxSteps:=1000000) (disch:=first | omega | (simp only [RY] <;> omega) | decide) only [↓RD,RZ,eq_self,Int.reduceToNat,Int.reduceAdd,Int.reduceSub,Int.reduceMul,Nat.reduceAdd,Nat.reduceSub,Nat.reduceMul,Nat.reduceDiv,Nat.reduceMod,Nat.reduceBEq,Nat.reduceLeDiff]; exact ⟨rfl,fin _⟩
 by_cases h17:k = 24
 ·subst h17; simp (maxSteps:=1000000) (disch:=first | omega | (simp only [RY] <;> omega) | decide) only [↓RD,RZ,eq_self,Int.reduceToNat,Int.reduceAdd,Int.reduceSub,Int.reduceMul,Nat.reduceAdd,Nat.reduceSub,Nat.reduceMul,Nat.reduceDiv,Nat.reduceMod,Nat.reduceBEq,Nat.reduceLeDiff]; exact ⟨rfl,fin _⟩
 have eb:bnd k = ([0,0,0,0,0,0,0],false):=by simp [bnd, *]
 have f:∀ c:Int,k ≠ c → (k == c) = false:=fun c h=>by simpa using h
 have f1:=f _ h1;have f2:=f _ h2;have f3:=f _ h3;have f4:=f _ h4;have f5:=f _ h5;have f6:=f _ h6;have f7:=f _ h7;have f8:=f _ h8;have f9:=f _ h9;have f10:=f _ h10;have f11:=f _ h11;have f12:=f _ h12;have f13:=f _ h13;have f14:=f _ h14;have f15:=f _ h15;have f16:=f _ h16;have f17:=f _ h17;simp (maxSteps:=1000000) (disch:=first | omega | (simp only [RY] <;> omega) | decide) only [↓RD,RZ,eq_self,Int.reduceToNat,Int.reduceAdd,Int.reduceSub,Int.reduceMul,Nat.reduceAdd,Nat.reduceSub,Nat.reduceMul,Nat.reduceDiv,Nat.reduceMod,Nat.reduceBEq,Nat.reduceLeDiff,f1,f2,f3,f4,f5,f6,f7,f8,f9,f10,f11,f12,f13,f14,f15,f16,f17];rw [eb];exact ⟨rfl,fin _⟩
end Go.Ax.SU
/- Dk2 -/
namespace Go.Ax.SU
open Go.Ax
theorem zai (cs:List V):(V.agg cs).cells = cs:=rfl
theorem okb_ldr {n:Option Nat} {H:Heap} {p c:V} {f:V → M Res} {Q:Res → Heap → Prop} (h:LdR n H p c) (k:Ok (f c) H Q):Ok ((zar n p).bind f) H Q:=by
 have:=(h f Q).2 k
 rwa [zc8] at this
theorem za4 {β:Type} {H:Heap} {ty:TypeId} {n:Nat} {zs cs:List V} {f:V → V → M β} {Q:β → Heap → Prop} (hz:zs.length = n) (hl:cs.length = n) (k:∀ q H',q = H.next → H'.get q = some ⟨ty,cs,none⟩ → Grow H H' → H'.next = H.next + 1 → Ok (f (.ptr q 0) .undef) H' Q) :
  Ok ((mbox ty (.agg zs)).bind fun t=>(zco n t (.agg cs)).bind fun u=>f t u) H Q:=by
 refine zam (zaR rfl ?_);rw [zai];have g:=zad H ⟨ty,zs,none⟩;refine zam (ok_store g (by rw [zai]; exact hl) (by show 0 + n ≤ zs.length; omega) rfl ?_);refine k _ _ rfl ?_ ((Grow.new _ _).set (Nat.le_refl _) _) rfl;rw [zak,zai];congr 2;unfold splice;rw [List.take_zero,List.nil_append,List.drop_of_length_le (by show zs.length ≤ 0 + cs.length; omega),List.append_nil]
structure Nt where
 k:Int
 r:Int
 s:Int
 e:Int
 n:Int
 m:Int
 b:List Nat
def nC (x:Nt) (bv:V):List V:=[.int .i64 x.k,.int .i64 x.r,.int .i64 x.s,.int .i64 x.e,.int .i64 x.n,.int .i64 x.m,bv]
theorem bnd_form (k:Int):∃ a0 a1 a2 a3 a4 a5 a6 o,bnd k = ([a0,a1,a2,a3,a4,a5,a6],o):=by
 have hl:(bnd k).1.length = 7:=by
  have key:∀ (c:Prop) [Decidable c] (a b:List Int × Bool),a.1.length = 7 → b.1.length = 7 → (if c then a else b).1.length = 7:=by
   intro c _ a b ha hb;split <;> assumption
  unfold bnd
  repeat (first | exact rfl | refine key _ _ _ rfl ?_)
 rcases h:bnd k with ⟨l,o⟩
 rw [h] at hl;rcases l with _ | ⟨a0,_ | ⟨a1,_ | ⟨a2,_ | ⟨a3,_ | ⟨a4,_ | ⟨a5,_ | ⟨a6,_ | ⟨a7,l⟩⟩⟩⟩⟩⟩⟩⟩ <;> simp at hl
 exact ⟨a0,a1,a2,a3,a4,a5,a6,o,rfl⟩
def zgp (x:Nt):Bool :=
 (bnd x.k).2 && ((decide (0 ≤ x.r) && decide (x.r ≤ (bnd x.k).1.getD 0 0)) && ((decide (0 ≤ x.s) && decide (x.s ≤ (bnd x.k).1.getD 1 0)) && ((decide (0 ≤ x.e) && decide (x.e ≤ (bnd x.k).1.getD 2 0)) &&
  ((decide (0 ≤ x.n) && decide (x.n ≤ (bnd x.k).1.getD 3 0)) && ((decide (0 ≤ x.m) && decide (x.m ≤ (bnd x.k).1.getD 4 0)) && (!decide ((x.b.length:Int) < (bnd x.k).1.getD 5 0) && (!decide ((bnd x.k).1.getD 6 0 < (x.b.length:Int)) && (if x.k = 18 then decide (1 ≤ x.n) else true))))))))
def Pl3 (x:Nt):Prop:=x.k ≠ 17 ∧ x.k ≠ 19 ∧ x.k ≠ 20
theorem znR {lo:Nat} {H:Heap} {x:Nt} {bv:V} (hb:By lo H bv x.b) (hk:Pl3 x):Ok (sem T zcS [.agg (nC x bv)]) H fun r H'=>r = .bool (zgp x) ∧ Grow H H':=by
 refine zgX ?_;unfold zgu uL uS uT uFM uE uB uG uH uO uc;obtain ⟨k,r,s,e,n,m,b⟩:=x;obtain ⟨hk1,hk2,hk3⟩:=hk;dsimp only at hk1 hk2 hk3 hb;have vc:=hb.cells1;have vo:=hb.okc;refine zam (zaR (by simp [nC,V.okc,vo]) ?_);rw [zai];have s0:=Grow.new H ⟨zae,nC ⟨k,r,s,e,n,m,b⟩ bv,none⟩;have g0:(H.new ⟨zae,nC ⟨k,r,s,e,n,m,b⟩ bv,none⟩).get H.next = some ⟨zae,nC ⟨k,r,s,e,n,m,b⟩ bv,none⟩:=zad _ _;have n0:(H.new ⟨zae,nC ⟨k,r,s,e,n,m,b⟩ bv,none⟩).next = H.next + 1:=zag _ _;generalize hq:H.next = q at *;generalize H.new _ = H0 at *;unfold nC at g0;dsimp only at g0;simp (disch:=omega) only [↓RD,RZ,g0];refine zac (of_ok k) ?_;rintro _ H1 ⟨rfl,s1⟩;obtain ⟨a0,a1,a2,a3,a4,a5,a6,o,eb⟩:=bnd_form k;have eg:zgp ⟨k,r,s,e,n,m,b⟩ = (o && ((decide (0 ≤ r) && decide (r ≤ a0)) && ((decide (0 ≤ s) && decide (s ≤ a1)) && ((decide (0 ≤ e) && decide (e ≤ a2)) && ((decide (0 ≤ n) && decide (n ≤ a3)) && ((decide (0 ≤ m) && decide (m ≤ a4)) && (!decide ((b.length:Int) < a5) && (!decide (a6 < (b.length:Int)) && (if k = 18 then decide (1 ≤ n) else true))))))))):=by
  unfold zgp;dsimp only;rw [eb];rfl
 have eb1:(bnd k).1.map (V.int .i64) = [.int .i64 a0,.int .i64 a1,.int .i64 a2,.int .i64 a3,.int .i64 a4,.int .i64 a5,.int .i64 a6]:=by rw [eb]; rfl
 have eb2:(bnd k).2 = o:=by rw [eb]
 rw [eb1,eb2,eg];refine zao rfl ?_;refine zao rfl ?_;refine za4 rfl rfl fun q3 H3 e3 g3 s3 n3=>?_;have s13:=s1.trans s3;have n1:=s1.next;have g03:=(s13.same q (by omega)).trans g0;have bl:=(hb.ext (s0.trans s13)).vlen;have w1:=@zaK _ _ _ _ (@zfE H3 r a0);have w2:=@zaK _ _ _ _ (@zfE H3 s a1);have w3:=@zaK _ _ _ _ (@zfE H3 e a2);have w4:=@zaK _ _ _ _ (@zfE H3 n a3);have w5:=@zaK _ _ _ _ (@zfE H3 m a4);have gr:=s0.trans s13;generalize (decide (0 ≤ r) && decide (r ≤ a0)) = b1 at *;generalize (decide (0 ≤ s) && decide (s ≤ a1)) = b2 at *;generalize (decide (0 ≤ e) && decide (e ≤ a2)) = b3 at *;generalize (decide (0 ≤ n) && decide (n ≤ a3)) = b4 at *;generalize (decide (0 ≤ m) && decide (m ≤ a4)) = b5 at *;cases o with
 | false=>simp (disch:=omega) only [↓RD,RZ,g3,g03]; exact ⟨rfl,gr⟩
 | true =>
 cases b1 with
 | false=>simp (disch:=omega) only [↓RD,RZ,g3,g03,w1]; exact ⟨rfl,gr⟩
 | true =>
 cases b2 with
 | false=>simp (disch:=omega) only [↓RD,RZ,g3,g03,w1,w2]; exact ⟨rfl,gr⟩
 | true =>
 cases b3 with
 | false=>simp (disch:=omega) only [↓RD,RZ,g3,g03,w1,w2,w3]; exact ⟨rfl,gr⟩
 | true =>
 cases b4 with
 | false=>simp (disch:=omega) only [↓RD,RZ,g3,g03,w1,w2,w3,w4]; exact ⟨rfl,gr⟩
 | true =>
 cases b5 with
 | false=>simp (disch:=omega) only [↓RD,RZ,g3,g03,w1,w2,w3,w4,w5]; exact ⟨rfl,gr⟩
 | true =>
 cases h6:decide ((b.length:Int) < a5) with
 | true=>simp (disch:=omega) only [↓RD,RZ,g3,g03,w1,w2,w3,w4,w5,bl,h6]; exact ⟨rfl,gr⟩
 | false =>
 cases h7:decide (a6 < (b.length:Int)) with
 | true=>simp (disch:=omega) only [↓RD,RZ,g3,g03,w1,w2,w3,w4,w5,bl,h6,h7]; exact ⟨rfl,gr⟩
 | false =>
 have f1:(k == 17) = false:=by simpa using hk1
 have f2:(k == 19) = false:=by simpa using hk2
 have f3:(k == 20) = false:=by simpa using hk3
 by_cases h18:k = 18
 ·have f4:(k == 18) = true:=by simpa using h18
  rw [if_pos h18];simp (disch:=omega) only [↓RD,RZ,g3,g03,w1,w2,w3,w4,w5,bl,h6,h7,f1,f4];exact ⟨by simp,gr⟩
 ·have f4:(k == 18) = false:=by simpa using h18
  rw [if_neg h18];simp (disch:=omega) only [↓RD,RZ,g3,g03,w1,w2,w3,w4,w5,bl,h6,h7,f1,f2,f3,f4];exact ⟨rfl,gr⟩
end Go.Ax.SU
/- Dk3 -/
namespace Go.Ax.SU
open Go.Ax
theorem Apf.low {ty e lo lo' n:Nat} {H:Heap} {v:V} {cells:List V} (h:Apf ty e lo H v cells n) (hl:lo' ≤ lo):Apf ty e lo' H v cells n:=by
 cases h with
 | app h =>
  cases h with
  | opn h ho=>exact .app (.opn h fun i hi=>⟨Nat.le_trans hl (ho i hi).1,(ho i hi).2⟩)
  | lit h h0 h1=>exact .app (.lit h (Nat.le_trans hl h0) h1)
 | full h hl' h0 h1=>exact .full h hl' (Nat.le_trans hl h0) h1
theorem ite_P {α:Type} {c:Prop} [Decidable c] {a b:α} {P:α → Prop} (h1:c → P a) (h2:¬ c → P b):P (if c then a else b):=by
 by_cases h:c
 ·rw [if_pos h]; exact h1 h
 ·rw [if_neg h]; exact h2 h
theorem bnd_le (k:Int):(bnd k).1.getD 0 0 ≤ 3 ∧ (bnd k).1.getD 1 0 ≤ 7 ∧ (bnd k).1.getD 2 0 ≤ 65535 ∧ (bnd k).1.getD 3 0 ≤ 65535 ∧ (bnd k).1.getD 4 0 ≤ 65535 ∧ (bnd k).1.getD 6 0 ≤ 200 ∧ ((bnd k).2 = true → 1 ≤ k ∧ k ≤ 24):=by
 unfold bnd
 repeat (refine ite_P (P:=fun p:List Int × Bool=>p.1.getD 0 0 ≤ 3 ∧ p.1.getD 1 0 ≤ 7 ∧ p.1.getD 2 0 ≤ 65535 ∧ p.1.getD 3 0 ≤ 65535 ∧ p.1.getD 4 0 ≤ 65535 ∧ p.1.getD 6 0 ≤ 200 ∧ (p.2 = true → 1 ≤ k ∧ k ≤ 24)) (fun h=>⟨by decide,by decide,by decide,by decide,by decide,by decide,fun _=>by omega⟩) (fun h=>?_))
 exact ⟨by decide,by decide,by decide,by decide,by decide,by decide,fun h=>by cases h⟩
theorem zkJ {x:Nt} (h:zgp x = true):(1 ≤ x.k ∧ x.k ≤ 24) ∧ (0 ≤ x.r ∧ x.r ≤ 3) ∧ (0 ≤ x.s ∧ x.s ≤ 7) ∧ (0 ≤ x.e ∧ x.e ≤ 65535) ∧ (0 ≤ x.n ∧ x.n ≤ 65535) ∧ (0 ≤ x.m ∧ x.m ≤ 65535) ∧ x.b.length ≤ 200:=by
 obtain ⟨h0,h1,h2,h3,h4,h6,h7⟩:=bnd_le x.k;simp only [zgp,Bool.and_eq_true,decide_eq_true_eq,Bool.not_eq_true',decide_eq_false_iff_not] at h;obtain ⟨g0,g1,g2,g3,g4,g5,g6,g7,-⟩:=h;refine ⟨h7 g0,⟨g1.1,by omega⟩,⟨g2.1,by omega⟩,⟨g3.1,by omega⟩,⟨g4.1,by omega⟩,⟨g5.1,by omega⟩,by omega⟩
def by2 (y:Nat):List Nat:=[y / 256 % 256,y % 256]
def zaX (x:Nt):List Nat:=[x.k.toNat,x.r.toNat,x.s.toNat] ++ [x.e.toNat,x.n.toNat,x.m.toNat,x.b.length].flatMap by2 ++ x.b
theorem zmc {lo:Nat} {H:Heap} {x:Nt} {bv:V} (g:Bool) (hb:By lo H bv x.b) (hgood:∀ H,By lo H bv x.b → Ok (sem T zcS [.agg (nC x bv)]) H fun r H'=>r = .bool g ∧ Grow H H')
  (hle:g = true → (1 ≤ x.k ∧ x.k ≤ 24) ∧ (0 ≤ x.r ∧ x.r ≤ 3) ∧ (0 ≤ x.s ∧ x.s ≤ 7) ∧ (0 ≤ x.e ∧ x.e ≤ 65535) ∧ (0 ≤ x.n ∧ x.n ≤ 65535) ∧ (0 ≤ x.m ∧ x.m ≤ 65535) ∧ x.b.length ≤ 200):Ok (sem T zdI [.agg (nC x bv)]) H fun r H'=>Grow H H' ∧ (g = false ∧ r = .tup [.nils,.int .i64 1] ∨ g = true ∧ ∃ v,r = .tup [v,.int .i64 0] ∧ Ab H.next H' v (zaX x)):=by
 refine zmz ?_;unfold zjL uL uS uFM uO uc ub ug;obtain ⟨k,r,s,e,n,m,b⟩:=x;dsimp only at hle hb hgood;have vc:=hb.cells1;have vo:=hb.okc;refine zam (zaR (by simp [nC,V.okc,vo]) ?_);rw [zai];have s0:=Grow.new H ⟨zae,nC ⟨k,r,s,e,n,m,b⟩ bv,none⟩;have g0:(H.new ⟨zae,nC ⟨k,r,s,e,n,m,b⟩ bv,none⟩).get H.next = some ⟨zae,nC ⟨k,r,s,e,n,m,b⟩ bv,none⟩:=zad _ _;have n0:(H.new ⟨zae,nC ⟨k,r,s,e,n,m,b⟩ bv,none⟩).next = H.next + 1:=zag _ _;generalize hq:H.next = q at *;generalize H.new _ = H0 at *;have l0:ldc (some 7) (nC ⟨k,r,s,e,n,m,b⟩ bv) 0 = some (.agg (nC ⟨k,r,s,e,n,m,b⟩ bv)):=rfl;simp (maxSteps:=1000000) (disch:=first | omega | (simp only [RY] <;> omega) | decide) only [↓RD,RZ,eq_self,Int.reduceToNat,Int.reduceAdd,Int.reduceSub,Int.reduceMul,Nat.reduceAdd,Nat.reduceSub,Nat.reduceMul,Nat.reduceDiv,Nat.reduceMod,Nat.reduceBEq,Nat.reduceLeDiff,g0,l0];refine zac (hgood H0 (hb.ext s0)) ?_;rintro _ H1 ⟨rfl,s1⟩;have n1:=s1.next;have s01:=s0.trans s1;have g1:=(s1.same q (by omega)).trans g0;cases hg:g with
 | false=>simp (maxSteps:=1000000) (disch:=first | omega | (simp only [RY] <;> omega) | decide) only [↓RD,RZ,eq_self,Int.reduceToNat,Int.reduceAdd,Int.reduceSub,Int.reduceMul,Nat.reduceAdd,Nat.reduceSub,Nat.reduceMul,Nat.reduceDiv,Nat.reduceMod,Nat.reduceBEq,Nat.reduceLeDiff]; exact ⟨s01,.inl trivial⟩
 | true =>
 obtain ⟨h1,h2,h3,h4,h5,h6,h7⟩:=hle hg;obtain ⟨k,rfl⟩:∃ y:Nat,k = (y:Nat):=⟨k.toNat,by omega⟩;obtain ⟨r,rfl⟩:∃ y:Nat,r = (y:Nat):=⟨r.toNat,by omega⟩;obtain ⟨s,rfl⟩:∃ y:Nat,s = (y:Nat):=⟨s.toNat,by omega⟩;obtain ⟨e,rfl⟩:∃ y:Nat,e = (y:Nat):=⟨e.toNat,by omega⟩;obtain ⟨n,rfl⟩:∃ y:Nat,n = (y:Nat):=⟨n.toNat,by omega⟩;obtain ⟨m,rfl⟩:∃ y:Nat,m = (y:Nat):=⟨m.toNat,by omega⟩;unfold nC at g1;dsimp only at g1;have w8:∀ y:Nat,y < 256 → IntKind.u8.wrap ((y:Nat):Int) = ((y:Nat):Int):=fun y hy=>by rw [wrap_u8]; omega
 have wk:=w8 k (by omega);have wr:=w8 r (by omega);have ws:=w8 s (by omega);have bl:=(hb.ext s01).vlen;simp (maxSteps:=1000000) (disch:=first | omega | (simp only [RY] <;> omega) | decide) only [↓RD,RZ,eq_self,Int.reduceToNat,Int.reduceAdd,Int.reduceSub,Int.reduceMul,Nat.reduceAdd,Nat.reduceSub,Nat.reduceMul,Nat.reduceDiv,Nat.reduceMod,Nat.reduceBEq,Nat.reduceLeDiff,g1,wk,wr,ws,bl];have sA:=Grow.new H1 ⟨zaw,[.int .u8 (k:Nat),.int .u8 (r:Nat),.int .u8 (s:Nat)],none⟩;have gA:(H1.new ⟨zaw,[.int .u8 (k:Nat),.int .u8 (r:Nat),.int .u8 (s:Nat)],none⟩).get H1.next = _:=zad _ _;have nA:(H1.new ⟨zaw,[.int .u8 (k:Nat),.int .u8 (r:Nat),.int .u8 (s:Nat)],none⟩).next = H1.next + 1:=zag _ _;generalize H1.new _ = H2 at *;have sB:=Grow.new H2 ⟨zkf,[.int .i64 (e:Nat),.int .i64 (n:Nat),.int .i64 (m:Nat),.int .i64 (b.length:Nat)],none⟩;have gB:(H2.new ⟨zkf,[.int .i64 (e:Nat),.int .i64 (n:Nat),.int .i64 (m:Nat),.int .i64 (b.length:Nat)],none⟩).get H2.next = _:=zad _ _;have nB:(H2.new ⟨zkf,[.int .i64 (e:Nat),.int .i64 (n:Nat),.int .i64 (m:Nat),.int .i64 (b.length:Nat)],none⟩).next = H2.next + 1:=zag _ _;rw [nA] at gB;generalize H2.new _ = H3 at *;have gA3:=(sB.same H1.next (by omega)).trans gA;have s13:=sA.trans sB;have g3:=(s13.same q (by omega)).trans g1;generalize hqB:H1.next = p at *;obtain ⟨F,hF⟩:∃ F:Nat → List Nat,∀ i,F i = ([e,n,m,b.length].take i).flatMap by2:=⟨_,fun _=>rfl⟩;have hF0:F 0 = []:=hF 0;have hF4:F 4 = [e,n,m,b.length].flatMap by2:=hF 4;have hints:∀ i,i < 4 → ∃ y,y < 65536 ∧ ([.int .i64 (e:Nat),.int .i64 (n:Nat),.int .i64 (m:Nat),.int .i64 (b.length:Nat)]:List V)[i]? = some (.int .i64 (y:Nat)) ∧ F (i + 1) = F i ++ by2 y:=by
  intro i hi;rw [hF,hF];have:i = 0 ∨ i = 1 ∨ i = 2 ∨ i = 3:=by omega
  rcases this with rfl | rfl | rfl | rfl
  ·exact ⟨e,by omega,rfl,rfl⟩
  ·exact ⟨n,by omega,rfl,rfl⟩
  ·exact ⟨m,by omega,rfl,rfl⟩
  ·exact ⟨b.length,by omega,rfl,rfl⟩
 have hfl:∀ i,(F i).length ≤ 8:=by
  intro i;rw [hF];have h1:(([e,n,m,b.length].take i).flatMap by2).length = 2 * ([e,n,m,b.length].take i).length:=by
   induction ([e,n,m,b.length].take i) with
   | nil=>rfl
   | cons a l ih=>rw [List.flatMap_cons,List.length_append,ih,List.length_cons]; simp [by2]; omega
  rw [h1,List.length_take];simp only [List.length_cons,List.length_nil];omega
 refine zau (Q:=fun r' H'=>∃ w,r' = .ex 0 [w] ∧ Ab p H' w ([k,r,s] ++ F 4) ∧ Bel p H3 H') ?_ ?_
 ·refine zaV (fun i L H'=>∃ w,L = [w,.int .i64 (i:Nat)] ∧ Ab p H' w ([k,r,s] ++ F i) ∧ Bel p H3 H' ∧ H'.get (p + 1) = H3.get (p + 1) ∧ w.pid ≠ some (p + 1)) 4 ?_ ?_ ?_
  ·exact ⟨_,rfl,by rw [hF0]; exact .full gA3 rfl (Nat.le_refl _) (by omega),Bel.refl _ _,rfl,by simp [V.pid]⟩
  ·rintro i _ H4 hi ⟨w,rfl,ha,hbel,hsame,hpid⟩;obtain ⟨y,hy,hc,hf⟩:=hints i hi;have n4:=hbel.next;have g4:=hsame.trans gB;have d:decide (((i:Nat):Int) < ((4:Nat):Int)) = true:=decide_eq_true (by omega);have d':decide (i < 4) = true:=decide_eq_true hi;have hia:∀ {kk:IntKind},Ax.iaddr none 1 (.sl (p + 1) 0 4 (.fix 4)) (.int kk ((i:Nat):Int)) = some (.ptr (p + 1) i):=fun {kk}=>by rw [zgm (by omega) (by omega),Int.toNat_natCast,Nat.mul_one,Nat.zero_add]
   have e3:shr y 8 = y / 256:=by rw [zmj,Nat.shiftRight_eq_div_pow]
   have w1:IntKind.u8.wrap ((y / 256:Nat):Int) = ((y / 256 % 256:Nat):Int):=by rw [wrap_u8]; rfl
   have w2:IntKind.u8.wrap ((y:Nat):Int) = ((y % 256:Nat):Int):=by rw [wrap_u8]; rfl
   have hli:=hfl i;unfold zfD uL uB uIM uc ub uq ug;simp (maxSteps:=1000000) (disch:=first | omega | (simp only [RY] <;> omega) | decide) only [↓RD,RZ,eq_self,Int.reduceToNat,Int.reduceAdd,Int.reduceSub,Int.reduceMul,Nat.reduceAdd,Nat.reduceSub,Nat.reduceMul,Nat.reduceDiv,Nat.reduceMod,Nat.reduceBEq,Nat.reduceLeDiff,d,d',hia,g4,hc,e3,w1,w2];have hkeep:=Apf.keep ha ((Grow.new H4 ⟨zaw,[.int .u8 (y / 256 % 256:Nat),.int .u8 (y % 256:Nat)],none⟩).keep _);refine zrS (m:=by2 y) hkeep (by rw [zag]; omega) (zaQ rfl) (by simp only [List.length_append,List.length_cons,List.length_nil,by2]; omega) fun w2 H5 h2 hb2 st2=>?_;have n5:=hb2.next;rw [zag] at n5;simp (maxSteps:=1000000) (disch:=first | omega | (simp only [RY] <;> omega) | decide) only [↓RD,RZ,eq_self,Int.reduceToNat,Int.reduceAdd,Int.reduceSub,Int.reduceMul,Nat.reduceAdd,Nat.reduceSub,Nat.reduceMul,Nat.reduceDiv,Nat.reduceMod,Nat.reduceBEq,Nat.reduceLeDiff];refine ⟨w2,rfl,by show Ab p H5 w2 ([k,r,s] ++ F (i + 1)); rw [hf,← List.append_assoc]; exact h2,hbel.trans (((Grow.new _ _).bel (by omega)).trans hb2),?_,fun e=>?_⟩
   ·rw [st2.same (p + 1) (by rw [zag]; omega) (by simp [zbe,hpid]),zaG _ _ (by omega)];exact hsame
   ·rcases st2.own (p + 1) (by simp [e]) with h | h
    ·exact hpid (by simpa [zbe] using h)
    ·rw [zag] at h; omega
  ·rintro _ H4 ⟨w,rfl,ha,hbel,hsame,hpid⟩;unfold zfD uL uB uIM uc ub uq ug;simp (maxSteps:=1000000) (disch:=first | omega | (simp only [RY] <;> omega) | decide) only [↓RD,RZ,eq_self,Int.reduceToNat,Int.reduceAdd,Int.reduceSub,Int.reduceMul,Nat.reduceAdd,Nat.reduceSub,Nat.reduceMul,Nat.reduceDiv,Nat.reduceMod,Nat.reduceBEq,Nat.reduceLeDiff];exact ⟨w,rfl,ha,hbel⟩
 ·rintro _ H4 ⟨w,rfl,ha,hbel⟩;have n4:=hbel.next;have s04:Grow H H4:=(s01.trans s13).bel' (by omega) hbel;have g4:=(hbel.same q (by omega)).trans g3;simp (maxSteps:=1000000) (disch:=first | omega | (simp only [RY] <;> omega) | decide) only [↓RD,RZ,eq_self,Int.reduceToNat,Int.reduceAdd,Int.reduceSub,Int.reduceMul,Nat.reduceAdd,Nat.reduceSub,Nat.reduceMul,Nat.reduceDiv,Nat.reduceMod,Nat.reduceBEq,Nat.reduceLeDiff,g4];refine znz ha (by omega) (hb.ext s04).ac (by have:=hfl 4; simp only [List.length_append,List.length_cons,List.length_nil]; omega) fun w2 H5 h2 hb2=>?_;simp (maxSteps:=1000000) (disch:=first | omega | (simp only [RY] <;> omega) | decide) only [↓RD,RZ,eq_self,Int.reduceToNat,Int.reduceAdd,Int.reduceSub,Int.reduceMul,Nat.reduceAdd,Nat.reduceSub,Nat.reduceMul,Nat.reduceDiv,Nat.reduceMod,Nat.reduceBEq,Nat.reduceLeDiff];refine ⟨s04.bel' (by omega) hb2,.inr ⟨w2,rfl,?_⟩⟩;rw [hF4] at h2;exact Apf.low h2 (by omega)
theorem zrf {lo:Nat} {H:Heap} {x:Nt} {bv:V} (hb:By lo H bv x.b) (hk:Pl3 x):Ok (sem T zdI [.agg (nC x bv)]) H fun r H'=>Grow H H' ∧ (zgp x = false ∧ r = .tup [.nils,.int .i64 1] ∨ zgp x = true ∧ ∃ v,r = .tup [v,.int .i64 0] ∧ Ab H.next H' v (zaX x)) :=
 zmc (zgp x) hb (fun H hb=>znR hb hk) zkJ
end Go.Ax.SU
/- Dk4 -/
namespace Go.Ax.SU
open Go.Ax
def twoB (b:List Nat) (i:Nat):Nat:=b.getD i 0 * 256 + b.getD (i + 1) 0
def zN:Nt:=⟨0,0,0,0,0,0,[]⟩
def rawN (b:List Nat):Nt:=⟨(b.getD 0 0:Nat),(b.getD 1 0:Nat),(b.getD 2 0:Nat),(twoB b 3:Nat),(twoB b 5:Nat),(twoB b 7:Nat),b.drop 11⟩
def zgA (b:List Nat):Nat :=
 if b.length < 11 then 3 else if 200 < twoB b 9 then 4 else if b.length - 11 < twoB b 9 then 3 else if twoB b 9 < b.length - 11 then 2 else if zgp (rawN b) = false then 2 else 0
theorem twoB_lt {b:List Nat} (h:Ok8 b) (i:Nat):twoB b i < 65536:=by
 have h1:=h.getD i;have h2:=h.getD (i + 1);unfold twoB;omega
theorem two8 {x y:Nat} (hx:x < 256) (hy:y < 256):x * 256 ||| y = x * 256 + y:=or256 x y hy
theorem zlr {x:Nat} (h:x < 256):IntKind.i64.wrap ((x:Nat):Int) = ((x:Nat):Int):=wrap_i64 (by omega) (by omega)
theorem zj5 {lo:Nat} {H:Heap} {q:Nat} {bv:V} {b:List Nat} {i:Nat} (hq:H.get q = some ⟨zdX,[bv],none⟩) (hb:By lo H bv b) (b8:Ok8 b) (hi:i + 1 < b.length) (hl:b.length ≤ 1000000) :
  Ok (sem T zbq [.int .i64 (i:Nat),.ptr q 0]) H fun r H'=>r = .int .i64 (twoB b i:Nat) ∧ H' = H:=by
 refine zkv ?_;unfold zhF uL uM uB uIM uc uq;obtain ⟨p0,hp0,hl0,-⟩:=by_at hb (i:=(i:Nat)) (by omega) (by omega);obtain ⟨p1,hp1,hl1,-⟩:=by_at hb (i:=((i + 1:Nat):Int)) (by omega) (by omega);rw [Int.toNat_natCast] at hl0 hl1;have h0:=b8.getD i;have h1:=b8.getD (i + 1);have c0:=zlr h0;have c1:=zlr h1;have w:IntKind.i64.wrap (((i:Nat):Int) + 1) = ((i + 1:Nat):Int):=by rw [wrap_i64 (by omega) (by omega)]; omega
 have sh:Ax.bin .shl (.int .i64 (b.getD i 0:Nat)) (.int .u64 8) = some (.int .i64 (b.getD i 0 * 256:Nat)):=by
  rw [zh3 (by decide)];have:((b.getD i 0:Nat):Int) * 2 ^ min (8:Int).toNat IntKind.i64.bits = ((b.getD i 0 * 256:Nat):Int):=by
   show ((b.getD i 0:Nat):Int) * 256 = _;omega
  rw [this,wrap_i64 (by omega) (by omega)]
 have ho:=two8 h0 h1;unfold twoB;generalize b.getD i 0 = x at *;generalize b.getD (i + 1) 0 = y at *;have ho':Ax.bin .or (.int .i64 (x * 256:Nat)) (.int .i64 (y:Nat)) = some (.int .i64 (x * 256 + y:Nat)):=by
  rw [znx (by omega) (by omega) (by omega) (by omega),Int.toNat_natCast,Int.toNat_natCast,ho]
 simp (disch:=omega) only [↓RD,RZ,hq,hp0,hl0,hp1,hl1,c0,c1,w,sh,ho']
theorem zma {lo:Nat} {H:Heap} {bv:V} {b:List Nat} (hb:By lo H bv b) (b8:Ok8 b) (hl:b.length ≤ 1000000) (hk:Pl3 (rawN b)) :
  Ok (sem T zeL [bv]) H fun r H'=>Grow H H' ∧ (zgA b ≠ 0 ∧ r = .tup [.agg (nC zN .nils),.int .i64 (zgA b:Nat)] ∨ zgA b = 0 ∧ ∃ v,r = .tup [.agg (nC (rawN b) v),.int .i64 0] ∧ By H.next H' v (b.drop 11)):=by
 refine zmy ?_;unfold zjK uL uM uS uT uF uB uI uO uU uc;have vc:=hb.cells1;have vo:=hb.okc;refine zam (zaR vo ?_);rw [vc];have s0:=Grow.new H ⟨zdX,[bv],none⟩;have g0:(H.new ⟨zdX,[bv],none⟩).get H.next = some ⟨zdX,[bv],none⟩:=zad _ _;have n0:(H.new ⟨zdX,[bv],none⟩).next = H.next + 1:=zag _ _;generalize hq:H.next = q at *;generalize H.new _ = H0 at *;refine zam (zaR rfl ?_);rw [zai];have s1:=Grow.new H0 ⟨zae,nC zN .nils,none⟩;have p1:(H0.new ⟨zae,nC zN .nils,none⟩).get H0.next = some ⟨zae,nC zN .nils,none⟩:=zad _ _;have n1:(H0.new ⟨zae,nC zN .nils,none⟩).next = H0.next + 1:=zag _ _;have g1:=(s1.same q (by omega)).trans g0;show Ok _ (H0.new ⟨zae,nC zN .nils,none⟩) _;rw [n0] at *;generalize H0.new _ = H1 at *;have hb1:=hb.ext (s0.trans s1);have bl:=hb1.vlen;have s01:=s0.trans s1;have fin:∀ (H2:Heap) (cs:List V),Grow H H2 → Grow H (H2.set (q + 1) (some ⟨zae,cs,none⟩)):=fun H2 cs h=>h.set (by omega) _;by_cases hlen:b.length < 11
 ·have e:zgA b = 3:=by unfold zgA; rw [if_pos hlen]
  have d:decide (((b.length:Nat):Int) < 11) = true:=decide_eq_true (by omega);have d':decide (b.length < 11) = true:=decide_eq_true hlen;rw [e];unfold nC zN at p1;simp (maxSteps:=1000000) (disch:=first | omega | (simp only [RY] <;> omega) | decide) only [↓RD,RZ,eq_self,Int.reduceToNat,Int.reduceAdd,Int.reduceSub,Int.reduceMul,Nat.reduceAdd,Nat.reduceSub,Nat.reduceMul,Nat.reduceDiv,Nat.reduceMod,Nat.reduceBEq,Nat.reduceLeDiff,g1,bl,d,d',p1];exact ⟨fin _ _ s01,.inl ⟨by decide,rfl⟩⟩
 have d:decide (((b.length:Nat):Int) < 11) = false:=decide_eq_false (by omega);have d':decide (b.length < 11) = false:=decide_eq_false hlen;obtain ⟨p0,hp0,hl0,-⟩:=by_at hb1 (i:=0) (by omega) (by omega);obtain ⟨p1',hp1,hl1,-⟩:=by_at hb1 (i:=1) (by omega) (by omega);obtain ⟨p2,hp2,hl2,-⟩:=by_at hb1 (i:=2) (by omega) (by omega);have c0:=zlr (b8.getD 0);have c1:=zlr (b8.getD 1);have c2:=zlr (b8.getD 2);have t3:=@zaK _ _ _ _ (show Ok (callv (sem T) (.fn zbq [.ptr q 0]) [.int .i64 3]) H1 _ from zj5 (i:=3) g1 hb1 b8 (by omega) hl);have t5:=@zaK _ _ _ _ (show Ok (callv (sem T) (.fn zbq [.ptr q 0]) [.int .i64 5]) H1 _ from zj5 (i:=5) g1 hb1 b8 (by omega) hl);have t7:=@zaK _ _ _ _ (show Ok (callv (sem T) (.fn zbq [.ptr q 0]) [.int .i64 7]) H1 _ from zj5 (i:=7) g1 hb1 b8 (by omega) hl);simp (maxSteps:=1000000) (disch:=first | omega | (simp only [RY] <;> omega) | decide) only [↓RD,RZ,eq_self,Int.reduceToNat,Int.reduceAdd,Int.reduceSub,Int.reduceMul,Nat.reduceAdd,Nat.reduceSub,Nat.reduceMul,Nat.reduceDiv,Nat.reduceMod,Nat.reduceBEq,Nat.reduceLeDiff,g1,bl,d,d',hp0,hp1,hp2,hl0,hl1,hl2,c0,c1,c2,t3,t5,t7];have h8:=b8.getD;have s2:Grow H1 ((H1.new ⟨zae,[.int .i64 0,.int .i64 0,.int .i64 0,.int .i64 0,.int .i64 0,.int .i64 0,.nils],none⟩).set H1.next (some ⟨zae,nC { rawN b with b:=[] } .nils,none⟩)):=(Grow.new _ _).set (Nat.le_refl _) _;have p3:((H1.new ⟨zae,[.int .i64 0,.int .i64 0,.int .i64 0,.int .i64 0,.int .i64 0,.int .i64 0,.nils],none⟩).set H1.next (some ⟨zae,nC { rawN b with b:=[] } .nils,none⟩)).get H1.next = _:=zak _ _ _;have n2:((H1.new ⟨zae,[.int .i64 0,.int .i64 0,.int .i64 0,.int .i64 0,.int .i64 0,.int .i64 0,.nils],none⟩).set H1.next (some ⟨zae,nC { rawN b with b:=[] } .nils,none⟩)).next = H1.next + 1:=rfl;have hn1:H1.next = q + 2:=by omega
 rw [hn1] at s2 p3 n2;have en1:q + 1 + 1 = q + 2:=rfl;rw [hn1];unfold nC rawN at s2 p3 n2;dsimp only at s2 p3 n2;generalize Heap.set (Heap.new H1 _) _ _ = H2 at *;have g2:=(s2.same q (by omega)).trans g1;have p2:=(s2.same (q + 1) (by omega)).trans p1;have hb2:=hb1.ext s2;have s02:=s01.trans s2;obtain ⟨rv,-,-,hs,hrv,-⟩:=by_slice hb2 (x:=11) (y:=(b.length:Nat)) (by omega) (by omega) (by omega);replace hs:∀ {kk:IntKind},zaN .sl 1 bv (some (.int kk 11)) none none = some rv:=hs rfl;have hr2:By lo H2 rv (b.drop 11):=by
  have e:((b.drop (11:Int).toNat).take (((b.length:Nat):Int).toNat - (11:Int).toNat)) = b.drop 11:=List.take_of_length_le (by rw [List.length_drop,Int.toNat_natCast]; exact Nat.le_refl _);rw [e] at hrv;exact hrv
 have rl:=hr2.vlen;rw [List.length_drop] at rl;have t9:=@zaK _ _ _ _ (show Ok (callv (sem T) (.fn zbq [.ptr q 0]) [.int .i64 9]) H2 _ from zj5 (i:=9) g2 hb2 b8 (by omega) hl);have h9:=twoB_lt b8 9;unfold nC zN at p2;dsimp only at p2;have eE:zgA b = if 200 < twoB b 9 then 4 else if b.length - 11 < twoB b 9 then 3 else if twoB b 9 < b.length - 11 then 2 else if zgp (rawN b) = false then 2 else 0:=by
  unfold zgA;rw [if_neg hlen]
 simp (maxSteps:=1000000) (disch:=first | omega | (simp only [RY] <;> omega) | decide) only [↓RD,RZ,eq_self,Int.reduceToNat,Int.reduceAdd,Int.reduceSub,Int.reduceMul,Nat.reduceAdd,Nat.reduceSub,Nat.reduceMul,Nat.reduceDiv,Nat.reduceMod,Nat.reduceBEq,Nat.reduceLeDiff,hs,t9];by_cases k1:200 < twoB b 9
 ·have d1:decide ((200:Int) < ((twoB b 9:Nat):Int)) = true:=decide_eq_true (by omega);have d1':decide (200 < twoB b 9) = true:=decide_eq_true k1;rw [if_pos k1] at eE;rw [eE];simp (maxSteps:=1000000) (disch:=first | omega | (simp only [RY] <;> omega) | decide) only [↓RD,RZ,eq_self,Int.reduceToNat,Int.reduceAdd,Int.reduceSub,Int.reduceMul,Nat.reduceAdd,Nat.reduceSub,Nat.reduceMul,Nat.reduceDiv,Nat.reduceMod,Nat.reduceBEq,Nat.reduceLeDiff,d1,d1',p2];exact ⟨fin _ _ s02,.inl ⟨by decide,rfl⟩⟩
 have d1:decide ((200:Int) < ((twoB b 9:Nat):Int)) = false:=decide_eq_false (by omega);have d1':decide (200 < twoB b 9) = false:=decide_eq_false k1;rw [if_neg k1] at eE;by_cases k2:b.length - 11 < twoB b 9
 ·have d2:decide (((b.length - 11:Nat):Int) < ((twoB b 9:Nat):Int)) = true:=decide_eq_true (by omega);have d2':decide (b.length - 11 < twoB b 9) = true:=decide_eq_true k2;rw [if_pos k2] at eE;rw [eE];simp (maxSteps:=1000000) (disch:=first | omega | (simp only [RY] <;> omega) | decide) only [↓RD,RZ,eq_self,Int.reduceToNat,Int.reduceAdd,Int.reduceSub,Int.reduceMul,Nat.reduceAdd,Nat.reduceSub,Nat.reduceMul,Nat.reduceDiv,Nat.reduceMod,Nat.reduceBEq,Nat.reduceLeDiff,d1,d1',rl,d2,d2',p2];exact ⟨fin _ _ s02,.inl ⟨by decide,rfl⟩⟩
 have d2:decide (((b.length - 11:Nat):Int) < ((twoB b 9:Nat):Int)) = false:=decide_eq_false (by omega);have d2':decide (b.length - 11 < twoB b 9) = false:=decide_eq_false k2;rw [if_neg k2] at eE;by_cases k3:twoB b 9 < b.length - 11
 ·have d3:decide (((twoB b 9:Nat):Int) < ((b.length - 11:Nat):Int)) = true:=decide_eq_true (by omega);have d3':decide (twoB b 9 < b.length - 11) = true:=decide_eq_true k3;rw [if_pos k3] at eE;rw [eE];simp (maxSteps:=1000000) (disch:=first | omega | (simp only [RY] <;> omega) | decide) only [↓RD,RZ,eq_self,Int.reduceToNat,Int.reduceAdd,Int.reduceSub,Int.reduceMul,Nat.reduceAdd,Nat.reduceSub,Nat.reduceMul,Nat.reduceDiv,Nat.reduceMod,Nat.reduceBEq,Nat.reduceLeDiff,d1,d1',rl,d2,d2',d3,d3',p2];exact ⟨fin _ _ s02,.inl ⟨by decide,rfl⟩⟩
 have d3:decide (((twoB b 9:Nat):Int) < ((b.length - 11:Nat):Int)) = false:=decide_eq_false (by omega);have d3':decide (twoB b 9 < b.length - 11) = false:=decide_eq_false k3;rw [if_neg k3] at eE;simp (maxSteps:=1000000) (disch:=first | omega | (simp only [RY] <;> omega) | decide) only [↓RD,RZ,eq_self,Int.reduceToNat,Int.reduceAdd,Int.reduceSub,Int.reduceMul,Nat.reduceAdd,Nat.reduceSub,Nat.reduceMul,Nat.reduceDiv,Nat.reduceMod,Nat.reduceBEq,Nat.reduceLeDiff,d1,d1',rl,d2,d2',d3,d3'];refine zac (zm1 hr2 (by rw [List.length_drop]; omega)) ?_;rintro v H3 ⟨hv,s3⟩;have n3:=s3.next;have p33:=(s3.same (q + 2) (by omega)).trans p3;have p23:=(s3.same (q + 1) (by omega)).trans p2;have vc3:=hv.by.cells1;have vo3:=hv.by.okc;simp (maxSteps:=1000000) (disch:=first | omega | (simp only [RY] <;> omega) | decide) only [↓RD,RZ,eq_self,Int.reduceToNat,Int.reduceAdd,Int.reduceSub,Int.reduceMul,Nat.reduceAdd,Nat.reduceSub,Nat.reduceMul,Nat.reduceDiv,Nat.reduceMod,Nat.reduceBEq,Nat.reduceLeDiff,p33,vc3,vo3];rw [zc8];have n2':H2.next = q + 3:=by omega
 have a4:AtS [q + 2] H3 (H3.set (q + 2) (some ⟨zae,nC (rawN b) v,none⟩)):=AtS.set _ (by simp) _;have s34:Grow H (H3.set (q + 2) (some ⟨zae,nC (rawN b) v,none⟩)):=(s02.trans s3).set (by omega) _;have p34:(H3.set (q + 2) (some ⟨zae,nC (rawN b) v,none⟩)).get (q + 2) = _:=zak _ _ _;have p24:(H3.set (q + 2) (some ⟨zae,nC (rawN b) v,none⟩)).get (q + 1) = _:=(zat _ _ (by omega)).trans p23;have n4:(H3.set (q + 2) (some ⟨zae,nC (rawN b) v,none⟩)).next = H3.next:=rfl;have hv4:=Lc.atS hv.by a4 fun j hj h=>by
  have:=(hv.by.own j hj).1;simp only [List.mem_singleton] at h;omega
 show Ok _ (H3.set (q + 2) (some ⟨zae,nC (rawN b) v,none⟩)) _;generalize Heap.set H3 _ _ = H4 at *;refine zac (znR (x:=rawN b) (bv:=v) hv4 hk) ?_;rintro _ H5 ⟨rfl,s5⟩;have p35:=(s5.same (q + 2) (by omega)).trans p34;have p25:=(s5.same (q + 1) (by omega)).trans p24;have s05:=s34.trans s5;have hv5:=hv4.ext s5;cases hg:zgp (rawN b) with
 | false =>
  rw [if_pos hg] at eE;rw [eE];simp (maxSteps:=1000000) (disch:=first | omega | (simp only [RY] <;> omega) | decide) only [↓RD,RZ,eq_self,Int.reduceToNat,Int.reduceAdd,Int.reduceSub,Int.reduceMul,Nat.reduceAdd,Nat.reduceSub,Nat.reduceMul,Nat.reduceDiv,Nat.reduceMod,Nat.reduceBEq,Nat.reduceLeDiff,p25];exact ⟨fin _ _ s05,.inl ⟨by decide,rfl⟩⟩
 | true =>
  rw [if_neg (by rw [hg]; decide)] at eE;have l7:ldc (some 7) (nC (rawN b) v) 0 = some (.agg (nC (rawN b) v)):=rfl;have hc7:(nC (rawN b) v).length = 7:=rfl;have ok7:(V.agg (nC (rawN b) v)).okc = true:=by simp [nC,V.okc,vo3]
  have sp7:splice [.int .i64 0,.int .i64 0,.int .i64 0,.int .i64 0,.int .i64 0,.int .i64 0,.nils] 0 (nC (rawN b) v) = nC (rawN b) v:=rfl;rw [eE];simp (maxSteps:=1000000) (disch:=first | omega | (simp only [RY] <;> omega) | decide) only [↓RD,RZ,eq_self,Int.reduceToNat,Int.reduceAdd,Int.reduceSub,Int.reduceMul,Nat.reduceAdd,Nat.reduceSub,Nat.reduceMul,Nat.reduceDiv,Nat.reduceMod,Nat.reduceBEq,Nat.reduceLeDiff,p35,l7,p25,zai,hc7,ok7,sp7];refine ⟨fin _ _ s05,.inr ⟨v,rfl,?_⟩⟩;exact (Lc.atS hv5 (AtS.set (S:=[q + 1]) H5 (by simp) _) fun j hj h=>by
   have:=(hv.by.own j hj).1;simp only [List.mem_singleton] at h;omega).low (by omega)
end Go.Ax.SU
/- Dk5 -/
namespace Go.Ax.SU
open Go.Ax
structure Tb where
 u:List Bool
 a:List Int
structure TbO (t:Tb):Prop where
 u8:t.u.length = 8
 a8:t.a.length = 8
def tC (t:Tb):List V:=t.u.map .bool ++ t.a.map (.int .i64)
def Tb.uG (t:Tb) (i:Nat):Bool:=t.u.getD i false
def Tb.aG (t:Tb) (i:Nat):Int:=t.a.getD i 0
def hitS (t:Tb) (a:Int) (i:Nat):Bool:=t.uG i && decide (a = t.aG i)
def zdP (t:Tb) (a:Int):Option Nat:=(List.range 8).find? (hitS t a)
def zfO (t:Tb) (i:Nat):Bool:=if t.uG i then decide (zdP t (t.aG i) = some i) && (decide (0 ≤ t.aG i) && decide (t.aG i ≤ 63)) else decide (t.aG i = 0)
def zes (t:Tb):Bool:=(List.range 8).all (zfO t)
def fv (o:Option Nat):V:=match o with | some j=>.tup [.int .i64 (j:Nat),.bool true] | none=>.tup [.int .i64 0,.bool false]
theorem zcO {t:Tb} (h:TbO t):(tC t).length = 16:=by unfold tC; rw [List.length_append,List.length_map,List.length_map,h.u8,h.a8]
theorem tC_u {t:Tb} (h:TbO t) {i:Nat} (hi:i < 8):(tC t)[i]? = some (.bool (t.uG i)):=by
 unfold tC Tb.uG;rw [List.getElem?_append_left (by rw [List.length_map,h.u8]; exact hi),List.getElem?_map,List.getElem?_eq_getElem (by rw [h.u8]; exact hi),List.getD_eq_getElem?_getD,List.getElem?_eq_getElem (by rw [h.u8]; exact hi)];rfl
theorem tC_a {t:Tb} (h:TbO t):ldc (some 8) (tC t) 8 = some (.agg (t.a.map (.int .i64))):=by
 have:=zcO h;simp only [ldc];rw [if_pos (by omega)];unfold tC;rw [List.drop_left' (by rw [List.length_map,h.u8]),List.take_of_length_le (by rw [List.length_map,h.a8]; exact Nat.le_refl _)]
theorem zlK {t:Tb} (h:TbO t):ldc (some 16) (tC t) 0 = some (.agg (tC t)):=by
 have:=zcO h;simp only [ldc];rw [if_pos (by omega),List.drop_zero,List.take_of_length_le (by omega)]
theorem aG_at {t:Tb} (h:TbO t) {i:Nat} (hi:i < 8):Ax.index 8 1 none (.agg (t.a.map (.int .i64))) (.int .i64 (i:Nat)) = some (.int .i64 (t.aG i)):=by
 simp only [Ax.index];rw [if_pos (by omega),Int.toNat_natCast,Nat.mul_one];simp only [ldc];rw [List.getElem?_map,List.getElem?_eq_getElem (by rw [h.a8]; exact hi)];unfold Tb.aG;rw [List.getD_eq_getElem?_getD,List.getElem?_eq_getElem (by rw [h.a8]; exact hi)];rfl
theorem ia8 {q i:Nat} (hi:i < 8) {k:IntKind}:Ax.iaddr (some 8) 1 (.ptr q 0) (.int k (i:Nat)) = some (.ptr q i):=by
 simp only [Ax.iaddr];rw [if_pos (by omega),Int.toNat_natCast,Nat.mul_one,Nat.zero_add]
theorem zng (t:Tb):(V.agg (tC t)).okc = true:=by
 simp [V.okc,tC]
theorem zeO {p:Nat → Bool} {n i:Nat} (hi:i < n) (hp:p i = true) (hno:∀ k,k < i → p k = false):(List.range n).find? p = some i:=by
 rw [List.find?_range_eq_some];exact ⟨hp,by simpa using hi,fun k hk=>by simpa using hno k hk⟩
theorem zfI {p:Nat → Bool} {n:Nat} (hno:∀ k,k < n → p k = false):(List.range n).find? p = none:=by
 rw [List.find?_eq_none];intro x hx;rw [hno x (List.mem_range.1 hx)];decide
theorem zkV {H:Heap} {t:Tb} (ht:TbO t) (a:Int):Ok (sem T zcW [.agg (tC t),.int .i64 a]) H fun r H'=>r = fv (zdP t a) ∧ Grow H H':=by
 refine zmn ?_;unfold zjy uS uF uO uc;refine zam (zaR (zng t) ?_);rw [zai];have s0:=Grow.new H ⟨zaj,tC t,none⟩;have g0:(H.new ⟨zaj,tC t,none⟩).get H.next = some ⟨zaj,tC t,none⟩:=zad _ _;generalize hq:H.next = q at *;generalize H.new _ = H0 at *;have hA:=tC_a ht;simp (disch:=omega) only [↓RD,RZ,g0,hA];refine zau (Q:=fun r H'=>H' = H0 ∧ ((r = .ex 0 [] ∧ zdP t a = none) ∨ ∃ i:Nat,r = .ret [.int .i64 (i:Nat),.bool true] ∧ zdP t a = some i)) ?_ ?_
 ·refine zaV (fun j L H'=>L = [.int .i64 (j:Nat)] ∧ H' = H0 ∧ ∀ k,k < j → hitS t a k = false) 8 ?_ ?_ ?_
  ·exact ⟨rfl,rfl,fun k hk=>by omega⟩
  ·rintro j _ H1 hj ⟨rfl,rfl,hno⟩;have d1:decide (((j:Nat):Int) < 8) = true:=decide_eq_true (by omega);have d1':decide (j < 8) = true:=decide_eq_true hj;have hx:=aG_at ht hj;have hu:=tC_u ht hj;have hi:=fun {k}=>@ia8 q j hj k;have w1:IntKind.i64.wrap (((j:Nat):Int) + 1) = ((j + 1:Nat):Int):=by rw [wrap_i64 (by omega) (by omega)]; omega
   have step:hitS t a j = false → ∀ k,k < j + 1 → hitS t a k = false:=fun h k hk=>by
    by_cases hkk:k < j
    ·exact hno k hkk
    ·have:k = j:=by omega
     subst this;exact h
   unfold zfA uL uF uB uIM uG uH uc ug;cases hb:t.uG j with
   | false =>
    rw [hb] at hu;simp (disch:=omega) only [↓RD,RZ,d1,d1',hx,hi,g0,hu,w1];exact step (by unfold hitS; rw [hb]; rfl)
   | true =>
    rw [hb] at hu;by_cases ha:a = t.aG j
    ·have b2:(a == t.aG j) = true:=by simpa using ha
     simp (disch:=omega) only [↓RD,RZ,d1,d1',hx,hi,g0,hu,b2];exact .inr ⟨j,rfl,zeO hj (by unfold hitS; rw [hb,decide_eq_true ha]; rfl) hno⟩
    ·have b2:(a == t.aG j) = false:=by simpa using ha
     simp (disch:=omega) only [↓RD,RZ,d1,d1',hx,hi,g0,hu,b2,w1];exact step (by unfold hitS; rw [hb,decide_eq_false ha]; rfl)
  ·rintro _ H1 ⟨rfl,rfl,hno⟩;unfold zfA uL uF uB uIM uG uH uc ug;simp (disch:=omega) only [↓RD,RZ];exact .inl (zfI hno)
 ·rintro _ H1 ⟨rfl,⟨rfl,h⟩ | ⟨i,rfl,h⟩⟩
  ·rw [h]; simp (disch:=omega) only [↓RD,RZ]; exact ⟨rfl,s0⟩
  ·rw [h]; simp (disch:=omega) only [↓RD,RZ]; exact ⟨rfl,s0⟩
end Go.Ax.SU
/- Dk6 -/
namespace Go.Ax.SU
open Go.Ax
theorem zop {H:Heap} (x:Int):Ok (sem T zdC [.int .i64 x]) H fun r H'=>r = .bool (decide (0 ≤ x) && decide (x ≤ 63)) ∧ H' = H:=by
 refine zmo ?_;unfold zjz uL uB uG uH uc;by_cases h:0 ≤ x
 ·have d:decide ((0:Int) ≤ x) = true:=decide_eq_true h;simp (disch:=omega) only [↓RD,RZ,d,Bool.true_and]
 ·have d:decide ((0:Int) ≤ x) = false:=decide_eq_false h;simp (disch:=omega) only [↓RD,RZ,d,Bool.false_and]
theorem ziQ {H:Heap} (x:Int):Ok (sem T zel [.int .i64 x]) H fun r H'=>r = .bool (decide (0 ≤ x) && decide (x ≤ 63)) ∧ H' = H:=by
 refine znG ?_;unfold zk2 uL uB uG uH uc;by_cases h:0 ≤ x
 ·have d:decide ((0:Int) ≤ x) = true:=decide_eq_true h;simp (disch:=omega) only [↓RD,RZ,d,Bool.true_and]
 ·have d:decide ((0:Int) ≤ x) = false:=decide_eq_false h;simp (disch:=omega) only [↓RD,RZ,d,Bool.false_and]
theorem zsu {t:Tb} {i:Nat} (hi:i < 8) (hu:t.uG i = true):∃ j,zdP t (t.aG i) = some j:=by
 cases h:zdP t (t.aG i) with
 | some j=>exact ⟨j,rfl⟩
 | none =>
  have:=(List.find?_eq_none.1 h) i (List.mem_range.2 hi);exact absurd (show hitS t (t.aG i) i = true by unfold hitS; rw [hu,decide_eq_true rfl]; rfl) this
theorem zir {H:Heap} {t:Tb} (ht:TbO t):Ok (sem T zcs [.agg (tC t)]) H fun r H'=>r = .bool (zes t) ∧ Grow H H':=by
 refine zmr ?_;unfold zjC uS uF uO uc;refine zam (zaR (zng t) ?_);rw [zai];have s0:=Grow.new H ⟨zaj,tC t,none⟩;have g0:(H.new ⟨zaj,tC t,none⟩).get H.next = some ⟨zaj,tC t,none⟩:=zad _ _;have n0:(H.new ⟨zaj,tC t,none⟩).next = H.next + 1:=zag _ _;generalize hq:H.next = q at *;generalize H.new _ = H0 at *;have hA:=tC_a ht;have hAll:=zlK ht;simp (disch:=omega) only [↓RD,RZ,g0,hA];refine zau (Q:=fun r H'=>Grow H0 H' ∧ ((r = .ex 0 [] ∧ zes t = true) ∨ (r = .ret [.bool false] ∧ zes t = false))) ?_ ?_
 ·refine zaV (fun j L H'=>L = [.int .i64 (j:Nat)] ∧ Grow H0 H' ∧ ∀ k,k < j → zfO t k = true) 8 ?_ ?_ ?_
  ·exact ⟨rfl,Grow.refl _,fun k hk=>by omega⟩
  ·rintro j _ H1 hj ⟨rfl,s1,hyes⟩;have n1:=s1.next;have g1:=(s1.same q (by omega)).trans g0;have d1:decide (((j:Nat):Int) < 8) = true:=decide_eq_true (by omega);have d1':decide (j < 8) = true:=decide_eq_true hj;have hx:=aG_at ht hj;have hu:=tC_u ht hj;have hi:=fun {k}=>@ia8 q j hj k;have w1:IntKind.i64.wrap (((j:Nat):Int) + 1) = ((j + 1:Nat):Int):=by rw [wrap_i64 (by omega) (by omega)]; omega
   have step:zfO t j = true → ∀ k,k < j + 1 → zfO t k = true:=fun h k hk=>by
    by_cases hkk:k < j
    ·exact hyes k hkk
    ·have:k = j:=by omega
     subst this;exact h
   have bad:zfO t j = false → zes t = false:=fun h=>by
    cases hh:zes t with
    | false=>rfl
    | true =>
     have:=List.all_eq_true.1 hh j (List.mem_range.2 hj);rw [h] at this;cases this
   unfold zfC uL uS uF uE uB uIM uG uH uc ug;cases hb:t.uG j with
   | false =>
    rw [hb] at hu;by_cases ha:t.aG j = 0
    ·have b2:(t.aG j == 0) = true:=by simpa using ha
     simp (disch:=omega) only [↓RD,RZ,d1,d1',hx,hi,g1,hu,b2,Bool.not_true,w1];exact ⟨s1,step (by unfold zfO; rw [hb]; simpa using ha)⟩
    ·have b2:(t.aG j == 0) = false:=by simpa using ha
     simp (disch:=omega) only [↓RD,RZ,d1,d1',hx,hi,g1,hu,b2,Bool.not_false];exact ⟨s1,.inr (bad (by unfold zfO; rw [hb]; simpa using ha))⟩
   | true =>
    rw [hb] at hu;simp (disch:=omega) only [↓RD,RZ,d1,d1',hx,hi,g1,hu,hAll];refine zac (zkV ht (t.aG j)) ?_;rintro _ H2 ⟨rfl,s2⟩;obtain ⟨i,hfi⟩:=zsu hj hb;have ea:zfO t j = (decide (i = j) && (decide (0 ≤ t.aG j) && decide (t.aG j ≤ 63))):=by
     unfold zfO;rw [if_pos hb,hfi];congr 1;exact decide_eq_decide.2 (by simp)
    have w2:=@zaK _ _ _ _ (@zop H2 (t.aG j));rw [hfi];unfold fv;by_cases hij:i = j
    ·have b3:(((i:Nat):Int) == ((j:Nat):Int)) = true:=by rw [hij]; simp
     have b3':(i == j) = true:=by simpa using hij
     rw [decide_eq_true hij,Bool.true_and] at ea;generalize (decide (0 ≤ t.aG j) && decide (t.aG j ≤ 63)) = w at *;cases w with
     | true =>
      simp (disch:=omega) only [↓RD,RZ,b3,b3',Bool.not_true,w2,w1];exact ⟨s1.trans s2,step ea⟩
     | false =>
      simp (disch:=omega) only [↓RD,RZ,b3,b3',Bool.not_true,w2];exact ⟨s1.trans s2,.inr (bad ea)⟩
    ·have b3:(((i:Nat):Int) == ((j:Nat):Int)) = false:=by simp; omega
     have b3':(i == j) = false:=by simpa using hij
     rw [decide_eq_false hij,Bool.false_and] at ea;simp (disch:=omega) only [↓RD,RZ,b3,b3',Bool.not_false];exact ⟨s1.trans s2,.inr (bad ea)⟩
  ·rintro _ H1 ⟨rfl,s1,hyes⟩;unfold zfC uL uS uF uE uB uIM uG uH uc ug;simp (disch:=omega) only [↓RD,RZ];exact ⟨s1,.inl (List.all_eq_true.2 fun k hk=>hyes k (List.mem_range.1 hk))⟩
 ·rintro _ H1 ⟨s1,⟨rfl,h⟩ | ⟨rfl,h⟩⟩
  ·rw [h]; simp (disch:=omega) only [↓RD,RZ]; exact s0.trans s1
  ·rw [h]; simp (disch:=omega) only [↓RD,RZ]; exact s0.trans s1
theorem zos {H:Heap} {t:Tb} (ht:TbO t) (a:Int):Ok (sem T zdE [.agg (tC t),.int .i64 a]) H fun r H'=>r = fv (if zes t then zdP t a else none) ∧ Grow H H':=by
 refine zms ?_;unfold zjD uL uS uE uO uc;refine zam (zaR (zng t) ?_);rw [zai];have s0:=Grow.new H ⟨zaj,tC t,none⟩;have g0:(H.new ⟨zaj,tC t,none⟩).get H.next = some ⟨zaj,tC t,none⟩:=zad _ _;have n0:(H.new ⟨zaj,tC t,none⟩).next = H.next + 1:=zag _ _;generalize hq:H.next = q at *;generalize H.new _ = H0 at *;have hAll:=zlK ht;simp (disch:=omega) only [↓RD,RZ,g0,hAll];refine zac (zir ht) ?_;rintro _ H1 ⟨rfl,s1⟩;have g1:=(s1.same q (by omega)).trans g0;cases hg:zes t with
 | false=>simp (disch:=omega) only [↓RD,RZ]; exact ⟨rfl,s0.trans s1⟩
 | true =>
  simp (disch:=omega) only [↓RD,RZ,g1,hAll];refine zac (zkV ht a) ?_;rintro _ H2 ⟨rfl,s2⟩;unfold fv;cases zdP t a with
  | none=>simp (disch:=omega) only [↓RD,RZ]; exact (s0.trans s1).trans s2
  | some j=>simp (disch:=omega) only [↓RD,RZ]; exact (s0.trans s1).trans s2
end Go.Ax.SU
/- Dk7 -/
namespace Go.Ax.SU
open Go.Ax
abbrev tyDk:=zjm
structure DkH (H:Heap) (d:Nat) (D:List V) (t:Nat → Tb):Prop where
 blk:H.get d = some ⟨tyDk,D,none⟩
 len:D.length = 1535
 tb:∀ i,i < 4 → ldc (some 16) D (i * 367) = some (.agg (tC (t i))) ∧ TbO (t i)
theorem DkH.to {H H':Heap} {d:Nat} {D:List V} {t:Nat → Tb} (h:DkH H d D t) (e:H'.get d = H.get d):DkH H' d D t:=⟨e.trans h.blk,h.len,h.tb⟩
def inS (t:Tb) (a:Int):Option Nat:=if zes t then zdP t a else none
def zeQ (t:Nat → Tb) (a:Int):Option (Nat × Nat):=(List.range 4).findSome? fun i=>(inS (t i) a).map fun s=>(i,s)
def wv (d:Nat) (o:Option (Nat × Nat)):V:=match o with | some (i,s)=>.tup [.ptr d (i * 367),.int .i64 (s:Nat),.bool true] | none=>.tup [.nilp,.int .i64 0,.bool false]
theorem ziS {t:Nat → Tb} {a:Int} (h:∀ k,k < 4 → inS (t k) a = none):zeQ t a = none:=by
 unfold zeQ;rw [List.findSome?_eq_none_iff];intro x hx;rw [h x (List.mem_range.1 hx)];rfl
theorem zlI {t:Nat → Tb} {a:Int} {i s:Nat} (hi:i < 4) (hs:inS (t i) a = some s) (h:∀ k,k < i → inS (t k) a = none):zeQ t a = some (i,s):=by
 unfold zeQ;have e:List.range 4 = List.range i ++ i :: (List.range' (i + 1) (3 - i)):=by
  have:i = 0 ∨ i = 1 ∨ i = 2 ∨ i = 3:=by omega
  rcases this with rfl | rfl | rfl | rfl <;> rfl
 rw [e,List.findSome?_append];have h1:(List.range i).findSome? (fun i=>(inS (t i) a).map fun s=>(i,s)) = none:=by
  rw [List.findSome?_eq_none_iff];intro x hx;rw [h x (List.mem_range.1 hx)];rfl
 rw [h1,List.findSome?_cons,hs];rfl
theorem zj3 {H:Heap} {d:Nat} {D:List V} {t:Nat → Tb} (hd:DkH H d D t) (hdl:d < H.next) (a:Int):Ok (sem T zbS [.ptr d 0,.int .i64 a]) H fun r H'=>r = wv d (zeQ t a) ∧ Grow H H':=by
 refine zie ?_;unfold zf1 uc;simp (disch:=omega) only [↓RD,RZ];refine zau (Q:=fun r H'=>Grow H H' ∧ ((r = .ex 0 [] ∧ zeQ t a = none) ∨ ∃ i s:Nat,r = .ret [.ptr d (i * 367),.int .i64 (s:Nat),.bool true] ∧ zeQ t a = some (i,s))) ?_ ?_
 ·refine zaV (fun j L H'=>L = [.int .i64 (j:Nat)] ∧ Grow H H' ∧ ∀ k,k < j → inS (t k) a = none) 4 ?_ ?_ ?_
  ·exact ⟨rfl,Grow.refl _,fun k hk=>by omega⟩
  ·rintro j _ H1 hj ⟨rfl,s1,hno⟩;have n1:=s1.next;have g1:=(s1.same d hdl).trans hd.blk;obtain ⟨hl,ht⟩:=hd.tb j hj;have d1:decide (((j:Nat):Int) < 4) = true:=decide_eq_true (by omega);have d1':decide (j < 4) = true:=decide_eq_true hj;have hi:∀ {k:IntKind},Ax.iaddr (some 4) 367 (.ptr d 0) (.int k (j:Nat)) = some (.ptr d (j * 367)):=fun {k}=>by
    simp only [Ax.iaddr];rw [if_pos (by omega),Int.toNat_natCast,Nat.zero_add]
   have w1:IntKind.i64.wrap (((j:Nat):Int) + 1) = ((j + 1:Nat):Int):=by rw [wrap_i64 (by omega) (by omega)]; omega
   unfold zdl uS uF uNF uE uB uI uc ug;simp (disch:=omega) only [↓RD,RZ,d1,d1',hi,g1,hl];refine zac (zos ht a) ?_;rintro _ H2 ⟨rfl,s2⟩;have ei:(if zes (t j) then zdP (t j) a else none) = inS (t j) a:=rfl;rw [ei];unfold fv;cases hf:inS (t j) a with
   | none =>
    simp (disch:=omega) only [↓RD,RZ,w1];refine ⟨s1.trans s2,fun k hk=>?_⟩;by_cases hkk:k < j
    ·exact hno k hkk
    ·have:k = j:=by omega
     subst this;exact hf
   | some s =>
    simp (disch:=omega) only [↓RD,RZ,hi];exact ⟨s1.trans s2,.inr ⟨j,s,rfl,zlI hj hf hno⟩⟩
  ·rintro _ H1 ⟨rfl,s1,hno⟩;unfold zdl uS uF uNF uE uB uI uc ug;simp (disch:=omega) only [↓RD,RZ];exact ⟨s1,.inl (ziS hno)⟩
 ·rintro _ H1 ⟨s1,⟨rfl,h⟩ | ⟨i,s,rfl,h⟩⟩
  ·rw [h]; simp (disch:=omega) only [↓RD,RZ]; exact ⟨rfl,s1⟩
  ·rw [h]; simp (disch:=omega) only [↓RD,RZ]; exact ⟨rfl,s1⟩
end Go.Ax.SU
/- Dk8 -/
namespace Go.Ax.SU
open Go.Ax
theorem zmX {α:Type} {k:Nat}:∀ (es:List (List α)),(∀ x ∈ es,x.length = k) → ∀ (i:Nat) (x:List α),es[i]? = some x → (es.flatten.drop (i * k)).take k = x ∧ i * k + k ≤ es.flatten.length:=by
 intro es
 induction es with
 | nil=>intro _ i x h; simp at h
 | cons y es ih =>
  intro h i x hx;have hy:=h y List.mem_cons_self;cases i with
  | zero =>
   simp only [List.getElem?_cons_zero,Option.some.injEq] at hx;subst hx;rw [List.flatten_cons,Nat.zero_mul,List.drop_zero,List.take_left' hy,List.length_append];exact ⟨rfl,by omega⟩
  | succ i =>
   obtain ⟨h1,h2⟩:=ih (fun z hz=>h z (List.mem_cons_of_mem _ hz)) i x (by simpa using hx);have e:(i + 1) * k = k + i * k:=by rw [Nat.succ_mul]; omega
   rw [List.flatten_cons,List.length_append,e,← List.drop_drop,List.drop_left' hy];exact ⟨h1,by omega⟩
abbrev tyPo:=zeb
abbrev tyOu:=zb3
structure Ot where
 to':Int
 kind:Int
 b:List Nat
def oC (e:V × Ot):List V:=[.int .i64 e.2.to',.int .i64 e.2.kind,e.1]
structure Qm (lo:Nat) (H:Heap) (p:Nat) (es:List (V × Ot)):Prop where
 low:p < lo
 top:lo ≤ H.next
 le:es.length ≤ 32
 mem:∃ lv,H.get p = some ⟨tyPo,[.int .i64 32,lv],none⟩ ∧ App tyOu 3 lo H lv ((es.map oC).flatten) es.length ∧ ∀ e ∈ es,∀ i,e.1.pid = some i → lv.pid ≠ some i
 each:∀ e ∈ es,By lo H e.1 e.2.b
structure FrL (lo p:Nat) (H H':Heap):Prop where
 next:H.next ≤ H'.next
 same:∀ i,i < lo → i ≠ p → H'.get i = H.get i
theorem FrL.refl (lo p:Nat) (H:Heap):FrL lo p H H:=⟨Nat.le_refl _,fun _ _ _=>rfl⟩
theorem FrL.trans {lo p:Nat} {H H1 H2:Heap} (h:FrL lo p H H1) (g:FrL lo p H1 H2):FrL lo p H H2:=⟨Nat.le_trans h.next g.next,fun i hi hp=>(g.same i hi hp).trans (h.same i hi hp)⟩
theorem _root_.Go.Ax.Grow.frL {H H':Heap} (h:Grow H H') {lo:Nat} (p:Nat) (hl:lo ≤ H.next):FrL lo p H H':=⟨h.next,fun i hi _=>h.same i (by omega)⟩
theorem _root_.Go.Ax.App.atS {ty e lo n:Nat} {S:List Nat} {H H':Heap} {v:V} {cells:List V} (h:App ty e lo H v cells n) (s:AtS S H H') (hS:∀ i,v.pid = some i → i ∉ S):App ty e lo H' v cells n:=by
 cases h with
 | opn h ho=>exact .opn (h.to fun i hi=>s.same i (ho i hi).2 (hS i hi)) fun i hi=>⟨(ho i hi).1,Nat.lt_of_lt_of_le (ho i hi).2 s.next⟩
 | lit h h0 h1=>exact .lit ((s.same _ h1 (hS _ rfl)).trans h) h0 (Nat.lt_of_lt_of_le h1 s.next)
theorem _root_.Go.Ax.Step.atS {H H':Heap} {F F':List Nat} (h:Step H H' F F'):AtS F H H':=⟨h.next,h.same⟩
theorem Qm.grow {lo p:Nat} {H H':Heap} {es:List (V × Ot)} (h:Qm lo H p es) (s:Grow H H'):Qm lo H' p es:=by
 obtain ⟨lv,h1,h2,h3⟩:=h.mem;have:=h.low;have:=h.top;exact ⟨h.low,Nat.le_trans h.top s.next,h.le,⟨lv,(s.same p (by omega)).trans h1,h2.atS (Grow.atS s []) (by simp),h3⟩,fun e he=>(h.each e he).ext s⟩
theorem Qm.atS {lo p:Nat} {S:List Nat} {H H':Heap} {es:List (V × Ot)} (h:Qm lo H p es) (s:AtS S H H') (hS:∀ i ∈ S,i < lo ∧ i ≠ p):Qm lo H' p es:=by
 obtain ⟨lv,h1,h2,h3⟩:=h.mem;have h4:=h.low;have h5:=h.top;refine ⟨h.low,Nat.le_trans h.top s.next,h.le,⟨lv,(s.same p (by omega) fun e=>(hS p e).2 rfl).trans h1,h2.atS s fun i hi e=>?_,h3⟩,fun e he=>Lc.atS (h.each e he) s fun i hi e'=>?_⟩
 ·have:=(h2.lc.own i hi).1;have:=(hS i e).1;omega
 ·have:=((h.each e he).own i hi).1;have:=(hS i e').1;omega
end Go.Ax.SU
/- Dk9 -/
namespace Go.Ax.SU
open Go.Ax
theorem ok_aadd {β:Type} {H:Heap} {id off:Nat} {b:Blk} {n j:Int} {f:V → M β} {Q:β → Heap → Prop} (hb:H.get id = some b) (hc:b.cells[off]? = some (.int .i64 n))
  (k:Ok (f (.int .i64 (IntKind.i64.wrap (n + j)))) (H.set id (some { b with cells:=splice b.cells off [.int .i64 (IntKind.i64.wrap (n + j))] })) Q):Ok ((zgl .i64 (.ptr id off) (.int .i64 j)).bind f) H Q:=by
 refine zam ⟨_,_,?_,k⟩;simp only [zgl,hb,Option.bind_some,hc,if_true]
theorem ok_aload {β:Type} {H:Heap} {id off:Nat} {b:Blk} {n:Int} {f:V → M β} {Q:β → Heap → Prop} (hb:H.get id = some b) (hc:b.cells[off]? = some (.int .i64 n)) (k:Ok (f (.int .i64 n)) H Q):Ok ((zeD .i64 (.ptr id off)).bind f) H Q:=by
 refine zam ⟨_,_,?_,k⟩;simp only [zeD,zar,hb,Option.bind_some,ldc,hc,Option.map_some,if_true]
def c64 (n:Nat):V:=.int .i64 (n:Nat)
structure Cm (H:Heap) (C cs:Nat) (ns:List Nat):Prop where
 hd:∃ cap,H.get C = some ⟨zfq,[.sl cs 0 11 cap],none⟩
 bd:∃ o,H.get cs = some ⟨zcN,ns.map c64,o⟩
 len:ns.length = 11
 small:∀ n ∈ ns,n < 4611686018427387904
theorem zjO {H:Heap} {C cs i:Nat} {ns:List Nat} (h:Cm H C cs ns) (hne:C ≠ cs) (hi:i < 11) (hs:ns.getD i 0 + 1 < 4611686018427387904):Ok (sem T zaL [.ptr C 0,.int .i64 (i:Nat)]) H fun r H'=>r = .tup [] ∧ AtS [cs] H H' ∧ Cm H' C cs (ns.set i (ns.getD i 0 + 1)):=by
 refine zia ?_;unfold zfX uL uNFM uB uI uG uH uc;obtain ⟨cap,h1⟩:=h.hd;obtain ⟨o,h2⟩:=h.bd;have hl:=h.len;have d:decide ((0:Int) ≤ ((i:Nat):Int)) = true:=decide_eq_true (by omega);have d2:decide (((i:Nat):Int) < 11) = true:=decide_eq_true (by omega);have d2':decide (i < 11) = true:=decide_eq_true hi;have hv:Ax.vlen (.sl cs 0 11 cap) = some (.int .i64 11):=rfl;have hia:∀ {k:IntKind},Ax.iaddr none 1 (.sl cs 0 11 cap) (.int k (i:Nat)) = some (.ptr cs i):=fun {k}=>by rw [zgm (by omega) (by omega),Int.toNat_natCast,Nat.mul_one,Nat.zero_add]
 have hg:ns[i]? = some (ns.getD i 0):=by rw [List.getD_eq_getElem?_getD,List.getElem?_eq_getElem (by omega)]; rfl
 have hc:(ns.map c64)[i]? = some (.int .i64 (ns.getD i 0:Nat)):=by rw [List.getElem?_map,hg]; rfl
 have w:IntKind.i64.wrap (((ns.getD i 0:Nat):Int) + 1) = ((ns.getD i 0 + 1:Nat):Int):=by rw [wrap_i64 (by omega) (by omega)]; omega
 simp (disch:=omega) only [↓RD,RZ,d,h1,hv,d2,d2',hia];rw [zc8];refine zac (P:=fun r H'=>H' = H.set cs (some ⟨zcN,(ns.set i (ns.getD i 0 + 1)).map c64,o⟩)) ?_ ?_
 ·refine zfK ?_;unfold zdJ uNF;refine zao rfl ?_;refine zao rfl ?_;refine ok_aadd h2 hc ?_;rw [w];have e:splice (ns.map c64) (i + 0) [.int .i64 (ns.getD i 0 + 1:Nat)] = (ns.set i (ns.getD i 0 + 1)).map c64:=by
   unfold splice;rw [List.map_set,List.set_eq_take_append_cons_drop,if_pos (by rw [List.length_map]; omega),List.append_assoc];rfl
  dsimp only;rw [e];exact zgd ⟨_,rfl,rfl⟩
 ·rintro _ _ rfl;simp (disch:=omega) only [↓RD,RZ];have a1:AtS [cs] H (H.set cs (some ⟨zcN,(ns.set i (ns.getD i 0 + 1)).map c64,o⟩)):=AtS.set _ (by simp) _;refine ⟨rfl,a1,⟨⟨cap,(zat _ _ hne).trans h1⟩,⟨o,zak _ _ _⟩,by rw [List.length_set]; exact hl,fun n hn=>?_⟩⟩;rcases List.mem_or_eq_of_mem_set hn with hn | rfl
  ·exact h.small n hn
  ·exact hs
theorem Of_ok {H:Heap} {C cs i:Nat} {ns:List Nat} (h:Cm H C cs ns) (hi:i < 11):Ok (sem T zc1 [.ptr C 0,.int .i64 (i:Nat)]) H fun r H'=>r = .int .i64 (ns.getD i 0:Nat) ∧ H' = H:=by
 refine ziZ ?_;unfold zgE uL uNFM uB uI uG uH uc;obtain ⟨cap,h1⟩:=h.hd;obtain ⟨o,h2⟩:=h.bd;have hl:=h.len;have d:decide (((i:Nat):Int) < 0) = false:=decide_eq_false (by omega);have d2:decide ((11:Int) ≤ ((i:Nat):Int)) = false:=decide_eq_false (by omega);have d2':decide (11 ≤ i) = false:=decide_eq_false (by omega);have hv:Ax.vlen (.sl cs 0 11 cap) = some (.int .i64 11):=rfl;have hia:∀ {k:IntKind},Ax.iaddr none 1 (.sl cs 0 11 cap) (.int k (i:Nat)) = some (.ptr cs i):=fun {k}=>by rw [zgm (by omega) (by omega),Int.toNat_natCast,Nat.mul_one,Nat.zero_add]
 have hg:ns[i]? = some (ns.getD i 0):=by rw [List.getD_eq_getElem?_getD,List.getElem?_eq_getElem (by omega)]; rfl
 have hc:(ns.map c64)[i]? = some (.int .i64 (ns.getD i 0:Nat)):=by rw [List.getElem?_map,hg]; rfl
 simp (disch:=omega) only [↓RD,RZ,d,h1,hv,d2,d2',hia];rw [zc8];refine zac (P:=fun r H'=>r = V.int .i64 (ns.getD i 0:Nat) ∧ H' = H) ?_ ?_
 ·refine zfu ?_;unfold zdq uNF;refine zao rfl ?_;refine zao rfl ?_;refine ok_aload h2 hc ?_;exact zgd ⟨_,rfl,rfl,rfl⟩
 ·rintro _ _ ⟨rfl,rfl⟩;simp (disch:=omega) only [↓RD,RZ]
structure DS (lo:Nat) (H:Heap) (d p C cs a:Nat) (D:List V) (t:Nat → Tb) (es:List (V × Ot)) (ns:List Nat):Prop where
 dk:DkH H d D t
 cm:Cm H C cs ns
 qm:Qm lo H p es
 dl:d < lo
 Cl:C < lo
 cl:cs < lo
 dp:d ≠ p
 Cp:C ≠ p
 cp:cs ≠ p
 dc:d ≠ cs
 Cc:C ≠ cs
 a64:a < 64
 po:D[1470 + a]? = some (.ptr p 0)
 co:D[1534]? = some (.ptr C 0)
theorem DS.grow {lo:Nat} {H H':Heap} {d p C cs a:Nat} {D:List V} {t:Nat → Tb} {es:List (V × Ot)} {ns:List Nat} (h:DS lo H d p C cs a D t es ns) (s:Grow H H'):DS lo H' d p C cs a D t es ns:=by
 have h1:=h.qm.top;have h2:=h.dl;have h3:=h.Cl;have h4:=h.cl;obtain ⟨cap,g1⟩:=h.cm.hd;obtain ⟨o,g2⟩:=h.cm.bd;exact ⟨h.dk.to (s.same d (by omega)),⟨⟨cap,(s.same C (by omega)).trans g1⟩,⟨o,(s.same cs (by omega)).trans g2⟩,h.cm.len,h.cm.small⟩,h.qm.grow s,h.dl,h.Cl,h.cl,h.dp,h.Cp,h.cp,h.dc,h.Cc,h.a64,h.po,h.co⟩
theorem DS.one {lo:Nat} {H H':Heap} {d p C cs a:Nat} {D:List V} {t:Nat → Tb} {es:List (V × Ot)} {ns ns':List Nat} (h:DS lo H d p C cs a D t es ns) (s:AtS [cs] H H') (hc:Cm H' C cs ns'):DS lo H' d p C cs a D t es ns':=by
 have h1:=h.qm.top;have h2:=h.dl;exact ⟨h.dk.to (s.same d (by omega) (by simp; exact h.dc)),hc,h.qm.atS s (fun i hi=>by simp only [List.mem_singleton] at hi; subst hi; exact ⟨h.cl,h.cp⟩),h.dl,h.Cl,h.cl,h.dp,h.Cp,h.cp,h.dc,h.Cc,h.a64,h.po,h.co⟩
theorem DS.post {lo:Nat} {H H':Heap} {d p C cs a:Nat} {D:List V} {t:Nat → Tb} {es es':List (V × Ot)} {ns:List Nat} (h:DS lo H d p C cs a D t es ns) (s:FrL lo p H H') (hq:Qm lo H' p es'):DS lo H' d p C cs a D t es' ns:=by
 obtain ⟨cap,g1⟩:=h.cm.hd;obtain ⟨o,g2⟩:=h.cm.bd;exact ⟨h.dk.to (s.same d h.dl h.dp),⟨⟨cap,(s.same C h.Cl h.Cp).trans g1⟩,⟨o,(s.same cs h.cl h.cp).trans g2⟩,h.cm.len,h.cm.small⟩,hq,h.dl,h.Cl,h.cl,h.dp,h.Cp,h.cp,h.dc,h.Cc,h.a64,h.po,h.co⟩
def zmh (es:List Ot) (o:Ot):List Ot:=if es.length < 32 then es ++ [o] else es
def zmg (es:List Ot) (ns:List Nat):List Nat:=if es.length < 32 then ns else ns.set 10 (ns.getD 10 0 + 1)
end Go.Ax.SU
/- Dk10 -/
namespace Go.Ax.SU
open Go.Ax
def sayE (es:List Ot) (a:Nat) (x:Nt):List Ot:=if zgp x then zmh es ⟨(a:Nat),2,zaX x⟩ else es
def sayN (es:List Ot) (ns:List Nat) (x:Nt):List Nat:=if zgp x then zmg es ns else ns
theorem by2_len (l:List Nat):(l.flatMap by2).length = 2 * l.length:=by
 induction l with
 | nil=>rfl
 | cons a l ih=>rw [List.flatMap_cons,List.length_append,ih,List.length_cons]; simp [by2]; omega
theorem zeP (x:Nt):(zaX x).length = 11 + x.b.length:=by
 unfold zaX;rw [List.length_append,List.length_append,by2_len];rfl
def noX (e k:Int):Nt:=⟨18,0,0,0,e,k,[]⟩
end Go.Ax.SU
/- Dk11 -/
namespace Go.Ax.SU
open Go.Ax
theorem AtS.setn' {S:List Nat} {H H':Heap} (h:AtS S H H') {q:Nat} (hq:H.next ≤ q) (b:Option Blk):AtS S H (H'.set q b) :=
 ⟨by rw [zbr]; exact h.next,fun i hi hs=>by rw [zat _ _ (by omega)]; exact h.same i hi hs⟩
theorem zss {es:List (V × Ot)} {e:V × Ot} {l:List (V × Ot)} (h:es = e :: l):(((es.map oC).flatten).drop ((0:Int).toNat * 3)).take 3 = oC e:=by
 subst h;rfl
structure DT (H:Heap) (d p a:Nat) (D:List V):Prop where
 blk:H.get d = some ⟨tyDk,D,none⟩
 dl:d < H.next
 pl:p < H.next
 dp:d ≠ p
 a64:a < 64
 po:D[1470 + a]? = some (.ptr p 0)
theorem DT.atS {H H':Heap} {d p a:Nat} {D:List V} (h:DT H d p a D) (s:AtS [p] H H'):DT H' d p a D :=
 ⟨(s.same d h.dl (by simp; exact h.dp)).trans h.blk,Nat.lt_of_lt_of_le h.dl s.next,Nat.lt_of_lt_of_le h.pl s.next,h.dp,h.a64,h.po⟩
end Go.Ax.SU
/- Dk12 -/
namespace Go.Ax.SU
open Go.Ax
theorem zmb {H:Heap} {d a:Nat} {bv:V} (n:Int) {Q:Heap → Prop} (ha:a < 64) (vc:bv.cells = [bv]) (vo:bv.okc = true)
  (h:∀ H1,Grow H H1 → Ok (sem T zbf [.ptr d 0,.int .i64 (a:Nat),bv]) H1 fun r H'=>r = .tup [] ∧ Q H') :
  Ok (sem T zaS [.ptr d 0,.agg [.int .i64 2,.int .i64 (a:Nat),.int .i64 n,bv]]) H fun r H'=>r = .tup [.nils,.int .i64 0] ∧ Q H':=by
 refine zeS ?_;unfold zd9 uL uT uFM uNFM uNF uB uG uH uO uc;refine zam (zaR (by simp [V.okc,vo]) ?_);rw [zai];have s0:=Grow.new H ⟨zbh,[.int .i64 2,.int .i64 (a:Nat),.int .i64 n,bv],none⟩;have g0:(H.new ⟨zbh,[.int .i64 2,.int .i64 (a:Nat),.int .i64 n,bv],none⟩).get H.next = some ⟨zbh,[.int .i64 2,.int .i64 (a:Nat),.int .i64 n,bv],none⟩:=zad _ _;generalize hq:H.next = q at *;generalize H.new _ = H0 at *;have w:=@zaK _ _ _ _ (@ziQ H0 (a:Nat));have e:(decide ((0:Int) ≤ ((a:Nat):Int)) && decide (((a:Nat):Int) ≤ 63)) = true:=by
  rw [decide_eq_true (by omega),decide_eq_true (by omega)]; rfl
 rw [e] at w;simp (disch:=omega) only [↓RD,RZ,g0,w];refine zac (h H0 s0) ?_;rintro _ H1 ⟨rfl,hq⟩;simp (disch:=omega) only [↓RD,RZ];exact hq
theorem zrd {H:Heap} {d a n:Nat} {bv:V} {Q:V → Heap → Prop} (ha:a < 64) (hn:n ≤ 32) (vc:bv.cells = [bv]) (vo:bv.okc = true)
  (h:∀ H1,Grow H H1 → Ok (sem T zbT [.ptr d 0,.int .i64 (a:Nat),.int .i64 (n:Nat)]) H1 Q) :
  Ok (sem T zaS [.ptr d 0,.agg [.int .i64 5,.int .i64 (a:Nat),.int .i64 (n:Nat),bv]]) H fun r H'=>∃ v,r = .tup [v,.int .i64 0] ∧ Q v H':=by
 refine zeS ?_;unfold zd9 uL uT uFM uNFM uNF uB uG uH uO uc;refine zam (zaR (by simp [V.okc,vo]) ?_);rw [zai];have s0:=Grow.new H ⟨zbh,[.int .i64 5,.int .i64 (a:Nat),.int .i64 (n:Nat),bv],none⟩;have g0:(H.new ⟨zbh,[.int .i64 5,.int .i64 (a:Nat),.int .i64 (n:Nat),bv],none⟩).get H.next = some ⟨zbh,[.int .i64 5,.int .i64 (a:Nat),.int .i64 (n:Nat),bv],none⟩:=zad _ _;generalize hq:H.next = q at *;generalize H.new _ = H0 at *;have w:=@zaK _ _ _ _ (@ziQ H0 (a:Nat));have e:(decide ((0:Int) ≤ ((a:Nat):Int)) && decide (((a:Nat):Int) ≤ 63)) = true:=by
  rw [decide_eq_true (by omega),decide_eq_true (by omega)]; rfl
 rw [e] at w;have d1:decide (((n:Nat):Int) < 0) = false:=decide_eq_false (by omega);have d2:decide ((32:Int) < ((n:Nat):Int)) = false:=decide_eq_false (by omega);have d2':decide (32 < n) = false:=decide_eq_false (by omega);simp (disch:=omega) only [↓RD,RZ,g0,w,d1,d2,d2'];refine zac (h H0 s0) ?_;intro v H1 hq;simp (disch:=omega) only [↓RD,RZ];exact ⟨v,rfl,hq⟩
end Go.Ax.SU
/- Dk13 -/
namespace Go.Ax.SU
open Go.Ax
def txt (l:List Nat):V:=.str ⟨(l.map UInt8.ofNat).toArray⟩
theorem txt_len (l:List Nat):Ax.slen (txt l) = some (.int .i64 (l.length:Nat)):=by
 unfold txt;simp only [Ax.slen,ByteArray.size,List.size_toArray,List.length_map]
theorem txt_at {l:List Nat} (h:Ok8 l) {i:Nat} (hi:i < l.length):Ax.sindex (txt l) (.int .i64 (i:Nat)) = some (.int .u8 (l.getD i 0:Nat)):=by
 have hg:l.getD i 0 = l[i]:=by rw [List.getD_eq_getElem?_getD,List.getElem?_eq_getElem hi]; rfl
 have h8:l[i] < 256:=h _ (List.getElem_mem hi);unfold txt;simp only [Ax.sindex,Int.toNat_natCast];rw [if_pos (by omega)];have:(⟨(l.map UInt8.ofNat).toArray⟩:ByteArray)[i]? = some (UInt8.ofNat l[i]):=by
  rw [getElem?_pos _ _ (by simp [ByteArray.size]; exact hi)];simp [ByteArray.getElem_eq_getElem_data]
 rw [this,hg];simp only [Option.map_some,UInt8.toNat_ofNat',Option.some.injEq];rw [Nat.mod_eq_of_lt (by simpa using h8)]
theorem has_ok {H:Heap} {l:List Nat} {c:Nat} (h:Ok8 l) (hl:l.length ≤ 1000):Ok (sem T zaF [txt l,.int .u8 (c:Nat)]) H fun r H'=>r = .bool (l.contains c) ∧ H' = H:=by
 refine zgW ?_;unfold zeC uc;have hsl:=txt_len l;simp (disch:=omega) only [↓RD,RZ];refine zau (Q:=fun r H'=>H' = H ∧ ((r = .ex 0 [] ∧ l.contains c = false) ∨ (r = .ret [.bool true] ∧ l.contains c = true))) ?_ ?_
 ·refine zaV (fun j L H'=>L = [.int .i64 (j:Nat)] ∧ H' = H ∧ ∀ k (hk:k < l.length),k < j → l[k] ≠ c) l.length ?_ ?_ ?_
  ·exact ⟨rfl,rfl,fun k _ hk=>by omega⟩
  ·rintro j _ H1 hj ⟨rfl,rfl,hno⟩;have d1:decide (((j:Nat):Int) < ((l.length:Nat):Int)) = true:=decide_eq_true (by omega);have d1':decide (j < l.length) = true:=decide_eq_true hj;have hx:=txt_at h hj;have hg:l.getD j 0 = l[j]:=by rw [List.getD_eq_getElem?_getD,List.getElem?_eq_getElem hj]; rfl
   rw [hg] at hx;have w1:IntKind.i64.wrap (((j:Nat):Int) + 1) = ((j + 1:Nat):Int):=by rw [wrap_i64 (by omega) (by omega)]; omega
   unfold zcH uL uB uc ug;by_cases hc:l[j] = c
   ·have b1:(((l[j]:Nat):Int) == ((c:Nat):Int)) = true:=by rw [hc]; simp
    have b1':(l[j] == c) = true:=by simpa using hc
    simp (disch:=omega) only [↓RD,RZ,hsl,d1,d1',hx,b1,b1'];exact .inr (by rw [List.contains_iff_mem,← hc]; exact List.getElem_mem hj)
   ·have b1:(((l[j]:Nat):Int) == ((c:Nat):Int)) = false:=by simp; omega
    have b1':(l[j] == c) = false:=by simpa using hc
    simp (disch:=omega) only [↓RD,RZ,hsl,d1,d1',hx,b1,b1',w1];intro k hk hkj;by_cases hkk:k < j
    ·exact hno k hk hkk
    ·have:k = j:=by omega
     subst this;exact hc
  ·rintro _ H1 ⟨rfl,rfl,hno⟩;have d1:decide (((l.length:Nat):Int) < ((l.length:Nat):Int)) = false:=decide_eq_false (by omega);have d1':decide (l.length < l.length) = false:=decide_eq_false (by omega);unfold zcH uL uB uc ug;simp (disch:=omega) only [↓RD,RZ,hsl,d1,d1'];refine .inl ?_;cases hh:l.contains c with
   | false=>rfl
   | true =>
    rw [List.contains_iff_mem] at hh;obtain ⟨k,hk,e⟩:=List.mem_iff_getElem.1 hh;exact absurd e (hno k hk hk)
 ·rintro _ H1 ⟨rfl,⟨rfl,h⟩ | ⟨rfl,h⟩⟩
  ·rw [h]; simp (disch:=omega) only [↓RD,RZ]
  ·rw [h]; simp (disch:=omega) only [↓RD,RZ]
theorem in_ok {H:Heap} (x lo hi:Int):Ok (sem T zaH [.int .i64 x,.int .i64 lo,.int .i64 hi]) H fun r H'=>r = .bool (decide (lo ≤ x) && decide (x ≤ hi)) ∧ H' = H:=by
 refine zhp ?_;unfold ze2 uL uB uG uH;by_cases h:lo ≤ x
 ·have d:decide (lo ≤ x) = true:=decide_eq_true h;simp (disch:=omega) only [↓RD,RZ,d,Bool.true_and]
 ·have d:decide (lo ≤ x) = false:=decide_eq_false h;simp (disch:=omega) only [↓RD,RZ,d,Bool.false_and]
theorem fields18 {H:Heap}:Ok (sem T zaU [.int .i64 18]) H fun r H'=>r = txt [110,109] ∧ H' = H:=by
 refine zcg ?_;unfold zbD uB uc ug;simp (disch:=omega) only [↓RD,RZ];rfl
end Go.Ax.SU
/- Dk14 -/
namespace Go.Ax.SU
open Go.Ax
theorem zrn {l:List Nat} (h:Ok8 l) (hl:l ≠ []):Ax.bin .eql (txt l) (.str ⟨#[]⟩) = some (.bool false):=by
 have e:=zpS (a:=l) (b:=[]) h (by simp);rw [decide_eq_false hl] at e;unfold txt;simp only [Ax.bin];exact congrArg (fun x=>some (V.bool x)) e
end Go.Ax.SU
/- Dk15 -/
namespace Go.Ax.SU
open Go.Ax
theorem num2 (y:Nat):num y 2 = by2 y:=by
 unfold num by2;simp [List.range,List.range.loop]
theorem u64_n {y:Nat} (h:y ≤ 1000000):IntKind.u64.wrap ((y:Nat):Int) = ((y:Nat):Int):=by rw [wrap_u64]; omega
theorem zre {lo:Nat} {H:Heap} {bv:V} {k r s e n m:Nat} {b:List Nat} (hb:By lo H bv b)
  (hg:∀ H',By lo H' bv b → Ok (sem T zas [.agg (nC ⟨(k:Nat),(r:Nat),(s:Nat),(e:Nat),(n:Nat),(m:Nat),b⟩ bv)]) H' fun r' H''=>r' = .bool true ∧ Grow H' H'')
  (h8:k < 256 ∧ r < 256 ∧ s < 256) (h16:e ≤ 65535 ∧ n ≤ 65535 ∧ m ≤ 65535) (hl:b.length ≤ 200) :
  Ok (sem T zby [.agg (nC ⟨(k:Nat),(r:Nat),(s:Nat),(e:Nat),(n:Nat),(m:Nat),b⟩ bv)]) H fun r' H'=>Grow H H' ∧ ∃ v,r' = .tup [v,.int .i64 0] ∧ Ab H.next H' v (zaX ⟨(k:Nat),(r:Nat),(s:Nat),(e:Nat),(n:Nat),(m:Nat),b⟩):=by
 refine zgh ?_;unfold zdT uL uM uS uF uFM uO uU uc ub;obtain ⟨h1,h2,h3⟩:=h8;obtain ⟨h4,h5,h6⟩:=h16;have vc:=hb.cells1;have vo:=hb.okc;refine zam (zaR (by simp [nC,V.okc,vo]) ?_);rw [zai];have s0:=Grow.new H ⟨zab,nC ⟨(k:Nat),(r:Nat),(s:Nat),(e:Nat),(n:Nat),(m:Nat),b⟩ bv,none⟩;have g0:(H.new ⟨zab,nC ⟨(k:Nat),(r:Nat),(s:Nat),(e:Nat),(n:Nat),(m:Nat),b⟩ bv,none⟩).get H.next = some ⟨zab,nC ⟨(k:Nat),(r:Nat),(s:Nat),(e:Nat),(n:Nat),(m:Nat),b⟩ bv,none⟩:=zad _ _;have n0:(H.new ⟨zab,nC ⟨(k:Nat),(r:Nat),(s:Nat),(e:Nat),(n:Nat),(m:Nat),b⟩ bv,none⟩).next = H.next + 1:=zag _ _;generalize hq:H.next = q at *;generalize H.new _ = H0 at *;have l0:ldc (some 7) (nC ⟨(k:Nat),(r:Nat),(s:Nat),(e:Nat),(n:Nat),(m:Nat),b⟩ bv) 0 = some (.agg (nC ⟨(k:Nat),(r:Nat),(s:Nat),(e:Nat),(n:Nat),(m:Nat),b⟩ bv)):=rfl;simp (maxSteps:=1000000) (disch:=first | omega | (simp only [RY] <;> omega) | decide) only [↓RD,RZ,eq_self,Int.reduceToNat,Int.reduceAdd,Int.reduceSub,Int.reduceMul,Nat.reduceAdd,Nat.reduceSub,Nat.reduceMul,Nat.reduceDiv,Nat.reduceMod,Nat.reduceBEq,Nat.reduceLeDiff,g0,l0];refine zac (hg H0 (hb.ext s0)) ?_;rintro _ H1 ⟨rfl,s1⟩;have n1:=s1.next;have s01:=s0.trans s1;have g1:=(s1.same q (by omega)).trans g0;unfold nC at g1;dsimp only at g1;have w8:∀ y:Nat,y < 256 → IntKind.u8.wrap ((y:Nat):Int) = ((y:Nat):Int):=fun y hy=>by rw [wrap_u8]; omega
 have wk:=w8 k h1;have wr:=w8 r h2;have ws:=w8 s h3;have u1:=u64_n (y:=e) (by omega);have u2:=u64_n (y:=n) (by omega);have u3:=u64_n (y:=m) (by omega);have u4:=u64_n (y:=b.length) (by omega);simp (maxSteps:=1000000) (disch:=first | omega | (simp only [RY] <;> omega) | decide) only [↓RD,RZ,eq_self,Int.reduceToNat,Int.reduceAdd,Int.reduceSub,Int.reduceMul,Nat.reduceAdd,Nat.reduceSub,Nat.reduceMul,Nat.reduceDiv,Nat.reduceMod,Nat.reduceBEq,Nat.reduceLeDiff,g1,wk,wr,ws,u1];have sA:=Grow.new H1 ⟨zaw,[.int .u8 (k:Nat),.int .u8 (r:Nat),.int .u8 (s:Nat)],none⟩;have gA:(H1.new ⟨zaw,[.int .u8 (k:Nat),.int .u8 (r:Nat),.int .u8 (s:Nat)],none⟩).get H1.next = _:=zad _ _;have nA:(H1.new ⟨zaw,[.int .u8 (k:Nat),.int .u8 (r:Nat),.int .u8 (s:Nat)],none⟩).next = H1.next + 1:=zag _ _;rw [zc8];generalize hp:H1.next = p at *;generalize H1.new _ = H2 at *;have hv0:By p H2 (.sl p 0 3 (.fix 3)) [k,r,s]:=Ab.by (.full gA rfl (Nat.le_refl _) (by omega));have g2:=(sA.same q (by omega)).trans g1;refine zac (U_ok e 2 hv0 (by omega) (by omega) (by simp)) ?_;rintro v1 H3 ⟨hv1,s3⟩;have n3:=s3.next;have g3:=(s3.same q (by omega)).trans g2;simp (maxSteps:=1000000) (disch:=first | omega | (simp only [RY] <;> omega) | decide) only [↓RD,RZ,eq_self,Int.reduceToNat,Int.reduceAdd,Int.reduceSub,Int.reduceMul,Nat.reduceAdd,Nat.reduceSub,Nat.reduceMul,Nat.reduceDiv,Nat.reduceMod,Nat.reduceBEq,Nat.reduceLeDiff,g3,u2];refine zac (U_ok n 2 hv1.by (by omega) (by omega) (by simp [zmB])) ?_;rintro v2 H4 ⟨hv2,s4⟩;have n4:=s4.next;have g4:=(s4.same q (by omega)).trans g3;simp (maxSteps:=1000000) (disch:=first | omega | (simp only [RY] <;> omega) | decide) only [↓RD,RZ,eq_self,Int.reduceToNat,Int.reduceAdd,Int.reduceSub,Int.reduceMul,Nat.reduceAdd,Nat.reduceSub,Nat.reduceMul,Nat.reduceDiv,Nat.reduceMod,Nat.reduceBEq,Nat.reduceLeDiff,g4,u3];refine zac (U_ok m 2 hv2.by (by omega) (by omega) (by simp [zmB])) ?_;rintro v3 H5 ⟨hv3,s5⟩;have n5:=s5.next;have g5:=(s5.same q (by omega)).trans g4;have s05:=s01.trans (sA.trans (s3.trans (s4.trans s5)));have bl:=(hb.ext s05).vlen;simp (maxSteps:=1000000) (disch:=first | omega | (simp only [RY] <;> omega) | decide) only [↓RD,RZ,eq_self,Int.reduceToNat,Int.reduceAdd,Int.reduceSub,Int.reduceMul,Nat.reduceAdd,Nat.reduceSub,Nat.reduceMul,Nat.reduceDiv,Nat.reduceMod,Nat.reduceBEq,Nat.reduceLeDiff,g5,bl,u4];refine zac (U_ok b.length 2 hv3.by (by omega) (by omega) (by simp [zmB])) ?_;rintro v4 H6 ⟨hv4,s6⟩;have n6:=s6.next;have e6:=s6.same q (by omega);have s06:=s05.trans s6;simp (maxSteps:=1000000) (disch:=first | omega | (simp only [RY] <;> omega) | decide) only [↓RD,RZ,eq_self,Int.reduceToNat,Int.reduceAdd,Int.reduceSub,Int.reduceMul,Nat.reduceAdd,Nat.reduceSub,Nat.reduceMul,Nat.reduceDiv,Nat.reduceMod,Nat.reduceBEq,Nat.reduceLeDiff,e6];refine znz hv4 n6 (hb.ext s06).ac (by simp only [List.length_append,zmB,List.length_cons,List.length_nil]; omega) fun v5 H7 hv5 b7=>?_;simp (maxSteps:=1000000) (disch:=first | omega | (simp only [RY] <;> omega) | decide) only [↓RD,RZ,eq_self,Int.reduceToNat,Int.reduceAdd,Int.reduceSub,Int.reduceMul,Nat.reduceAdd,Nat.reduceSub,Nat.reduceMul,Nat.reduceDiv,Nat.reduceMod,Nat.reduceBEq,Nat.reduceLeDiff]
 have n05:=s05.next;refine ⟨s06.bel' (by omega) b7,v5,rfl,?_⟩;have e':zaX ⟨(k:Nat),(r:Nat),(s:Nat),(e:Nat),(n:Nat),(m:Nat),b⟩ = [k,r,s] ++ num e 2 ++ num n 2 ++ num m 2 ++ num b.length 2 ++ b:=by
  unfold zaX;simp only [Int.toNat_natCast,num2,List.flatMap_cons,List.flatMap_nil,List.append_nil,List.append_assoc]
 rw [e'];exact Apf.low hv5 (by omega)
theorem says_ok {lo:Nat} {H:Heap} {bv:V} {k r s e n m:Nat} {b:List Nat} (hb:By lo H bv b)
  (hg:∀ H',By lo H' bv b → Ok (sem T zas [.agg (nC ⟨(k:Nat),(r:Nat),(s:Nat),(e:Nat),(n:Nat),(m:Nat),b⟩ bv)]) H' fun r' H''=>r' = .bool true ∧ Grow H' H'')
  (h8:k < 256 ∧ r < 256 ∧ s < 256) (h16:e ≤ 65535 ∧ n ≤ 65535 ∧ m ≤ 65535) (hl:b.length ≤ 200) :
  Ok (sem T zaZ [.agg (nC ⟨(k:Nat),(r:Nat),(s:Nat),(e:Nat),(n:Nat),(m:Nat),b⟩ bv)]) H fun r' H'=>Grow H H' ∧ Ab H.next H' r' (zaX ⟨(k:Nat),(r:Nat),(s:Nat),(e:Nat),(n:Nat),(m:Nat),b⟩):=by
 refine zgO ?_;unfold zep uS uE uO;have vc:=hb.cells1;have vo:=hb.okc;refine zam (zaR (by simp [nC,V.okc,vo]) ?_);rw [zai];have s0:=Grow.new H ⟨zab,nC ⟨(k:Nat),(r:Nat),(s:Nat),(e:Nat),(n:Nat),(m:Nat),b⟩ bv,none⟩;have g0:(H.new ⟨zab,nC ⟨(k:Nat),(r:Nat),(s:Nat),(e:Nat),(n:Nat),(m:Nat),b⟩ bv,none⟩).get H.next = some ⟨zab,nC ⟨(k:Nat),(r:Nat),(s:Nat),(e:Nat),(n:Nat),(m:Nat),b⟩ bv,none⟩:=zad _ _;generalize hq:H.next = q at *;generalize H.new _ = H0 at *;have l0:ldc (some 7) (nC ⟨(k:Nat),(r:Nat),(s:Nat),(e:Nat),(n:Nat),(m:Nat),b⟩ bv) 0 = some (.agg (nC ⟨(k:Nat),(r:Nat),(s:Nat),(e:Nat),(n:Nat),(m:Nat),b⟩ bv)):=rfl;have n1:=s0.next;simp (disch:=omega) only [↓RD,RZ,g0,l0];refine zac (zre (hb.ext s0) hg h8 h16 hl) ?_;rintro _ H1 ⟨s1,v,rfl,hv⟩;simp (disch:=omega) only [↓RD,RZ];exact ⟨s0.trans s1,Apf.low hv (by omega)⟩
end Go.Ax.SU
/- Dk16 -/
namespace Go.Ax.SU
open Go.Ax
theorem zj4 {lo:Nat} {H:Heap} {bv:V} {b:List Nat} {i:Nat} (hb:By lo H bv b) (b8:Ok8 b) (hi:i + 1 < b.length) (hl:b.length ≤ 1000000) :
  Ok (sem T zaE [bv,.int .i64 (i:Nat)]) H fun r H'=>r = .int .i64 (twoB b i:Nat) ∧ H' = H:=by
 refine zgV ?_;unfold zeB uL uB uIM uc uq;obtain ⟨p0,hp0,hl0,-⟩:=by_at hb (i:=(i:Nat)) (by omega) (by omega);obtain ⟨p1,hp1,hl1,-⟩:=by_at hb (i:=((i + 1:Nat):Int)) (by omega) (by omega);rw [Int.toNat_natCast] at hl0 hl1;have h0:=b8.getD i;have h1:=b8.getD (i + 1);have c0:=zlr h0;have c1:=zlr h1;have w:IntKind.i64.wrap (((i:Nat):Int) + 1) = ((i + 1:Nat):Int):=by rw [wrap_i64 (by omega) (by omega)]; omega
 have sh:Ax.bin .shl (.int .i64 (b.getD i 0:Nat)) (.int .u64 8) = some (.int .i64 (b.getD i 0 * 256:Nat)):=by
  rw [zh3 (by decide)];have:((b.getD i 0:Nat):Int) * 2 ^ min (8:Int).toNat IntKind.i64.bits = ((b.getD i 0 * 256:Nat):Int):=by
   show ((b.getD i 0:Nat):Int) * 256 = _;omega
  rw [this,wrap_i64 (by omega) (by omega)]
 have ho:=two8 h0 h1;unfold twoB;generalize b.getD i 0 = x at *;generalize b.getD (i + 1) 0 = y at *;have ho':Ax.bin .or (.int .i64 (x * 256:Nat)) (.int .i64 (y:Nat)) = some (.int .i64 (x * 256 + y:Nat)):=by
  rw [znx (by omega) (by omega) (by omega) (by omega),Int.toNat_natCast,Int.toNat_natCast,ho]
 simp (disch:=omega) only [↓RD,RZ,hp0,hl0,hp1,hl1,c0,c1,w,sh,ho']
theorem zq9 {lo:Nat} {H:Heap} {bv:V} {b:List Nat} (hb:By lo H bv b) (b8:Ok8 b) (h11:11 ≤ b.length) (h9:twoB b 9 = b.length - 11) (h2:twoB b 9 ≤ 200)
  (hg:∀ (H':Heap) (lo':Nat) (v:V),By lo' H' v (b.drop 11) → Ok (sem T zas [.agg (nC (rawN b) v)]) H' fun r' H''=>r' = .bool true ∧ Grow H' H'') :
  Ok (sem T za7 [bv]) H fun r H'=>Grow H H' ∧ ∃ v,r = .tup [.agg (nC (rawN b) v),.int .i64 0] ∧ By H.next H' v (b.drop 11):=by
 refine zgg ?_;unfold zdS uL uM uS uT uF uB uI uO uU uc ub;have hl:b.length ≤ 1000000:=by omega
 refine zam (zaR rfl ?_);rw [zai];have s1:=Grow.new H ⟨zab,nC zN .nils,none⟩;have p1:(H.new ⟨zab,nC zN .nils,none⟩).get H.next = some ⟨zab,nC zN .nils,none⟩:=zad _ _;have n1:(H.new ⟨zab,nC zN .nils,none⟩).next = H.next + 1:=zag _ _;show Ok _ (H.new ⟨zab,nC zN .nils,none⟩) _;generalize hq:H.next = q at *;generalize H.new _ = H1 at *;have hb1:=hb.ext s1;have bl:=hb1.vlen;have d:decide (((b.length:Nat):Int) < 11) = false:=decide_eq_false (by omega);have d':decide (b.length < 11) = false:=decide_eq_false (by omega);obtain ⟨p0,hp0,hl0,-⟩:=by_at hb1 (i:=0) (by omega) (by omega);obtain ⟨p1',hp1,hl1,-⟩:=by_at hb1 (i:=1) (by omega) (by omega);obtain ⟨p2,hp2,hl2,-⟩:=by_at hb1 (i:=2) (by omega) (by omega);have c0:=zlr (b8.getD 0);have c1:=zlr (b8.getD 1);have c2:=zlr (b8.getD 2);have t3:=@zaK _ _ _ _ (show Ok (sem T zaE [bv,.int .i64 3]) H1 _ from zj4 (i:=3) hb1 b8 (by omega) hl);have t5:=@zaK _ _ _ _ (show Ok (sem T zaE [bv,.int .i64 5]) H1 _ from zj4 (i:=5) hb1 b8 (by omega) hl);have t7:=@zaK _ _ _ _ (show Ok (sem T zaE [bv,.int .i64 7]) H1 _ from zj4 (i:=7) hb1 b8 (by omega) hl);simp (maxSteps:=1000000) (disch:=first | omega | (simp only [RY] <;> omega) | decide) only [↓RD,RZ,eq_self,Int.reduceToNat,Int.reduceAdd,Int.reduceSub,Int.reduceMul,Nat.reduceAdd,Nat.reduceSub,Nat.reduceMul,Nat.reduceDiv,Nat.reduceMod,Nat.reduceBEq,Nat.reduceLeDiff,bl,d,d',hp0,hp1,hp2,hl0,hl1,hl2,c0,c1,c2,t3,t5,t7];have h8:=b8.getD;have s2:Grow H1 ((H1.new ⟨zab,[.int .i64 0,.int .i64 0,.int .i64 0,.int .i64 0,.int .i64 0,.int .i64 0,.nils],none⟩).set H1.next (some ⟨zab,nC { rawN b with b:=[] } .nils,none⟩)):=(Grow.new _ _).set (Nat.le_refl _) _;have p3:((H1.new ⟨zab,[.int .i64 0,.int .i64 0,.int .i64 0,.int .i64 0,.int .i64 0,.int .i64 0,.nils],none⟩).set H1.next (some ⟨zab,nC { rawN b with b:=[] } .nils,none⟩)).get H1.next = _:=zak _ _ _;have n2:((H1.new ⟨zab,[.int .i64 0,.int .i64 0,.int .i64 0,.int .i64 0,.int .i64 0,.int .i64 0,.nils],none⟩).set H1.next (some ⟨zab,nC { rawN b with b:=[] } .nils,none⟩)).next = H1.next + 1:=rfl;rw [zc8];rw [n1] at s2 p3 n2;rw [n1];unfold nC rawN at s2 p3 n2;dsimp only at s2 p3 n2;generalize Heap.set (Heap.new H1 _) _ _ = H2 at *;have p2':=(s2.same q (by omega)).trans p1;have hb2:=hb1.ext s2;have s02:=s1.trans s2;have bl2:=hb2.vlen;have d1:decide ((200:Int) < ((b.length - 11:Nat):Int)) = false:=decide_eq_false (by omega);have d1':decide (200 < b.length - 11) = false:=decide_eq_false (by omega);have w11:IntKind.i64.wrap (((b.length:Nat):Int) - 11) = ((b.length - 11:Nat):Int):=by rw [wrap_i64 (by omega) (by omega)]; omega
 obtain ⟨rv,-,-,hs,hrv,-⟩:=by_slice hb2 (x:=11) (y:=(b.length:Nat)) (by omega) (by omega) (by omega);replace hs:∀ {kk:IntKind},zaN .sl 1 bv (some (.int kk 11)) none none = some rv:=hs rfl;have hr2:By lo H2 rv (b.drop 11):=by
  have e:((b.drop (11:Int).toNat).take (((b.length:Nat):Int).toNat - (11:Int).toNat)) = b.drop 11:=List.take_of_length_le (by rw [List.length_drop,Int.toNat_natCast]; exact Nat.le_refl _);rw [e] at hrv;exact hrv
 refine zac (zj4 (i:=9) hb2 b8 (by omega) hl) ?_;rintro _ H2 ⟨rfl,rfl⟩;rw [h9];have dl:decide (((b.length - 11:Nat):Int) < ((b.length - 11:Nat):Int)) = false:=decide_eq_false (by omega);have dl':decide (b.length - 11 < b.length - 11) = false:=decide_eq_false (by omega);simp (maxSteps:=1000000) (disch:=first | omega | (simp only [RY] <;> omega) | decide) only [↓RD,RZ,eq_self,Int.reduceToNat,Int.reduceAdd,Int.reduceSub,Int.reduceMul,Nat.reduceAdd,Nat.reduceSub,Nat.reduceMul,Nat.reduceDiv,Nat.reduceMod,Nat.reduceBEq,Nat.reduceLeDiff,d1,d1',bl2,w11,dl,dl',hs];rw [zc8];refine copy8 hr2 (by rw [List.length_drop]; omega) fun v H3 hv s3=>?_;have n3:=s3.next;have p33:=(s3.same (q + 1) (by omega)).trans p3;have p23:=(s3.same q (by omega)).trans p2';have vc3:=hv.by.cells1;have vo3:=hv.by.okc;simp (maxSteps:=1000000) (disch:=first | omega | (simp only [RY] <;> omega) | decide) only [↓RD,RZ,eq_self,Int.reduceToNat,Int.reduceAdd,Int.reduceSub,Int.reduceMul,Nat.reduceAdd,Nat.reduceSub,Nat.reduceMul,Nat.reduceDiv,Nat.reduceMod,Nat.reduceBEq,Nat.reduceLeDiff,p33,vc3,vo3];rw [zc8];have n2':H2.next = q + 2:=by omega
 have a4:AtS [q + 1] H3 (H3.set (q + 1) (some ⟨zab,nC (rawN b) v,none⟩)):=AtS.set _ (by simp) _;have s34:Grow H (H3.set (q + 1) (some ⟨zab,nC (rawN b) v,none⟩)):=(s02.trans s3).set (by omega) _;have p34:(H3.set (q + 1) (some ⟨zab,nC (rawN b) v,none⟩)).get (q + 1) = _:=zak _ _ _;have p24:(H3.set (q + 1) (some ⟨zab,nC (rawN b) v,none⟩)).get q = _:=(zat _ _ (by omega)).trans p23;have n4:(H3.set (q + 1) (some ⟨zab,nC (rawN b) v,none⟩)).next = H3.next:=rfl;have hv4:=Lc.atS hv.by a4 fun j hj h=>by
  have:=(hv.by.own j hj).1;simp only [List.mem_singleton] at h;omega
 show Ok _ (H3.set (q + 1) (some ⟨zab,nC (rawN b) v,none⟩)) _;generalize Heap.set H3 _ _ = H4 at *;refine zac (hg H4 _ v hv4) ?_;rintro _ H5 ⟨rfl,s5⟩;have p35:=(s5.same (q + 1) (by omega)).trans p34;have p25:=(s5.same q (by omega)).trans p24;have s05:=s34.trans s5;have hv5:=hv4.ext s5;have l7:ldc (some 7) (nC (rawN b) v) 0 = some (.agg (nC (rawN b) v)):=rfl;have hc7:(nC (rawN b) v).length = 7:=rfl;have ok7:(V.agg (nC (rawN b) v)).okc = true:=by simp [nC,V.okc,vo3]
 have sp7:splice (nC zN .nils) 0 (nC (rawN b) v) = nC (rawN b) v:=rfl;have hz7:(nC zN .nils).length = 7:=rfl;simp (maxSteps:=1000000) (disch:=first | omega | (simp only [RY] <;> omega) | decide) only [↓RD,RZ,eq_self,Int.reduceToNat,Int.reduceAdd,Int.reduceSub,Int.reduceMul,Nat.reduceAdd,Nat.reduceSub,Nat.reduceMul,Nat.reduceDiv,Nat.reduceMod,Nat.reduceBEq,Nat.reduceLeDiff,p35,l7,p25,zai,hc7,ok7,sp7,hz7];refine ⟨s05.set (by omega) _,v,rfl,?_⟩;exact (Lc.atS hv5 (AtS.set (S:=[q]) H5 (by simp) _) fun j hj h=>by
  have:=(hv.by.own j hj).1;simp only [List.mem_singleton] at h;omega).low (by omega)
end Go.Ax.SU
